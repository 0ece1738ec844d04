/- What a net.Net is in memory. -/
import Derived.RegionTactic
import Derived.Test.YtcjbmbljmmakfaaPlain
import Derived.Test.YtcjbmbljmmakfaaApp
import Derived.Test.YtcjbmbljmmakfaaHeld
import Derived.Test.YtcjbmbljmmakfaaDig
import Derived.Test.YtcjbmbljmmakfaaRd
import Derived.Deep.LoopGhost
import Derived.BigRegion
import Derived.Outline
import Derived.BigQuiet
import Derived.Deep.QuietTactic
import Derived.Deep.RegionHeld3
import Derived.Deep.DeepCutAuto
import Derived.WalkLawsBesides
import Derived.WalkSpells
import Derived.LaidEqlPtr
import Derived.Test.YtcjbmbljmmakfaaProg
namespace Go.Proofs.Ytcjbmbljmmakfaa
open Go.RowKit Go.Bz

/-- A copy in a row: its cells, and (b) what its bytes are. -/
structure Raw where
  (f t : Int) (V : Value) (b : List Int) (num : Int)
def Raw.cp (r : Raw) : Cp := ⟨r.f, r.t, r.b, r.num⟩
@[reducible] def senc (r : Raw) : Array Value := #[.int .i64 r.f, .int .i64 r.t, r.V, .int .i64 r.num]
@[reducible] def benc (x : Int) : Array Value := #[.int .u8 x]
@[reducible] def ienc (x : Int) : Array Value := #[.int .i64 x]
theorem senc_sz : ∀ x, (senc x).size = 4 := fun _ => rfl
theorem benc_sz : ∀ x, (benc x).size = 1 := fun _ => rfl
theorem ienc_sz : ∀ x, (ienc x).size = 1 := fun _ => rfl
structure Row where
  (v : Value) (l : List Raw)
def Row.cps (r : Row) : List Cp := r.l.map Raw.cp
/-- A row of copies; its block is of R, its copies' bytes' are of B. -/
structure RowOk (w : World) (R B : List Nat) (r : Row) : Prop where
  own : Own w 0 77 4 senc r.v r.l
  bytes : ∀ x ∈ r.l, Own w 0 5 1 benc x.V x.b
  row : ∀ g ∈ ownB r.v, g ∈ R
  byb : ∀ x ∈ r.l, ∀ g ∈ ownB x.V, g ∈ B
theorem RowOk.keep {w w' : World} {R B L : List Nat} {r : Row} (h : RowOk w R B r) (hk : Keep L w w') (hR : ∀ g ∈ R, g ∉ L) (hB : ∀ g ∈ B, g ∉ L) : RowOk w' R B r :=
  ⟨h.own.keep hk (fun g hg => hR g (h.row g hg)), fun x hx => (h.bytes x hx).keep hk (fun g hg => hB g (h.byb x hx g hg)), h.row, h.byb⟩
theorem RowOk.more {w : World} {R R' B B' : List Nat} {r : Row} (h : RowOk w R B r) (hR : ∀ g ∈ R, g ∈ R') (hB : ∀ g ∈ B, g ∈ B') : RowOk w R' B' r :=
  ⟨h.own, h.bytes, fun g hg => hR g (h.row g hg), fun x hx g hg => hB g (h.byb x hx g hg)⟩
/-- The map of what is due. -/
structure DueAt (w : World) (mb : Nat) (D : List (Int × Row)) (R B : List Nat) : Prop where
  map : MapAt w mb (Value.int .i64) Row.v D
  rows : ∀ p ∈ D, RowOk w R B p.2
  apart : ∀ p ∈ D, ∀ q ∈ D, p.1 ≠ q.1 → ∀ g ∈ ownB p.2.v, g ∉ ownB q.2.v
  kindR : ∀ g ∈ R, ∃ cs, Blk w g 77 cs
  kindB : ∀ g ∈ B, ∃ cs, Blk w g 5 cs
theorem Blk.keep_ex {w w' : World} {S : List Nat} {g : Nat} {ty : TypeId} (h : ∃ cs, Blk w g ty cs) (hk : Keep S w w') (hg : g ∉ S) : ∃ cs, Blk w' g ty cs := by
  obtain ⟨cs, hb⟩ := h
  exact ⟨cs, hb.keep hk hg⟩
section
variable {w w' : World} {mb : Nat} {D : List (Int × Row)} {R B : List Nat}
theorem DueAt.keep {L : List Nat} (h : DueAt w mb D R B) (hk : Keep L w w') (hm : mb ∉ L) (hR : ∀ g ∈ R, g ∉ L) (hB : ∀ g ∈ B, g ∉ L) : DueAt w' mb D R B :=
  ⟨h.map.keep hk hm, fun p hp => (h.rows p hp).keep hk hR hB, h.apart, fun g hg => Blk.keep_ex (h.kindR g hg) hk (hR g hg), fun g hg => Blk.keep_ex (h.kindB g hg) hk (hB g hg)⟩
theorem DueAt.notR (h : DueAt w mb D R B) {g : Nat} {ty : TypeId} {cs : Array Value} (hb : Blk w g ty cs) (h1 : ty ≠ 77) : g ∉ R := by
  intro hg
  obtain ⟨cs', h'⟩ := h.kindR g hg
  exact hb.ne_ h' h1 rfl
theorem DueAt.notB (h : DueAt w mb D R B) {g : Nat} {ty : TypeId} {cs : Array Value} (hb : Blk w g ty cs) (h1 : ty ≠ 5) : g ∉ B := by
  intro hg
  obtain ⟨cs', h'⟩ := h.kindB g hg
  exact hb.ne_ h' h1 rfl
theorem DueAt.mapR (h : DueAt w mb D R B) : mb ∉ R := by
  intro hg
  obtain ⟨cs', h'⟩ := h.kindR mb hg
  exact h.map.ne_blk h' rfl
theorem DueAt.mapB (h : DueAt w mb D R B) : mb ∉ B := by
  intro hg
  obtain ⟨cs', h'⟩ := h.kindB mb hg
  exact h.map.ne_blk h' rfl
theorem DueAt.RB (h : DueAt w mb D R B) : ∀ g ∈ B, g ∉ R := by
  intro g hg hr
  obtain ⟨cs', h'⟩ := h.kindB g hg
  exact h.notR h' (by decide) hr
end
/-- The struct's cells. -/
structure NC (cs : Array Value) (S : NS) (mb : Nat) : Prop where
  size : cs.size = 261
  c0 : cs[0]? = some (.int .i64 S.parties)
  c1 : cs[1]? = some (.int .i64 S.now)
  c2 : cs[2]? = some (.int .i64 S.way)
  c3 : cs[3]? = some (.int .i64 S.next)
  c4 : cs[4]? = some (.map (some mb))
  cut : ∀ i, i < 256 → cs[5 + i]? = some (.bool (S.cut i))
structure NetAt (w : World) (t mb : Nat) (S : NS) (R B : List Nat) : Prop where
  blk : ∃ cs, Blk w t 72 cs ∧ NC cs S mb
  due : ∃ D : List (Int × Row), D.map (fun p => (p.1, p.2.cps)) = S.due ∧ DueAt w mb D R B
section
variable {w w' : World} {t mb : Nat} {S : NS} {R B : List Nat}
theorem NetAt.keep {L : List Nat} (h : NetAt w t mb S R B) (hk : Keep L w w') (ht : t ∉ L) (hm : mb ∉ L) (hR : ∀ g ∈ R, g ∉ L) (hB : ∀ g ∈ B, g ∉ L) : NetAt w' t mb S R B := by
  obtain ⟨⟨cs, hb, hc⟩, D, hD, hd⟩ := h
  exact ⟨⟨cs, hb.keep hk ht, hc⟩, D, hD, hd.keep hk hm hR hB⟩
theorem NetAt.keep0 (h : NetAt w t mb S R B) (hk : Keep [] w w') : NetAt w' t mb S R B := h.keep hk (by simp) (by simp) (by simp) (by simp)
theorem NetAt.lt (h : NetAt w t mb S R B) : t < w.heap.size ∧ mb < w.heap.size ∧ (∀ g ∈ R, g < w.heap.size) ∧ ∀ g ∈ B, g < w.heap.size := by
  obtain ⟨⟨cs, hb, hc⟩, D, hD, hd⟩ := h
  refine ⟨hb.lt, hd.map.lt, fun g hg => ?_, fun g hg => ?_⟩
  · obtain ⟨cs', h'⟩ := hd.kindR g hg; exact h'.lt
  · obtain ⟨cs', h'⟩ := hd.kindB g hg; exact h'.lt
/-- What Send, Step and Cut write to holds no rows of other types. -/
theorem NetAt.ty (h : NetAt w t mb S R B) {ty : TypeId} (h1 : ty ≠ 77) (h3 : ty ≠ 72) : ∀ s ∈ t :: mb :: R, ∀ cs, ¬ Blk w s ty cs := by
  obtain ⟨⟨cs', hb', hc⟩, D, hD, hd⟩ := h
  intro s hs cs hb
  simp only [List.mem_cons] at hs
  rcases hs with rfl | rfl | hs
  · exact hb.ne_ hb' h3 rfl
  · exact hd.map.ne_blk hb rfl
  · exact hd.notR hb h1 hs
theorem NetAt.notIn (h : NetAt w t mb S R B) {g : Nat} {ty : TypeId} {cs : Array Value} (hb : Blk w g ty cs) (h1 : ty ≠ 77) (h3 : ty ≠ 72) : g ∉ t :: mb :: R := fun hg => h.ty h1 h3 g hg cs hb
theorem NetAt.notB (h : NetAt w t mb S R B) {g : Nat} {ty : TypeId} {cs : Array Value} (hb : Blk w g ty cs) (h1 : ty ≠ 5) : g ∉ B := by
  obtain ⟨_, D, hD, hd⟩ := h
  exact hd.notB hb h1
/-- The struct's fields, in each world that keeps the net. -/
theorem NetAt.cells (h : NetAt w t mb S R B) : w.cell? ⟨t, 0, none⟩ = some (.int .i64 S.parties) ∧ w.cell? ⟨t, 1, none⟩ = some (.int .i64 S.now) ∧ w.cell? ⟨t, 2, none⟩ = some (.int .i64 S.way) ∧
    w.cell? ⟨t, 3, none⟩ = some (.int .i64 S.next) ∧ w.cell? ⟨t, 4, none⟩ = some (.map (some mb)) ∧ ∀ i, i < 256 → w.cell? ⟨t, 5 + i, none⟩ = some (.bool (S.cut i)) := by
  obtain ⟨⟨cs, hb, hc⟩, _⟩ := h
  simp only [hb.cell]
  exact ⟨hc.c0, hc.c1, hc.c2, hc.c3, hc.c4, hc.cut⟩
theorem NetAt.frozen (h : NetAt w t mb S R B) : ∀ i, w.frozen? ⟨t, i, none⟩ = false := by
  obtain ⟨⟨cs, hb, hc⟩, _⟩ := h
  exact hb.frozen
end
/-- What was kept but for blocks of one's own is kept. -/
theorem _root_.Go.Bz.Keep.own {w a b : World} {S : List Nat} (h : Keep [] w a) (h' : Keep S a b) (hs : ∀ k ∈ S, w.heap.size ≤ k) : Keep [] w b := h.andThen h' (fun k hk => .inr (hs k hk))
theorem NC.now {cs : Array Value} {S : NS} {mb : Nat} (h : NC cs S mb) (n : Int) : NC (cs.setIfInBounds 1 (.int .i64 n)) { S with now := n } mb := by
  obtain ⟨h0, h1, h2, h3, h4, h5, h6⟩ := h
  refine ⟨by simp [h0], ?_, ?_, ?_, ?_, ?_, fun i hi => ?_⟩
  all_goals first
    | (rw [Array.getElem?_setIfInBounds_ne (by omega)]; first | exact h1 | exact h2 | exact h3 | exact h4 | exact h5 | exact h6 i hi)
    | (rw [Array.getElem?_setIfInBounds_self, if_pos (by omega)])
theorem NC.way {cs : Array Value} {S : NS} {mb : Nat} (h : NC cs S mb) (n : Int) : NC (cs.setIfInBounds 2 (.int .i64 n)) { S with way := n } mb := by
  obtain ⟨h0, h1, h2, h3, h4, h5, h6⟩ := h
  refine ⟨by simp [h0], ?_, ?_, ?_, ?_, ?_, fun i hi => ?_⟩
  all_goals first
    | (rw [Array.getElem?_setIfInBounds_ne (by omega)]; first | exact h1 | exact h2 | exact h3 | exact h4 | exact h5 | exact h6 i hi)
    | (rw [Array.getElem?_setIfInBounds_self, if_pos (by omega)])
theorem NC.next {cs : Array Value} {S : NS} {mb : Nat} (h : NC cs S mb) (n : Int) : NC (cs.setIfInBounds 3 (.int .i64 n)) { S with next := n } mb := by
  obtain ⟨h0, h1, h2, h3, h4, h5, h6⟩ := h
  refine ⟨by simp [h0], ?_, ?_, ?_, ?_, ?_, fun i hi => ?_⟩
  all_goals first
    | (rw [Array.getElem?_setIfInBounds_ne (by omega)]; first | exact h1 | exact h2 | exact h3 | exact h4 | exact h5 | exact h6 i hi)
    | (rw [Array.getElem?_setIfInBounds_self, if_pos (by omega)])
theorem NC.setCut {cs : Array Value} {S : NS} {mb : Nat} (h : NC cs S mb) (k : Nat) (hk : k < 256) (b : Bool) : NC (cs.setIfInBounds (5 + k) (.bool b)) { S with cut := fun i => if i = k then b else S.cut i } mb := by
  obtain ⟨h0, h1, h2, h3, h4, h5, h6⟩ := h
  refine ⟨by simp [h0], ?_, ?_, ?_, ?_, ?_, fun i hi => ?_⟩
  · rw [Array.getElem?_setIfInBounds_ne (by omega)]; exact h1
  · rw [Array.getElem?_setIfInBounds_ne (by omega)]; exact h2
  · rw [Array.getElem?_setIfInBounds_ne (by omega)]; exact h3
  · rw [Array.getElem?_setIfInBounds_ne (by omega)]; exact h4
  · rw [Array.getElem?_setIfInBounds_ne (by omega)]; exact h5
  · by_cases e : i = k
    · subst e; simp [Array.getElem?_setIfInBounds, h0]; omega
    · rw [Array.getElem?_setIfInBounds_ne (by omega), h6 i hi]; simp [e]
end Go.Proofs.Ytcjbmbljmmakfaa
