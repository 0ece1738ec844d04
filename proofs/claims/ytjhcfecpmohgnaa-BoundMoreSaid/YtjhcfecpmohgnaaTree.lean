/- Expressions and statements in memory: slices that read as lists with what each element costs. -/
import Derived.RegionTactic
import Derived.Test.YtjhcfecpmohgnaaPlain
import Derived.Test.YtjhcfecpmohgnaaApp
import Derived.Test.YtjhcfecpmohgnaaHeld
import Derived.Test.YtjhcfecpmohgnaaRdV
import Derived.Deep.LoopGhost
import Derived.BigRegion
import Derived.Outline
import Derived.BigQuiet
import Derived.Deep.QuietTactic
import Derived.Deep.RegionHeld3
import Derived.Deep.DeepCutAuto
import Derived.WalkLawsBesides
import Derived.WalkSpells
import Derived.Test.YtjhcfecpmohgnaaProg
namespace Go.Proofs.Ytjhcfecpmohgnaa
open Go.RowKit Go.Bz

/-- An expression's cells, and (ds) what its parts cost. -/
structure ERaw where
  (op n : Int) (s : ByteArray) (L : Value) (ds : List Int)
@[reducible] def eenc (r : ERaw) : Array Value := #[.int .i64 r.op, .int .i64 r.n, .string r.s, r.L]
theorem eenc_sz : ∀ x, (eenc x).size = 4 := fun _ => rfl
def ERaw.c (r : ERaw) : Int := ecost r.op r.ds
/-- A slice of expressions, no deeper than h, that cost cs. -/
def ExL (w : World) : Nat → Value → List Int → Prop
  | 0, _, _ => False
  | h + 1, V, cs => ∃ rs : List ERaw, RdV w 4 eenc V rs ∧ (∀ x ∈ rs, ExL w h x.L x.ds) ∧ cs = rs.map ERaw.c
theorem ExL.keep {w w' : World} (hk : Keep [] w w') : ∀ {h : Nat} {V : Value} {cs : List Int}, ExL w h V cs → ExL w' h V cs
  | 0, _, _, h => h.elim
  | h + 1, V, cs, ⟨rs, h1, h2, h3⟩ => ⟨rs, h1.keep0 hk, fun x hx => (h2 x hx).keep hk, h3⟩
theorem ExL.succ {w : World} : ∀ {h : Nat} {V : Value} {cs : List Int}, ExL w h V cs → ExL w (h + 1) V cs
  | 0, _, _, h => h.elim
  | h + 1, V, cs, ⟨rs, h1, h2, h3⟩ => ⟨rs, h1, fun x hx => (h2 x hx).succ, h3⟩
theorem ExL.mono {w : World} {h k : Nat} {V : Value} {cs : List Int} (hx : ExL w h V cs) (hk : h ≤ k) : ExL w k V cs := by
  induction hk with
  | refl => exact hx
  | step _ ih => exact ih.succ
theorem ExL.cs {w : World} : ∀ {h : Nat} {V : Value} {cs : List Int}, ExL w h V cs → Cs cs
  | 0, _, _, h => h.elim
  | h + 1, V, cs, ⟨rs, h1, h2, h3⟩ => by
    subst h3
    intro x hx
    obtain ⟨r, hr, rfl⟩ := List.mem_map.1 hx
    exact ecost_range (h2 r hr).cs
theorem ExL.nil (w : World) (h : Nat) : ExL w (h + 1) (.slice none 0 0) [] := ⟨[], ⟨none, 0, rfl, Nat.le_refl _, by decide, fun h => absurd rfl h⟩, by simp, rfl⟩
theorem ExL.drew {w : World} {h : Nat} {V : Value} {cs : List Int} (hx : ExL w h V cs) : ExL w.drew h V cs := hx.keep (Keep.refl _ _).drew
/-- A statement's cells, and what its expressions and its blocks' statements cost. -/
structure SRaw where
  (kind : Int) (s : ByteArray) (E : Value) (lo hi : Int) (L X : Value) (es ls xs : List Int)
@[reducible] def senc (r : SRaw) : Array Value := #[.int .i64 r.kind, .string r.s, r.E, .int .i64 r.lo, .int .i64 r.hi, r.L, r.X]
theorem senc_sz : ∀ x, (senc x).size = 7 := fun _ => rfl
def SRaw.c (r : SRaw) : Int := scost r.kind r.lo r.hi r.es r.ls r.xs
def I64 (n : Int) : Prop := -9223372036854775808 ≤ n ∧ n ≤ 9223372036854775807
def StL (w : World) : Nat → Value → List Int → Prop
  | 0, _, _ => False
  | h + 1, V, cs => ∃ rs : List SRaw, RdV w 7 senc V rs ∧ (∀ x ∈ rs, (I64 x.lo ∧ I64 x.hi) ∧ (∃ k, ExL w k x.E x.es) ∧ StL w h x.L x.ls ∧ StL w h x.X x.xs) ∧ cs = rs.map SRaw.c
theorem StL.keep {w w' : World} (hk : Keep [] w w') : ∀ {h : Nat} {V : Value} {cs : List Int}, StL w h V cs → StL w' h V cs
  | 0, _, _, h => h.elim
  | h + 1, V, cs, ⟨rs, h1, h2, h3⟩ => ⟨rs, h1.keep0 hk, fun x hx => by
      obtain ⟨e0, ⟨k, e1⟩, e2, e3⟩ := h2 x hx
      exact ⟨e0, ⟨k, e1.keep hk⟩, e2.keep hk, e3.keep hk⟩, h3⟩
theorem StL.succ {w : World} : ∀ {h : Nat} {V : Value} {cs : List Int}, StL w h V cs → StL w (h + 1) V cs
  | 0, _, _, h => h.elim
  | h + 1, V, cs, ⟨rs, h1, h2, h3⟩ => ⟨rs, h1, fun x hx => by
      obtain ⟨e0, e1, e2, e3⟩ := h2 x hx
      exact ⟨e0, e1, e2.succ, e3.succ⟩, h3⟩
theorem StL.mono {w : World} {h k : Nat} {V : Value} {cs : List Int} (hx : StL w h V cs) (hk : h ≤ k) : StL w k V cs := by
  induction hk with
  | refl => exact hx
  | step _ ih => exact ih.succ
theorem StL.cs {w : World} : ∀ {h : Nat} {V : Value} {cs : List Int}, StL w h V cs → Cs cs
  | 0, _, _, h => h.elim
  | h + 1, V, cs, ⟨rs, h1, h2, h3⟩ => by
    subst h3
    intro x hx
    obtain ⟨r, hr, rfl⟩ := List.mem_map.1 hx
    obtain ⟨e0, ⟨k, e1⟩, e2, e3⟩ := h2 r hr
    exact scost_range e1.cs e2.cs e3.cs
theorem StL.nil (w : World) (h : Nat) : StL w (h + 1) (.slice none 0 0) [] := ⟨[], ⟨none, 0, rfl, Nat.le_refl _, by decide, fun h => absurd rfl h⟩, by simp, rfl⟩
theorem StL.drew {w : World} {h : Nat} {V : Value} {cs : List Int} (hx : StL w h V cs) : StL w.drew h V cs := hx.keep (Keep.refl _ _).drew
/-- A slice that has just been laid. -/
theorem RdV.one {α : Type} {w : World} {g : Nat} {ty : TypeId} {k : Nat} {enc : α → Array Value} {x : α} (hb : Blk w g ty (enc x)) : RdV w k enc (.slice (some ⟨g, 0, none⟩) 1 1) [x] :=
  ⟨_, 1, rfl, Nat.le_refl _, by decide, fun _ => ⟨g, 0, rfl, hb.lt, fun i y hi j hj => by
    match i, hi with
    | 0, hi => simp at hi; subst hi; rw [hb.cell]; simp⟩⟩
theorem ExL.one {w : World} {g h : Nat} {ty : TypeId} {r : ERaw} (hb : Blk w g ty (eenc r)) (hx : ExL w h r.L r.ds) : ExL w (h + 1) (.slice (some ⟨g, 0, none⟩) 1 1) [r.c] :=
  ⟨[r], RdV.one hb, by simpa using hx, rfl⟩
theorem StL.one {w : World} {g h k : Nat} {ty : TypeId} {r : SRaw} (hb : Blk w g ty (senc r)) (hr : I64 r.lo ∧ I64 r.hi) (he : ExL w k r.E r.es) (hl : StL w h r.L r.ls) (hx : StL w h r.X r.xs) : StL w (h + 1) (.slice (some ⟨g, 0, none⟩) 1 1) [r.c] :=
  ⟨[r], RdV.one hb, by simpa using ⟨hr, ⟨k, he⟩, hl, hx⟩, rfl⟩
theorem ExL.sl {w : World} {h : Nat} {V : Value} {cs : List Int} (hx : ExL w h V cs) : ∃ A cap, V = .slice A cs.length cap := by
  match h, hx with
  | h + 1, ⟨rs, ⟨A, cap, h1, _⟩, _, h3⟩ => exact ⟨A, cap, by rw [h1, h3, List.length_map]⟩
theorem StL.sl {w : World} {h : Nat} {V : Value} {cs : List Int} (hx : StL w h V cs) : ∃ A cap, V = .slice A cs.length cap := by
  match h, hx with
  | h + 1, ⟨rs, ⟨A, cap, h1, _⟩, _, h3⟩ => exact ⟨A, cap, by rw [h1, h3, List.length_map]⟩
/-- An element's cells. -/
theorem ExL.at_ {w : World} {h : Nat} {V : Value} {cs : List Int} (hx : ExL w (h + 1) V cs) : ∃ rs : List ERaw, cs = rs.map ERaw.c ∧ RdV w 4 eenc V rs ∧ (∀ x ∈ rs, ExL w h x.L x.ds) := by
  obtain ⟨rs, h1, h2, h3⟩ := hx
  exact ⟨rs, h3, h1, h2⟩
theorem eAt {w : World} {V : Value} {rs : List ERaw} (h : RdV w 4 eenc V rs) {k : Nat} {e : ERaw} (hk : rs[k]? = some e) : ∃ ab ao cp, V = .slice (some ⟨ab, ao, none⟩) rs.length cp ∧ ∀ W, Keep [] w W →
    W.cell? ⟨ab, ao + k * 4, none⟩ = some (.int .i64 e.op) ∧ W.cell? ⟨ab, ao + k * 4 + 1, none⟩ = some (.int .i64 e.n) ∧ W.cell? ⟨ab, ao + k * 4 + 2, none⟩ = some (.string e.s) ∧ W.cell? ⟨ab, ao + k * 4 + 3, none⟩ = some e.L := by
  obtain ⟨ab, ao, cp, hv, hlt, hc⟩ := h.at_ hk
  refine ⟨ab, ao, cp, hv, fun W hW => ?_⟩
  exact ⟨hW.cell (by simpa using hc 0 (by decide)) (by simp), hW.cell (by simpa using hc 1 (by decide)) (by simp), hW.cell (by simpa using hc 2 (by decide)) (by simp), hW.cell (by simpa using hc 3 (by decide)) (by simp)⟩
theorem sAt {w : World} {V : Value} {rs : List SRaw} (h : RdV w 7 senc V rs) {k : Nat} {e : SRaw} (hk : rs[k]? = some e) : ∃ ab ao cp, V = .slice (some ⟨ab, ao, none⟩) rs.length cp ∧ ∀ W, Keep [] w W →
    W.cell? ⟨ab, ao + k * 7, none⟩ = some (.int .i64 e.kind) ∧ W.cell? ⟨ab, ao + k * 7 + 1, none⟩ = some (.string e.s) ∧ W.cell? ⟨ab, ao + k * 7 + 2, none⟩ = some e.E ∧ W.cell? ⟨ab, ao + k * 7 + 3, none⟩ = some (.int .i64 e.lo) ∧
    W.cell? ⟨ab, ao + k * 7 + 4, none⟩ = some (.int .i64 e.hi) ∧ W.cell? ⟨ab, ao + k * 7 + 5, none⟩ = some e.L ∧ W.cell? ⟨ab, ao + k * 7 + 6, none⟩ = some e.X := by
  obtain ⟨ab, ao, cp, hv, hlt, hc⟩ := h.at_ hk
  refine ⟨ab, ao, cp, hv, fun W hW => ?_⟩
  exact ⟨hW.cell (by simpa using hc 0 (by decide)) (by simp), hW.cell (by simpa using hc 1 (by decide)) (by simp), hW.cell (by simpa using hc 2 (by decide)) (by simp), hW.cell (by simpa using hc 3 (by decide)) (by simp), hW.cell (by simpa using hc 4 (by decide)) (by simp), hW.cell (by simpa using hc 5 (by decide)) (by simp), hW.cell (by simpa using hc 6 (by decide)) (by simp)⟩
end Go.Proofs.Ytjhcfecpmohgnaa
