/- What becomes of the map of what is due, where a copy is put into it, where a row is taken out. -/
import Derived.Test.YtcjbmbljmmakfaaModel
import Derived.Test.YtcjbmbljmmakfaaApp2
namespace Go.Proofs.Ytcjbmbljmmakfaa
open Go.RowKit Go.Bz

theorem _root_.Go.Bz.Own.blk {α : Type} {w : World} {base : Nat} {ty : TypeId} {k : Nat} {enc : α → Array Value} {v : Value} {l : List α} (h : Own w base ty k enc v l) : ∀ g ∈ ownB v, ∃ cs, Blk w g ty cs := by
  intro g hg
  rcases h.2 with ⟨rfl, _⟩ | ⟨g', cap, cur, rfl, _, hgg, _⟩
  · simp [ownB, Value.ownBlock] at hg
  · have : g = g' := by simpa [ownB, Value.ownBlock] using hg
    subst this
    exact ⟨cur, hgg⟩
/-- Where a row stands, or none. -/
def rowv (D : List (Int × Row)) (k : Int) : Value := ((mlook k D).map Row.v).getD (.slice none 0 0)
def rowl (D : List (Int × Row)) (k : Int) : List Raw := ((mlook k D).map Row.l).getD []
section
variable {w : World} {mb : Nat} {D : List (Int × Row)} {R B : List Nat}
theorem DueAt.row (h : DueAt w mb D R B) (k : Int) : RowOk w R B ⟨rowv D k, rowl D k⟩ ∧ ∀ p ∈ D, p.1 ≠ k → ∀ g ∈ ownB p.2.v, g ∉ ownB (rowv D k) := by
  unfold rowv rowl
  cases hl : mlook k D with
  | none => exact ⟨⟨Own.nil .., by simp, by simp [ownB, Value.ownBlock], by simp⟩, by simp [ownB, Value.ownBlock]⟩
  | some r =>
    have hm := look_mem hl
    exact ⟨h.rows _ hm, fun p hp hne g hg => h.apart p hp _ hm hne g hg⟩
theorem DueAt.put {w6 w7 : World} (h : DueAt w mb D R B) {k : Int} {v6 : Value} {y : Raw} (hO : Own w6 0 77 4 senc v6 (rowl D k ++ [y])) (hk6 : Keep (ownB (rowv D k)) w w6) (hf : ∀ g ∈ ownB v6, g ∈ ownB (rowv D k) ∨ w.heap.size ≤ g)
    (hy : Own w 0 5 1 benc y.V y.b) (hm : MapAt w7 mb (Value.int .i64) Row.v (mput k ⟨v6, rowl D k ++ [y]⟩ D)) (hk7 : Keep [mb] w6 w7) :
    DueAt w7 mb (mput k ⟨v6, rowl D k ++ [y]⟩ D) (R.filter (fun g => !(ownB (rowv D k)).contains g) ++ ownB v6) (B ++ ownB y.V) := by
  obtain ⟨hr, hap⟩ := h.row k
  have hn := h.map.nodup
  have hmb6 : MapAt w6 mb (Value.int .i64) Row.v D := h.map.keep hk6 (fun hg => h.mapR (hr.row mb hg))
  have nb : ∀ g ∈ B, g ∉ ownB (rowv D k) := fun g hg hv => h.RB g hg (hr.row g hv)
  have nmB : ∀ g ∈ B, g ∉ [mb] := fun g hg e => h.mapB (by simp at e; rw [← e]; exact hg)
  have nmy : ∀ g ∈ ownB y.V, g ∉ [mb] := fun g hg e => hy.ne_map h.map (by simp at e; rw [← e]; exact hg)
  have nyv : ∀ g ∈ ownB y.V, g ∉ ownB (rowv D k) := by
    intro g hg hv
    obtain ⟨cs, h1⟩ := hy.blk g hg
    obtain ⟨cs', h2⟩ := hr.own.blk g hv
    exact h1.ne_ h2 (by decide) rfl
  have n6m : ∀ g ∈ ownB v6, g ∉ [mb] := fun g hg e => hO.ne_map hmb6 (by simp at e; rw [← e]; exact hg)
  have hin : ∀ g ∈ R, g ∉ ownB (rowv D k) → g ∈ R.filter (fun g => !(ownB (rowv D k)).contains g) ++ ownB v6 := fun g hg hv => by
    rw [List.mem_append]; left; rw [List.mem_filter]; exact ⟨hg, by simpa using hv⟩
  refine ⟨hm, fun p hp => ?_, fun p hp q hq hne g hg => ?_, fun g hg => ?_, fun g hg => ?_⟩
  · rcases mem_put hn hp with rfl | ⟨hp, hpk⟩
    · refine ⟨hO.keep hk7 n6m, fun x hx => ?_, fun g hg => by simp [hg], fun x hx g hg => ?_⟩
      · simp only [List.mem_append, List.mem_singleton] at hx
        rcases hx with hx | rfl
        · exact ((hr.bytes x hx).keep hk6 (fun g hg => nb g (hr.byb x hx g hg))).keep hk7 (fun g hg => nmB g (hr.byb x hx g hg))
        · exact (hy.keep hk6 nyv).keep hk7 nmy
      · simp only [List.mem_append, List.mem_singleton] at hx ⊢
        rcases hx with hx | rfl
        · exact .inl (hr.byb x hx g hg)
        · exact .inr hg
    · have hrp := h.rows p hp
      have hdis := hap p hp hpk
      refine ⟨(hrp.own.keep hk6 hdis).keep hk7 (fun g hg e => h.mapR (by simp at e; rw [← e]; exact hrp.row g hg)), fun x hx => ?_, fun g hg => hin g (hrp.row g hg) (hdis g hg), fun x hx g hg => by simp [hrp.byb x hx g hg]⟩
      exact ((hrp.bytes x hx).keep hk6 (fun g hg => nb g (hrp.byb x hx g hg))).keep hk7 (fun g hg => nmB g (hrp.byb x hx g hg))
  · rcases mem_put hn hp with rfl | ⟨hp, hpk⟩ <;> rcases mem_put hn hq with rfl | ⟨hq, hqk⟩
    · exact absurd rfl hne
    · intro hgq
      rcases hf g hg with h1 | h1
      · exact hap q hq hqk g hgq h1
      · have := ((h.rows q hq).own.lt g hgq).2; omega
    · intro hgq
      rcases hf g hgq with h1 | h1
      · exact hap p hp hpk g hg h1
      · have := ((h.rows p hp).own.lt g hg).2; omega
    · exact h.apart p hp q hq hne g hg
  · rw [List.mem_append, List.mem_filter] at hg
    rcases hg with ⟨hg, hv⟩ | hg
    · have hv : g ∉ ownB (rowv D k) := by simpa using hv
      exact Blk.keep_ex (Blk.keep_ex (h.kindR g hg) hk6 hv) hk7 (fun e => h.mapR (by simp at e; rw [← e]; exact hg))
    · exact Blk.keep_ex (hO.blk g hg) hk7 (n6m g hg)
  · rw [List.mem_append] at hg
    rcases hg with hg | hg
    · exact Blk.keep_ex (Blk.keep_ex (h.kindB g hg) hk6 (nb g hg)) hk7 (nmB g hg)
    · exact Blk.keep_ex (Blk.keep_ex (hy.blk g hg) hk6 (nyv g hg)) hk7 (nmy g hg)
theorem DueAt.del {w7 : World} (h : DueAt w mb D R B) {k : Int} (hm : MapAt w7 mb (Value.int .i64) Row.v (mdel k D)) (hk7 : Keep [mb] w w7) : DueAt w7 mb (mdel k D) R B := by
  have hn := h.map.nodup
  have nR : ∀ g ∈ R, g ∉ [mb] := fun g hg e => h.mapR (by simp at e; rw [← e]; exact hg)
  have nB : ∀ g ∈ B, g ∉ [mb] := fun g hg e => h.mapB (by simp at e; rw [← e]; exact hg)
  exact ⟨hm, fun p hp => (h.rows p (mem_del hn hp).1).keep hk7 nR nB, fun p hp q hq => h.apart p (mem_del hn hp).1 q (mem_del hn hq).1, fun g hg => Blk.keep_ex (h.kindR g hg) hk7 (nR g hg), fun g hg => Blk.keep_ex (h.kindB g hg) hk7 (nB g hg)⟩
/-- What a look at the map yields. -/
theorem k3 : KeyT Try.prog 3 (Value.int .i64) := keyT_int Try.underlying3
theorem zero74 (W : World) : (zeroValue 74).run Try.prog W = .ok (.slice none 0 0) W := by kernel_rfl
theorem DueAt.look (h : DueAt w mb D R B) (k : Int) : (Instr.lookup 68 (.map (some mb)) (.int .i64 k) false).run Try.prog w = .ok (rowv D k) w := h.map.look_one k3 Try.underlying68 zero74 k
end
theorem rowl_at {D : List (Int × Row)} {S : NS} (hD : D.map (fun p => (p.1, p.2.cps)) = S.due) (k : Int) : (rowl D k).map Raw.cp = S.at_ k := by
  unfold rowl NS.at_
  rw [← hD, look_map]
  cases mlook k D <;> rfl
theorem due_put {D : List (Int × Row)} {S : NS} (hD : D.map (fun p => (p.1, p.2.cps)) = S.due) (k : Int) (v6 : Value) (y : Raw) : (mput k ⟨v6, rowl D k ++ [y]⟩ D).map (fun p => (p.1, p.2.cps)) = mput k (S.at_ k ++ [y.cp]) S.due := by
  rw [put_map, hD]
  congr 1
  show (rowl D k ++ [y]).map Raw.cp = _
  rw [List.map_append, rowl_at hD]
  rfl
theorem due_del {D : List (Int × Row)} {S : NS} (hD : D.map (fun p => (p.1, p.2.cps)) = S.due) (k : Int) : (mdel k D).map (fun p => (p.1, p.2.cps)) = mdel k S.due := by
  rw [del_map, hD]
end Go.Proofs.Ytcjbmbljmmakfaa
