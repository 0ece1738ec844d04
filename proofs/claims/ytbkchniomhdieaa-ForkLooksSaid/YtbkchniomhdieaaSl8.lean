/- Slices of digests: one is stored into; a row of digests that is the call's own. -/
import Derived.Test.YtbkchniomhdieaaSl
import Derived.Test.YtbkchniomhdieaaDig
namespace Go.Bz
open Go.RowKit
theorem dsz (x : D8) : (dcells x).size = 8 := rfl
section
variable {w w' : World} {ty : TypeId} {g o : Nat} {l : List D8} {v : Value}
theorem SlAt.size8 (h : SlAt w ty 8 dcells g o l) : ∃ cs, Blk w g ty cs ∧ (l ≠ [] → o + l.length * 8 ≤ cs.size) := by
  obtain ⟨cs, hb, hc⟩ := h
  refine ⟨cs, hb, fun hne => ?_⟩
  have hl : 0 < l.length := List.length_pos_iff.2 hne
  have := hc (l.length - 1) l[l.length - 1] (List.getElem?_eq_getElem (by omega)) 7 (by omega)
  have h7 : (dcells l[l.length - 1])[7]? = some (.int .u8 l[l.length - 1].h) := rfl
  rw [h7] at this
  have := (Array.getElem?_eq_some_iff.1 this).1
  omega
theorem SlAt.put8o (h : SlAt w ty 8 dcells g o l) {i : Nat} (hi : i < l.length) (x : D8) : SlAt (put8o w g (o + i * 8) x) ty 8 dcells g o (l.set i x) := by
  obtain ⟨cs, hb, hc⟩ := h
  have hsz : o + l.length * 8 ≤ cs.size := by
    obtain ⟨cs', hb', h'⟩ := SlAt.size8 ⟨cs, hb, hc⟩
    unfold Blk at hb hb'
    rw [hb] at hb'
    cases hb'
    exact h' (by intro e; subst e; simp at hi)
  refine ⟨set8 cs (o + i * 8) x, hb.put8o _ _, fun i' y hy j hj => ?_⟩
  rw [List.getElem?_set] at hy
  by_cases he : i = i'
  · subst he
    rw [if_pos rfl, if_pos hi] at hy
    cases hy
    exact set8_in cs (o + i * 8) x (by omega) j hj
  · rw [if_neg he] at hy
    rw [set8_out]
    · exact hc i' y hy j hj
    · intro m hm e
      have : i * 8 + m = i' * 8 + j := by omega
      omega
theorem SlAt.row (h : SlAt w ty 8 dcells g o l) {i : Nat} {x : D8} (hi : l[i]? = some x) :
    w.cell? ⟨g, o + i * 8, none⟩ = some (.int .u8 x.a) ∧ w.cell? ⟨g, o + i * 8 + 1, none⟩ = some (.int .u8 x.b) ∧ w.cell? ⟨g, o + i * 8 + 2, none⟩ = some (.int .u8 x.c) ∧ w.cell? ⟨g, o + i * 8 + 3, none⟩ = some (.int .u8 x.d) ∧
    w.cell? ⟨g, o + i * 8 + 4, none⟩ = some (.int .u8 x.e) ∧ w.cell? ⟨g, o + i * 8 + 5, none⟩ = some (.int .u8 x.f) ∧ w.cell? ⟨g, o + i * 8 + 6, none⟩ = some (.int .u8 x.g) ∧ w.cell? ⟨g, o + i * 8 + 7, none⟩ = some (.int .u8 x.h) :=
  ⟨h.cell hi (j := 0) (by omega), h.cell hi (j := 1) (by omega), h.cell hi (j := 2) (by omega), h.cell hi (j := 3) (by omega), h.cell hi (j := 4) (by omega), h.cell hi (j := 5) (by omega), h.cell hi (j := 6) (by omega), h.cell hi (j := 7) (by omega)⟩
/-- The eight cells of a digest. -/
def At8 (w : World) (g o : Nat) (x : D8) : Prop :=
  w.cell? ⟨g, o, none⟩ = some (.int .u8 x.a) ∧ w.cell? ⟨g, o + 1, none⟩ = some (.int .u8 x.b) ∧ w.cell? ⟨g, o + 2, none⟩ = some (.int .u8 x.c) ∧ w.cell? ⟨g, o + 3, none⟩ = some (.int .u8 x.d) ∧
  w.cell? ⟨g, o + 4, none⟩ = some (.int .u8 x.e) ∧ w.cell? ⟨g, o + 5, none⟩ = some (.int .u8 x.f) ∧ w.cell? ⟨g, o + 6, none⟩ = some (.int .u8 x.g) ∧ w.cell? ⟨g, o + 7, none⟩ = some (.int .u8 x.h)
theorem SlAt.at8 (h : SlAt w ty 8 dcells g o l) {i : Nat} {x : D8} (hi : l[i]? = some x) : At8 w g (o + i * 8) x := h.row hi
end
end Go.Bz
