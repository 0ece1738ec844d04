/- The plain law of ForkShallow: what Add undoes, and how high the tip is. -/
import Derived.Test.YtbkchniomhdieaaPlain2
namespace Go.Proofs.Ytbkchniomhdieaa
open Go.Bz

theorem FT.undone_self (T : FT) (x : D8) : T.undone x x = [] := by
  unfold FT.undone
  split
  · rw [common_self]; simp
  · rfl
theorem FT.WF.tip_max {T : FT} (h : T.WF) {x : D8} (hx : T.is x = true) : (T.get x).2 ≤ (T.get T.tip).2 := by
  obtain ⟨b, hb, hall⟩ := h.tip
  have : T.get T.tip = b := by unfold FT.get; rw [hb]; rfl
  rw [this]
  exact hall x _ (h.get_is hx)
theorem FT.height_is {T : FT} {x : D8} (h : T.is x = true) : T.height x = (T.get x).2 := by unfold FT.height; rw [if_pos h]
structure Moved (T T' : FT) : Prop where
  undone : ((T'.undone T.tip T'.tip).length : Int) ≤ T.depth
  height : T'.height T.tip ≤ T'.height T'.tip
  one : T'.tip ≠ T.tip → T'.height T'.tip = T'.height T.tip + 1
theorem FT.WF.moved {T : FT} (h : T.WF) (x p : D8) : Moved T (T.add x p) := by
  have same : ∀ T' : FT, T'.tip = T.tip → Moved T T' := fun T' e =>
    ⟨by rw [e, T'.undone_self]; simpa using h.dep.1, by rw [e]; exact Int.le_refl _, fun hne => absurd e hne⟩
  unfold FT.add
  split
  · rename_i he
    obtain ⟨hx, hp, hl, hd⟩ := FT.err_zero he
    by_cases hgt : (T.get T.tip).2 < (T.get p).2 + 1
    · have ht : (T.added x p).tip = x := by unfold FT.added; simp [hgt]
      have hti := h.tip_is
      have hne : x ≠ T.tip := fun e => by rw [e, hti] at hx; cases hx
      have hpm := h.tip_max hp
      have hpn := h.nonneg hp
      have hmx : (T.get p).2 = (T.get T.tip).2 := by omega
      have hit : (T.added x p).is T.tip = true := by rw [FT.added_is, if_neg hne]; exact hti
      have hix : (T.added x p).is x = true := by rw [FT.added_is, if_pos rfl]
      have ht1 : (T.added x p).height T.tip = (T.get T.tip).2 := by rw [FT.height_is hit, FT.added_get, if_neg hne]
      have hx1 : (T.added x p).height x = (T.get p).2 + 1 := by rw [FT.height_is hix, FT.added_get, if_pos rfl]
      refine ⟨?_, by rw [ht, ht1, hx1]; omega, fun _ => by rw [ht, ht1, hx1]; omega⟩
      rw [ht]
      unfold FT.undone
      rw [if_pos ⟨hit, hix⟩, h.added_line hx hti, h.added_line_new hx hp, common_comm, common_snoc, common_comm]
      · rw [List.length_reverse, List.length_drop, T.line_len]
        unfold FT.below at hd
        rw [common_comm] at hd
        have := h.dep
        have := h.nonneg hti
        omega
      · rw [T.line_len p, List.getElem?_eq_none (by rw [T.line_len]; omega)]
        simp
    · exact same _ (by unfold FT.added; simp [hgt])
  · exact same _ rfl
end Go.Proofs.Ytbkchniomhdieaa
