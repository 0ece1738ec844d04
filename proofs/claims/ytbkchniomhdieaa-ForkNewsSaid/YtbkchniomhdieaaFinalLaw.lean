/- The plain law of ForkFinal: what is final stays. -/
import Derived.Test.YtbkchniomhdieaaShallowLaw
namespace Go.Proofs.Ytbkchniomhdieaa
open Go.Bz

theorem common_pos {a b : List D8} {z : D8} (ha : a[0]? = some z) (hb : b[0]? = some z) : 1 ≤ common a b := by
  match a, b, ha, hb with
  | x :: r, y :: s, ha, hb =>
    simp at ha hb
    subst ha; subst hb
    simp [common]
theorem FT.WF.line_head {T : FT} (h : T.WF) {x : D8} (hx : T.is x = true) : (T.line x)[0]? = some T.first := by
  have := h.nonneg hx
  exact h.line_first_at _ x hx (by omega)
theorem FT.WF.final_len {T : FT} (h : T.WF) : T.final.length = (max ((T.get T.tip).2 - T.depth) 0 + 1).toNat := by
  have := h.nonneg h.tip_is
  have := h.dep
  unfold FT.final
  rw [List.length_take, T.line_len]
  omega
structure Stays (T T' : FT) : Prop where
  take : T'.final.take T.final.length = T.final
  le : T.final.length ≤ T'.final.length
theorem FT.WF.final_pos {T : FT} (h : T.WF) : 1 ≤ T.final.length := by rw [h.final_len]; omega
theorem Stays.refl (T : FT) : Stays T T := ⟨List.take_length .., Nat.le_refl _⟩
theorem FT.WF.stays {T : FT} (h : T.WF) (x p : D8) : Stays T (T.add x p) := by
  unfold FT.add
  split
  · rename_i he
    obtain ⟨hx, hp, hl, hd⟩ := FT.err_zero he
    have hW := h.added hx hp hl
    have hti := h.tip_is
    have hne : x ≠ T.tip := fun e => by rw [e, hti] at hx; cases hx
    have hn := h.nonneg hti
    have hdp := h.dep
    by_cases hgt : (T.get T.tip).2 < (T.get p).2 + 1
    · have ht : (T.added x p).tip = x := by unfold FT.added; simp [hgt]
      have hpm := h.tip_max hp
      have hg : ((T.added x p).get (T.added x p).tip).2 = (T.get T.tip).2 + 1 := by
        rw [ht, FT.added_get, if_pos rfl]; simp only; omega
      have hlen : T.final.length ≤ (T.added x p).final.length := by
        rw [h.final_len, hW.final_len, hg]
        show _ ≤ (max ((T.get T.tip).2 + 1 - T.depth) 0 + 1).toNat
        omega
      refine ⟨?_, hlen⟩
      have hc : T.final.length ≤ common (T.line p) (T.line T.tip) := by
        have h1 := common_pos (h.line_head hp) (h.line_head hti)
        unfold FT.below at hd
        rw [h.final_len]; omega
      have hcl := (common_le (T.line p) (T.line T.tip)).1
      have hn' := hW.final_len
      rw [hg] at hn'
      change _ = (max ((T.get T.tip).2 + 1 - T.depth) 0 + 1).toNat at hn'
      have e1 : (T.added x p).final = (T.line p ++ [x]).take (T.added x p).final.length := by
        conv => lhs; unfold FT.final
        rw [hg, ht, h.added_line_new hx hp, hn']
        rfl
      rw [e1, List.take_take, Nat.min_eq_left hlen, List.take_append_of_le_length (by omega), common_take _ _ _ hc, h.final_len]
      rfl
    · have ht : (T.added x p).tip = T.tip := by unfold FT.added; simp [hgt]
      have e : (T.added x p).final = T.final := by
        unfold FT.final
        rw [ht, h.added_line hx hti, FT.added_get, if_neg hne]
        rfl
      rw [show Stays T (T.added x p) ↔ True from ⟨fun _ => trivial, fun _ => ⟨by rw [e]; exact List.take_length .., by rw [e]; exact Nat.le_refl _⟩⟩]
      trivial
  · exact Stays.refl T
end Go.Proofs.Ytbkchniomhdieaa
