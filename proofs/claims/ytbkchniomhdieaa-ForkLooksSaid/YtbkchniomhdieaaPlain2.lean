/- The plain law of trees: what Add keeps; the line of a block behind Add. -/
import Derived.Test.YtbkchniomhdieaaPlain
namespace Go.Proofs.Ytbkchniomhdieaa
open Go.Bz

section
variable {κ β : Type} [DecidableEq κ]
theorem mput_new {x : κ} {v : β} : ∀ {l : List (κ × β)}, mlook x l = none → mput x v l = l ++ [(x, v)]
  | [], _ => rfl
  | p :: r, h => by
    rw [mlook_cons] at h
    by_cases hp : p.1 = x
    · rw [if_pos hp] at h; cases h
    · rw [if_neg hp] at h
      unfold mput
      rw [if_neg hp, mput_new h]
      rfl
theorem mlook_none {x : κ} : ∀ {l : List (κ × β)}, mlook x l = none ↔ x ∉ l.map (·.1)
  | [] => by simp [mlook_nil]
  | p :: r => by
    rw [mlook_cons]
    by_cases hp : p.1 = x
    · simp [hp]
    · rw [if_neg hp, mlook_none (l := r)]
      simp
      intro _ h
      exact hp h.symm
end
def i2 (n : Int) : D8 := ⟨n, 1, 0, 0, 0, 0, 0, 0⟩
def FT.new (d : D8) (n : Int) : FT := ⟨d, d, n, [(d, (d0, 0))]⟩
theorem FT.new_wf (d : D8) {n : Int} (h0 : 0 ≤ n) (h1 : n ≤ 1000) : (FT.new d n).WF := by
  have e : ∀ y, mlook y (FT.new d n).bl = if d = y then some (d0, 0) else none := fun y => by unfold FT.new; rw [mlook_cons, mlook_nil]
  refine ⟨by simp [FT.new], by rw [e]; simp [FT.new], fun x b hb hx => ?_, fun x b hb => ?_, ⟨_, by rw [e]; simp [FT.new]; rfl, fun x c hc => ?_⟩, by simp [FT.new], h0, h1⟩
  · rw [e] at hb
    split at hb
    · rename_i h; exact absurd h.symm hx
    · cases hb
  · rw [e] at hb
    split at hb
    · cases hb; simp [FT.new]
    · cases hb
  · rw [e] at hc
    split at hc
    · cases hc; simp
    · cases hc
theorem FT.err_zero {T : FT} {x p : D8} (h : T.err x p = 0) : T.is x = false ∧ T.is p = true ∧ T.bl.length < 4096 ∧ ¬ T.below p T.tip < (T.get T.tip).2 - T.depth := by
  unfold FT.err at h
  by_cases h1 : T.is x = true
  · rw [if_pos h1] at h; cases h
  rw [if_neg h1] at h
  by_cases h2 : T.is p = false
  · rw [if_pos h2] at h; cases h
  rw [if_neg h2] at h
  by_cases h3 : 4096 ≤ T.bl.length
  · rw [if_pos h3] at h; cases h
  rw [if_neg h3] at h
  by_cases h4 : T.below p T.tip < (T.get T.tip).2 - T.depth
  · rw [if_pos h4] at h; cases h
  exact ⟨by simpa using h1, by simpa using h2, by omega, h4⟩
theorem FT.is_false {T : FT} {x : D8} : T.is x = false ↔ mlook x T.bl = none := by unfold FT.is; cases mlook x T.bl <;> simp
theorem FT.is_true {T : FT} {x : D8} : T.is x = true ↔ ∃ b, mlook x T.bl = some b := by unfold FT.is; cases mlook x T.bl <;> simp
theorem FT.added_bl {T : FT} {x p : D8} : (T.added x p).bl = mput x (p, (T.get p).2 + 1) T.bl := rfl
theorem FT.added_get {T : FT} {x p y : D8} : (T.added x p).get y = if x = y then (p, (T.get p).2 + 1) else T.get y := by
  unfold FT.get
  rw [FT.added_bl, mlook_put]
  split <;> rfl
theorem FT.added_is {T : FT} {x p y : D8} : (T.added x p).is y = if x = y then true else T.is y := by
  unfold FT.is
  rw [FT.added_bl, mlook_put]
  split <;> rfl
theorem FT.WF.added {T : FT} (h : T.WF) {x p : D8} (hx : T.is x = false) (hp : T.is p = true) (hl : T.bl.length < 4096) : (T.added x p).WF := by
  have hn := FT.is_false.1 hx
  have hpn := h.nonneg hp
  have hne : x ≠ T.first := fun e => by rw [e, h.first_is] at hx; cases hx
  have e : ∀ y, mlook y (T.added x p).bl = if x = y then some (p, (T.get p).2 + 1) else mlook y T.bl := fun y => mlook_put ..
  have elen : (T.added x p).bl.length = T.bl.length + 1 := by rw [FT.added_bl, mput_new hn]; simp
  have hxp : x ≠ p := fun e => by rw [e, hp] at hx; cases hx
  refine ⟨?_, ?_, fun y b hb hy => ?_, fun y b hb => ?_, ?_, by rw [elen]; omega, h.dep⟩
  · rw [FT.added_bl, mput_new hn]
    rw [List.map_append, List.nodup_append]
    refine ⟨h.nodup, by simp, ?_⟩
    intro a ha b hb hab
    simp at hb
    subst hb; subst hab
    exact mlook_none.1 hn ha
  · show mlook T.first (T.added x p).bl = _
    rw [e, if_neg hne, h.first]
  · rw [e] at hb
    split at hb
    · cases hb
      exact ⟨T.get p, by rw [e, if_neg hxp]; exact h.get_is hp, rfl⟩
    · obtain ⟨c, hc, he⟩ := h.par y b hb hy
      refine ⟨c, ?_, he⟩
      rw [e, if_neg (fun q => by rw [← q, hn] at hc; cases hc)]
      exact hc
  · rw [e] at hb
    rw [elen]
    split at hb
    · cases hb; simp only; omega
    · have := h.pos y b hb; omega
  · obtain ⟨bt, hbt, hall⟩ := h.tip
    have hg : T.get T.tip = bt := by unfold FT.get; rw [hbt]; rfl
    by_cases hgt : (T.get T.tip).2 < (T.get p).2 + 1
    · refine ⟨(p, (T.get p).2 + 1), ?_, fun y c hc => ?_⟩
      · rw [e]; unfold FT.added; simp [hgt]
      · rw [e] at hc
        split at hc
        · cases hc; exact Int.le_refl _
        · have := hall y c hc; rw [hg] at hgt; simp only; omega
    · refine ⟨bt, ?_, fun y c hc => ?_⟩
      · have : (T.added x p).tip = T.tip := by unfold FT.added; simp [hgt]
        rw [this, e, if_neg (fun q => by rw [← q, hn] at hbt; cases hbt)]; exact hbt
      · rw [e] at hc
        split at hc
        · cases hc; rw [hg] at hgt; simp only; omega
        · exact hall y c hc
theorem FT.WF.add {T : FT} (h : T.WF) (x p : D8) : (T.add x p).WF := by
  unfold FT.add
  split
  · rename_i he
    obtain ⟨h1, h2, h3, _⟩ := FT.err_zero he
    exact h.added h1 h2 h3
  · exact h
theorem FT.add_first {T : FT} (x p : D8) : (T.add x p).first = T.first := by unfold FT.add; split <;> rfl
theorem FT.add_depth {T : FT} (x p : D8) : (T.add x p).depth = T.depth := by unfold FT.add; split <;> rfl
/-- Lines of what was there stay. -/
theorem FT.WF.added_lineN {T : FT} (h : T.WF) {x p : D8} (hx : T.is x = false) : ∀ (n : Nat) (y : D8), T.is y = true → (n : Int) ≤ (T.get y).2 → (T.added x p).lineN n y = T.lineN n y
  | 0, _, _, _ => rfl
  | n + 1, y, hy, hn => by
    have hxy : x ≠ y := fun e => by rw [e, hy] at hx; cases hx
    have hf : y ≠ T.first := fun e => by rw [e, h.get_first] at hn; simp at hn; omega
    obtain ⟨h1, h2⟩ := h.step hy hf
    unfold FT.lineN
    rw [FT.added_get, if_neg hxy, h.added_lineN hx n _ h1 (by omega)]
theorem FT.WF.added_line {T : FT} (h : T.WF) {x p y : D8} (hx : T.is x = false) (hy : T.is y = true) : (T.added x p).line y = T.line y := by
  have hxy : x ≠ y := fun e => by rw [e, hy] at hx; cases hx
  have := h.nonneg hy
  unfold FT.line
  rw [FT.added_get, if_neg hxy, h.added_lineN hx _ _ hy (by omega)]
theorem FT.WF.added_line_new {T : FT} (h : T.WF) {x p : D8} (hx : T.is x = false) (hp : T.is p = true) : (T.added x p).line x = T.line p ++ [x] := by
  have hxp : x ≠ p := fun e => by rw [e, hp] at hx; cases hx
  have hpn := h.nonneg hp
  have e := h.added_line (x := x) (p := p) hx hp
  unfold FT.line at e ⊢
  rw [FT.added_get, if_neg hxp] at e
  rw [FT.added_get, if_pos rfl, ← e]
  simp only
  rw [show ((T.get p).2 + 1).toNat = (T.get p).2.toNat + 1 by omega, FT.lineN, FT.added_get, if_pos rfl]
theorem FT.WF.line_first_at {T : FT} (h : T.WF) : ∀ (n : Nat) (x : D8), T.is x = true → (T.get x).2 = n → (T.lineN n x)[0]? = some T.first
  | 0, x, hx, h0 => by simp [FT.lineN]; exact h.zero hx (by simpa using h0)
  | n + 1, x, hx, hn => by
    have hf : x ≠ T.first := fun e => by rw [e, h.get_first] at hn; simp at hn; omega
    obtain ⟨h1, h2⟩ := h.step hx hf
    have := h.line_first_at n _ h1 (by omega)
    unfold FT.lineN
    rw [List.getElem?_append_left (by rw [T.lineN_len]; omega)]
    exact this
end Go.Proofs.Ytbkchniomhdieaa
