/- The plain law of trees: lines, where two lines part, what Add does; nothing of Go. -/
import Derived.Test.YtbkchniomhdieaaDig
namespace Go.Proofs.Ytbkchniomhdieaa
open Go.Bz

abbrev B1 := D8 × Int
structure FT where
  (first tip : D8) (depth : Int) (bl : List (D8 × B1))
def d0 : D8 := ⟨0, 0, 0, 0, 0, 0, 0, 0⟩
/-- What 'm[k]' gives. -/
def FT.get (T : FT) (x : D8) : B1 := (mlook x T.bl).getD (d0, 0)
def FT.is (T : FT) (x : D8) : Bool := (mlook x T.bl).isSome
def FT.height (T : FT) (x : D8) : Int := if T.is x then (T.get x).2 else -1

structure FT.WF (T : FT) : Prop where
  nodup : (T.bl.map (·.1)).Nodup
  first : mlook T.first T.bl = some (d0, 0)
  par : ∀ x b, mlook x T.bl = some b → x ≠ T.first → ∃ c, mlook b.1 T.bl = some c ∧ b.2 = c.2 + 1
  pos : ∀ x b, mlook x T.bl = some b → 0 ≤ b.2 ∧ b.2 < T.bl.length
  tip : ∃ b, mlook T.tip T.bl = some b ∧ ∀ x c, mlook x T.bl = some c → c.2 ≤ b.2
  size : T.bl.length ≤ 4096
  dep : 0 ≤ T.depth ∧ T.depth ≤ 1000

/-- The line of x, n steps back. -/
def FT.lineN (T : FT) : Nat → D8 → List D8
  | 0, x => [x]
  | n + 1, x => T.lineN n (T.get x).1 ++ [x]
def FT.line (T : FT) (x : D8) : List D8 := T.lineN (T.get x).2.toNat x
/-- How many two lists have in common at their heads. -/
def common : List D8 → List D8 → Nat
  | a :: r, b :: s => if a = b then common r s + 1 else 0
  | _, _ => 0
def FT.below (T : FT) (a b : D8) : Int := common (T.line a) (T.line b) - 1

theorem FT.lineN_len (T : FT) : ∀ n x, (T.lineN n x).length = n + 1
  | 0, _ => rfl
  | n + 1, x => by simp [lineN, T.lineN_len n]
theorem FT.line_len (T : FT) (x : D8) : (T.line x).length = (T.get x).2.toNat + 1 := T.lineN_len _ _
theorem FT.lineN_last (T : FT) : ∀ n x, (T.lineN n x).getLast? = some x
  | 0, _ => rfl
  | n + 1, x => by simp [lineN]

theorem FT.WF.get_is {T : FT} (_ : T.WF) {x : D8} (hx : T.is x = true) : mlook x T.bl = some (T.get x) := by
  unfold FT.is at hx; unfold FT.get
  cases hl : mlook x T.bl with
  | none => simp [hl] at hx
  | some b => rfl
section
variable {T : FT} (h : T.WF)
include h
theorem FT.WF.first_is : T.is T.first = true := by unfold FT.is; rw [h.first]; rfl
theorem FT.WF.get_first : T.get T.first = (d0, 0) := by unfold FT.get; rw [h.first]; rfl
theorem FT.WF.tip_is : T.is T.tip = true := by obtain ⟨b, hb, _⟩ := h.tip; unfold FT.is; rw [hb]; rfl
theorem FT.WF.step {x : D8} (hx : T.is x = true) (hf : x ≠ T.first) : T.is (T.get x).1 = true ∧ (T.get x).2 = (T.get (T.get x).1).2 + 1 := by
  obtain ⟨c, hc, he⟩ := h.par x _ (h.get_is hx) hf
  have : T.is (T.get x).1 = true := by unfold FT.is; rw [hc]; rfl
  have h2 := h.get_is this
  rw [hc] at h2
  cases h2
  exact ⟨this, he⟩
theorem FT.WF.nonneg {x : D8} (hx : T.is x = true) : 0 ≤ (T.get x).2 ∧ (T.get x).2 < T.bl.length := h.pos x _ (h.get_is hx)
theorem FT.WF.zero {x : D8} (hx : T.is x = true) (h0 : (T.get x).2 = 0) : x = T.first := by
  by_cases hf : x = T.first
  · exact hf
  · obtain ⟨h1, h2⟩ := h.step hx hf
    have := (h.nonneg h1).1
    omega
theorem FT.WF.line_first : T.line T.first = [T.first] := by unfold FT.line; rw [h.get_first]; rfl
theorem FT.WF.line_step {x : D8} (hx : T.is x = true) (hf : x ≠ T.first) : T.line x = T.line (T.get x).1 ++ [x] := by
  obtain ⟨h1, h2⟩ := h.step hx hf
  have h3 := (h.nonneg h1).1
  unfold FT.line
  rw [h2, show ((T.get (T.get x).1).2 + 1).toNat = (T.get (T.get x).1).2.toNat + 1 by omega]
  rfl
theorem FT.WF.line_lt {x : D8} (hx : T.is x = true) : (T.line x).length ≤ 4096 := by
  have := h.nonneg hx; have := h.size
  rw [T.line_len]; omega
end

theorem common_le : ∀ a b : List D8, common a b ≤ a.length ∧ common a b ≤ b.length
  | [], b => by simp [common]
  | a :: r, [] => by simp [common]
  | a :: r, b :: s => by
    unfold common
    have := common_le r s
    split <;> simp <;> omega
theorem common_self : ∀ a : List D8, common a a = a.length
  | [] => rfl
  | a :: r => by simp [common, common_self r]
theorem common_comm : ∀ a b : List D8, common a b = common b a
  | [], [] => rfl
  | [], b :: s => by simp [common]
  | a :: r, [] => by simp [common]
  | a :: r, b :: s => by
    unfold common
    by_cases e : a = b
    · subst e; simp [common_comm r s]
    · have : ¬ b = a := fun h => e h.symm
      simp [e, this]
/-- An element more at the end of the first makes no difference where the other list isn't longer, or has another one there. -/
theorem common_snoc : ∀ (a : List D8) (x : D8) (b : List D8), b[a.length]? ≠ some x → common (a ++ [x]) b = common a b
  | [], x, [], _ => by simp [common]
  | [], x, b :: s, h => by
    simp at h
    have : ¬ x = b := fun e => h e.symm
    simp [common, this]
  | a :: r, x, [], _ => by simp [common]
  | a :: r, x, b :: s, h => by
    simp at h
    simp [common, common_snoc r x s h]
theorem common_take : ∀ (a b : List D8) (n : Nat), n ≤ common a b → a.take n = b.take n
  | [], b, n, h => by simp [common] at h; subst h; simp
  | a :: r, [], n, h => by simp [common] at h; subst h; simp
  | a :: r, b :: s, 0, _ => by simp
  | a :: r, b :: s, n + 1, h => by
    unfold common at h
    split at h
    · rename_i e; subst e
      simp [common_take r s n (by omega)]
    · omega
theorem FT.lineN_at (T : FT) : ∀ n x y, T.lineN n x ≠ [] ∧ ((T.lineN n x)[n]? = some y ↔ x = y)
  | 0, x, y => by simp [FT.lineN]
  | n + 1, x, y => by
    refine ⟨by simp [FT.lineN], ?_⟩
    have := T.lineN_len n (T.get x).1
    simp [FT.lineN, List.getElem?_append, this]
theorem FT.line_at (T : FT) (x y : D8) : (T.line x)[(T.get x).2.toNat]? = some y ↔ x = y := (T.lineN_at _ x y).2

theorem FT.below_comm (T : FT) (a b : D8) : T.below a b = T.below b a := by unfold FT.below; rw [common_comm]

section
variable {T : FT} (h : T.WF)
include h
/-- The higher one of two that differ may go down by one: they part at the same place. -/
theorem FT.WF.below_step {a b : D8} (ha : T.is a = true) (hb : T.is b = true) (hne : a ≠ b) (hge : (T.get b).2 ≤ (T.get a).2) :
    a ≠ T.first ∧ T.below (T.get a).1 b = T.below a b := by
  have hf : a ≠ T.first := by
    intro e
    have h0 : (T.get a).2 = 0 := by rw [e, h.get_first]
    have := (h.nonneg hb).1
    exact hne (e.trans (h.zero hb (by omega)).symm)
  refine ⟨hf, ?_⟩
  have hp := h.step ha hf
  have hpn := (h.nonneg hp.1).1
  unfold FT.below
  rw [h.line_step ha hf, common_snoc]
  rw [T.line_len]
  intro hc
  have hl := (List.getElem?_eq_some_iff.1 hc).1
  rw [T.line_len] at hl
  have e : (T.get (T.get a).1).2.toNat + 1 = (T.get b).2.toNat := by omega
  rw [e, T.line_at] at hc
  exact hne hc.symm
theorem FT.WF.below_self {a : D8} (ha : T.is a = true) : T.below a a = (T.get a).2 := by
  have := (h.nonneg ha).1
  unfold FT.below
  rw [common_self, T.line_len]; omega
/-- One round of 'below': what it does to the two, and to the sum of their heights. -/
theorem FT.WF.round_hi {x y : D8} (hx : T.is x = true) (hy : T.is y = true) (hne : x ≠ y) (hlt : (T.get y).2 < (T.get x).2) :
    T.is (T.get x).1 = true ∧ T.below (T.get x).1 y = T.below x y ∧ ((T.get (T.get x).1).2 + (T.get y).2).toNat < ((T.get x).2 + (T.get y).2).toNat := by
  obtain ⟨hf, hb⟩ := h.below_step hx hy hne (by omega)
  obtain ⟨h1, h2⟩ := h.step hx hf
  have := h.nonneg h1; have := h.nonneg hy
  exact ⟨h1, hb, by omega⟩
theorem FT.WF.round_lo {x y : D8} (hx : T.is x = true) (hy : T.is y = true) (hne : x ≠ y) (hlt : (T.get x).2 < (T.get y).2) :
    T.is (T.get y).1 = true ∧ T.below x (T.get y).1 = T.below x y ∧ ((T.get x).2 + (T.get (T.get y).1).2).toNat < ((T.get x).2 + (T.get y).2).toNat := by
  obtain ⟨a, b, c⟩ := h.round_hi hy hx (Ne.symm hne) hlt
  exact ⟨a, by rw [T.below_comm x, b, T.below_comm], by omega⟩
theorem FT.WF.round_eq {x y : D8} (hx : T.is x = true) (hy : T.is y = true) (hne : x ≠ y) (heq : (T.get x).2 = (T.get y).2) :
    T.is (T.get x).1 = true ∧ T.is (T.get y).1 = true ∧ T.below (T.get x).1 (T.get y).1 = T.below x y ∧ ((T.get (T.get x).1).2 + (T.get (T.get y).1).2).toNat < ((T.get x).2 + (T.get y).2).toNat := by
  obtain ⟨hf, hb⟩ := h.below_step hx hy hne (by omega)
  obtain ⟨h1, h2⟩ := h.step hx hf
  have h3 := h.nonneg h1
  have hne' : (T.get x).1 ≠ y := by intro e; rw [e] at h2; omega
  obtain ⟨a, b, c⟩ := h.round_lo h1 hy hne' (by omega)
  exact ⟨h1, a, by rw [b, hb], by omega⟩
end
/-! ### Add -/
/-- What Add answers. -/
def FT.err (T : FT) (x p : D8) : Int :=
  if T.is x = true then 7 else if T.is p = false then 24 else if 4096 ≤ T.bl.length then 8 else if T.below p T.tip < (T.get T.tip).2 - T.depth then 25 else 0
/-- What Add leaves, where it answers OK. -/
def FT.added (T : FT) (x p : D8) : FT :=
  { T with bl := mput x (p, (T.get p).2 + 1) T.bl, tip := if (T.get T.tip).2 < (T.get p).2 + 1 then x else T.tip }
def FT.add (T : FT) (x p : D8) : FT := if T.err x p = 0 then T.added x p else T
theorem mlook_nil {κ β : Type} [DecidableEq κ] (y : κ) : mlook y ([] : List (κ × β)) = none := rfl
theorem mlook_cons {κ β : Type} [DecidableEq κ] (p : κ × β) (y : κ) (l : List (κ × β)) : mlook y (p :: l) = if p.1 = y then some p.2 else mlook y l := by
  unfold mlook
  simp only [mat]
  split
  · rfl
  · cases mat y l <;> rfl
theorem mlook_put {κ β : Type} [DecidableEq κ] (x : κ) (v : β) (y : κ) : ∀ l : List (κ × β), mlook y (mput x v l) = if x = y then some v else mlook y l
  | [] => by simp [mput, mlook_cons, mlook_nil]
  | p :: r => by
    unfold mput
    by_cases hp : p.1 = x
    · rw [if_pos hp, mlook_cons, mlook_cons]
      by_cases hy : x = y
      · simp [hy]
      · have : ¬ p.1 = y := by rw [hp]; exact hy
        simp [hy, this]
    · rw [if_neg hp, mlook_cons, mlook_cons, mlook_put x v y r]
      by_cases hy : x = y
      · have : ¬ p.1 = y := by rw [← hy]; exact hp
        simp [hy, this]
      · simp [hy]
/-! ### Undone, Final -/
def FT.undone (T : FT) (x y : D8) : List D8 := if T.is x = true ∧ T.is y = true then ((T.line x).drop (common (T.line x) (T.line y))).reverse else []
def FT.final (T : FT) : List D8 := (T.line T.tip).take (max ((T.get T.tip).2 - T.depth) 0 + 1).toNat
end Go.Proofs.Ytbkchniomhdieaa
