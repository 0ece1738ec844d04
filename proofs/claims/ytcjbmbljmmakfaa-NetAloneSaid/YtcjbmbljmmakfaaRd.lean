/- Slices that are only read: handed-in arguments. -/
import Derived.Test.YtcjbmbljmmakfaaBase
namespace Go.Bz
open Go.RowKit
section
variable {α : Type}
/-- The slice at A reads as the list l, k cells to an element. -/
def Rd (w : World) (k : Nat) (enc : α → Array Value) (A : Option Addr) (l : List α) : Prop :=
  l = [] ∨ ∃ ab ao, A = some ⟨ab, ao, none⟩ ∧ ab < w.heap.size ∧ ∀ i x, l[i]? = some x → ∀ j, j < k → w.cell? ⟨ab, ao + i * k + j, none⟩ = (enc x)[j]?
variable {w w' : World} {k : Nat} {enc : α → Array Value} {A : Option Addr} {l : List α}
theorem Rd.at_ (h : Rd w k enc A l) {i : Nat} {x : α} (hi : l[i]? = some x) : ∃ ab ao, A = some ⟨ab, ao, none⟩ ∧ ab < w.heap.size ∧ ∀ j, j < k → w.cell? ⟨ab, ao + i * k + j, none⟩ = (enc x)[j]? := by
  rcases h with rfl | ⟨ab, ao, rfl, h1, h2⟩
  · simp at hi
  · exact ⟨ab, ao, rfl, h1, h2 i x hi⟩
theorem Rd.keep {S : List Nat} (h : Rd w k enc A l) (hk : Keep S w w') (hS : ∀ a, A = some a → a.block < w.heap.size → a.block ∉ S) : Rd w' k enc A l := by
  rcases h with rfl | ⟨ab, ao, rfl, h1, h2⟩
  · exact .inl rfl
  · refine .inr ⟨ab, ao, rfl, Nat.lt_of_lt_of_le h1 hk.size, fun i x hi j hj => ?_⟩
    rw [← h2 i x hi j hj]
    exact World.cell?_of_block (hk.block ab h1 (hS _ rfl h1))
theorem Rd.keep0 (h : Rd w k enc A l) (hk : Keep [] w w') : Rd w' k enc A l := h.keep hk (by simp)
/-- An element, in each world that keeps what there was. -/
theorem Rd.elem (h : Rd w k enc A l) {i : Nat} {x : α} (hi : l[i]? = some x) : ∃ ab ao, A = some ⟨ab, ao, none⟩ ∧ ab < w.heap.size ∧ ∀ W, Keep [] w W → ∀ j, j < k → W.cell? ⟨ab, ao + i * k + j, none⟩ = (enc x)[j]? := by
  obtain ⟨ab, ao, h1, h2, h3⟩ := h.at_ hi
  refine ⟨ab, ao, h1, h2, fun W hk j hj => ?_⟩
  rw [← h3 j hj]
  exact World.cell?_of_block (hk.block ab h2 (by simp))
/-- .. from readings of each element. -/
theorem Rd.of {a : Addr} {len : Nat} (hk : 0 < k) (hs : ∀ x, (enc x).size = k) (hel : ∀ i, i < len → ∃ x : α, ∀ j, j < k → w.cell? (a.add (i * k + j)) = (enc x)[j]?) : ∃ l : List α, l.length = len ∧ Rd w k enc (some a) l := by
  have key : ∀ n, n ≤ len → ∃ l : List α, l.length = n ∧ ∀ i x, l[i]? = some x → ∀ j, j < k → w.cell? (a.add (i * k + j)) = (enc x)[j]? := by
    intro n
    induction n with
    | zero => exact fun _ => ⟨[], rfl, fun i x h => by simp at h⟩
    | succ n ih =>
      intro hn
      obtain ⟨l, hl, h⟩ := ih (by omega)
      obtain ⟨x, hx⟩ := hel n (by omega)
      refine ⟨l ++ [x], by simp [hl], fun i y hy => ?_⟩
      rcases Nat.lt_or_ge i n with hi | hi
      · rw [List.getElem?_append_left (by omega)] at hy
        exact h i y hy
      · have hi' : i < (l ++ [x]).length := (List.getElem?_eq_some_iff.1 hy).1
        have : i = n := by simp at hi'; omega
        subst this
        rw [List.getElem?_append_right (by omega)] at hy
        simp [hl] at hy
        subst hy
        exact hx
  obtain ⟨l, hl, h⟩ := key len (Nat.le_refl _)
  refine ⟨l, hl, ?_⟩
  match l, hl, h with
  | [], _, _ => exact .inl rfl
  | x :: r, hl, h =>
    have h0 := h 0 x rfl 0 hk
    have hsz : (enc x)[0]? = some ((enc x)[0]'(by rw [hs]; exact hk)) := Array.getElem?_eq_getElem _
    rw [hsz] at h0
    obtain ⟨ab, ao, sp⟩ := a
    have hsp : sp = none := by
      cases sp with
      | none => rfl
      | some s =>
        simp only [Nat.zero_mul, Nat.add_zero, Addr.add, if_pos] at h0
        unfold World.cell? at h0
        split at h0 <;> simp at h0
    subst hsp
    have hlt := World.block_lt_of_cell? _ _ h0
    refine .inr ⟨ab, ao, rfl, by simpa [Addr.add] using hlt, fun i y hi j hj => ?_⟩
    have := h i y hi j hj
    rw [← this]
    congr 1
    unfold Addr.add
    split
    · simp_all
    · simp [Nat.add_assoc]
end
end Go.Bz
