/- The plain law of halvings. -/
import Derived.Test.YtjhcfecpmohgnaaRounds
namespace Go.Proofs.Ytjhcfecpmohgnaa
open Go.Bz

theorem bitLen_two : ∀ (x : Nat), x ≠ 0 → x < 18446744073709551616 → 2 ^ (Lib.bitLen x - 1) ≤ x ∧ x < 2 ^ Lib.bitLen x ∧ 1 ≤ Lib.bitLen x := by
  intro x
  induction x using Nat.strongRecOn with
  | ind x ih =>
    intro h0 h
    have hh := Lib.bitLen_half x h0 h
    by_cases h1 : x = 1
    · subst h1
      rw [hh]
      decide
    · obtain ⟨a, b, c⟩ := ih (x / 2) (by omega) (by omega) (by omega)
      rw [hh]
      have e : 1 + Lib.bitLen (x / 2) - 1 = (Lib.bitLen (x / 2) - 1) + 1 := by omega
      rw [e, Nat.pow_succ, Nat.pow_add]
      omega
/-- rnd, told by powers of two: up to it they are too small. -/
theorem rnd_spec {n : Int} (h1 : 1 < n) (h2 : n ≤ 9223372036854775807) : ∃ r : Nat, rnd n = r ∧ 1 ≤ r ∧ r ≤ 62 ∧ (∀ j : Nat, j < r → (2 ^ j : Nat) < n) ∧ (n ≤ (2 ^ r : Nat) ∨ r = 62 ∧ 4611686018427387904 < n) := by
  obtain ⟨x, hx⟩ : ∃ x : Nat, n = x + 1 := ⟨(n - 1).toNat, by omega⟩
  have e : (n - 1).toNat = x := by omega
  obtain ⟨a, b, c⟩ := bitLen_two x (by omega) (by omega)
  have key : ∀ r : Nat, r ≤ Lib.bitLen x → ∀ j : Nat, j < r → (2 ^ j : Nat) < n := by
    intro r hr j hj
    have : 2 ^ j ≤ 2 ^ (Lib.bitLen x - 1) := Nat.pow_le_pow_right (by decide) (by omega)
    omega
  unfold rnd
  rw [if_neg (by omega), e]
  by_cases h : 62 < Lib.bitLen x
  · refine ⟨62, by rw [if_pos (by omega)]; rfl, by decide, Nat.le_refl _, key 62 (by omega), .inr ⟨rfl, ?_⟩⟩
    have := key 63 (by omega) 62 (by decide)
    have e2 : (2 ^ 62 : Nat) = 4611686018427387904 := by decide
    omega
  · exact ⟨Lib.bitLen x, by rw [if_neg (by omega)], c, by omega, key _ (Nat.le_refl _), .inl (by omega)⟩
/-- Halved so often, rounded up. -/
def halved (n : Int) (k : Nat) : Int := (n - 1) / (2 ^ k : Nat) + 1
theorem halved_zero (n : Int) : halved n 0 = n := by unfold halved; simp
theorem halved_range {n : Int} (h1 : 1 < n) (k : Nat) : 1 ≤ halved n k ∧ halved n k ≤ n := by
  unfold halved
  have hp : 0 < (2 ^ k : Nat) := Nat.two_pow_pos k
  have h0 : 0 ≤ (n - 1) / ((2 ^ k : Nat) : Int) := Int.ediv_nonneg (by omega) (by omega)
  have := Int.ediv_le_self ((2 ^ k : Nat) : Int) (show 0 ≤ n - 1 by omega)
  omega
theorem halved_succ (n : Int) (k : Nat) : halved n (k + 1) = halved n k / 2 + halved n k % 2 := by
  unfold halved
  rw [Nat.pow_succ, Int.natCast_mul, ← Int.ediv_ediv_of_nonneg (Int.natCast_nonneg _)]
  generalize (n - 1) / ((2 ^ k : Nat) : Int) = y
  simp only [Int.cast_ofNat_Int]
  omega
theorem halved_last {n : Int} {r : Nat} (h1 : 1 < n) (h : n ≤ (2 ^ r : Nat)) : halved n r = 1 := by
  unfold halved
  rw [Int.ediv_eq_zero_of_lt (by omega) (by omega)]; rfl
theorem halved_less {n : Int} {r : Nat} (h : (2 ^ r : Nat) < n) : 1 < halved n r := by
  unfold halved
  have hp : (0 : Int) < (2 ^ r : Nat) := by have := Nat.two_pow_pos r; omega
  have : 1 ≤ (n - 1) / ((2 ^ r : Nat) : Int) := (Int.le_ediv_iff_mul_le hp).2 (by omega)
  omega
end Go.Proofs.Ytjhcfecpmohgnaa
