/- BoundRounds walked. -/
import Derived.Test.YtjhcfecpmohgnaaRoundsLaw
import Derived.Test.YtjhcfecpmohgnaaKnown
namespace Go.Proofs.Ytjhcfecpmohgnaa
open Go.RowKit Go.Bz

/-- Two to a power, as the walk sees it. -/
def pw (k : Nat) : Int := ((2 ^ k : Nat) : Int)
theorem pw_succ (k : Nat) : pw (k + 1) = 2 * pw k := by unfold pw; rw [Nat.pow_succ]; omega
theorem pw_range {k : Nat} (h : k ≤ 62) : 1 ≤ pw k ∧ pw k ≤ 4611686018427387904 := by
  unfold pw
  have h1 := Nat.two_pow_pos k
  have h2 : 2 ^ k ≤ 2 ^ 62 := Nat.pow_le_pow_right (by decide) h
  have e2 : (2 ^ 62 : Nat) = 4611686018427387904 := by decide
  omega
set_option maxRecDepth 100000 in
theorem refRounds_any (n : Int) (w : World) (hn : n ≤ 9223372036854775807) : Calls Try.prog 9 #[.int .i64 n] w (fun e w' => e = .returned (.int .i64 (rnd n)) ∧ w' = w) := by
  by_cases h : n ≤ 1
  · have HR : Hid (rnd n = 0) := Lib.hid (by unfold rnd; rw [if_pos h])
    go_enter Try.func9, Try.ntmps9
    go_wp2_with fail
    go_loopg [3, 4] 0 (fun m r p wr => m = 0 ∧ r = .int .i64 0 ∧ p = .int .i64 1 ∧ wr = w)
    case atStart => exact ⟨rfl, rfl, rfl, rfl⟩
    case round =>
      obtain ⟨rfl, rfl, rfl, rfl⟩ := hrel
      go_wp2_with fail
      go_ret
      exact ⟨ret_int (by rw [HR.out]), rfl⟩
  · obtain ⟨r, hr, hr1, hr2, hlt, hlast⟩ := rnd_spec (by omega) hn
    rw [hr]
    have HL := Lib.hid hlt
    have HLa := Lib.hid hlast
    clear hlt hlast hr
    go_enter Try.func9, Try.ntmps9
    go_wp2_with fail
    go_loopg [3, 4] r (fun m i p wr => ∃ k : Nat, i = .int .i64 k ∧ m + k = r ∧ p = .int .i64 (pw k) ∧ wr = w)
    case atStart => exact ⟨0, rfl, rfl, rfl, rfl⟩
    case round =>
      obtain ⟨k, rfl, hk, rfl, rfl⟩ := hrel
      by_cases hlt : k < r
      · have h1 : pw k < n := HL.out k hlt
        have hk62 : decide ((k : Int) < 62) = true := by simp; omega
        have hp := pw_range (k := k) (by omega)
        have hp2 := pw_range (k := k + 1) (by omega)
        rw [pw_succ] at hp2
        have HS := Lib.hid (pw_succ k)
        obtain ⟨p, HP⟩ : ∃ p, Hid (p = pw k) := ⟨_, Lib.hid rfl⟩
        rw [← HP.out] at h1 hp hp2 ⊢
        rw [← HP.out] at HS
        go_wp2_with fail
        go_roundg (r - (k + 1))
        case measure => omega
        case rel => exact ⟨k + 1, by go_num, by omega, by rw [HS.out], rfl⟩
      · have hkr : k = r := by omega
        subst hkr
        rcases HLa.out with h1 | ⟨h1, _⟩
        · have h1 : n ≤ pw k := h1
          obtain ⟨p, HP⟩ : ∃ p, Hid (p = pw k) := ⟨_, Lib.hid rfl⟩
          rw [← HP.out] at h1 ⊢
          have h2 : decide (p < n) = false := by simp; omega
          clear h1 hlt
          go_wp2_with fail
          go_ret
          exact ⟨rfl, rfl⟩
        · subst h1
          obtain ⟨p, HP⟩ : ∃ p, Hid (p = pw 62) := ⟨_, Lib.hid rfl⟩
          rw [← HP.out]
          by_cases h2 : p < n
          · go_wp2_with fail
            go_ret
            exact ⟨rfl, rfl⟩
          · have h2 : decide (p < n) = false := by simp; omega
            go_wp2_with fail
            go_ret
            exact ⟨rfl, rfl⟩
set_option maxRecDepth 100000 in
theorem boundRounds_any (n : Int) (w : World) (hn : n ≤ 9223372036854775807) (hn2 : -9223372036854775808 ≤ n) : Calls Try.prog 3 #[.int .i64 n] w (fun e w' => e = .returned (.bool true) ∧ Keep [] w w') := by
  have c1 := fun w => rnd_any n w hn hn2
  have c2 := fun w => refRounds_any n w hn
  by_cases h : n ≤ 1
  · have h0 : rnd n = 0 := by unfold rnd; rw [if_pos h]
    rw [h0] at c1 c2
    clear h0
    go_enter Try.func3, Try.ntmps3
    go_wp2_with (first
      | (go_at_call 8; refine (c1 _).mono ?_; rintro e w5 ⟨rfl, h5⟩; obtain rfl := h5.symm)
      | (go_at_call 9; refine (c2 _).mono ?_; rintro e w6 ⟨rfl, h6⟩; obtain rfl := h6.symm)
      | (go_at_call 10; refine (known_any _).mono ?_; rintro e w7 ⟨rfl, hk7⟩)
      | fail)
    go_ret
    exact ⟨rfl, hk7⟩
  · obtain ⟨r, hr, hr1, hr2, hlt, hlast⟩ := rnd_spec (by omega) hn
    have h1 : 1 < n := by omega
    have h' : decide (n ≤ 1) = false := by simp; omega
    rw [hr] at c1 c2
    have HL := Lib.hid hlt
    have HLa := Lib.hid hlast
    clear hlt hlast hr h
    have hr62 : decide ((62 : Int) < (r : Int)) = false := by simp; omega
    go_enter Try.func3, Try.ntmps3
    go_wp2_with (first
      | (go_at_call 8; refine (c1 _).mono ?_; rintro e w5 ⟨rfl, h5⟩; obtain rfl := h5.symm)
      | (go_at_call 9; refine (c2 _).mono ?_; rintro e w6 ⟨rfl, h6⟩; obtain rfl := h6.symm)
      | fail)
    clear c1 c2
    go_loopg [4, 5] r (fun m v i wr => ∃ k : Nat, i = .int .i64 k ∧ m + k = r ∧ v = .int .i64 (halved n k) ∧ w = wr)
    case atStart => exact ⟨0, rfl, rfl, by rw [halved_zero], rfl⟩
    case round =>
      obtain ⟨k, rfl, hk, rfl, rfl⟩ := hrel
      have hg := halved_range h1 k
      have HS := Lib.hid (halved_succ n k)
      by_cases hlt : k < r
      · obtain ⟨a, HA⟩ : ∃ a, Hid (a = halved n k) := ⟨_, Lib.hid rfl⟩
        rw [← HA.out] at hg HS ⊢
        go_wp2_with fail
        go_roundg (r - (k + 1))
        case measure => omega
        case rel => exact ⟨k + 1, by go_num, by omega, by rw [HS.out], rfl⟩
      · have hkr : k = r := by omega
        subst hkr
        have hlast : decide (halved n k = 1) = true ∨ decide (halved n k = 1) = false ∧ 4611686018427387904 < n := by
          rcases HLa.out with h2 | ⟨_, h2⟩
          · exact .inl (by simpa using halved_last h1 h2)
          · cases hd : decide (halved n k = 1) with
            | true => exact .inl rfl
            | false => exact .inr ⟨rfl, h2⟩
        obtain ⟨a, HA⟩ : ∃ a, Hid (a = halved n k) := ⟨_, Lib.hid rfl⟩
        rw [← HA.out] at hlast hg ⊢
        clear HS hlt
        have HM : k - 1 + 0 + 1 = k := by omega
        go_wp2_with fail
        go_loopg [6, 7] (k - 1) (fun m v i wr => ∃ j : Nat, i = .int .i64 j ∧ m + j + 1 = k ∧ v = .int .i64 (halved n j) ∧ w = wr)
        case atStart => exact ⟨0, rfl, HM, by rw [halved_zero], rfl⟩
        case round =>
          clear HM
          obtain ⟨j, rfl, hj, rfl, rfl⟩ := hrel
          have hg2 := halved_range h1 j
          have HS := Lib.hid (halved_succ n j)
          have q1 : IntKind.i64.wrap ((j : Int) + 1) = (j : Int) + 1 := IntWalk.i64_in _ (by omega)
          by_cases hlt : j + 1 < k
          · have hlt' : decide ((j : Int) + 1 < (k : Int)) = true := by simp; omega
            obtain ⟨b, HB⟩ : ∃ b, Hid (b = halved n j) := ⟨_, Lib.hid rfl⟩
            rw [← HB.out] at hg2 HS ⊢
            go_wp2_with fail
            go_roundg (k - 1 - (j + 1))
            case measure => omega
            case rel => exact ⟨j + 1, by go_num, by omega, by rw [HS.out], rfl⟩
          · have hjk : j + 1 = k := by omega
            have hlt' : decide ((j : Int) + 1 < (k : Int)) = false := by simp; omega
            have hless := halved_less (HL.out j (by omega))
            obtain ⟨b, HB⟩ : ∃ b, Hid (b = halved n j) := ⟨_, Lib.hid rfl⟩
            rw [← HB.out] at hg2 hless ⊢
            clear HS hlt hj hjk
            rcases hlast with ha | ⟨ha, hb⟩
            · have ha : a = 1 := by simpa using ha
              subst ha
              go_wp2_with (first
                | (go_at_call 10; refine (known_any _).mono ?_; rintro e w7 ⟨rfl, hk7⟩)
                | fail)
              go_ret
              exact ⟨rfl, hk7⟩
            · have ha : (a == (1 : Int)) = false := by simpa using ha
              go_wp2_with (first
                | (go_at_call 10; refine (known_any _).mono ?_; rintro e w7 ⟨rfl, hk7⟩)
                | fail)
              go_ret
              exact ⟨rfl, hk7⟩
end Go.Proofs.Ytjhcfecpmohgnaa
