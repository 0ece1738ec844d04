/- Rounds walked: the code's and the document's. -/
import Derived.RegionTactic
import Derived.Test.YtjhcfecpmohgnaaBase
import Derived.Test.YtjhcfecpmohgnaaBits
import Derived.Deep.LoopGhost
import Derived.BigRegion
import Derived.Outline
import Derived.WalkLawsBesides
import Derived.WalkSpells
import Derived.Test.YtjhcfecpmohgnaaProg
namespace Go.Proofs.Ytjhcfecpmohgnaa
open Go.RowKit Go.Bz

/-- So many halvings. -/
def rnd (n : Int) : Int := if n ≤ 1 then 0 else if 62 < (Lib.bitLen (n - 1).toNat : Int) then 62 else (Lib.bitLen (n - 1).toNat : Int)
theorem rnd_any (n : Int) (w : World) (hn : n ≤ 9223372036854775807) (hn2 : -9223372036854775808 ≤ n) : Calls Try.prog 8 #[.int .i64 n] w (fun e w' => e = .returned (.int .i64 (rnd n)) ∧ w' = w) := by
  by_cases h : n ≤ 1
  · have HR : Hid (rnd n = 0) := Lib.hid (by unfold rnd; rw [if_pos h])
    go_enter Try.func8, Try.ntmps8
    go_wp2_with fail
    go_ret
    exact ⟨ret_int (by rw [HR.out]), rfl⟩
  · have h' : decide (n ≤ 1) = false := by simp; omega
    have q1 : IntKind.i64.wrap (n - 1) = n - 1 := IntWalk.i64_in _ (by omega)
    have q2 : IntKind.u64.wrap (n - 1) = n - 1 := IntWalk.u64_in _ (by omega)
    have hl := fun w => bits_Len (n - 1) w (by omega) (by omega)
    have HR : Hid (rnd n = if 62 < (Lib.bitLen (n - 1).toNat : Int) then 62 else (Lib.bitLen (n - 1).toNat : Int)) := Lib.hid (by unfold rnd; rw [if_neg h])
    obtain ⟨b, HB⟩ : ∃ b, Hid (b = (Lib.bitLen (n - 1).toNat : Int)) := ⟨_, Lib.hid rfl⟩
    rw [← HB.out] at hl HR
    go_enter Try.func8, Try.ntmps8
    go_wp2_with (first | (go_at_call 15; refine (hl _).mono ?_; rintro e w5 ⟨rfl, rfl⟩) | fail)
    all_goals (go_ret; exact ⟨ret_int (by rw [HR.out]; split <;> omega), rfl⟩)
theorem rounds5 (w : World) : Calls Try.prog 8 #[.int .i64 5] w (fun e w' => e = .returned (.int .i64 3) ∧ w' = w) := rnd_any 5 w (by decide) (by decide)
end Go.Proofs.Ytjhcfecpmohgnaa
