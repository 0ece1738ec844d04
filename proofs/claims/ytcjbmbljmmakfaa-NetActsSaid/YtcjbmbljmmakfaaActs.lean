/- NetActs walked. -/
import Derived.Test.YtcjbmbljmmakfaaBoth
import Derived.Test.YtcjbmbljmmakfaaTold
namespace Go.Proofs.Ytcjbmbljmmakfaa
open Go.RowKit Go.Bz

set_option maxRecDepth 100000 in
set_option maxHeartbeats 1000000 in
theorem acts_any {w : World} {p : Int} {V : Value} {D : List Deed} (h : DsAt w V D) : Calls Try.prog 6 #[.int .i64 p, V] w (fun e w' => e = .returned (.bool true) ∧ Keep [] w w') := by
  have hf := fair_any h
  obtain ⟨A, cap, rfl, _⟩ := id h.rd
  by_cases hp : 1 ≤ p ∧ p ≤ 16
  · go_enter Try.func6, Try.ntmps6
    go_upto_region 3 with (first
      | (go_at_call 16; refine hf.mono ?_; rintro e w1 ⟨⟨b, rfl, hF⟩, hk1⟩; cases b)
      | (go_at_call 12; refine (told_any _).mono ?_; rintro e w2 ⟨rfl, hk2⟩)
      | fail)
    · go_wp2_with fail
      go_ret
      exact ⟨rfl, hk1.trans hk2⟩
    · have hb := both_any (h.keep0 hk1) (hF trivial) hp
      go_wp2_with (first
        | (go_at_call 17; refine hb.mono ?_; rintro e w3 ⟨t, mb, S, R, B, N, V', C', rfl, hP⟩; obtain ⟨⟨AV, cV, rfl⟩, AC, cC, rfl⟩ := hP.rn.sl)
        | (go_at_call 12; refine (told_any _).mono ?_; rintro e w4 ⟨rfl, hk4⟩)
        | fail)
      go_ret
      exact ⟨rfl, (((hk1.trans hP.k).alloc _).trans hk4)⟩
  · have hp' : p < 1 ∨ 16 < p := by omega
    clear hp
    go_enter Try.func6, Try.ntmps6
    go_upto_region 3 with (first
      | (go_at_call 16; refine hf.mono ?_; rintro e w1 ⟨⟨b, rfl, hF⟩, hk1⟩; cases b)
      | (go_at_call 12; refine (told_any _).mono ?_; rintro e w2 ⟨rfl, hk2⟩)
      | fail)
    · go_wp2_with fail
      go_ret
      exact ⟨rfl, hk1.trans hk2⟩
    · have hb := both_no (h.keep0 hk1) hp'
      go_wp2_with (first
        | (go_at_call 17; refine hb.mono ?_; rintro e w3 ⟨rfl, hk3⟩)
        | (go_at_call 12; refine (told_any _).mono ?_; rintro e w4 ⟨rfl, hk4⟩)
        | fail)
      go_ret
      exact ⟨rfl, (((hk1.trans hk3).alloc _).trans hk4)⟩
end Go.Proofs.Ytcjbmbljmmakfaa
