/- net's methods on a nil net; NetNil walked. -/
import Derived.Test.YtcjbmbljmmakfaaTold
namespace Go.Proofs.Ytcjbmbljmmakfaa
open Go.RowKit Go.Bz

theorem nil_send (f t : Int) (w : World) : Calls Try.prog 13 #[.pointer none, .agg #[.int .i64 f, .int .i64 t, .slice none 0 0], .agg #[.slice none 0 0]] w (fun e w' => e = .returned (.int .i64 1) ∧ Keep [] w w') := by
  go_enter Try.func13, Try.ntmps13
  go_wp2_with fail
  go_ret
  exact ⟨rfl, ((Keep.refl _ _).alloc _).alloc _⟩
theorem nil_cut (f t : Int) (b : Bool) (w : World) : Calls Try.prog 18 #[.pointer none, .int .i64 f, .int .i64 t, .bool b] w (fun e w' => e = .returned (.int .i64 1) ∧ Keep [] w w') := by
  go_enter Try.func18, Try.ntmps18
  go_wp2_with fail
  go_ret
  exact ⟨rfl, Keep.refl _ _⟩
theorem nil_step (w : World) : Calls Try.prog 14 #[.pointer none] w (fun e w' => e = .returned (.slice none 0 0) ∧ Keep [] w w') := by
  go_enter Try.func14, Try.ntmps14
  go_wp2_with fail
  go_step3
  go_wp2_with fail
  try rw [Exit.noGoto_ret]
  go_ret
  exact ⟨rfl, Keep.refl _ _⟩
theorem nil_now (w : World) : Calls Try.prog 24 #[.pointer none] w (fun e w' => e = .returned (.int .i64 0) ∧ Keep [] w w') := by
  go_enter Try.func24, Try.ntmps24
  go_wp2_with fail
  go_ret
  exact ⟨rfl, Keep.refl _ _⟩
theorem nil_way (w : World) : Calls Try.prog 15 #[.pointer none] w (fun e w' => e = .returned (.int .i64 0) ∧ Keep [] w w') := by
  go_enter Try.func15, Try.ntmps15
  go_wp2_with fail
  go_ret
  exact ⟨rfl, Keep.refl _ _⟩
theorem nil_clone (w : World) : Calls Try.prog 21 #[.pointer none] w (fun e w' => e = .returned (.pointer none) ∧ Keep [] w w') := by
  go_enter Try.func21, Try.ntmps21
  go_wp2_with fail
  go_ret
  exact ⟨rfl, Keep.refl _ _⟩
theorem nil_same0 (w : World) : Calls Try.prog 22 #[.pointer none, .pointer none] w (fun e w' => e = .returned (.bool true) ∧ Keep [] w w') := by
  go_enter Try.func22, Try.ntmps22
  go_wp2_with fail
  go_ret
  exact ⟨rfl, Keep.refl _ _⟩
theorem nil_same1 (t : Nat) (w : World) : Calls Try.prog 22 #[.pointer none, .pointer (some ⟨t, 0, none⟩)] w (fun e w' => e = .returned (.bool false) ∧ Keep [] w w') := by
  go_enter Try.func22, Try.ntmps22
  go_wp2_with fail
  go_ret
  exact ⟨rfl, Keep.refl _ _⟩
theorem nil_same2 (t : Nat) (w : World) : Calls Try.prog 22 #[.pointer (some ⟨t, 0, none⟩), .pointer none] w (fun e w' => e = .returned (.bool false) ∧ Keep [] w w') := by
  go_enter Try.func22, Try.ntmps22
  go_wp2_with fail
  go_ret
  exact ⟨rfl, Keep.refl _ _⟩
set_option maxRecDepth 100000 in
set_option maxHeartbeats 4000000 in
theorem netnil_any (f g : Int) (b : Bool) (w : World) : Calls Try.prog 10 #[.int .i64 f, .int .i64 g, .bool b] w (fun e w' => e = .returned (.bool true) ∧ Keep [] w w') := by
  have mk1 : True := trivial
  have mk2 : True := trivial
  have hK := Keep.refl [] w
  go_enter Try.func10, Try.ntmps10
  go_wp2_with (first
    | (go_at_call 11; refine (new_any 1 _ (by decide)).mono ?_; rintro e w1 ⟨t, mb, rfl, ht, hmb, hN, hk1⟩; have hK := hK.trans hk1)
    | (go_at_call 13; refine (nil_send f g _).mono ?_; rintro e w2 ⟨rfl, hk1⟩; have hK := hK.trans hk1)
    | (go_at_call 18; refine (nil_cut f g b _).mono ?_; rintro e w2 ⟨rfl, hk1⟩; have hK := hK.trans hk1)
    | (go_at_call 14; refine (nil_step _).mono ?_; rintro e w2 ⟨rfl, hk1⟩; have hK := hK.trans hk1)
    | (go_at_call 24; refine (nil_now _).mono ?_; rintro e w2 ⟨rfl, hk1⟩; have hK := hK.trans hk1)
    | (go_at_call 15; refine (nil_way _).mono ?_; rintro e w2 ⟨rfl, hk1⟩; have hK := hK.trans hk1)
    | (go_at_call 21; refine (nil_clone _).mono ?_; rintro e w2 ⟨rfl, hk1⟩; have hK := hK.trans hk1)
    | (go_at_call 22; first
      | (clear mk1; refine (nil_same0 _).mono ?_; rintro e w2 ⟨rfl, hk1⟩; have hK := hK.trans hk1)
      | (clear mk2; refine (nil_same1 t _).mono ?_; rintro e w2 ⟨rfl, hk1⟩; have hK := hK.trans hk1)
      | (refine (nil_same2 t _).mono ?_; rintro e w2 ⟨rfl, hk1⟩; have hK := hK.trans hk1))
    | (go_at_call 12; refine (told_any _).mono ?_; rintro e w2 ⟨rfl, hk1⟩; have hK := hK.trans hk1)
    | fail)
  go_ret
  exact ⟨rfl, hK⟩
end Go.Proofs.Ytcjbmbljmmakfaa
