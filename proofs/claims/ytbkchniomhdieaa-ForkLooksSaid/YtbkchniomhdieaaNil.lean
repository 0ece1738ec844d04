/- fork's methods on a nil tree. -/
import Derived.Test.YtbkchniomhdieaaAll
namespace Go.Proofs.Ytbkchniomhdieaa
open Go.RowKit Go.Bz

theorem nil_add (x p : D8) (w : World) : Calls Try.prog 14 #[.pointer none, dv x, dv p] w (fun e w' => e = .returned (.int .i64 1) ∧ Keep [] w w') := by
  go_enter Try.func14, Try.ntmps14
  go_wp2_with fail
  go_ret
  exact ⟨rfl, ((Keep.refl _ _).alloc _).alloc _⟩
theorem nil_height (x : D8) (w : World) : Calls Try.prog 16 #[.pointer none, dv x] w (fun e w' => e = .returned (.int .i64 (-1)) ∧ Keep [] w w') := by
  go_enter Try.func16, Try.ntmps16
  go_wp2_with fail
  go_ret
  exact ⟨rfl, (Keep.refl _ _).alloc _⟩
theorem nil_tip (w : World) : Calls Try.prog 13 #[.pointer none] w (fun e w' => e = .returned (dv ⟨0, 0, 0, 0, 0, 0, 0, 0⟩) ∧ Keep [] w w') := by
  go_enter Try.func13, Try.ntmps13
  go_wp2_with fail
  exact bodyPost_ret (v := dv ⟨0, 0, 0, 0, 0, 0, 0, 0⟩) (by simp [results, Try.results13, go_sem]) rfl ⟨rfl, (Keep.refl _ _).alloc _⟩
theorem nil_parent (x : D8) (w : World) : Calls Try.prog 23 #[.pointer none, dv x] w (fun e w' => e = .returned (.tuple #[dv ⟨0, 0, 0, 0, 0, 0, 0, 0⟩, .bool false]) ∧ Keep [] w w') := by
  go_enter Try.func23, Try.ntmps23
  go_wp2_with fail
  refine wp_region_noPanic ?_
  refine Bz.wp_region_E (S := (fun _ => True)) (E := []) (by kernel_rfl) (by trivial) (fun hHeld => ?_)
  refine Bz.wpAnyE_take (i := 0) (oi := { dst := some 8, op := Go.Op.move (Go.Operand.tmp 0), type := 24, pos := "fork.go:99", after := #[], guard := none }) (v := ?_) rfl (by kernel_rfl) (by kernel_rfl) (by kernel_rfl) (by kernel_rfl) (fun _ _ _ h => h) (Or.inl ⟨by rfl, ?_⟩) hHeld ?_
  rotate_left 1
  · (intro w hSw; (try dsimp only at hSw); go_simp; first | done | with_reducible rfl)
  try simp only [Act.put, List.setIfInBounds_toArray, List.set_cons_zero, List.set_cons_succ]
  refine Bz.wpAnyE_take (i := 1) (oi := { dst := some 9, op := Go.Op.binOp Go.BinOp.eql 24 (Go.Operand.tmp 8) (Go.Operand.const (Go.Value.pointer none)) 24, type := 4, pos := "fork.go:99", after := #[{ on := 0, ground := Go.Ground.data }], guard := none }) (v := ?_) rfl (by kernel_rfl) (by kernel_rfl) (by kernel_rfl) (by kernel_rfl) (fun _ _ _ h => h) (Or.inl ⟨by rfl, ?_⟩) hHeld ?_
  rotate_left 1
  · (intro w hSw; (try dsimp only at hSw); go_simp; first | done | with_reducible rfl)
  try simp only [Act.put, List.setIfInBounds_toArray, List.set_cons_zero, List.set_cons_succ]
  refine Bz.wpAnyE_take (i := 2) (oi := { dst := some 10, op := Go.Op.move (Go.Operand.tmp 9), type := 4, pos := "fork.go:99", after := #[{ on := 1, ground := Go.Ground.data }], guard := none }) (v := ?_) rfl (by kernel_rfl) (by kernel_rfl) (by kernel_rfl) (by kernel_rfl) (fun _ _ _ h => h) (Or.inl ⟨by rfl, ?_⟩) hHeld ?_
  rotate_left 1
  · (intro w hSw; (try dsimp only at hSw); go_simp; first | done | with_reducible rfl)
  try simp only [Act.put, List.setIfInBounds_toArray, List.set_cons_zero, List.set_cons_succ]
  refine Bz.wpAnyE_take (i := 3) (oi := { dst := some 11, op := Go.Op.load 29 (Go.Operand.tmp 3), type := 29, pos := "fork.go:99", after := #[{ on := 2, ground := Go.Ground.guard }], guard := some (2, false) }) (v := undef) rfl (by kernel_rfl) (by kernel_rfl) (by kernel_rfl) (by kernel_rfl) (fun _ _ _ h => h) (Or.inr ⟨by rfl, rfl⟩) hHeld ?_
  try simp only [Act.put, List.setIfInBounds_toArray, List.set_cons_zero, List.set_cons_succ]
  refine Bz.wpAnyE_take (i := 4) (oi := { dst := some 12, op := Go.Op.move (Go.Operand.tmp 0), type := 24, pos := "fork.go:99", after := #[{ on := 2, ground := Go.Ground.guard }], guard := some (2, false) }) (v := undef) rfl (by kernel_rfl) (by kernel_rfl) (by kernel_rfl) (by kernel_rfl) (fun _ _ _ h => h) (Or.inr ⟨by rfl, rfl⟩) hHeld ?_
  try simp only [Act.put, List.setIfInBounds_toArray, List.set_cons_zero, List.set_cons_succ]
  refine Bz.wpAnyE_take (i := 5) (oi := { dst := some 13, op := Go.Op.nilCheck (Go.Operand.tmp 12), type := 0, pos := "fork.go:99", after := #[{ on := 4, ground := Go.Ground.data }, { on := 2, ground := Go.Ground.guard }], guard := some (2, false) }) (v := undef) rfl (by kernel_rfl) (by kernel_rfl) (by kernel_rfl) (by kernel_rfl) (fun _ _ _ h => h) (Or.inr ⟨by rfl, rfl⟩) hHeld ?_
  try simp only [Act.put, List.setIfInBounds_toArray, List.set_cons_zero, List.set_cons_succ]
  refine Bz.wpAnyE_take (i := 6) (oi := { dst := some 14, op := Go.Op.fieldAddr 72 (Go.Operand.tmp 13) 0, type := 0, pos := "fork.go:99", after := #[{ on := 5, ground := Go.Ground.data }, { on := 2, ground := Go.Ground.guard }], guard := some (2, false) }) (v := undef) rfl (by kernel_rfl) (by kernel_rfl) (by kernel_rfl) (by kernel_rfl) (fun _ _ _ h => h) (Or.inr ⟨by rfl, rfl⟩) hHeld ?_
  try simp only [Act.put, List.setIfInBounds_toArray, List.set_cons_zero, List.set_cons_succ]
  refine Bz.wpAnyE_take (i := 7) (oi := { dst := some 15, op := Go.Op.load 29 (Go.Operand.tmp 14), type := 29, pos := "fork.go:99", after := #[{ on := 6, ground := Go.Ground.data }, { on := 2, ground := Go.Ground.guard }], guard := some (2, false) }) (v := undef) rfl (by kernel_rfl) (by kernel_rfl) (by kernel_rfl) (by kernel_rfl) (fun _ _ _ h => h) (Or.inr ⟨by rfl, rfl⟩) hHeld ?_
  try simp only [Act.put, List.setIfInBounds_toArray, List.set_cons_zero, List.set_cons_succ]
  refine Bz.wpAnyE_take (i := 8) (oi := { dst := some 16, op := Go.Op.binOp Go.BinOp.eql 29 (Go.Operand.tmp 11) (Go.Operand.tmp 15) 29, type := 4, pos := "fork.go:99", after := #[{ on := 3, ground := Go.Ground.data }, { on := 7, ground := Go.Ground.data }, { on := 2, ground := Go.Ground.guard }], guard := some (2, false) }) (v := undef) rfl (by kernel_rfl) (by kernel_rfl) (by kernel_rfl) (by kernel_rfl) (fun _ _ _ h => h) (Or.inr ⟨by rfl, rfl⟩) hHeld ?_
  try simp only [Act.put, List.setIfInBounds_toArray, List.set_cons_zero, List.set_cons_succ]
  refine Bz.wpAnyE_take (i := 9) (oi := { dst := some 17, op := Go.Op.pick (Go.Operand.tmp 10) (Go.Operand.const (Go.Value.bool true)) (Go.Operand.tmp 16), type := 4, pos := "fork.go:99", after := #[{ on := 2, ground := Go.Ground.data }, { on := 8, ground := Go.Ground.data }], guard := none }) (v := ?_) rfl (by kernel_rfl) (by kernel_rfl) (by kernel_rfl) (by kernel_rfl) (fun _ _ _ h => h) (Or.inl ⟨by rfl, ?_⟩) hHeld ?_
  rotate_left 1
  · (intro w hSw; (try dsimp only at hSw); go_simp; first | done | with_reducible rfl)
  try simp only [Act.put, List.setIfInBounds_toArray, List.set_cons_zero, List.set_cons_succ]
  refine Bz.wpAnyE_done (by kernel_rfl) ?_ _
  refine NoPanic.normal ?_
  
  clear hHeld
  go_wp2_with fail
  exact bodyPost_ret (v := .tuple #[dv ⟨0, 0, 0, 0, 0, 0, 0, 0⟩, .bool false]) (by simp [results, Try.results23, go_sem]) rfl ⟨rfl, (((Keep.refl _ _).alloc _).alloc _).drew⟩
theorem nil_line (x : D8) (w : World) : Calls Try.prog 18 #[.pointer none, dv x] w (fun e w' => e = .returned (.slice none 0 0) ∧ Keep [] w w') := by
  go_enter Try.func18, Try.ntmps18
  go_wp2_with (first
    | (go_at_call 16; refine (nil_height _ _).mono ?_; rintro e w1 ⟨rfl, hk1⟩))
  go_ret
  exact ⟨rfl, ((Keep.refl _ _).alloc _).trans hk1⟩
theorem nil_final (w : World) : Calls Try.prog 21 #[.pointer none] w (fun e w' => e = .returned (.slice none 0 0) ∧ Keep [] w w') := by
  go_enter Try.func21, Try.ntmps21
  go_wp2_with fail
  go_ret
  exact ⟨rfl, Keep.refl _ _⟩
theorem nil_undone (x y : D8) (w : World) : Calls Try.prog 15 #[.pointer none, dv x, dv y] w (fun e w' => e = .returned (.slice none 0 0) ∧ Keep [] w w') := by
  go_enter Try.func15, Try.ntmps15
  go_wp2_with (first
    | (go_at_call 16; refine (nil_height _ _).mono ?_; rintro e w1 ⟨rfl, hk1⟩))
  go_ret
  exact ⟨rfl, (((Keep.refl _ _).alloc _).alloc _).trans hk1⟩
theorem nil_clone (w : World) : Calls Try.prog 28 #[.pointer none] w (fun e w' => e = .returned (.pointer none) ∧ Keep [] w w') := by
  go_enter Try.func28, Try.ntmps28
  go_wp2_with fail
  go_ret
  exact ⟨rfl, Keep.refl _ _⟩
theorem nil_same (p : Option Addr) (w : World) : Calls Try.prog 29 #[.pointer none, .pointer p] w (fun e w' => e = .returned (.bool (decide (p = none))) ∧ Keep [] w w') := by
  cases p with
  | none =>
    go_enter Try.func29, Try.ntmps29
    go_wp2_with fail
    go_ret
    exact ⟨rfl, Keep.refl _ _⟩
  | some a =>
    obtain ⟨b, o, s⟩ := a
    go_enter Try.func29, Try.ntmps29
    go_wp2_with fail
    go_ret
    exact ⟨rfl, Keep.refl _ _⟩
theorem same_nil (t : Nat) (w : World) : Calls Try.prog 29 #[.pointer (some ⟨t, 0, none⟩), .pointer none] w (fun e w' => e = .returned (.bool false) ∧ Keep [] w w') := by
  go_enter Try.func29, Try.ntmps29
  go_wp2_with fail
  go_ret
  exact ⟨rfl, Keep.refl _ _⟩
end Go.Proofs.Ytbkchniomhdieaa
