/- fork.Tree.Same walked. -/
import Derived.Test.YtbkchniomhdieaaEqual
namespace Go.Proofs.Ytbkchniomhdieaa
open Go.RowKit Go.Bz

def FT.same (T U : FT) : Bool := decide (T.first = U.first) && (decide (T.tip = U.tip) && (decide (T.depth = U.depth) && mapsEq T.bl U.bl))
set_option maxHeartbeats 1000000 in
theorem tsame_any {t mb t' mb' : Nat} {T U : FT} {w : World} (h : TreeAt w t mb T) (h' : TreeAt w t' mb' U) :
    Calls Try.prog 29 #[.pointer (some ⟨t, 0, none⟩), .pointer (some ⟨t', 0, none⟩)] w (fun e w' => e = .returned (.bool (T.same U)) ∧ Keep [] w w') := by
  have c1 := h.1.cell
  have c2 := h'.1.cell
  have q1 := fun W => run_eqD8 (P := Try.prog) W dt29 9998 T.first U.first
  by_cases e1 : T.first = U.first
  · rw [decide_eq_true e1] at q1
    have q2 := fun W => run_eqD8 (P := Try.prog) W dt29 9998 T.tip U.tip
    by_cases e2 : T.tip = U.tip
    · rw [decide_eq_true e2] at q2
      by_cases e3 : T.depth = U.depth
      · have q3 : (T.depth == U.depth) = true := by simp [e3]
        have HR : Hid (T.same U = mapsEq T.bl U.bl) := Lib.hid (by unfold FT.same; simp [e1, e2, e3])
        clear e1 e2 e3
        go_enter Try.func29, Try.ntmps29
        go_wp2_with fail
        refine wp_region_noPanic ?_
        refine Bz.wp_region_E (S := (fun w' => (∀ i, w'.cell? ⟨t, i, none⟩ = (tcells T mb)[i]?) ∧ (∀ i, w'.cell? ⟨t', i, none⟩ = (tcells U mb')[i]?))) (E := []) (by kernel_rfl) (by exact ⟨c1, c2⟩) (fun hHeld => ?_)
        refine Bz.wpAnyE_take (i := 0) (oi := { dst := some 17, op := Go.Op.move (Go.Operand.tmp 0), type := 24, pos := "fork.go:151", after := #[], guard := none }) (v := ?_) rfl (by kernel_rfl) (by kernel_rfl) (by kernel_rfl) (by kernel_rfl) (fun _ _ _ h => h) (Or.inl ⟨by rfl, ?_⟩) hHeld ?_
        rotate_left 1
        · (intro w hSw; (try dsimp only at hSw); go_simp; first | done | with_reducible rfl)
        try simp only [Act.put, List.setIfInBounds_toArray, List.set_cons_zero, List.set_cons_succ]
        refine Bz.wpAnyE_take (i := 1) (oi := { dst := some 18, op := Go.Op.nilCheck (Go.Operand.tmp 17), type := 0, pos := "fork.go:151", after := #[{ on := 0, ground := Go.Ground.data }], guard := none }) (v := ?_) rfl (by kernel_rfl) (by kernel_rfl) (by kernel_rfl) (by kernel_rfl) (fun _ _ _ h => h) (Or.inl ⟨by rfl, ?_⟩) hHeld ?_
        rotate_left 1
        · (intro w hSw; (try dsimp only at hSw); go_simp; first | done | with_reducible rfl)
        try simp only [Act.put, List.setIfInBounds_toArray, List.set_cons_zero, List.set_cons_succ]
        refine Bz.wpAnyE_take (i := 2) (oi := { dst := some 19, op := Go.Op.fieldAddr 72 (Go.Operand.tmp 18) 0, type := 0, pos := "fork.go:151", after := #[{ on := 1, ground := Go.Ground.data }], guard := none }) (v := ?_) rfl (by kernel_rfl) (by kernel_rfl) (by kernel_rfl) (by kernel_rfl) (fun _ _ _ h => h) (Or.inl ⟨by rfl, ?_⟩) hHeld ?_
        rotate_left 1
        · (intro w hSw; (try dsimp only at hSw); go_simp; first | done | with_reducible rfl)
        try simp only [Act.put, List.setIfInBounds_toArray, List.set_cons_zero, List.set_cons_succ]
        refine Bz.wpAnyE_take (i := 3) (oi := { dst := some 20, op := Go.Op.load 29 (Go.Operand.tmp 19), type := 29, pos := "fork.go:151", after := #[{ on := 2, ground := Go.Ground.data }], guard := none }) (v := ?_) rfl (by kernel_rfl) (by kernel_rfl) (by kernel_rfl) (by kernel_rfl) (fun _ _ _ h => h) (Or.inl ⟨by rfl, ?_⟩) hHeld ?_
        rotate_left 1
        · (intro w hSw; (try dsimp only at hSw); go_simp; first | done | with_reducible rfl)
        try simp only [Act.put, List.setIfInBounds_toArray, List.set_cons_zero, List.set_cons_succ]
        refine Bz.wpAnyE_take (i := 4) (oi := { dst := some 21, op := Go.Op.move (Go.Operand.tmp 1), type := 24, pos := "fork.go:151", after := #[], guard := none }) (v := ?_) rfl (by kernel_rfl) (by kernel_rfl) (by kernel_rfl) (by kernel_rfl) (fun _ _ _ h => h) (Or.inl ⟨by rfl, ?_⟩) hHeld ?_
        rotate_left 1
        · (intro w hSw; (try dsimp only at hSw); go_simp; first | done | with_reducible rfl)
        try simp only [Act.put, List.setIfInBounds_toArray, List.set_cons_zero, List.set_cons_succ]
        refine Bz.wpAnyE_take (i := 5) (oi := { dst := some 22, op := Go.Op.nilCheck (Go.Operand.tmp 21), type := 0, pos := "fork.go:151", after := #[{ on := 4, ground := Go.Ground.data }], guard := none }) (v := ?_) rfl (by kernel_rfl) (by kernel_rfl) (by kernel_rfl) (by kernel_rfl) (fun _ _ _ h => h) (Or.inl ⟨by rfl, ?_⟩) hHeld ?_
        rotate_left 1
        · (intro w hSw; (try dsimp only at hSw); go_simp; first | done | with_reducible rfl)
        try simp only [Act.put, List.setIfInBounds_toArray, List.set_cons_zero, List.set_cons_succ]
        refine Bz.wpAnyE_take (i := 6) (oi := { dst := some 23, op := Go.Op.fieldAddr 72 (Go.Operand.tmp 22) 0, type := 0, pos := "fork.go:151", after := #[{ on := 5, ground := Go.Ground.data }], guard := none }) (v := ?_) rfl (by kernel_rfl) (by kernel_rfl) (by kernel_rfl) (by kernel_rfl) (fun _ _ _ h => h) (Or.inl ⟨by rfl, ?_⟩) hHeld ?_
        rotate_left 1
        · (intro w hSw; (try dsimp only at hSw); go_simp; first | done | with_reducible rfl)
        try simp only [Act.put, List.setIfInBounds_toArray, List.set_cons_zero, List.set_cons_succ]
        refine Bz.wpAnyE_take (i := 7) (oi := { dst := some 24, op := Go.Op.load 29 (Go.Operand.tmp 23), type := 29, pos := "fork.go:151", after := #[{ on := 6, ground := Go.Ground.data }], guard := none }) (v := ?_) rfl (by kernel_rfl) (by kernel_rfl) (by kernel_rfl) (by kernel_rfl) (fun _ _ _ h => h) (Or.inl ⟨by rfl, ?_⟩) hHeld ?_
        rotate_left 1
        · (intro w hSw; (try dsimp only at hSw); go_simp; first | done | with_reducible rfl)
        try simp only [Act.put, List.setIfInBounds_toArray, List.set_cons_zero, List.set_cons_succ]
        refine Bz.wpAnyE_take (i := 8) (oi := { dst := some 25, op := Go.Op.binOp Go.BinOp.eql 29 (Go.Operand.tmp 20) (Go.Operand.tmp 24) 29, type := 4, pos := "fork.go:151", after := #[{ on := 3, ground := Go.Ground.data }, { on := 7, ground := Go.Ground.data }], guard := none }) (v := ?_) rfl (by kernel_rfl) (by kernel_rfl) (by kernel_rfl) (by kernel_rfl) (fun _ _ _ h => h) (Or.inl ⟨by rfl, ?_⟩) hHeld ?_
        rotate_left 1
        · (intro w hSw; (try dsimp only at hSw); go_simp; first | done | with_reducible rfl)
        try simp only [Act.put, List.setIfInBounds_toArray, List.set_cons_zero, List.set_cons_succ]
        refine Bz.wpAnyE_take (i := 9) (oi := { dst := some 26, op := Go.Op.move (Go.Operand.tmp 25), type := 4, pos := "fork.go:151", after := #[{ on := 8, ground := Go.Ground.data }], guard := none }) (v := ?_) rfl (by kernel_rfl) (by kernel_rfl) (by kernel_rfl) (by kernel_rfl) (fun _ _ _ h => h) (Or.inl ⟨by rfl, ?_⟩) hHeld ?_
        rotate_left 1
        · (intro w hSw; (try dsimp only at hSw); go_simp; first | done | with_reducible rfl)
        try simp only [Act.put, List.setIfInBounds_toArray, List.set_cons_zero, List.set_cons_succ]
        refine Bz.wpAnyE_take (i := 10) (oi := { dst := some 27, op := Go.Op.move (Go.Operand.tmp 0), type := 24, pos := "fork.go:151", after := #[{ on := 9, ground := Go.Ground.guard }], guard := some (9, true) }) (v := ?_) rfl (by kernel_rfl) (by kernel_rfl) (by kernel_rfl) (by kernel_rfl) (fun _ _ _ h => h) (Or.inl ⟨by rfl, ?_⟩) hHeld ?_
        rotate_left 1
        · (intro w hSw; (try dsimp only at hSw); go_simp; first | done | with_reducible rfl)
        try simp only [Act.put, List.setIfInBounds_toArray, List.set_cons_zero, List.set_cons_succ]
        refine Bz.wpAnyE_take (i := 11) (oi := { dst := some 28, op := Go.Op.nilCheck (Go.Operand.tmp 27), type := 0, pos := "fork.go:151", after := #[{ on := 10, ground := Go.Ground.data }, { on := 9, ground := Go.Ground.guard }], guard := some (9, true) }) (v := ?_) rfl (by kernel_rfl) (by kernel_rfl) (by kernel_rfl) (by kernel_rfl) (fun _ _ _ h => h) (Or.inl ⟨by rfl, ?_⟩) hHeld ?_
        rotate_left 1
        · (intro w hSw; (try dsimp only at hSw); go_simp; first | done | with_reducible rfl)
        try simp only [Act.put, List.setIfInBounds_toArray, List.set_cons_zero, List.set_cons_succ]
        refine Bz.wpAnyE_take (i := 12) (oi := { dst := some 29, op := Go.Op.fieldAddr 72 (Go.Operand.tmp 28) 1, type := 0, pos := "fork.go:151", after := #[{ on := 11, ground := Go.Ground.data }, { on := 9, ground := Go.Ground.guard }], guard := some (9, true) }) (v := ?_) rfl (by kernel_rfl) (by kernel_rfl) (by kernel_rfl) (by kernel_rfl) (fun _ _ _ h => h) (Or.inl ⟨by rfl, ?_⟩) hHeld ?_
        rotate_left 1
        · (intro w hSw; (try dsimp only at hSw); go_simp; first | done | with_reducible rfl)
        try simp only [Act.put, List.setIfInBounds_toArray, List.set_cons_zero, List.set_cons_succ]
        refine Bz.wpAnyE_take (i := 13) (oi := { dst := some 30, op := Go.Op.load 29 (Go.Operand.tmp 29), type := 29, pos := "fork.go:151", after := #[{ on := 12, ground := Go.Ground.data }, { on := 9, ground := Go.Ground.guard }], guard := some (9, true) }) (v := ?_) rfl (by kernel_rfl) (by kernel_rfl) (by kernel_rfl) (by kernel_rfl) (fun _ _ _ h => h) (Or.inl ⟨by rfl, ?_⟩) hHeld ?_
        rotate_left 1
        · (intro w hSw; (try dsimp only at hSw); go_simp; first | done | with_reducible rfl)
        try simp only [Act.put, List.setIfInBounds_toArray, List.set_cons_zero, List.set_cons_succ]
        refine Bz.wpAnyE_take (i := 14) (oi := { dst := some 31, op := Go.Op.move (Go.Operand.tmp 1), type := 24, pos := "fork.go:151", after := #[{ on := 9, ground := Go.Ground.guard }], guard := some (9, true) }) (v := ?_) rfl (by kernel_rfl) (by kernel_rfl) (by kernel_rfl) (by kernel_rfl) (fun _ _ _ h => h) (Or.inl ⟨by rfl, ?_⟩) hHeld ?_
        rotate_left 1
        · (intro w hSw; (try dsimp only at hSw); go_simp; first | done | with_reducible rfl)
        try simp only [Act.put, List.setIfInBounds_toArray, List.set_cons_zero, List.set_cons_succ]
        refine Bz.wpAnyE_take (i := 15) (oi := { dst := some 32, op := Go.Op.nilCheck (Go.Operand.tmp 31), type := 0, pos := "fork.go:151", after := #[{ on := 14, ground := Go.Ground.data }, { on := 9, ground := Go.Ground.guard }], guard := some (9, true) }) (v := ?_) rfl (by kernel_rfl) (by kernel_rfl) (by kernel_rfl) (by kernel_rfl) (fun _ _ _ h => h) (Or.inl ⟨by rfl, ?_⟩) hHeld ?_
        rotate_left 1
        · (intro w hSw; (try dsimp only at hSw); go_simp; first | done | with_reducible rfl)
        try simp only [Act.put, List.setIfInBounds_toArray, List.set_cons_zero, List.set_cons_succ]
        refine Bz.wpAnyE_take (i := 16) (oi := { dst := some 33, op := Go.Op.fieldAddr 72 (Go.Operand.tmp 32) 1, type := 0, pos := "fork.go:151", after := #[{ on := 15, ground := Go.Ground.data }, { on := 9, ground := Go.Ground.guard }], guard := some (9, true) }) (v := ?_) rfl (by kernel_rfl) (by kernel_rfl) (by kernel_rfl) (by kernel_rfl) (fun _ _ _ h => h) (Or.inl ⟨by rfl, ?_⟩) hHeld ?_
        rotate_left 1
        · (intro w hSw; (try dsimp only at hSw); go_simp; first | done | with_reducible rfl)
        try simp only [Act.put, List.setIfInBounds_toArray, List.set_cons_zero, List.set_cons_succ]
        refine Bz.wpAnyE_take (i := 17) (oi := { dst := some 34, op := Go.Op.load 29 (Go.Operand.tmp 33), type := 29, pos := "fork.go:151", after := #[{ on := 16, ground := Go.Ground.data }, { on := 9, ground := Go.Ground.guard }], guard := some (9, true) }) (v := ?_) rfl (by kernel_rfl) (by kernel_rfl) (by kernel_rfl) (by kernel_rfl) (fun _ _ _ h => h) (Or.inl ⟨by rfl, ?_⟩) hHeld ?_
        rotate_left 1
        · (intro w hSw; (try dsimp only at hSw); go_simp; first | done | with_reducible rfl)
        try simp only [Act.put, List.setIfInBounds_toArray, List.set_cons_zero, List.set_cons_succ]
        refine Bz.wpAnyE_take (i := 18) (oi := { dst := some 35, op := Go.Op.binOp Go.BinOp.eql 29 (Go.Operand.tmp 30) (Go.Operand.tmp 34) 29, type := 4, pos := "fork.go:151", after := #[{ on := 13, ground := Go.Ground.data }, { on := 17, ground := Go.Ground.data }, { on := 9, ground := Go.Ground.guard }], guard := some (9, true) }) (v := ?_) rfl (by kernel_rfl) (by kernel_rfl) (by kernel_rfl) (by kernel_rfl) (fun _ _ _ h => h) (Or.inl ⟨by rfl, ?_⟩) hHeld ?_
        rotate_left 1
        · (intro w hSw; (try dsimp only at hSw); go_simp; first | done | with_reducible rfl)
        try simp only [Act.put, List.setIfInBounds_toArray, List.set_cons_zero, List.set_cons_succ]
        refine Bz.wpAnyE_take (i := 19) (oi := { dst := some 36, op := Go.Op.pick (Go.Operand.tmp 26) (Go.Operand.tmp 35) (Go.Operand.const (Go.Value.bool false)), type := 4, pos := "fork.go:151", after := #[{ on := 9, ground := Go.Ground.data }, { on := 18, ground := Go.Ground.data }], guard := none }) (v := ?_) rfl (by kernel_rfl) (by kernel_rfl) (by kernel_rfl) (by kernel_rfl) (fun _ _ _ h => h) (Or.inl ⟨by rfl, ?_⟩) hHeld ?_
        rotate_left 1
        · (intro w hSw; (try dsimp only at hSw); go_simp; first | done | with_reducible rfl)
        try simp only [Act.put, List.setIfInBounds_toArray, List.set_cons_zero, List.set_cons_succ]
        refine Bz.wpAnyE_take (i := 20) (oi := { dst := some 37, op := Go.Op.move (Go.Operand.tmp 36), type := 4, pos := "fork.go:151", after := #[{ on := 19, ground := Go.Ground.data }, { on := 9, ground := Go.Ground.chain }], guard := none }) (v := ?_) rfl (by kernel_rfl) (by kernel_rfl) (by kernel_rfl) (by kernel_rfl) (fun _ _ _ h => h) (Or.inl ⟨by rfl, ?_⟩) hHeld ?_
        rotate_left 1
        · (intro w hSw; (try dsimp only at hSw); go_simp; first | done | with_reducible rfl)
        try simp only [Act.put, List.setIfInBounds_toArray, List.set_cons_zero, List.set_cons_succ]
        refine Bz.wpAnyE_take (i := 21) (oi := { dst := some 38, op := Go.Op.move (Go.Operand.tmp 0), type := 24, pos := "fork.go:151", after := #[{ on := 20, ground := Go.Ground.guard }], guard := some (20, true) }) (v := ?_) rfl (by kernel_rfl) (by kernel_rfl) (by kernel_rfl) (by kernel_rfl) (fun _ _ _ h => h) (Or.inl ⟨by rfl, ?_⟩) hHeld ?_
        rotate_left 1
        · (intro w hSw; (try dsimp only at hSw); go_simp; first | done | with_reducible rfl)
        try simp only [Act.put, List.setIfInBounds_toArray, List.set_cons_zero, List.set_cons_succ]
        refine Bz.wpAnyE_take (i := 22) (oi := { dst := some 39, op := Go.Op.nilCheck (Go.Operand.tmp 38), type := 0, pos := "fork.go:151", after := #[{ on := 21, ground := Go.Ground.data }, { on := 20, ground := Go.Ground.guard }], guard := some (20, true) }) (v := ?_) rfl (by kernel_rfl) (by kernel_rfl) (by kernel_rfl) (by kernel_rfl) (fun _ _ _ h => h) (Or.inl ⟨by rfl, ?_⟩) hHeld ?_
        rotate_left 1
        · (intro w hSw; (try dsimp only at hSw); go_simp; first | done | with_reducible rfl)
        try simp only [Act.put, List.setIfInBounds_toArray, List.set_cons_zero, List.set_cons_succ]
        refine Bz.wpAnyE_take (i := 23) (oi := { dst := some 40, op := Go.Op.fieldAddr 72 (Go.Operand.tmp 39) 2, type := 0, pos := "fork.go:151", after := #[{ on := 22, ground := Go.Ground.data }, { on := 20, ground := Go.Ground.guard }], guard := some (20, true) }) (v := ?_) rfl (by kernel_rfl) (by kernel_rfl) (by kernel_rfl) (by kernel_rfl) (fun _ _ _ h => h) (Or.inl ⟨by rfl, ?_⟩) hHeld ?_
        rotate_left 1
        · (intro w hSw; (try dsimp only at hSw); go_simp; first | done | with_reducible rfl)
        try simp only [Act.put, List.setIfInBounds_toArray, List.set_cons_zero, List.set_cons_succ]
        refine Bz.wpAnyE_take (i := 24) (oi := { dst := some 41, op := Go.Op.load 3 (Go.Operand.tmp 40), type := 3, pos := "fork.go:151", after := #[{ on := 23, ground := Go.Ground.data }, { on := 20, ground := Go.Ground.guard }], guard := some (20, true) }) (v := ?_) rfl (by kernel_rfl) (by kernel_rfl) (by kernel_rfl) (by kernel_rfl) (fun _ _ _ h => h) (Or.inl ⟨by rfl, ?_⟩) hHeld ?_
        rotate_left 1
        · (intro w hSw; (try dsimp only at hSw); go_simp; first | done | with_reducible rfl)
        try simp only [Act.put, List.setIfInBounds_toArray, List.set_cons_zero, List.set_cons_succ]
        refine Bz.wpAnyE_take (i := 25) (oi := { dst := some 42, op := Go.Op.move (Go.Operand.tmp 1), type := 24, pos := "fork.go:151", after := #[{ on := 20, ground := Go.Ground.guard }], guard := some (20, true) }) (v := ?_) rfl (by kernel_rfl) (by kernel_rfl) (by kernel_rfl) (by kernel_rfl) (fun _ _ _ h => h) (Or.inl ⟨by rfl, ?_⟩) hHeld ?_
        rotate_left 1
        · (intro w hSw; (try dsimp only at hSw); go_simp; first | done | with_reducible rfl)
        try simp only [Act.put, List.setIfInBounds_toArray, List.set_cons_zero, List.set_cons_succ]
        refine Bz.wpAnyE_take (i := 26) (oi := { dst := some 43, op := Go.Op.nilCheck (Go.Operand.tmp 42), type := 0, pos := "fork.go:151", after := #[{ on := 25, ground := Go.Ground.data }, { on := 20, ground := Go.Ground.guard }], guard := some (20, true) }) (v := ?_) rfl (by kernel_rfl) (by kernel_rfl) (by kernel_rfl) (by kernel_rfl) (fun _ _ _ h => h) (Or.inl ⟨by rfl, ?_⟩) hHeld ?_
        rotate_left 1
        · (intro w hSw; (try dsimp only at hSw); go_simp; first | done | with_reducible rfl)
        try simp only [Act.put, List.setIfInBounds_toArray, List.set_cons_zero, List.set_cons_succ]
        refine Bz.wpAnyE_take (i := 27) (oi := { dst := some 44, op := Go.Op.fieldAddr 72 (Go.Operand.tmp 43) 2, type := 0, pos := "fork.go:151", after := #[{ on := 26, ground := Go.Ground.data }, { on := 20, ground := Go.Ground.guard }], guard := some (20, true) }) (v := ?_) rfl (by kernel_rfl) (by kernel_rfl) (by kernel_rfl) (by kernel_rfl) (fun _ _ _ h => h) (Or.inl ⟨by rfl, ?_⟩) hHeld ?_
        rotate_left 1
        · (intro w hSw; (try dsimp only at hSw); go_simp; first | done | with_reducible rfl)
        try simp only [Act.put, List.setIfInBounds_toArray, List.set_cons_zero, List.set_cons_succ]
        refine Bz.wpAnyE_take (i := 28) (oi := { dst := some 45, op := Go.Op.load 3 (Go.Operand.tmp 44), type := 3, pos := "fork.go:151", after := #[{ on := 27, ground := Go.Ground.data }, { on := 20, ground := Go.Ground.guard }], guard := some (20, true) }) (v := ?_) rfl (by kernel_rfl) (by kernel_rfl) (by kernel_rfl) (by kernel_rfl) (fun _ _ _ h => h) (Or.inl ⟨by rfl, ?_⟩) hHeld ?_
        rotate_left 1
        · (intro w hSw; (try dsimp only at hSw); go_simp; first | done | with_reducible rfl)
        try simp only [Act.put, List.setIfInBounds_toArray, List.set_cons_zero, List.set_cons_succ]
        refine Bz.wpAnyE_take (i := 29) (oi := { dst := some 46, op := Go.Op.binOp Go.BinOp.eql 3 (Go.Operand.tmp 41) (Go.Operand.tmp 45) 3, type := 4, pos := "fork.go:151", after := #[{ on := 24, ground := Go.Ground.data }, { on := 28, ground := Go.Ground.data }, { on := 20, ground := Go.Ground.guard }], guard := some (20, true) }) (v := ?_) rfl (by kernel_rfl) (by kernel_rfl) (by kernel_rfl) (by kernel_rfl) (fun _ _ _ h => h) (Or.inl ⟨by rfl, ?_⟩) hHeld ?_
        rotate_left 1
        · (intro w hSw; (try dsimp only at hSw); go_simp; first | done | with_reducible rfl)
        try simp only [Act.put, List.setIfInBounds_toArray, List.set_cons_zero, List.set_cons_succ]
        refine Bz.wpAnyE_take (i := 30) (oi := { dst := some 47, op := Go.Op.pick (Go.Operand.tmp 37) (Go.Operand.tmp 46) (Go.Operand.const (Go.Value.bool false)), type := 4, pos := "fork.go:151", after := #[{ on := 20, ground := Go.Ground.data }, { on := 29, ground := Go.Ground.data }], guard := none }) (v := ?_) rfl (by kernel_rfl) (by kernel_rfl) (by kernel_rfl) (by kernel_rfl) (fun _ _ _ h => h) (Or.inl ⟨by rfl, ?_⟩) hHeld ?_
        rotate_left 1
        · (intro w hSw; (try dsimp only at hSw); go_simp; first | done | with_reducible rfl)
        try simp only [Act.put, List.setIfInBounds_toArray, List.set_cons_zero, List.set_cons_succ]
        refine Bz.wpAnyE_take (i := 31) (oi := { dst := some 48, op := Go.Op.move (Go.Operand.tmp 47), type := 4, pos := "fork.go:151", after := #[{ on := 30, ground := Go.Ground.data }, { on := 20, ground := Go.Ground.chain }], guard := none }) (v := ?_) rfl (by kernel_rfl) (by kernel_rfl) (by kernel_rfl) (by kernel_rfl) (fun _ _ _ h => h) (Or.inl ⟨by rfl, ?_⟩) hHeld ?_
        rotate_left 1
        · (intro w hSw; (try dsimp only at hSw); go_simp; first | done | with_reducible rfl)
        try simp only [Act.put, List.setIfInBounds_toArray, List.set_cons_zero, List.set_cons_succ]
        refine Bz.wpAnyE_take (i := 32) (oi := { dst := some 49, op := Go.Op.move (Go.Operand.tmp 0), type := 24, pos := "fork.go:151", after := #[{ on := 31, ground := Go.Ground.guard }], guard := some (31, true) }) (v := ?_) rfl (by kernel_rfl) (by kernel_rfl) (by kernel_rfl) (by kernel_rfl) (fun _ _ _ h => h) (Or.inl ⟨by rfl, ?_⟩) hHeld ?_
        rotate_left 1
        · (intro w hSw; (try dsimp only at hSw); go_simp; first | done | with_reducible rfl)
        try simp only [Act.put, List.setIfInBounds_toArray, List.set_cons_zero, List.set_cons_succ]
        refine Bz.wpAnyE_take (i := 33) (oi := { dst := some 50, op := Go.Op.nilCheck (Go.Operand.tmp 49), type := 0, pos := "fork.go:151", after := #[{ on := 32, ground := Go.Ground.data }, { on := 31, ground := Go.Ground.guard }], guard := some (31, true) }) (v := ?_) rfl (by kernel_rfl) (by kernel_rfl) (by kernel_rfl) (by kernel_rfl) (fun _ _ _ h => h) (Or.inl ⟨by rfl, ?_⟩) hHeld ?_
        rotate_left 1
        · (intro w hSw; (try dsimp only at hSw); go_simp; first | done | with_reducible rfl)
        try simp only [Act.put, List.setIfInBounds_toArray, List.set_cons_zero, List.set_cons_succ]
        refine Bz.wpAnyE_take (i := 34) (oi := { dst := some 51, op := Go.Op.fieldAddr 72 (Go.Operand.tmp 50) 3, type := 0, pos := "fork.go:151", after := #[{ on := 33, ground := Go.Ground.data }, { on := 31, ground := Go.Ground.guard }], guard := some (31, true) }) (v := ?_) rfl (by kernel_rfl) (by kernel_rfl) (by kernel_rfl) (by kernel_rfl) (fun _ _ _ h => h) (Or.inl ⟨by rfl, ?_⟩) hHeld ?_
        rotate_left 1
        · (intro w hSw; (try dsimp only at hSw); go_simp; first | done | with_reducible rfl)
        try simp only [Act.put, List.setIfInBounds_toArray, List.set_cons_zero, List.set_cons_succ]
        refine Bz.wpAnyE_take (i := 35) (oi := { dst := some 52, op := Go.Op.load 70 (Go.Operand.tmp 51), type := 70, pos := "fork.go:151", after := #[{ on := 34, ground := Go.Ground.data }, { on := 31, ground := Go.Ground.guard }], guard := some (31, true) }) (v := ?_) rfl (by kernel_rfl) (by kernel_rfl) (by kernel_rfl) (by kernel_rfl) (fun _ _ _ h => h) (Or.inl ⟨by rfl, ?_⟩) hHeld ?_
        rotate_left 1
        · (intro w hSw; (try dsimp only at hSw); go_simp; first | done | with_reducible rfl)
        try simp only [Act.put, List.setIfInBounds_toArray, List.set_cons_zero, List.set_cons_succ]
        refine Bz.wpAnyE_take (i := 36) (oi := { dst := some 53, op := Go.Op.move (Go.Operand.tmp 1), type := 24, pos := "fork.go:151", after := #[{ on := 31, ground := Go.Ground.guard }], guard := some (31, true) }) (v := ?_) rfl (by kernel_rfl) (by kernel_rfl) (by kernel_rfl) (by kernel_rfl) (fun _ _ _ h => h) (Or.inl ⟨by rfl, ?_⟩) hHeld ?_
        rotate_left 1
        · (intro w hSw; (try dsimp only at hSw); go_simp; first | done | with_reducible rfl)
        try simp only [Act.put, List.setIfInBounds_toArray, List.set_cons_zero, List.set_cons_succ]
        refine Bz.wpAnyE_take (i := 37) (oi := { dst := some 54, op := Go.Op.nilCheck (Go.Operand.tmp 53), type := 0, pos := "fork.go:151", after := #[{ on := 36, ground := Go.Ground.data }, { on := 31, ground := Go.Ground.guard }], guard := some (31, true) }) (v := ?_) rfl (by kernel_rfl) (by kernel_rfl) (by kernel_rfl) (by kernel_rfl) (fun _ _ _ h => h) (Or.inl ⟨by rfl, ?_⟩) hHeld ?_
        rotate_left 1
        · (intro w hSw; (try dsimp only at hSw); go_simp; first | done | with_reducible rfl)
        try simp only [Act.put, List.setIfInBounds_toArray, List.set_cons_zero, List.set_cons_succ]
        refine Bz.wpAnyE_take (i := 38) (oi := { dst := some 55, op := Go.Op.fieldAddr 72 (Go.Operand.tmp 54) 3, type := 0, pos := "fork.go:151", after := #[{ on := 37, ground := Go.Ground.data }, { on := 31, ground := Go.Ground.guard }], guard := some (31, true) }) (v := ?_) rfl (by kernel_rfl) (by kernel_rfl) (by kernel_rfl) (by kernel_rfl) (fun _ _ _ h => h) (Or.inl ⟨by rfl, ?_⟩) hHeld ?_
        rotate_left 1
        · (intro w hSw; (try dsimp only at hSw); go_simp; first | done | with_reducible rfl)
        try simp only [Act.put, List.setIfInBounds_toArray, List.set_cons_zero, List.set_cons_succ]
        refine Bz.wpAnyE_take (i := 39) (oi := { dst := some 56, op := Go.Op.load 70 (Go.Operand.tmp 55), type := 70, pos := "fork.go:151", after := #[{ on := 38, ground := Go.Ground.data }, { on := 31, ground := Go.Ground.guard }], guard := some (31, true) }) (v := ?_) rfl (by kernel_rfl) (by kernel_rfl) (by kernel_rfl) (by kernel_rfl) (fun _ _ _ h => h) (Or.inl ⟨by rfl, ?_⟩) hHeld ?_
        rotate_left 1
        · (intro w hSw; (try dsimp only at hSw); go_simp; first | done | with_reducible rfl)
        try simp only [Act.put, List.setIfInBounds_toArray, List.set_cons_zero, List.set_cons_succ]
        refine Bz.wpAnyE_ready (rs := [40]) (by kernel_rfl) (by simp) ?_
        refine Bz.AllReadyE.cons (o := { dst := some 57, op := Go.Op.call { callee := Go.Callee.value (Go.Operand.func 37), args := #[Go.Operand.tmp 52, Go.Operand.tmp 56], argTypes := #[70, 70] }, type := 4, pos := "fork.go:151", after := #[{ on := 35, ground := Go.Ground.data }, { on := 39, ground := Go.Ground.data }, { on := 31, ground := Go.Ground.chain }, { on := 31, ground := Go.Ground.guard }], guard := some (31, true) }) rfl (fun K hK => ?_) Bz.AllReadyE.nil
        go_simp
        
        refine (mequal_any h.2.drew h'.2.drew).mono ?_
        rintro e w2 ⟨rfl, hk⟩
        refine hK.out _ _ (by exact ⟨(h.keep0 hk.undrew).1.cell, (h'.keep0 hk.undrew).1.cell⟩) ?_
        clear hHeld hK K; intro hHeld
        try simp only [Act.put, List.setIfInBounds_toArray, List.set_cons_zero, List.set_cons_succ]
        refine Bz.wpAnyE_take (i := 41) (oi := { dst := some 58, op := Go.Op.pick (Go.Operand.tmp 48) (Go.Operand.tmp 57) (Go.Operand.const (Go.Value.bool false)), type := 4, pos := "fork.go:151", after := #[{ on := 31, ground := Go.Ground.data }, { on := 40, ground := Go.Ground.data }], guard := none }) (v := ?_) rfl (by kernel_rfl) (by kernel_rfl) (by kernel_rfl) (by kernel_rfl) (fun _ _ _ h => h) (Or.inl ⟨by rfl, ?_⟩) hHeld ?_
        rotate_left 1
        · (intro w hSw; (try dsimp only at hSw); go_simp; first | done | with_reducible rfl)
        try simp only [Act.put, List.setIfInBounds_toArray, List.set_cons_zero, List.set_cons_succ]
        refine Bz.wpAnyE_take (i := 42) (oi := { dst := some 4, op := Go.Op.assign (Go.Operand.tmp 58), type := 4, pos := "fork.go:151", after := #[{ on := 41, ground := Go.Ground.data }, { on := 40, ground := Go.Ground.chain }, { on := 0, ground := Go.Ground.phase }, { on := 1, ground := Go.Ground.phase }, { on := 2, ground := Go.Ground.phase }, { on := 3, ground := Go.Ground.phase }, { on := 4, ground := Go.Ground.phase }, { on := 5, ground := Go.Ground.phase }, { on := 6, ground := Go.Ground.phase }, { on := 7, ground := Go.Ground.phase }, { on := 8, ground := Go.Ground.phase }, { on := 9, ground := Go.Ground.phase }, { on := 10, ground := Go.Ground.phase }, { on := 11, ground := Go.Ground.phase }, { on := 12, ground := Go.Ground.phase }, { on := 13, ground := Go.Ground.phase }, { on := 14, ground := Go.Ground.phase }, { on := 15, ground := Go.Ground.phase }, { on := 16, ground := Go.Ground.phase }, { on := 17, ground := Go.Ground.phase }, { on := 18, ground := Go.Ground.phase }, { on := 19, ground := Go.Ground.phase }, { on := 20, ground := Go.Ground.phase }, { on := 21, ground := Go.Ground.phase }, { on := 22, ground := Go.Ground.phase }, { on := 23, ground := Go.Ground.phase }, { on := 24, ground := Go.Ground.phase }, { on := 25, ground := Go.Ground.phase }, { on := 26, ground := Go.Ground.phase }, { on := 27, ground := Go.Ground.phase }, { on := 28, ground := Go.Ground.phase }, { on := 29, ground := Go.Ground.phase }, { on := 30, ground := Go.Ground.phase }, { on := 31, ground := Go.Ground.phase }, { on := 32, ground := Go.Ground.phase }, { on := 33, ground := Go.Ground.phase }, { on := 34, ground := Go.Ground.phase }, { on := 35, ground := Go.Ground.phase }, { on := 36, ground := Go.Ground.phase }, { on := 37, ground := Go.Ground.phase }, { on := 38, ground := Go.Ground.phase }, { on := 39, ground := Go.Ground.phase }, { on := 40, ground := Go.Ground.phase }, { on := 41, ground := Go.Ground.phase }], guard := none }) (v := ?_) rfl (by kernel_rfl) (by kernel_rfl) (by kernel_rfl) (by kernel_rfl) (fun _ _ _ h => h) (Or.inl ⟨by rfl, ?_⟩) hHeld ?_
        rotate_left 1
        · (intro w hSw; (try dsimp only at hSw); go_simp; first | done | with_reducible rfl)
        try simp only [Act.put, List.setIfInBounds_toArray, List.set_cons_zero, List.set_cons_succ]
        refine Bz.wpAnyE_done (by kernel_rfl) ?_ _
        refine NoPanic.normal ?_
        
        clear hHeld
        go_wp2_with fail
        go_ret
        exact ⟨by rw [HR.out]; rfl, hk.undrew⟩
      · have q3 : (T.depth == U.depth) = false := by simp [e3]
        have HR : Hid (T.same U = false) := Lib.hid (by unfold FT.same; simp [e1, e2, e3])
        clear e1 e2 e3
        go_enter Try.func29, Try.ntmps29
        go_wp2_with fail
        refine wp_region_noPanic ?_
        refine Bz.wp_region_E (S := (fun w' => (∀ i, w'.cell? ⟨t, i, none⟩ = (tcells T mb)[i]?) ∧ (∀ i, w'.cell? ⟨t', i, none⟩ = (tcells U mb')[i]?))) (E := []) (by kernel_rfl) (by exact ⟨c1, c2⟩) (fun hHeld => ?_)
        refine Bz.wpAnyE_take (i := 0) (oi := { dst := some 17, op := Go.Op.move (Go.Operand.tmp 0), type := 24, pos := "fork.go:151", after := #[], guard := none }) (v := ?_) rfl (by kernel_rfl) (by kernel_rfl) (by kernel_rfl) (by kernel_rfl) (fun _ _ _ h => h) (Or.inl ⟨by rfl, ?_⟩) hHeld ?_
        rotate_left 1
        · (intro w hSw; (try dsimp only at hSw); go_simp; first | done | with_reducible rfl)
        try simp only [Act.put, List.setIfInBounds_toArray, List.set_cons_zero, List.set_cons_succ]
        refine Bz.wpAnyE_take (i := 1) (oi := { dst := some 18, op := Go.Op.nilCheck (Go.Operand.tmp 17), type := 0, pos := "fork.go:151", after := #[{ on := 0, ground := Go.Ground.data }], guard := none }) (v := ?_) rfl (by kernel_rfl) (by kernel_rfl) (by kernel_rfl) (by kernel_rfl) (fun _ _ _ h => h) (Or.inl ⟨by rfl, ?_⟩) hHeld ?_
        rotate_left 1
        · (intro w hSw; (try dsimp only at hSw); go_simp; first | done | with_reducible rfl)
        try simp only [Act.put, List.setIfInBounds_toArray, List.set_cons_zero, List.set_cons_succ]
        refine Bz.wpAnyE_take (i := 2) (oi := { dst := some 19, op := Go.Op.fieldAddr 72 (Go.Operand.tmp 18) 0, type := 0, pos := "fork.go:151", after := #[{ on := 1, ground := Go.Ground.data }], guard := none }) (v := ?_) rfl (by kernel_rfl) (by kernel_rfl) (by kernel_rfl) (by kernel_rfl) (fun _ _ _ h => h) (Or.inl ⟨by rfl, ?_⟩) hHeld ?_
        rotate_left 1
        · (intro w hSw; (try dsimp only at hSw); go_simp; first | done | with_reducible rfl)
        try simp only [Act.put, List.setIfInBounds_toArray, List.set_cons_zero, List.set_cons_succ]
        refine Bz.wpAnyE_take (i := 3) (oi := { dst := some 20, op := Go.Op.load 29 (Go.Operand.tmp 19), type := 29, pos := "fork.go:151", after := #[{ on := 2, ground := Go.Ground.data }], guard := none }) (v := ?_) rfl (by kernel_rfl) (by kernel_rfl) (by kernel_rfl) (by kernel_rfl) (fun _ _ _ h => h) (Or.inl ⟨by rfl, ?_⟩) hHeld ?_
        rotate_left 1
        · (intro w hSw; (try dsimp only at hSw); go_simp; first | done | with_reducible rfl)
        try simp only [Act.put, List.setIfInBounds_toArray, List.set_cons_zero, List.set_cons_succ]
        refine Bz.wpAnyE_take (i := 4) (oi := { dst := some 21, op := Go.Op.move (Go.Operand.tmp 1), type := 24, pos := "fork.go:151", after := #[], guard := none }) (v := ?_) rfl (by kernel_rfl) (by kernel_rfl) (by kernel_rfl) (by kernel_rfl) (fun _ _ _ h => h) (Or.inl ⟨by rfl, ?_⟩) hHeld ?_
        rotate_left 1
        · (intro w hSw; (try dsimp only at hSw); go_simp; first | done | with_reducible rfl)
        try simp only [Act.put, List.setIfInBounds_toArray, List.set_cons_zero, List.set_cons_succ]
        refine Bz.wpAnyE_take (i := 5) (oi := { dst := some 22, op := Go.Op.nilCheck (Go.Operand.tmp 21), type := 0, pos := "fork.go:151", after := #[{ on := 4, ground := Go.Ground.data }], guard := none }) (v := ?_) rfl (by kernel_rfl) (by kernel_rfl) (by kernel_rfl) (by kernel_rfl) (fun _ _ _ h => h) (Or.inl ⟨by rfl, ?_⟩) hHeld ?_
        rotate_left 1
        · (intro w hSw; (try dsimp only at hSw); go_simp; first | done | with_reducible rfl)
        try simp only [Act.put, List.setIfInBounds_toArray, List.set_cons_zero, List.set_cons_succ]
        refine Bz.wpAnyE_take (i := 6) (oi := { dst := some 23, op := Go.Op.fieldAddr 72 (Go.Operand.tmp 22) 0, type := 0, pos := "fork.go:151", after := #[{ on := 5, ground := Go.Ground.data }], guard := none }) (v := ?_) rfl (by kernel_rfl) (by kernel_rfl) (by kernel_rfl) (by kernel_rfl) (fun _ _ _ h => h) (Or.inl ⟨by rfl, ?_⟩) hHeld ?_
        rotate_left 1
        · (intro w hSw; (try dsimp only at hSw); go_simp; first | done | with_reducible rfl)
        try simp only [Act.put, List.setIfInBounds_toArray, List.set_cons_zero, List.set_cons_succ]
        refine Bz.wpAnyE_take (i := 7) (oi := { dst := some 24, op := Go.Op.load 29 (Go.Operand.tmp 23), type := 29, pos := "fork.go:151", after := #[{ on := 6, ground := Go.Ground.data }], guard := none }) (v := ?_) rfl (by kernel_rfl) (by kernel_rfl) (by kernel_rfl) (by kernel_rfl) (fun _ _ _ h => h) (Or.inl ⟨by rfl, ?_⟩) hHeld ?_
        rotate_left 1
        · (intro w hSw; (try dsimp only at hSw); go_simp; first | done | with_reducible rfl)
        try simp only [Act.put, List.setIfInBounds_toArray, List.set_cons_zero, List.set_cons_succ]
        refine Bz.wpAnyE_take (i := 8) (oi := { dst := some 25, op := Go.Op.binOp Go.BinOp.eql 29 (Go.Operand.tmp 20) (Go.Operand.tmp 24) 29, type := 4, pos := "fork.go:151", after := #[{ on := 3, ground := Go.Ground.data }, { on := 7, ground := Go.Ground.data }], guard := none }) (v := ?_) rfl (by kernel_rfl) (by kernel_rfl) (by kernel_rfl) (by kernel_rfl) (fun _ _ _ h => h) (Or.inl ⟨by rfl, ?_⟩) hHeld ?_
        rotate_left 1
        · (intro w hSw; (try dsimp only at hSw); go_simp; first | done | with_reducible rfl)
        try simp only [Act.put, List.setIfInBounds_toArray, List.set_cons_zero, List.set_cons_succ]
        refine Bz.wpAnyE_take (i := 9) (oi := { dst := some 26, op := Go.Op.move (Go.Operand.tmp 25), type := 4, pos := "fork.go:151", after := #[{ on := 8, ground := Go.Ground.data }], guard := none }) (v := ?_) rfl (by kernel_rfl) (by kernel_rfl) (by kernel_rfl) (by kernel_rfl) (fun _ _ _ h => h) (Or.inl ⟨by rfl, ?_⟩) hHeld ?_
        rotate_left 1
        · (intro w hSw; (try dsimp only at hSw); go_simp; first | done | with_reducible rfl)
        try simp only [Act.put, List.setIfInBounds_toArray, List.set_cons_zero, List.set_cons_succ]
        refine Bz.wpAnyE_take (i := 10) (oi := { dst := some 27, op := Go.Op.move (Go.Operand.tmp 0), type := 24, pos := "fork.go:151", after := #[{ on := 9, ground := Go.Ground.guard }], guard := some (9, true) }) (v := ?_) rfl (by kernel_rfl) (by kernel_rfl) (by kernel_rfl) (by kernel_rfl) (fun _ _ _ h => h) (Or.inl ⟨by rfl, ?_⟩) hHeld ?_
        rotate_left 1
        · (intro w hSw; (try dsimp only at hSw); go_simp; first | done | with_reducible rfl)
        try simp only [Act.put, List.setIfInBounds_toArray, List.set_cons_zero, List.set_cons_succ]
        refine Bz.wpAnyE_take (i := 11) (oi := { dst := some 28, op := Go.Op.nilCheck (Go.Operand.tmp 27), type := 0, pos := "fork.go:151", after := #[{ on := 10, ground := Go.Ground.data }, { on := 9, ground := Go.Ground.guard }], guard := some (9, true) }) (v := ?_) rfl (by kernel_rfl) (by kernel_rfl) (by kernel_rfl) (by kernel_rfl) (fun _ _ _ h => h) (Or.inl ⟨by rfl, ?_⟩) hHeld ?_
        rotate_left 1
        · (intro w hSw; (try dsimp only at hSw); go_simp; first | done | with_reducible rfl)
        try simp only [Act.put, List.setIfInBounds_toArray, List.set_cons_zero, List.set_cons_succ]
        refine Bz.wpAnyE_take (i := 12) (oi := { dst := some 29, op := Go.Op.fieldAddr 72 (Go.Operand.tmp 28) 1, type := 0, pos := "fork.go:151", after := #[{ on := 11, ground := Go.Ground.data }, { on := 9, ground := Go.Ground.guard }], guard := some (9, true) }) (v := ?_) rfl (by kernel_rfl) (by kernel_rfl) (by kernel_rfl) (by kernel_rfl) (fun _ _ _ h => h) (Or.inl ⟨by rfl, ?_⟩) hHeld ?_
        rotate_left 1
        · (intro w hSw; (try dsimp only at hSw); go_simp; first | done | with_reducible rfl)
        try simp only [Act.put, List.setIfInBounds_toArray, List.set_cons_zero, List.set_cons_succ]
        refine Bz.wpAnyE_take (i := 13) (oi := { dst := some 30, op := Go.Op.load 29 (Go.Operand.tmp 29), type := 29, pos := "fork.go:151", after := #[{ on := 12, ground := Go.Ground.data }, { on := 9, ground := Go.Ground.guard }], guard := some (9, true) }) (v := ?_) rfl (by kernel_rfl) (by kernel_rfl) (by kernel_rfl) (by kernel_rfl) (fun _ _ _ h => h) (Or.inl ⟨by rfl, ?_⟩) hHeld ?_
        rotate_left 1
        · (intro w hSw; (try dsimp only at hSw); go_simp; first | done | with_reducible rfl)
        try simp only [Act.put, List.setIfInBounds_toArray, List.set_cons_zero, List.set_cons_succ]
        refine Bz.wpAnyE_take (i := 14) (oi := { dst := some 31, op := Go.Op.move (Go.Operand.tmp 1), type := 24, pos := "fork.go:151", after := #[{ on := 9, ground := Go.Ground.guard }], guard := some (9, true) }) (v := ?_) rfl (by kernel_rfl) (by kernel_rfl) (by kernel_rfl) (by kernel_rfl) (fun _ _ _ h => h) (Or.inl ⟨by rfl, ?_⟩) hHeld ?_
        rotate_left 1
        · (intro w hSw; (try dsimp only at hSw); go_simp; first | done | with_reducible rfl)
        try simp only [Act.put, List.setIfInBounds_toArray, List.set_cons_zero, List.set_cons_succ]
        refine Bz.wpAnyE_take (i := 15) (oi := { dst := some 32, op := Go.Op.nilCheck (Go.Operand.tmp 31), type := 0, pos := "fork.go:151", after := #[{ on := 14, ground := Go.Ground.data }, { on := 9, ground := Go.Ground.guard }], guard := some (9, true) }) (v := ?_) rfl (by kernel_rfl) (by kernel_rfl) (by kernel_rfl) (by kernel_rfl) (fun _ _ _ h => h) (Or.inl ⟨by rfl, ?_⟩) hHeld ?_
        rotate_left 1
        · (intro w hSw; (try dsimp only at hSw); go_simp; first | done | with_reducible rfl)
        try simp only [Act.put, List.setIfInBounds_toArray, List.set_cons_zero, List.set_cons_succ]
        refine Bz.wpAnyE_take (i := 16) (oi := { dst := some 33, op := Go.Op.fieldAddr 72 (Go.Operand.tmp 32) 1, type := 0, pos := "fork.go:151", after := #[{ on := 15, ground := Go.Ground.data }, { on := 9, ground := Go.Ground.guard }], guard := some (9, true) }) (v := ?_) rfl (by kernel_rfl) (by kernel_rfl) (by kernel_rfl) (by kernel_rfl) (fun _ _ _ h => h) (Or.inl ⟨by rfl, ?_⟩) hHeld ?_
        rotate_left 1
        · (intro w hSw; (try dsimp only at hSw); go_simp; first | done | with_reducible rfl)
        try simp only [Act.put, List.setIfInBounds_toArray, List.set_cons_zero, List.set_cons_succ]
        refine Bz.wpAnyE_take (i := 17) (oi := { dst := some 34, op := Go.Op.load 29 (Go.Operand.tmp 33), type := 29, pos := "fork.go:151", after := #[{ on := 16, ground := Go.Ground.data }, { on := 9, ground := Go.Ground.guard }], guard := some (9, true) }) (v := ?_) rfl (by kernel_rfl) (by kernel_rfl) (by kernel_rfl) (by kernel_rfl) (fun _ _ _ h => h) (Or.inl ⟨by rfl, ?_⟩) hHeld ?_
        rotate_left 1
        · (intro w hSw; (try dsimp only at hSw); go_simp; first | done | with_reducible rfl)
        try simp only [Act.put, List.setIfInBounds_toArray, List.set_cons_zero, List.set_cons_succ]
        refine Bz.wpAnyE_take (i := 18) (oi := { dst := some 35, op := Go.Op.binOp Go.BinOp.eql 29 (Go.Operand.tmp 30) (Go.Operand.tmp 34) 29, type := 4, pos := "fork.go:151", after := #[{ on := 13, ground := Go.Ground.data }, { on := 17, ground := Go.Ground.data }, { on := 9, ground := Go.Ground.guard }], guard := some (9, true) }) (v := ?_) rfl (by kernel_rfl) (by kernel_rfl) (by kernel_rfl) (by kernel_rfl) (fun _ _ _ h => h) (Or.inl ⟨by rfl, ?_⟩) hHeld ?_
        rotate_left 1
        · (intro w hSw; (try dsimp only at hSw); go_simp; first | done | with_reducible rfl)
        try simp only [Act.put, List.setIfInBounds_toArray, List.set_cons_zero, List.set_cons_succ]
        refine Bz.wpAnyE_take (i := 19) (oi := { dst := some 36, op := Go.Op.pick (Go.Operand.tmp 26) (Go.Operand.tmp 35) (Go.Operand.const (Go.Value.bool false)), type := 4, pos := "fork.go:151", after := #[{ on := 9, ground := Go.Ground.data }, { on := 18, ground := Go.Ground.data }], guard := none }) (v := ?_) rfl (by kernel_rfl) (by kernel_rfl) (by kernel_rfl) (by kernel_rfl) (fun _ _ _ h => h) (Or.inl ⟨by rfl, ?_⟩) hHeld ?_
        rotate_left 1
        · (intro w hSw; (try dsimp only at hSw); go_simp; first | done | with_reducible rfl)
        try simp only [Act.put, List.setIfInBounds_toArray, List.set_cons_zero, List.set_cons_succ]
        refine Bz.wpAnyE_take (i := 20) (oi := { dst := some 37, op := Go.Op.move (Go.Operand.tmp 36), type := 4, pos := "fork.go:151", after := #[{ on := 19, ground := Go.Ground.data }, { on := 9, ground := Go.Ground.chain }], guard := none }) (v := ?_) rfl (by kernel_rfl) (by kernel_rfl) (by kernel_rfl) (by kernel_rfl) (fun _ _ _ h => h) (Or.inl ⟨by rfl, ?_⟩) hHeld ?_
        rotate_left 1
        · (intro w hSw; (try dsimp only at hSw); go_simp; first | done | with_reducible rfl)
        try simp only [Act.put, List.setIfInBounds_toArray, List.set_cons_zero, List.set_cons_succ]
        refine Bz.wpAnyE_take (i := 21) (oi := { dst := some 38, op := Go.Op.move (Go.Operand.tmp 0), type := 24, pos := "fork.go:151", after := #[{ on := 20, ground := Go.Ground.guard }], guard := some (20, true) }) (v := ?_) rfl (by kernel_rfl) (by kernel_rfl) (by kernel_rfl) (by kernel_rfl) (fun _ _ _ h => h) (Or.inl ⟨by rfl, ?_⟩) hHeld ?_
        rotate_left 1
        · (intro w hSw; (try dsimp only at hSw); go_simp; first | done | with_reducible rfl)
        try simp only [Act.put, List.setIfInBounds_toArray, List.set_cons_zero, List.set_cons_succ]
        refine Bz.wpAnyE_take (i := 22) (oi := { dst := some 39, op := Go.Op.nilCheck (Go.Operand.tmp 38), type := 0, pos := "fork.go:151", after := #[{ on := 21, ground := Go.Ground.data }, { on := 20, ground := Go.Ground.guard }], guard := some (20, true) }) (v := ?_) rfl (by kernel_rfl) (by kernel_rfl) (by kernel_rfl) (by kernel_rfl) (fun _ _ _ h => h) (Or.inl ⟨by rfl, ?_⟩) hHeld ?_
        rotate_left 1
        · (intro w hSw; (try dsimp only at hSw); go_simp; first | done | with_reducible rfl)
        try simp only [Act.put, List.setIfInBounds_toArray, List.set_cons_zero, List.set_cons_succ]
        refine Bz.wpAnyE_take (i := 23) (oi := { dst := some 40, op := Go.Op.fieldAddr 72 (Go.Operand.tmp 39) 2, type := 0, pos := "fork.go:151", after := #[{ on := 22, ground := Go.Ground.data }, { on := 20, ground := Go.Ground.guard }], guard := some (20, true) }) (v := ?_) rfl (by kernel_rfl) (by kernel_rfl) (by kernel_rfl) (by kernel_rfl) (fun _ _ _ h => h) (Or.inl ⟨by rfl, ?_⟩) hHeld ?_
        rotate_left 1
        · (intro w hSw; (try dsimp only at hSw); go_simp; first | done | with_reducible rfl)
        try simp only [Act.put, List.setIfInBounds_toArray, List.set_cons_zero, List.set_cons_succ]
        refine Bz.wpAnyE_take (i := 24) (oi := { dst := some 41, op := Go.Op.load 3 (Go.Operand.tmp 40), type := 3, pos := "fork.go:151", after := #[{ on := 23, ground := Go.Ground.data }, { on := 20, ground := Go.Ground.guard }], guard := some (20, true) }) (v := ?_) rfl (by kernel_rfl) (by kernel_rfl) (by kernel_rfl) (by kernel_rfl) (fun _ _ _ h => h) (Or.inl ⟨by rfl, ?_⟩) hHeld ?_
        rotate_left 1
        · (intro w hSw; (try dsimp only at hSw); go_simp; first | done | with_reducible rfl)
        try simp only [Act.put, List.setIfInBounds_toArray, List.set_cons_zero, List.set_cons_succ]
        refine Bz.wpAnyE_take (i := 25) (oi := { dst := some 42, op := Go.Op.move (Go.Operand.tmp 1), type := 24, pos := "fork.go:151", after := #[{ on := 20, ground := Go.Ground.guard }], guard := some (20, true) }) (v := ?_) rfl (by kernel_rfl) (by kernel_rfl) (by kernel_rfl) (by kernel_rfl) (fun _ _ _ h => h) (Or.inl ⟨by rfl, ?_⟩) hHeld ?_
        rotate_left 1
        · (intro w hSw; (try dsimp only at hSw); go_simp; first | done | with_reducible rfl)
        try simp only [Act.put, List.setIfInBounds_toArray, List.set_cons_zero, List.set_cons_succ]
        refine Bz.wpAnyE_take (i := 26) (oi := { dst := some 43, op := Go.Op.nilCheck (Go.Operand.tmp 42), type := 0, pos := "fork.go:151", after := #[{ on := 25, ground := Go.Ground.data }, { on := 20, ground := Go.Ground.guard }], guard := some (20, true) }) (v := ?_) rfl (by kernel_rfl) (by kernel_rfl) (by kernel_rfl) (by kernel_rfl) (fun _ _ _ h => h) (Or.inl ⟨by rfl, ?_⟩) hHeld ?_
        rotate_left 1
        · (intro w hSw; (try dsimp only at hSw); go_simp; first | done | with_reducible rfl)
        try simp only [Act.put, List.setIfInBounds_toArray, List.set_cons_zero, List.set_cons_succ]
        refine Bz.wpAnyE_take (i := 27) (oi := { dst := some 44, op := Go.Op.fieldAddr 72 (Go.Operand.tmp 43) 2, type := 0, pos := "fork.go:151", after := #[{ on := 26, ground := Go.Ground.data }, { on := 20, ground := Go.Ground.guard }], guard := some (20, true) }) (v := ?_) rfl (by kernel_rfl) (by kernel_rfl) (by kernel_rfl) (by kernel_rfl) (fun _ _ _ h => h) (Or.inl ⟨by rfl, ?_⟩) hHeld ?_
        rotate_left 1
        · (intro w hSw; (try dsimp only at hSw); go_simp; first | done | with_reducible rfl)
        try simp only [Act.put, List.setIfInBounds_toArray, List.set_cons_zero, List.set_cons_succ]
        refine Bz.wpAnyE_take (i := 28) (oi := { dst := some 45, op := Go.Op.load 3 (Go.Operand.tmp 44), type := 3, pos := "fork.go:151", after := #[{ on := 27, ground := Go.Ground.data }, { on := 20, ground := Go.Ground.guard }], guard := some (20, true) }) (v := ?_) rfl (by kernel_rfl) (by kernel_rfl) (by kernel_rfl) (by kernel_rfl) (fun _ _ _ h => h) (Or.inl ⟨by rfl, ?_⟩) hHeld ?_
        rotate_left 1
        · (intro w hSw; (try dsimp only at hSw); go_simp; first | done | with_reducible rfl)
        try simp only [Act.put, List.setIfInBounds_toArray, List.set_cons_zero, List.set_cons_succ]
        refine Bz.wpAnyE_take (i := 29) (oi := { dst := some 46, op := Go.Op.binOp Go.BinOp.eql 3 (Go.Operand.tmp 41) (Go.Operand.tmp 45) 3, type := 4, pos := "fork.go:151", after := #[{ on := 24, ground := Go.Ground.data }, { on := 28, ground := Go.Ground.data }, { on := 20, ground := Go.Ground.guard }], guard := some (20, true) }) (v := ?_) rfl (by kernel_rfl) (by kernel_rfl) (by kernel_rfl) (by kernel_rfl) (fun _ _ _ h => h) (Or.inl ⟨by rfl, ?_⟩) hHeld ?_
        rotate_left 1
        · (intro w hSw; (try dsimp only at hSw); go_simp; first | done | with_reducible rfl)
        try simp only [Act.put, List.setIfInBounds_toArray, List.set_cons_zero, List.set_cons_succ]
        refine Bz.wpAnyE_take (i := 30) (oi := { dst := some 47, op := Go.Op.pick (Go.Operand.tmp 37) (Go.Operand.tmp 46) (Go.Operand.const (Go.Value.bool false)), type := 4, pos := "fork.go:151", after := #[{ on := 20, ground := Go.Ground.data }, { on := 29, ground := Go.Ground.data }], guard := none }) (v := ?_) rfl (by kernel_rfl) (by kernel_rfl) (by kernel_rfl) (by kernel_rfl) (fun _ _ _ h => h) (Or.inl ⟨by rfl, ?_⟩) hHeld ?_
        rotate_left 1
        · (intro w hSw; (try dsimp only at hSw); go_simp; first | done | with_reducible rfl)
        try simp only [Act.put, List.setIfInBounds_toArray, List.set_cons_zero, List.set_cons_succ]
        refine Bz.wpAnyE_take (i := 31) (oi := { dst := some 48, op := Go.Op.move (Go.Operand.tmp 47), type := 4, pos := "fork.go:151", after := #[{ on := 30, ground := Go.Ground.data }, { on := 20, ground := Go.Ground.chain }], guard := none }) (v := ?_) rfl (by kernel_rfl) (by kernel_rfl) (by kernel_rfl) (by kernel_rfl) (fun _ _ _ h => h) (Or.inl ⟨by rfl, ?_⟩) hHeld ?_
        rotate_left 1
        · (intro w hSw; (try dsimp only at hSw); go_simp; first | done | with_reducible rfl)
        try simp only [Act.put, List.setIfInBounds_toArray, List.set_cons_zero, List.set_cons_succ]
        refine Bz.wpAnyE_take (i := 32) (oi := { dst := some 49, op := Go.Op.move (Go.Operand.tmp 0), type := 24, pos := "fork.go:151", after := #[{ on := 31, ground := Go.Ground.guard }], guard := some (31, true) }) (v := undef) rfl (by kernel_rfl) (by kernel_rfl) (by kernel_rfl) (by kernel_rfl) (fun _ _ _ h => h) (Or.inr ⟨by rfl, rfl⟩) hHeld ?_
        try simp only [Act.put, List.setIfInBounds_toArray, List.set_cons_zero, List.set_cons_succ]
        refine Bz.wpAnyE_take (i := 33) (oi := { dst := some 50, op := Go.Op.nilCheck (Go.Operand.tmp 49), type := 0, pos := "fork.go:151", after := #[{ on := 32, ground := Go.Ground.data }, { on := 31, ground := Go.Ground.guard }], guard := some (31, true) }) (v := undef) rfl (by kernel_rfl) (by kernel_rfl) (by kernel_rfl) (by kernel_rfl) (fun _ _ _ h => h) (Or.inr ⟨by rfl, rfl⟩) hHeld ?_
        try simp only [Act.put, List.setIfInBounds_toArray, List.set_cons_zero, List.set_cons_succ]
        refine Bz.wpAnyE_take (i := 34) (oi := { dst := some 51, op := Go.Op.fieldAddr 72 (Go.Operand.tmp 50) 3, type := 0, pos := "fork.go:151", after := #[{ on := 33, ground := Go.Ground.data }, { on := 31, ground := Go.Ground.guard }], guard := some (31, true) }) (v := undef) rfl (by kernel_rfl) (by kernel_rfl) (by kernel_rfl) (by kernel_rfl) (fun _ _ _ h => h) (Or.inr ⟨by rfl, rfl⟩) hHeld ?_
        try simp only [Act.put, List.setIfInBounds_toArray, List.set_cons_zero, List.set_cons_succ]
        refine Bz.wpAnyE_take (i := 35) (oi := { dst := some 52, op := Go.Op.load 70 (Go.Operand.tmp 51), type := 70, pos := "fork.go:151", after := #[{ on := 34, ground := Go.Ground.data }, { on := 31, ground := Go.Ground.guard }], guard := some (31, true) }) (v := undef) rfl (by kernel_rfl) (by kernel_rfl) (by kernel_rfl) (by kernel_rfl) (fun _ _ _ h => h) (Or.inr ⟨by rfl, rfl⟩) hHeld ?_
        try simp only [Act.put, List.setIfInBounds_toArray, List.set_cons_zero, List.set_cons_succ]
        refine Bz.wpAnyE_take (i := 36) (oi := { dst := some 53, op := Go.Op.move (Go.Operand.tmp 1), type := 24, pos := "fork.go:151", after := #[{ on := 31, ground := Go.Ground.guard }], guard := some (31, true) }) (v := undef) rfl (by kernel_rfl) (by kernel_rfl) (by kernel_rfl) (by kernel_rfl) (fun _ _ _ h => h) (Or.inr ⟨by rfl, rfl⟩) hHeld ?_
        try simp only [Act.put, List.setIfInBounds_toArray, List.set_cons_zero, List.set_cons_succ]
        refine Bz.wpAnyE_take (i := 37) (oi := { dst := some 54, op := Go.Op.nilCheck (Go.Operand.tmp 53), type := 0, pos := "fork.go:151", after := #[{ on := 36, ground := Go.Ground.data }, { on := 31, ground := Go.Ground.guard }], guard := some (31, true) }) (v := undef) rfl (by kernel_rfl) (by kernel_rfl) (by kernel_rfl) (by kernel_rfl) (fun _ _ _ h => h) (Or.inr ⟨by rfl, rfl⟩) hHeld ?_
        try simp only [Act.put, List.setIfInBounds_toArray, List.set_cons_zero, List.set_cons_succ]
        refine Bz.wpAnyE_take (i := 38) (oi := { dst := some 55, op := Go.Op.fieldAddr 72 (Go.Operand.tmp 54) 3, type := 0, pos := "fork.go:151", after := #[{ on := 37, ground := Go.Ground.data }, { on := 31, ground := Go.Ground.guard }], guard := some (31, true) }) (v := undef) rfl (by kernel_rfl) (by kernel_rfl) (by kernel_rfl) (by kernel_rfl) (fun _ _ _ h => h) (Or.inr ⟨by rfl, rfl⟩) hHeld ?_
        try simp only [Act.put, List.setIfInBounds_toArray, List.set_cons_zero, List.set_cons_succ]
        refine Bz.wpAnyE_take (i := 39) (oi := { dst := some 56, op := Go.Op.load 70 (Go.Operand.tmp 55), type := 70, pos := "fork.go:151", after := #[{ on := 38, ground := Go.Ground.data }, { on := 31, ground := Go.Ground.guard }], guard := some (31, true) }) (v := undef) rfl (by kernel_rfl) (by kernel_rfl) (by kernel_rfl) (by kernel_rfl) (fun _ _ _ h => h) (Or.inr ⟨by rfl, rfl⟩) hHeld ?_
        try simp only [Act.put, List.setIfInBounds_toArray, List.set_cons_zero, List.set_cons_succ]
        refine Bz.wpAnyE_take (i := 40) (oi := { dst := some 57, op := Go.Op.call { callee := Go.Callee.value (Go.Operand.func 37), args := #[Go.Operand.tmp 52, Go.Operand.tmp 56], argTypes := #[70, 70] }, type := 4, pos := "fork.go:151", after := #[{ on := 35, ground := Go.Ground.data }, { on := 39, ground := Go.Ground.data }, { on := 31, ground := Go.Ground.chain }, { on := 31, ground := Go.Ground.guard }], guard := some (31, true) }) (v := undef) rfl (by kernel_rfl) (by kernel_rfl) (by kernel_rfl) (by kernel_rfl) (fun _ _ _ h => h) (Or.inr ⟨by rfl, rfl⟩) hHeld ?_
        try simp only [Act.put, List.setIfInBounds_toArray, List.set_cons_zero, List.set_cons_succ]
        refine Bz.wpAnyE_take (i := 41) (oi := { dst := some 58, op := Go.Op.pick (Go.Operand.tmp 48) (Go.Operand.tmp 57) (Go.Operand.const (Go.Value.bool false)), type := 4, pos := "fork.go:151", after := #[{ on := 31, ground := Go.Ground.data }, { on := 40, ground := Go.Ground.data }], guard := none }) (v := ?_) rfl (by kernel_rfl) (by kernel_rfl) (by kernel_rfl) (by kernel_rfl) (fun _ _ _ h => h) (Or.inl ⟨by rfl, ?_⟩) hHeld ?_
        rotate_left 1
        · (intro w hSw; (try dsimp only at hSw); go_simp; first | done | with_reducible rfl)
        try simp only [Act.put, List.setIfInBounds_toArray, List.set_cons_zero, List.set_cons_succ]
        refine Bz.wpAnyE_take (i := 42) (oi := { dst := some 4, op := Go.Op.assign (Go.Operand.tmp 58), type := 4, pos := "fork.go:151", after := #[{ on := 41, ground := Go.Ground.data }, { on := 40, ground := Go.Ground.chain }, { on := 0, ground := Go.Ground.phase }, { on := 1, ground := Go.Ground.phase }, { on := 2, ground := Go.Ground.phase }, { on := 3, ground := Go.Ground.phase }, { on := 4, ground := Go.Ground.phase }, { on := 5, ground := Go.Ground.phase }, { on := 6, ground := Go.Ground.phase }, { on := 7, ground := Go.Ground.phase }, { on := 8, ground := Go.Ground.phase }, { on := 9, ground := Go.Ground.phase }, { on := 10, ground := Go.Ground.phase }, { on := 11, ground := Go.Ground.phase }, { on := 12, ground := Go.Ground.phase }, { on := 13, ground := Go.Ground.phase }, { on := 14, ground := Go.Ground.phase }, { on := 15, ground := Go.Ground.phase }, { on := 16, ground := Go.Ground.phase }, { on := 17, ground := Go.Ground.phase }, { on := 18, ground := Go.Ground.phase }, { on := 19, ground := Go.Ground.phase }, { on := 20, ground := Go.Ground.phase }, { on := 21, ground := Go.Ground.phase }, { on := 22, ground := Go.Ground.phase }, { on := 23, ground := Go.Ground.phase }, { on := 24, ground := Go.Ground.phase }, { on := 25, ground := Go.Ground.phase }, { on := 26, ground := Go.Ground.phase }, { on := 27, ground := Go.Ground.phase }, { on := 28, ground := Go.Ground.phase }, { on := 29, ground := Go.Ground.phase }, { on := 30, ground := Go.Ground.phase }, { on := 31, ground := Go.Ground.phase }, { on := 32, ground := Go.Ground.phase }, { on := 33, ground := Go.Ground.phase }, { on := 34, ground := Go.Ground.phase }, { on := 35, ground := Go.Ground.phase }, { on := 36, ground := Go.Ground.phase }, { on := 37, ground := Go.Ground.phase }, { on := 38, ground := Go.Ground.phase }, { on := 39, ground := Go.Ground.phase }, { on := 40, ground := Go.Ground.phase }, { on := 41, ground := Go.Ground.phase }], guard := none }) (v := ?_) rfl (by kernel_rfl) (by kernel_rfl) (by kernel_rfl) (by kernel_rfl) (fun _ _ _ h => h) (Or.inl ⟨by rfl, ?_⟩) hHeld ?_
        rotate_left 1
        · (intro w hSw; (try dsimp only at hSw); go_simp; first | done | with_reducible rfl)
        try simp only [Act.put, List.setIfInBounds_toArray, List.set_cons_zero, List.set_cons_succ]
        refine Bz.wpAnyE_done (by kernel_rfl) ?_ _
        refine NoPanic.normal ?_
        
        clear hHeld
        go_wp2_with fail
        go_ret
        exact ⟨by rw [HR.out]; rfl, (Keep.refl _ _).drew⟩
    · rw [decide_eq_false e2] at q2
      have HR : Hid (T.same U = false) := Lib.hid (by unfold FT.same; simp [e1, e2])
      clear e1 e2
      go_enter Try.func29, Try.ntmps29
      go_wp2_with fail
      refine wp_region_noPanic ?_
      refine Bz.wp_region_E (S := (fun w' => (∀ i, w'.cell? ⟨t, i, none⟩ = (tcells T mb)[i]?) ∧ (∀ i, w'.cell? ⟨t', i, none⟩ = (tcells U mb')[i]?))) (E := []) (by kernel_rfl) (by exact ⟨c1, c2⟩) (fun hHeld => ?_)
      refine Bz.wpAnyE_take (i := 0) (oi := { dst := some 17, op := Go.Op.move (Go.Operand.tmp 0), type := 24, pos := "fork.go:151", after := #[], guard := none }) (v := ?_) rfl (by kernel_rfl) (by kernel_rfl) (by kernel_rfl) (by kernel_rfl) (fun _ _ _ h => h) (Or.inl ⟨by rfl, ?_⟩) hHeld ?_
      rotate_left 1
      · (intro w hSw; (try dsimp only at hSw); go_simp; first | done | with_reducible rfl)
      try simp only [Act.put, List.setIfInBounds_toArray, List.set_cons_zero, List.set_cons_succ]
      refine Bz.wpAnyE_take (i := 1) (oi := { dst := some 18, op := Go.Op.nilCheck (Go.Operand.tmp 17), type := 0, pos := "fork.go:151", after := #[{ on := 0, ground := Go.Ground.data }], guard := none }) (v := ?_) rfl (by kernel_rfl) (by kernel_rfl) (by kernel_rfl) (by kernel_rfl) (fun _ _ _ h => h) (Or.inl ⟨by rfl, ?_⟩) hHeld ?_
      rotate_left 1
      · (intro w hSw; (try dsimp only at hSw); go_simp; first | done | with_reducible rfl)
      try simp only [Act.put, List.setIfInBounds_toArray, List.set_cons_zero, List.set_cons_succ]
      refine Bz.wpAnyE_take (i := 2) (oi := { dst := some 19, op := Go.Op.fieldAddr 72 (Go.Operand.tmp 18) 0, type := 0, pos := "fork.go:151", after := #[{ on := 1, ground := Go.Ground.data }], guard := none }) (v := ?_) rfl (by kernel_rfl) (by kernel_rfl) (by kernel_rfl) (by kernel_rfl) (fun _ _ _ h => h) (Or.inl ⟨by rfl, ?_⟩) hHeld ?_
      rotate_left 1
      · (intro w hSw; (try dsimp only at hSw); go_simp; first | done | with_reducible rfl)
      try simp only [Act.put, List.setIfInBounds_toArray, List.set_cons_zero, List.set_cons_succ]
      refine Bz.wpAnyE_take (i := 3) (oi := { dst := some 20, op := Go.Op.load 29 (Go.Operand.tmp 19), type := 29, pos := "fork.go:151", after := #[{ on := 2, ground := Go.Ground.data }], guard := none }) (v := ?_) rfl (by kernel_rfl) (by kernel_rfl) (by kernel_rfl) (by kernel_rfl) (fun _ _ _ h => h) (Or.inl ⟨by rfl, ?_⟩) hHeld ?_
      rotate_left 1
      · (intro w hSw; (try dsimp only at hSw); go_simp; first | done | with_reducible rfl)
      try simp only [Act.put, List.setIfInBounds_toArray, List.set_cons_zero, List.set_cons_succ]
      refine Bz.wpAnyE_take (i := 4) (oi := { dst := some 21, op := Go.Op.move (Go.Operand.tmp 1), type := 24, pos := "fork.go:151", after := #[], guard := none }) (v := ?_) rfl (by kernel_rfl) (by kernel_rfl) (by kernel_rfl) (by kernel_rfl) (fun _ _ _ h => h) (Or.inl ⟨by rfl, ?_⟩) hHeld ?_
      rotate_left 1
      · (intro w hSw; (try dsimp only at hSw); go_simp; first | done | with_reducible rfl)
      try simp only [Act.put, List.setIfInBounds_toArray, List.set_cons_zero, List.set_cons_succ]
      refine Bz.wpAnyE_take (i := 5) (oi := { dst := some 22, op := Go.Op.nilCheck (Go.Operand.tmp 21), type := 0, pos := "fork.go:151", after := #[{ on := 4, ground := Go.Ground.data }], guard := none }) (v := ?_) rfl (by kernel_rfl) (by kernel_rfl) (by kernel_rfl) (by kernel_rfl) (fun _ _ _ h => h) (Or.inl ⟨by rfl, ?_⟩) hHeld ?_
      rotate_left 1
      · (intro w hSw; (try dsimp only at hSw); go_simp; first | done | with_reducible rfl)
      try simp only [Act.put, List.setIfInBounds_toArray, List.set_cons_zero, List.set_cons_succ]
      refine Bz.wpAnyE_take (i := 6) (oi := { dst := some 23, op := Go.Op.fieldAddr 72 (Go.Operand.tmp 22) 0, type := 0, pos := "fork.go:151", after := #[{ on := 5, ground := Go.Ground.data }], guard := none }) (v := ?_) rfl (by kernel_rfl) (by kernel_rfl) (by kernel_rfl) (by kernel_rfl) (fun _ _ _ h => h) (Or.inl ⟨by rfl, ?_⟩) hHeld ?_
      rotate_left 1
      · (intro w hSw; (try dsimp only at hSw); go_simp; first | done | with_reducible rfl)
      try simp only [Act.put, List.setIfInBounds_toArray, List.set_cons_zero, List.set_cons_succ]
      refine Bz.wpAnyE_take (i := 7) (oi := { dst := some 24, op := Go.Op.load 29 (Go.Operand.tmp 23), type := 29, pos := "fork.go:151", after := #[{ on := 6, ground := Go.Ground.data }], guard := none }) (v := ?_) rfl (by kernel_rfl) (by kernel_rfl) (by kernel_rfl) (by kernel_rfl) (fun _ _ _ h => h) (Or.inl ⟨by rfl, ?_⟩) hHeld ?_
      rotate_left 1
      · (intro w hSw; (try dsimp only at hSw); go_simp; first | done | with_reducible rfl)
      try simp only [Act.put, List.setIfInBounds_toArray, List.set_cons_zero, List.set_cons_succ]
      refine Bz.wpAnyE_take (i := 8) (oi := { dst := some 25, op := Go.Op.binOp Go.BinOp.eql 29 (Go.Operand.tmp 20) (Go.Operand.tmp 24) 29, type := 4, pos := "fork.go:151", after := #[{ on := 3, ground := Go.Ground.data }, { on := 7, ground := Go.Ground.data }], guard := none }) (v := ?_) rfl (by kernel_rfl) (by kernel_rfl) (by kernel_rfl) (by kernel_rfl) (fun _ _ _ h => h) (Or.inl ⟨by rfl, ?_⟩) hHeld ?_
      rotate_left 1
      · (intro w hSw; (try dsimp only at hSw); go_simp; first | done | with_reducible rfl)
      try simp only [Act.put, List.setIfInBounds_toArray, List.set_cons_zero, List.set_cons_succ]
      refine Bz.wpAnyE_take (i := 9) (oi := { dst := some 26, op := Go.Op.move (Go.Operand.tmp 25), type := 4, pos := "fork.go:151", after := #[{ on := 8, ground := Go.Ground.data }], guard := none }) (v := ?_) rfl (by kernel_rfl) (by kernel_rfl) (by kernel_rfl) (by kernel_rfl) (fun _ _ _ h => h) (Or.inl ⟨by rfl, ?_⟩) hHeld ?_
      rotate_left 1
      · (intro w hSw; (try dsimp only at hSw); go_simp; first | done | with_reducible rfl)
      try simp only [Act.put, List.setIfInBounds_toArray, List.set_cons_zero, List.set_cons_succ]
      refine Bz.wpAnyE_take (i := 10) (oi := { dst := some 27, op := Go.Op.move (Go.Operand.tmp 0), type := 24, pos := "fork.go:151", after := #[{ on := 9, ground := Go.Ground.guard }], guard := some (9, true) }) (v := ?_) rfl (by kernel_rfl) (by kernel_rfl) (by kernel_rfl) (by kernel_rfl) (fun _ _ _ h => h) (Or.inl ⟨by rfl, ?_⟩) hHeld ?_
      rotate_left 1
      · (intro w hSw; (try dsimp only at hSw); go_simp; first | done | with_reducible rfl)
      try simp only [Act.put, List.setIfInBounds_toArray, List.set_cons_zero, List.set_cons_succ]
      refine Bz.wpAnyE_take (i := 11) (oi := { dst := some 28, op := Go.Op.nilCheck (Go.Operand.tmp 27), type := 0, pos := "fork.go:151", after := #[{ on := 10, ground := Go.Ground.data }, { on := 9, ground := Go.Ground.guard }], guard := some (9, true) }) (v := ?_) rfl (by kernel_rfl) (by kernel_rfl) (by kernel_rfl) (by kernel_rfl) (fun _ _ _ h => h) (Or.inl ⟨by rfl, ?_⟩) hHeld ?_
      rotate_left 1
      · (intro w hSw; (try dsimp only at hSw); go_simp; first | done | with_reducible rfl)
      try simp only [Act.put, List.setIfInBounds_toArray, List.set_cons_zero, List.set_cons_succ]
      refine Bz.wpAnyE_take (i := 12) (oi := { dst := some 29, op := Go.Op.fieldAddr 72 (Go.Operand.tmp 28) 1, type := 0, pos := "fork.go:151", after := #[{ on := 11, ground := Go.Ground.data }, { on := 9, ground := Go.Ground.guard }], guard := some (9, true) }) (v := ?_) rfl (by kernel_rfl) (by kernel_rfl) (by kernel_rfl) (by kernel_rfl) (fun _ _ _ h => h) (Or.inl ⟨by rfl, ?_⟩) hHeld ?_
      rotate_left 1
      · (intro w hSw; (try dsimp only at hSw); go_simp; first | done | with_reducible rfl)
      try simp only [Act.put, List.setIfInBounds_toArray, List.set_cons_zero, List.set_cons_succ]
      refine Bz.wpAnyE_take (i := 13) (oi := { dst := some 30, op := Go.Op.load 29 (Go.Operand.tmp 29), type := 29, pos := "fork.go:151", after := #[{ on := 12, ground := Go.Ground.data }, { on := 9, ground := Go.Ground.guard }], guard := some (9, true) }) (v := ?_) rfl (by kernel_rfl) (by kernel_rfl) (by kernel_rfl) (by kernel_rfl) (fun _ _ _ h => h) (Or.inl ⟨by rfl, ?_⟩) hHeld ?_
      rotate_left 1
      · (intro w hSw; (try dsimp only at hSw); go_simp; first | done | with_reducible rfl)
      try simp only [Act.put, List.setIfInBounds_toArray, List.set_cons_zero, List.set_cons_succ]
      refine Bz.wpAnyE_take (i := 14) (oi := { dst := some 31, op := Go.Op.move (Go.Operand.tmp 1), type := 24, pos := "fork.go:151", after := #[{ on := 9, ground := Go.Ground.guard }], guard := some (9, true) }) (v := ?_) rfl (by kernel_rfl) (by kernel_rfl) (by kernel_rfl) (by kernel_rfl) (fun _ _ _ h => h) (Or.inl ⟨by rfl, ?_⟩) hHeld ?_
      rotate_left 1
      · (intro w hSw; (try dsimp only at hSw); go_simp; first | done | with_reducible rfl)
      try simp only [Act.put, List.setIfInBounds_toArray, List.set_cons_zero, List.set_cons_succ]
      refine Bz.wpAnyE_take (i := 15) (oi := { dst := some 32, op := Go.Op.nilCheck (Go.Operand.tmp 31), type := 0, pos := "fork.go:151", after := #[{ on := 14, ground := Go.Ground.data }, { on := 9, ground := Go.Ground.guard }], guard := some (9, true) }) (v := ?_) rfl (by kernel_rfl) (by kernel_rfl) (by kernel_rfl) (by kernel_rfl) (fun _ _ _ h => h) (Or.inl ⟨by rfl, ?_⟩) hHeld ?_
      rotate_left 1
      · (intro w hSw; (try dsimp only at hSw); go_simp; first | done | with_reducible rfl)
      try simp only [Act.put, List.setIfInBounds_toArray, List.set_cons_zero, List.set_cons_succ]
      refine Bz.wpAnyE_take (i := 16) (oi := { dst := some 33, op := Go.Op.fieldAddr 72 (Go.Operand.tmp 32) 1, type := 0, pos := "fork.go:151", after := #[{ on := 15, ground := Go.Ground.data }, { on := 9, ground := Go.Ground.guard }], guard := some (9, true) }) (v := ?_) rfl (by kernel_rfl) (by kernel_rfl) (by kernel_rfl) (by kernel_rfl) (fun _ _ _ h => h) (Or.inl ⟨by rfl, ?_⟩) hHeld ?_
      rotate_left 1
      · (intro w hSw; (try dsimp only at hSw); go_simp; first | done | with_reducible rfl)
      try simp only [Act.put, List.setIfInBounds_toArray, List.set_cons_zero, List.set_cons_succ]
      refine Bz.wpAnyE_take (i := 17) (oi := { dst := some 34, op := Go.Op.load 29 (Go.Operand.tmp 33), type := 29, pos := "fork.go:151", after := #[{ on := 16, ground := Go.Ground.data }, { on := 9, ground := Go.Ground.guard }], guard := some (9, true) }) (v := ?_) rfl (by kernel_rfl) (by kernel_rfl) (by kernel_rfl) (by kernel_rfl) (fun _ _ _ h => h) (Or.inl ⟨by rfl, ?_⟩) hHeld ?_
      rotate_left 1
      · (intro w hSw; (try dsimp only at hSw); go_simp; first | done | with_reducible rfl)
      try simp only [Act.put, List.setIfInBounds_toArray, List.set_cons_zero, List.set_cons_succ]
      refine Bz.wpAnyE_take (i := 18) (oi := { dst := some 35, op := Go.Op.binOp Go.BinOp.eql 29 (Go.Operand.tmp 30) (Go.Operand.tmp 34) 29, type := 4, pos := "fork.go:151", after := #[{ on := 13, ground := Go.Ground.data }, { on := 17, ground := Go.Ground.data }, { on := 9, ground := Go.Ground.guard }], guard := some (9, true) }) (v := ?_) rfl (by kernel_rfl) (by kernel_rfl) (by kernel_rfl) (by kernel_rfl) (fun _ _ _ h => h) (Or.inl ⟨by rfl, ?_⟩) hHeld ?_
      rotate_left 1
      · (intro w hSw; (try dsimp only at hSw); go_simp; first | done | with_reducible rfl)
      try simp only [Act.put, List.setIfInBounds_toArray, List.set_cons_zero, List.set_cons_succ]
      refine Bz.wpAnyE_take (i := 19) (oi := { dst := some 36, op := Go.Op.pick (Go.Operand.tmp 26) (Go.Operand.tmp 35) (Go.Operand.const (Go.Value.bool false)), type := 4, pos := "fork.go:151", after := #[{ on := 9, ground := Go.Ground.data }, { on := 18, ground := Go.Ground.data }], guard := none }) (v := ?_) rfl (by kernel_rfl) (by kernel_rfl) (by kernel_rfl) (by kernel_rfl) (fun _ _ _ h => h) (Or.inl ⟨by rfl, ?_⟩) hHeld ?_
      rotate_left 1
      · (intro w hSw; (try dsimp only at hSw); go_simp; first | done | with_reducible rfl)
      try simp only [Act.put, List.setIfInBounds_toArray, List.set_cons_zero, List.set_cons_succ]
      refine Bz.wpAnyE_take (i := 20) (oi := { dst := some 37, op := Go.Op.move (Go.Operand.tmp 36), type := 4, pos := "fork.go:151", after := #[{ on := 19, ground := Go.Ground.data }, { on := 9, ground := Go.Ground.chain }], guard := none }) (v := ?_) rfl (by kernel_rfl) (by kernel_rfl) (by kernel_rfl) (by kernel_rfl) (fun _ _ _ h => h) (Or.inl ⟨by rfl, ?_⟩) hHeld ?_
      rotate_left 1
      · (intro w hSw; (try dsimp only at hSw); go_simp; first | done | with_reducible rfl)
      try simp only [Act.put, List.setIfInBounds_toArray, List.set_cons_zero, List.set_cons_succ]
      refine Bz.wpAnyE_take (i := 21) (oi := { dst := some 38, op := Go.Op.move (Go.Operand.tmp 0), type := 24, pos := "fork.go:151", after := #[{ on := 20, ground := Go.Ground.guard }], guard := some (20, true) }) (v := undef) rfl (by kernel_rfl) (by kernel_rfl) (by kernel_rfl) (by kernel_rfl) (fun _ _ _ h => h) (Or.inr ⟨by rfl, rfl⟩) hHeld ?_
      try simp only [Act.put, List.setIfInBounds_toArray, List.set_cons_zero, List.set_cons_succ]
      refine Bz.wpAnyE_take (i := 22) (oi := { dst := some 39, op := Go.Op.nilCheck (Go.Operand.tmp 38), type := 0, pos := "fork.go:151", after := #[{ on := 21, ground := Go.Ground.data }, { on := 20, ground := Go.Ground.guard }], guard := some (20, true) }) (v := undef) rfl (by kernel_rfl) (by kernel_rfl) (by kernel_rfl) (by kernel_rfl) (fun _ _ _ h => h) (Or.inr ⟨by rfl, rfl⟩) hHeld ?_
      try simp only [Act.put, List.setIfInBounds_toArray, List.set_cons_zero, List.set_cons_succ]
      refine Bz.wpAnyE_take (i := 23) (oi := { dst := some 40, op := Go.Op.fieldAddr 72 (Go.Operand.tmp 39) 2, type := 0, pos := "fork.go:151", after := #[{ on := 22, ground := Go.Ground.data }, { on := 20, ground := Go.Ground.guard }], guard := some (20, true) }) (v := undef) rfl (by kernel_rfl) (by kernel_rfl) (by kernel_rfl) (by kernel_rfl) (fun _ _ _ h => h) (Or.inr ⟨by rfl, rfl⟩) hHeld ?_
      try simp only [Act.put, List.setIfInBounds_toArray, List.set_cons_zero, List.set_cons_succ]
      refine Bz.wpAnyE_take (i := 24) (oi := { dst := some 41, op := Go.Op.load 3 (Go.Operand.tmp 40), type := 3, pos := "fork.go:151", after := #[{ on := 23, ground := Go.Ground.data }, { on := 20, ground := Go.Ground.guard }], guard := some (20, true) }) (v := undef) rfl (by kernel_rfl) (by kernel_rfl) (by kernel_rfl) (by kernel_rfl) (fun _ _ _ h => h) (Or.inr ⟨by rfl, rfl⟩) hHeld ?_
      try simp only [Act.put, List.setIfInBounds_toArray, List.set_cons_zero, List.set_cons_succ]
      refine Bz.wpAnyE_take (i := 25) (oi := { dst := some 42, op := Go.Op.move (Go.Operand.tmp 1), type := 24, pos := "fork.go:151", after := #[{ on := 20, ground := Go.Ground.guard }], guard := some (20, true) }) (v := undef) rfl (by kernel_rfl) (by kernel_rfl) (by kernel_rfl) (by kernel_rfl) (fun _ _ _ h => h) (Or.inr ⟨by rfl, rfl⟩) hHeld ?_
      try simp only [Act.put, List.setIfInBounds_toArray, List.set_cons_zero, List.set_cons_succ]
      refine Bz.wpAnyE_take (i := 26) (oi := { dst := some 43, op := Go.Op.nilCheck (Go.Operand.tmp 42), type := 0, pos := "fork.go:151", after := #[{ on := 25, ground := Go.Ground.data }, { on := 20, ground := Go.Ground.guard }], guard := some (20, true) }) (v := undef) rfl (by kernel_rfl) (by kernel_rfl) (by kernel_rfl) (by kernel_rfl) (fun _ _ _ h => h) (Or.inr ⟨by rfl, rfl⟩) hHeld ?_
      try simp only [Act.put, List.setIfInBounds_toArray, List.set_cons_zero, List.set_cons_succ]
      refine Bz.wpAnyE_take (i := 27) (oi := { dst := some 44, op := Go.Op.fieldAddr 72 (Go.Operand.tmp 43) 2, type := 0, pos := "fork.go:151", after := #[{ on := 26, ground := Go.Ground.data }, { on := 20, ground := Go.Ground.guard }], guard := some (20, true) }) (v := undef) rfl (by kernel_rfl) (by kernel_rfl) (by kernel_rfl) (by kernel_rfl) (fun _ _ _ h => h) (Or.inr ⟨by rfl, rfl⟩) hHeld ?_
      try simp only [Act.put, List.setIfInBounds_toArray, List.set_cons_zero, List.set_cons_succ]
      refine Bz.wpAnyE_take (i := 28) (oi := { dst := some 45, op := Go.Op.load 3 (Go.Operand.tmp 44), type := 3, pos := "fork.go:151", after := #[{ on := 27, ground := Go.Ground.data }, { on := 20, ground := Go.Ground.guard }], guard := some (20, true) }) (v := undef) rfl (by kernel_rfl) (by kernel_rfl) (by kernel_rfl) (by kernel_rfl) (fun _ _ _ h => h) (Or.inr ⟨by rfl, rfl⟩) hHeld ?_
      try simp only [Act.put, List.setIfInBounds_toArray, List.set_cons_zero, List.set_cons_succ]
      refine Bz.wpAnyE_take (i := 29) (oi := { dst := some 46, op := Go.Op.binOp Go.BinOp.eql 3 (Go.Operand.tmp 41) (Go.Operand.tmp 45) 3, type := 4, pos := "fork.go:151", after := #[{ on := 24, ground := Go.Ground.data }, { on := 28, ground := Go.Ground.data }, { on := 20, ground := Go.Ground.guard }], guard := some (20, true) }) (v := undef) rfl (by kernel_rfl) (by kernel_rfl) (by kernel_rfl) (by kernel_rfl) (fun _ _ _ h => h) (Or.inr ⟨by rfl, rfl⟩) hHeld ?_
      try simp only [Act.put, List.setIfInBounds_toArray, List.set_cons_zero, List.set_cons_succ]
      refine Bz.wpAnyE_take (i := 30) (oi := { dst := some 47, op := Go.Op.pick (Go.Operand.tmp 37) (Go.Operand.tmp 46) (Go.Operand.const (Go.Value.bool false)), type := 4, pos := "fork.go:151", after := #[{ on := 20, ground := Go.Ground.data }, { on := 29, ground := Go.Ground.data }], guard := none }) (v := ?_) rfl (by kernel_rfl) (by kernel_rfl) (by kernel_rfl) (by kernel_rfl) (fun _ _ _ h => h) (Or.inl ⟨by rfl, ?_⟩) hHeld ?_
      rotate_left 1
      · (intro w hSw; (try dsimp only at hSw); go_simp; first | done | with_reducible rfl)
      try simp only [Act.put, List.setIfInBounds_toArray, List.set_cons_zero, List.set_cons_succ]
      refine Bz.wpAnyE_take (i := 31) (oi := { dst := some 48, op := Go.Op.move (Go.Operand.tmp 47), type := 4, pos := "fork.go:151", after := #[{ on := 30, ground := Go.Ground.data }, { on := 20, ground := Go.Ground.chain }], guard := none }) (v := ?_) rfl (by kernel_rfl) (by kernel_rfl) (by kernel_rfl) (by kernel_rfl) (fun _ _ _ h => h) (Or.inl ⟨by rfl, ?_⟩) hHeld ?_
      rotate_left 1
      · (intro w hSw; (try dsimp only at hSw); go_simp; first | done | with_reducible rfl)
      try simp only [Act.put, List.setIfInBounds_toArray, List.set_cons_zero, List.set_cons_succ]
      refine Bz.wpAnyE_take (i := 32) (oi := { dst := some 49, op := Go.Op.move (Go.Operand.tmp 0), type := 24, pos := "fork.go:151", after := #[{ on := 31, ground := Go.Ground.guard }], guard := some (31, true) }) (v := undef) rfl (by kernel_rfl) (by kernel_rfl) (by kernel_rfl) (by kernel_rfl) (fun _ _ _ h => h) (Or.inr ⟨by rfl, rfl⟩) hHeld ?_
      try simp only [Act.put, List.setIfInBounds_toArray, List.set_cons_zero, List.set_cons_succ]
      refine Bz.wpAnyE_take (i := 33) (oi := { dst := some 50, op := Go.Op.nilCheck (Go.Operand.tmp 49), type := 0, pos := "fork.go:151", after := #[{ on := 32, ground := Go.Ground.data }, { on := 31, ground := Go.Ground.guard }], guard := some (31, true) }) (v := undef) rfl (by kernel_rfl) (by kernel_rfl) (by kernel_rfl) (by kernel_rfl) (fun _ _ _ h => h) (Or.inr ⟨by rfl, rfl⟩) hHeld ?_
      try simp only [Act.put, List.setIfInBounds_toArray, List.set_cons_zero, List.set_cons_succ]
      refine Bz.wpAnyE_take (i := 34) (oi := { dst := some 51, op := Go.Op.fieldAddr 72 (Go.Operand.tmp 50) 3, type := 0, pos := "fork.go:151", after := #[{ on := 33, ground := Go.Ground.data }, { on := 31, ground := Go.Ground.guard }], guard := some (31, true) }) (v := undef) rfl (by kernel_rfl) (by kernel_rfl) (by kernel_rfl) (by kernel_rfl) (fun _ _ _ h => h) (Or.inr ⟨by rfl, rfl⟩) hHeld ?_
      try simp only [Act.put, List.setIfInBounds_toArray, List.set_cons_zero, List.set_cons_succ]
      refine Bz.wpAnyE_take (i := 35) (oi := { dst := some 52, op := Go.Op.load 70 (Go.Operand.tmp 51), type := 70, pos := "fork.go:151", after := #[{ on := 34, ground := Go.Ground.data }, { on := 31, ground := Go.Ground.guard }], guard := some (31, true) }) (v := undef) rfl (by kernel_rfl) (by kernel_rfl) (by kernel_rfl) (by kernel_rfl) (fun _ _ _ h => h) (Or.inr ⟨by rfl, rfl⟩) hHeld ?_
      try simp only [Act.put, List.setIfInBounds_toArray, List.set_cons_zero, List.set_cons_succ]
      refine Bz.wpAnyE_take (i := 36) (oi := { dst := some 53, op := Go.Op.move (Go.Operand.tmp 1), type := 24, pos := "fork.go:151", after := #[{ on := 31, ground := Go.Ground.guard }], guard := some (31, true) }) (v := undef) rfl (by kernel_rfl) (by kernel_rfl) (by kernel_rfl) (by kernel_rfl) (fun _ _ _ h => h) (Or.inr ⟨by rfl, rfl⟩) hHeld ?_
      try simp only [Act.put, List.setIfInBounds_toArray, List.set_cons_zero, List.set_cons_succ]
      refine Bz.wpAnyE_take (i := 37) (oi := { dst := some 54, op := Go.Op.nilCheck (Go.Operand.tmp 53), type := 0, pos := "fork.go:151", after := #[{ on := 36, ground := Go.Ground.data }, { on := 31, ground := Go.Ground.guard }], guard := some (31, true) }) (v := undef) rfl (by kernel_rfl) (by kernel_rfl) (by kernel_rfl) (by kernel_rfl) (fun _ _ _ h => h) (Or.inr ⟨by rfl, rfl⟩) hHeld ?_
      try simp only [Act.put, List.setIfInBounds_toArray, List.set_cons_zero, List.set_cons_succ]
      refine Bz.wpAnyE_take (i := 38) (oi := { dst := some 55, op := Go.Op.fieldAddr 72 (Go.Operand.tmp 54) 3, type := 0, pos := "fork.go:151", after := #[{ on := 37, ground := Go.Ground.data }, { on := 31, ground := Go.Ground.guard }], guard := some (31, true) }) (v := undef) rfl (by kernel_rfl) (by kernel_rfl) (by kernel_rfl) (by kernel_rfl) (fun _ _ _ h => h) (Or.inr ⟨by rfl, rfl⟩) hHeld ?_
      try simp only [Act.put, List.setIfInBounds_toArray, List.set_cons_zero, List.set_cons_succ]
      refine Bz.wpAnyE_take (i := 39) (oi := { dst := some 56, op := Go.Op.load 70 (Go.Operand.tmp 55), type := 70, pos := "fork.go:151", after := #[{ on := 38, ground := Go.Ground.data }, { on := 31, ground := Go.Ground.guard }], guard := some (31, true) }) (v := undef) rfl (by kernel_rfl) (by kernel_rfl) (by kernel_rfl) (by kernel_rfl) (fun _ _ _ h => h) (Or.inr ⟨by rfl, rfl⟩) hHeld ?_
      try simp only [Act.put, List.setIfInBounds_toArray, List.set_cons_zero, List.set_cons_succ]
      refine Bz.wpAnyE_take (i := 40) (oi := { dst := some 57, op := Go.Op.call { callee := Go.Callee.value (Go.Operand.func 37), args := #[Go.Operand.tmp 52, Go.Operand.tmp 56], argTypes := #[70, 70] }, type := 4, pos := "fork.go:151", after := #[{ on := 35, ground := Go.Ground.data }, { on := 39, ground := Go.Ground.data }, { on := 31, ground := Go.Ground.chain }, { on := 31, ground := Go.Ground.guard }], guard := some (31, true) }) (v := undef) rfl (by kernel_rfl) (by kernel_rfl) (by kernel_rfl) (by kernel_rfl) (fun _ _ _ h => h) (Or.inr ⟨by rfl, rfl⟩) hHeld ?_
      try simp only [Act.put, List.setIfInBounds_toArray, List.set_cons_zero, List.set_cons_succ]
      refine Bz.wpAnyE_take (i := 41) (oi := { dst := some 58, op := Go.Op.pick (Go.Operand.tmp 48) (Go.Operand.tmp 57) (Go.Operand.const (Go.Value.bool false)), type := 4, pos := "fork.go:151", after := #[{ on := 31, ground := Go.Ground.data }, { on := 40, ground := Go.Ground.data }], guard := none }) (v := ?_) rfl (by kernel_rfl) (by kernel_rfl) (by kernel_rfl) (by kernel_rfl) (fun _ _ _ h => h) (Or.inl ⟨by rfl, ?_⟩) hHeld ?_
      rotate_left 1
      · (intro w hSw; (try dsimp only at hSw); go_simp; first | done | with_reducible rfl)
      try simp only [Act.put, List.setIfInBounds_toArray, List.set_cons_zero, List.set_cons_succ]
      refine Bz.wpAnyE_take (i := 42) (oi := { dst := some 4, op := Go.Op.assign (Go.Operand.tmp 58), type := 4, pos := "fork.go:151", after := #[{ on := 41, ground := Go.Ground.data }, { on := 40, ground := Go.Ground.chain }, { on := 0, ground := Go.Ground.phase }, { on := 1, ground := Go.Ground.phase }, { on := 2, ground := Go.Ground.phase }, { on := 3, ground := Go.Ground.phase }, { on := 4, ground := Go.Ground.phase }, { on := 5, ground := Go.Ground.phase }, { on := 6, ground := Go.Ground.phase }, { on := 7, ground := Go.Ground.phase }, { on := 8, ground := Go.Ground.phase }, { on := 9, ground := Go.Ground.phase }, { on := 10, ground := Go.Ground.phase }, { on := 11, ground := Go.Ground.phase }, { on := 12, ground := Go.Ground.phase }, { on := 13, ground := Go.Ground.phase }, { on := 14, ground := Go.Ground.phase }, { on := 15, ground := Go.Ground.phase }, { on := 16, ground := Go.Ground.phase }, { on := 17, ground := Go.Ground.phase }, { on := 18, ground := Go.Ground.phase }, { on := 19, ground := Go.Ground.phase }, { on := 20, ground := Go.Ground.phase }, { on := 21, ground := Go.Ground.phase }, { on := 22, ground := Go.Ground.phase }, { on := 23, ground := Go.Ground.phase }, { on := 24, ground := Go.Ground.phase }, { on := 25, ground := Go.Ground.phase }, { on := 26, ground := Go.Ground.phase }, { on := 27, ground := Go.Ground.phase }, { on := 28, ground := Go.Ground.phase }, { on := 29, ground := Go.Ground.phase }, { on := 30, ground := Go.Ground.phase }, { on := 31, ground := Go.Ground.phase }, { on := 32, ground := Go.Ground.phase }, { on := 33, ground := Go.Ground.phase }, { on := 34, ground := Go.Ground.phase }, { on := 35, ground := Go.Ground.phase }, { on := 36, ground := Go.Ground.phase }, { on := 37, ground := Go.Ground.phase }, { on := 38, ground := Go.Ground.phase }, { on := 39, ground := Go.Ground.phase }, { on := 40, ground := Go.Ground.phase }, { on := 41, ground := Go.Ground.phase }], guard := none }) (v := ?_) rfl (by kernel_rfl) (by kernel_rfl) (by kernel_rfl) (by kernel_rfl) (fun _ _ _ h => h) (Or.inl ⟨by rfl, ?_⟩) hHeld ?_
      rotate_left 1
      · (intro w hSw; (try dsimp only at hSw); go_simp; first | done | with_reducible rfl)
      try simp only [Act.put, List.setIfInBounds_toArray, List.set_cons_zero, List.set_cons_succ]
      refine Bz.wpAnyE_done (by kernel_rfl) ?_ _
      refine NoPanic.normal ?_
      
      clear hHeld
      go_wp2_with fail
      go_ret
      exact ⟨by rw [HR.out]; rfl, (Keep.refl _ _).drew⟩
  · rw [decide_eq_false e1] at q1
    have HR : Hid (T.same U = false) := Lib.hid (by unfold FT.same; simp [e1])
    clear e1
    go_enter Try.func29, Try.ntmps29
    go_wp2_with fail
    refine wp_region_noPanic ?_
    refine Bz.wp_region_E (S := (fun w' => (∀ i, w'.cell? ⟨t, i, none⟩ = (tcells T mb)[i]?) ∧ (∀ i, w'.cell? ⟨t', i, none⟩ = (tcells U mb')[i]?))) (E := []) (by kernel_rfl) (by exact ⟨c1, c2⟩) (fun hHeld => ?_)
    refine Bz.wpAnyE_take (i := 0) (oi := { dst := some 17, op := Go.Op.move (Go.Operand.tmp 0), type := 24, pos := "fork.go:151", after := #[], guard := none }) (v := ?_) rfl (by kernel_rfl) (by kernel_rfl) (by kernel_rfl) (by kernel_rfl) (fun _ _ _ h => h) (Or.inl ⟨by rfl, ?_⟩) hHeld ?_
    rotate_left 1
    · (intro w hSw; (try dsimp only at hSw); go_simp; first | done | with_reducible rfl)
    try simp only [Act.put, List.setIfInBounds_toArray, List.set_cons_zero, List.set_cons_succ]
    refine Bz.wpAnyE_take (i := 1) (oi := { dst := some 18, op := Go.Op.nilCheck (Go.Operand.tmp 17), type := 0, pos := "fork.go:151", after := #[{ on := 0, ground := Go.Ground.data }], guard := none }) (v := ?_) rfl (by kernel_rfl) (by kernel_rfl) (by kernel_rfl) (by kernel_rfl) (fun _ _ _ h => h) (Or.inl ⟨by rfl, ?_⟩) hHeld ?_
    rotate_left 1
    · (intro w hSw; (try dsimp only at hSw); go_simp; first | done | with_reducible rfl)
    try simp only [Act.put, List.setIfInBounds_toArray, List.set_cons_zero, List.set_cons_succ]
    refine Bz.wpAnyE_take (i := 2) (oi := { dst := some 19, op := Go.Op.fieldAddr 72 (Go.Operand.tmp 18) 0, type := 0, pos := "fork.go:151", after := #[{ on := 1, ground := Go.Ground.data }], guard := none }) (v := ?_) rfl (by kernel_rfl) (by kernel_rfl) (by kernel_rfl) (by kernel_rfl) (fun _ _ _ h => h) (Or.inl ⟨by rfl, ?_⟩) hHeld ?_
    rotate_left 1
    · (intro w hSw; (try dsimp only at hSw); go_simp; first | done | with_reducible rfl)
    try simp only [Act.put, List.setIfInBounds_toArray, List.set_cons_zero, List.set_cons_succ]
    refine Bz.wpAnyE_take (i := 3) (oi := { dst := some 20, op := Go.Op.load 29 (Go.Operand.tmp 19), type := 29, pos := "fork.go:151", after := #[{ on := 2, ground := Go.Ground.data }], guard := none }) (v := ?_) rfl (by kernel_rfl) (by kernel_rfl) (by kernel_rfl) (by kernel_rfl) (fun _ _ _ h => h) (Or.inl ⟨by rfl, ?_⟩) hHeld ?_
    rotate_left 1
    · (intro w hSw; (try dsimp only at hSw); go_simp; first | done | with_reducible rfl)
    try simp only [Act.put, List.setIfInBounds_toArray, List.set_cons_zero, List.set_cons_succ]
    refine Bz.wpAnyE_take (i := 4) (oi := { dst := some 21, op := Go.Op.move (Go.Operand.tmp 1), type := 24, pos := "fork.go:151", after := #[], guard := none }) (v := ?_) rfl (by kernel_rfl) (by kernel_rfl) (by kernel_rfl) (by kernel_rfl) (fun _ _ _ h => h) (Or.inl ⟨by rfl, ?_⟩) hHeld ?_
    rotate_left 1
    · (intro w hSw; (try dsimp only at hSw); go_simp; first | done | with_reducible rfl)
    try simp only [Act.put, List.setIfInBounds_toArray, List.set_cons_zero, List.set_cons_succ]
    refine Bz.wpAnyE_take (i := 5) (oi := { dst := some 22, op := Go.Op.nilCheck (Go.Operand.tmp 21), type := 0, pos := "fork.go:151", after := #[{ on := 4, ground := Go.Ground.data }], guard := none }) (v := ?_) rfl (by kernel_rfl) (by kernel_rfl) (by kernel_rfl) (by kernel_rfl) (fun _ _ _ h => h) (Or.inl ⟨by rfl, ?_⟩) hHeld ?_
    rotate_left 1
    · (intro w hSw; (try dsimp only at hSw); go_simp; first | done | with_reducible rfl)
    try simp only [Act.put, List.setIfInBounds_toArray, List.set_cons_zero, List.set_cons_succ]
    refine Bz.wpAnyE_take (i := 6) (oi := { dst := some 23, op := Go.Op.fieldAddr 72 (Go.Operand.tmp 22) 0, type := 0, pos := "fork.go:151", after := #[{ on := 5, ground := Go.Ground.data }], guard := none }) (v := ?_) rfl (by kernel_rfl) (by kernel_rfl) (by kernel_rfl) (by kernel_rfl) (fun _ _ _ h => h) (Or.inl ⟨by rfl, ?_⟩) hHeld ?_
    rotate_left 1
    · (intro w hSw; (try dsimp only at hSw); go_simp; first | done | with_reducible rfl)
    try simp only [Act.put, List.setIfInBounds_toArray, List.set_cons_zero, List.set_cons_succ]
    refine Bz.wpAnyE_take (i := 7) (oi := { dst := some 24, op := Go.Op.load 29 (Go.Operand.tmp 23), type := 29, pos := "fork.go:151", after := #[{ on := 6, ground := Go.Ground.data }], guard := none }) (v := ?_) rfl (by kernel_rfl) (by kernel_rfl) (by kernel_rfl) (by kernel_rfl) (fun _ _ _ h => h) (Or.inl ⟨by rfl, ?_⟩) hHeld ?_
    rotate_left 1
    · (intro w hSw; (try dsimp only at hSw); go_simp; first | done | with_reducible rfl)
    try simp only [Act.put, List.setIfInBounds_toArray, List.set_cons_zero, List.set_cons_succ]
    refine Bz.wpAnyE_take (i := 8) (oi := { dst := some 25, op := Go.Op.binOp Go.BinOp.eql 29 (Go.Operand.tmp 20) (Go.Operand.tmp 24) 29, type := 4, pos := "fork.go:151", after := #[{ on := 3, ground := Go.Ground.data }, { on := 7, ground := Go.Ground.data }], guard := none }) (v := ?_) rfl (by kernel_rfl) (by kernel_rfl) (by kernel_rfl) (by kernel_rfl) (fun _ _ _ h => h) (Or.inl ⟨by rfl, ?_⟩) hHeld ?_
    rotate_left 1
    · (intro w hSw; (try dsimp only at hSw); go_simp; first | done | with_reducible rfl)
    try simp only [Act.put, List.setIfInBounds_toArray, List.set_cons_zero, List.set_cons_succ]
    refine Bz.wpAnyE_take (i := 9) (oi := { dst := some 26, op := Go.Op.move (Go.Operand.tmp 25), type := 4, pos := "fork.go:151", after := #[{ on := 8, ground := Go.Ground.data }], guard := none }) (v := ?_) rfl (by kernel_rfl) (by kernel_rfl) (by kernel_rfl) (by kernel_rfl) (fun _ _ _ h => h) (Or.inl ⟨by rfl, ?_⟩) hHeld ?_
    rotate_left 1
    · (intro w hSw; (try dsimp only at hSw); go_simp; first | done | with_reducible rfl)
    try simp only [Act.put, List.setIfInBounds_toArray, List.set_cons_zero, List.set_cons_succ]
    refine Bz.wpAnyE_take (i := 10) (oi := { dst := some 27, op := Go.Op.move (Go.Operand.tmp 0), type := 24, pos := "fork.go:151", after := #[{ on := 9, ground := Go.Ground.guard }], guard := some (9, true) }) (v := undef) rfl (by kernel_rfl) (by kernel_rfl) (by kernel_rfl) (by kernel_rfl) (fun _ _ _ h => h) (Or.inr ⟨by rfl, rfl⟩) hHeld ?_
    try simp only [Act.put, List.setIfInBounds_toArray, List.set_cons_zero, List.set_cons_succ]
    refine Bz.wpAnyE_take (i := 11) (oi := { dst := some 28, op := Go.Op.nilCheck (Go.Operand.tmp 27), type := 0, pos := "fork.go:151", after := #[{ on := 10, ground := Go.Ground.data }, { on := 9, ground := Go.Ground.guard }], guard := some (9, true) }) (v := undef) rfl (by kernel_rfl) (by kernel_rfl) (by kernel_rfl) (by kernel_rfl) (fun _ _ _ h => h) (Or.inr ⟨by rfl, rfl⟩) hHeld ?_
    try simp only [Act.put, List.setIfInBounds_toArray, List.set_cons_zero, List.set_cons_succ]
    refine Bz.wpAnyE_take (i := 12) (oi := { dst := some 29, op := Go.Op.fieldAddr 72 (Go.Operand.tmp 28) 1, type := 0, pos := "fork.go:151", after := #[{ on := 11, ground := Go.Ground.data }, { on := 9, ground := Go.Ground.guard }], guard := some (9, true) }) (v := undef) rfl (by kernel_rfl) (by kernel_rfl) (by kernel_rfl) (by kernel_rfl) (fun _ _ _ h => h) (Or.inr ⟨by rfl, rfl⟩) hHeld ?_
    try simp only [Act.put, List.setIfInBounds_toArray, List.set_cons_zero, List.set_cons_succ]
    refine Bz.wpAnyE_take (i := 13) (oi := { dst := some 30, op := Go.Op.load 29 (Go.Operand.tmp 29), type := 29, pos := "fork.go:151", after := #[{ on := 12, ground := Go.Ground.data }, { on := 9, ground := Go.Ground.guard }], guard := some (9, true) }) (v := undef) rfl (by kernel_rfl) (by kernel_rfl) (by kernel_rfl) (by kernel_rfl) (fun _ _ _ h => h) (Or.inr ⟨by rfl, rfl⟩) hHeld ?_
    try simp only [Act.put, List.setIfInBounds_toArray, List.set_cons_zero, List.set_cons_succ]
    refine Bz.wpAnyE_take (i := 14) (oi := { dst := some 31, op := Go.Op.move (Go.Operand.tmp 1), type := 24, pos := "fork.go:151", after := #[{ on := 9, ground := Go.Ground.guard }], guard := some (9, true) }) (v := undef) rfl (by kernel_rfl) (by kernel_rfl) (by kernel_rfl) (by kernel_rfl) (fun _ _ _ h => h) (Or.inr ⟨by rfl, rfl⟩) hHeld ?_
    try simp only [Act.put, List.setIfInBounds_toArray, List.set_cons_zero, List.set_cons_succ]
    refine Bz.wpAnyE_take (i := 15) (oi := { dst := some 32, op := Go.Op.nilCheck (Go.Operand.tmp 31), type := 0, pos := "fork.go:151", after := #[{ on := 14, ground := Go.Ground.data }, { on := 9, ground := Go.Ground.guard }], guard := some (9, true) }) (v := undef) rfl (by kernel_rfl) (by kernel_rfl) (by kernel_rfl) (by kernel_rfl) (fun _ _ _ h => h) (Or.inr ⟨by rfl, rfl⟩) hHeld ?_
    try simp only [Act.put, List.setIfInBounds_toArray, List.set_cons_zero, List.set_cons_succ]
    refine Bz.wpAnyE_take (i := 16) (oi := { dst := some 33, op := Go.Op.fieldAddr 72 (Go.Operand.tmp 32) 1, type := 0, pos := "fork.go:151", after := #[{ on := 15, ground := Go.Ground.data }, { on := 9, ground := Go.Ground.guard }], guard := some (9, true) }) (v := undef) rfl (by kernel_rfl) (by kernel_rfl) (by kernel_rfl) (by kernel_rfl) (fun _ _ _ h => h) (Or.inr ⟨by rfl, rfl⟩) hHeld ?_
    try simp only [Act.put, List.setIfInBounds_toArray, List.set_cons_zero, List.set_cons_succ]
    refine Bz.wpAnyE_take (i := 17) (oi := { dst := some 34, op := Go.Op.load 29 (Go.Operand.tmp 33), type := 29, pos := "fork.go:151", after := #[{ on := 16, ground := Go.Ground.data }, { on := 9, ground := Go.Ground.guard }], guard := some (9, true) }) (v := undef) rfl (by kernel_rfl) (by kernel_rfl) (by kernel_rfl) (by kernel_rfl) (fun _ _ _ h => h) (Or.inr ⟨by rfl, rfl⟩) hHeld ?_
    try simp only [Act.put, List.setIfInBounds_toArray, List.set_cons_zero, List.set_cons_succ]
    refine Bz.wpAnyE_take (i := 18) (oi := { dst := some 35, op := Go.Op.binOp Go.BinOp.eql 29 (Go.Operand.tmp 30) (Go.Operand.tmp 34) 29, type := 4, pos := "fork.go:151", after := #[{ on := 13, ground := Go.Ground.data }, { on := 17, ground := Go.Ground.data }, { on := 9, ground := Go.Ground.guard }], guard := some (9, true) }) (v := undef) rfl (by kernel_rfl) (by kernel_rfl) (by kernel_rfl) (by kernel_rfl) (fun _ _ _ h => h) (Or.inr ⟨by rfl, rfl⟩) hHeld ?_
    try simp only [Act.put, List.setIfInBounds_toArray, List.set_cons_zero, List.set_cons_succ]
    refine Bz.wpAnyE_take (i := 19) (oi := { dst := some 36, op := Go.Op.pick (Go.Operand.tmp 26) (Go.Operand.tmp 35) (Go.Operand.const (Go.Value.bool false)), type := 4, pos := "fork.go:151", after := #[{ on := 9, ground := Go.Ground.data }, { on := 18, ground := Go.Ground.data }], guard := none }) (v := ?_) rfl (by kernel_rfl) (by kernel_rfl) (by kernel_rfl) (by kernel_rfl) (fun _ _ _ h => h) (Or.inl ⟨by rfl, ?_⟩) hHeld ?_
    rotate_left 1
    · (intro w hSw; (try dsimp only at hSw); go_simp; first | done | with_reducible rfl)
    try simp only [Act.put, List.setIfInBounds_toArray, List.set_cons_zero, List.set_cons_succ]
    refine Bz.wpAnyE_take (i := 20) (oi := { dst := some 37, op := Go.Op.move (Go.Operand.tmp 36), type := 4, pos := "fork.go:151", after := #[{ on := 19, ground := Go.Ground.data }, { on := 9, ground := Go.Ground.chain }], guard := none }) (v := ?_) rfl (by kernel_rfl) (by kernel_rfl) (by kernel_rfl) (by kernel_rfl) (fun _ _ _ h => h) (Or.inl ⟨by rfl, ?_⟩) hHeld ?_
    rotate_left 1
    · (intro w hSw; (try dsimp only at hSw); go_simp; first | done | with_reducible rfl)
    try simp only [Act.put, List.setIfInBounds_toArray, List.set_cons_zero, List.set_cons_succ]
    refine Bz.wpAnyE_take (i := 21) (oi := { dst := some 38, op := Go.Op.move (Go.Operand.tmp 0), type := 24, pos := "fork.go:151", after := #[{ on := 20, ground := Go.Ground.guard }], guard := some (20, true) }) (v := undef) rfl (by kernel_rfl) (by kernel_rfl) (by kernel_rfl) (by kernel_rfl) (fun _ _ _ h => h) (Or.inr ⟨by rfl, rfl⟩) hHeld ?_
    try simp only [Act.put, List.setIfInBounds_toArray, List.set_cons_zero, List.set_cons_succ]
    refine Bz.wpAnyE_take (i := 22) (oi := { dst := some 39, op := Go.Op.nilCheck (Go.Operand.tmp 38), type := 0, pos := "fork.go:151", after := #[{ on := 21, ground := Go.Ground.data }, { on := 20, ground := Go.Ground.guard }], guard := some (20, true) }) (v := undef) rfl (by kernel_rfl) (by kernel_rfl) (by kernel_rfl) (by kernel_rfl) (fun _ _ _ h => h) (Or.inr ⟨by rfl, rfl⟩) hHeld ?_
    try simp only [Act.put, List.setIfInBounds_toArray, List.set_cons_zero, List.set_cons_succ]
    refine Bz.wpAnyE_take (i := 23) (oi := { dst := some 40, op := Go.Op.fieldAddr 72 (Go.Operand.tmp 39) 2, type := 0, pos := "fork.go:151", after := #[{ on := 22, ground := Go.Ground.data }, { on := 20, ground := Go.Ground.guard }], guard := some (20, true) }) (v := undef) rfl (by kernel_rfl) (by kernel_rfl) (by kernel_rfl) (by kernel_rfl) (fun _ _ _ h => h) (Or.inr ⟨by rfl, rfl⟩) hHeld ?_
    try simp only [Act.put, List.setIfInBounds_toArray, List.set_cons_zero, List.set_cons_succ]
    refine Bz.wpAnyE_take (i := 24) (oi := { dst := some 41, op := Go.Op.load 3 (Go.Operand.tmp 40), type := 3, pos := "fork.go:151", after := #[{ on := 23, ground := Go.Ground.data }, { on := 20, ground := Go.Ground.guard }], guard := some (20, true) }) (v := undef) rfl (by kernel_rfl) (by kernel_rfl) (by kernel_rfl) (by kernel_rfl) (fun _ _ _ h => h) (Or.inr ⟨by rfl, rfl⟩) hHeld ?_
    try simp only [Act.put, List.setIfInBounds_toArray, List.set_cons_zero, List.set_cons_succ]
    refine Bz.wpAnyE_take (i := 25) (oi := { dst := some 42, op := Go.Op.move (Go.Operand.tmp 1), type := 24, pos := "fork.go:151", after := #[{ on := 20, ground := Go.Ground.guard }], guard := some (20, true) }) (v := undef) rfl (by kernel_rfl) (by kernel_rfl) (by kernel_rfl) (by kernel_rfl) (fun _ _ _ h => h) (Or.inr ⟨by rfl, rfl⟩) hHeld ?_
    try simp only [Act.put, List.setIfInBounds_toArray, List.set_cons_zero, List.set_cons_succ]
    refine Bz.wpAnyE_take (i := 26) (oi := { dst := some 43, op := Go.Op.nilCheck (Go.Operand.tmp 42), type := 0, pos := "fork.go:151", after := #[{ on := 25, ground := Go.Ground.data }, { on := 20, ground := Go.Ground.guard }], guard := some (20, true) }) (v := undef) rfl (by kernel_rfl) (by kernel_rfl) (by kernel_rfl) (by kernel_rfl) (fun _ _ _ h => h) (Or.inr ⟨by rfl, rfl⟩) hHeld ?_
    try simp only [Act.put, List.setIfInBounds_toArray, List.set_cons_zero, List.set_cons_succ]
    refine Bz.wpAnyE_take (i := 27) (oi := { dst := some 44, op := Go.Op.fieldAddr 72 (Go.Operand.tmp 43) 2, type := 0, pos := "fork.go:151", after := #[{ on := 26, ground := Go.Ground.data }, { on := 20, ground := Go.Ground.guard }], guard := some (20, true) }) (v := undef) rfl (by kernel_rfl) (by kernel_rfl) (by kernel_rfl) (by kernel_rfl) (fun _ _ _ h => h) (Or.inr ⟨by rfl, rfl⟩) hHeld ?_
    try simp only [Act.put, List.setIfInBounds_toArray, List.set_cons_zero, List.set_cons_succ]
    refine Bz.wpAnyE_take (i := 28) (oi := { dst := some 45, op := Go.Op.load 3 (Go.Operand.tmp 44), type := 3, pos := "fork.go:151", after := #[{ on := 27, ground := Go.Ground.data }, { on := 20, ground := Go.Ground.guard }], guard := some (20, true) }) (v := undef) rfl (by kernel_rfl) (by kernel_rfl) (by kernel_rfl) (by kernel_rfl) (fun _ _ _ h => h) (Or.inr ⟨by rfl, rfl⟩) hHeld ?_
    try simp only [Act.put, List.setIfInBounds_toArray, List.set_cons_zero, List.set_cons_succ]
    refine Bz.wpAnyE_take (i := 29) (oi := { dst := some 46, op := Go.Op.binOp Go.BinOp.eql 3 (Go.Operand.tmp 41) (Go.Operand.tmp 45) 3, type := 4, pos := "fork.go:151", after := #[{ on := 24, ground := Go.Ground.data }, { on := 28, ground := Go.Ground.data }, { on := 20, ground := Go.Ground.guard }], guard := some (20, true) }) (v := undef) rfl (by kernel_rfl) (by kernel_rfl) (by kernel_rfl) (by kernel_rfl) (fun _ _ _ h => h) (Or.inr ⟨by rfl, rfl⟩) hHeld ?_
    try simp only [Act.put, List.setIfInBounds_toArray, List.set_cons_zero, List.set_cons_succ]
    refine Bz.wpAnyE_take (i := 30) (oi := { dst := some 47, op := Go.Op.pick (Go.Operand.tmp 37) (Go.Operand.tmp 46) (Go.Operand.const (Go.Value.bool false)), type := 4, pos := "fork.go:151", after := #[{ on := 20, ground := Go.Ground.data }, { on := 29, ground := Go.Ground.data }], guard := none }) (v := ?_) rfl (by kernel_rfl) (by kernel_rfl) (by kernel_rfl) (by kernel_rfl) (fun _ _ _ h => h) (Or.inl ⟨by rfl, ?_⟩) hHeld ?_
    rotate_left 1
    · (intro w hSw; (try dsimp only at hSw); go_simp; first | done | with_reducible rfl)
    try simp only [Act.put, List.setIfInBounds_toArray, List.set_cons_zero, List.set_cons_succ]
    refine Bz.wpAnyE_take (i := 31) (oi := { dst := some 48, op := Go.Op.move (Go.Operand.tmp 47), type := 4, pos := "fork.go:151", after := #[{ on := 30, ground := Go.Ground.data }, { on := 20, ground := Go.Ground.chain }], guard := none }) (v := ?_) rfl (by kernel_rfl) (by kernel_rfl) (by kernel_rfl) (by kernel_rfl) (fun _ _ _ h => h) (Or.inl ⟨by rfl, ?_⟩) hHeld ?_
    rotate_left 1
    · (intro w hSw; (try dsimp only at hSw); go_simp; first | done | with_reducible rfl)
    try simp only [Act.put, List.setIfInBounds_toArray, List.set_cons_zero, List.set_cons_succ]
    refine Bz.wpAnyE_take (i := 32) (oi := { dst := some 49, op := Go.Op.move (Go.Operand.tmp 0), type := 24, pos := "fork.go:151", after := #[{ on := 31, ground := Go.Ground.guard }], guard := some (31, true) }) (v := undef) rfl (by kernel_rfl) (by kernel_rfl) (by kernel_rfl) (by kernel_rfl) (fun _ _ _ h => h) (Or.inr ⟨by rfl, rfl⟩) hHeld ?_
    try simp only [Act.put, List.setIfInBounds_toArray, List.set_cons_zero, List.set_cons_succ]
    refine Bz.wpAnyE_take (i := 33) (oi := { dst := some 50, op := Go.Op.nilCheck (Go.Operand.tmp 49), type := 0, pos := "fork.go:151", after := #[{ on := 32, ground := Go.Ground.data }, { on := 31, ground := Go.Ground.guard }], guard := some (31, true) }) (v := undef) rfl (by kernel_rfl) (by kernel_rfl) (by kernel_rfl) (by kernel_rfl) (fun _ _ _ h => h) (Or.inr ⟨by rfl, rfl⟩) hHeld ?_
    try simp only [Act.put, List.setIfInBounds_toArray, List.set_cons_zero, List.set_cons_succ]
    refine Bz.wpAnyE_take (i := 34) (oi := { dst := some 51, op := Go.Op.fieldAddr 72 (Go.Operand.tmp 50) 3, type := 0, pos := "fork.go:151", after := #[{ on := 33, ground := Go.Ground.data }, { on := 31, ground := Go.Ground.guard }], guard := some (31, true) }) (v := undef) rfl (by kernel_rfl) (by kernel_rfl) (by kernel_rfl) (by kernel_rfl) (fun _ _ _ h => h) (Or.inr ⟨by rfl, rfl⟩) hHeld ?_
    try simp only [Act.put, List.setIfInBounds_toArray, List.set_cons_zero, List.set_cons_succ]
    refine Bz.wpAnyE_take (i := 35) (oi := { dst := some 52, op := Go.Op.load 70 (Go.Operand.tmp 51), type := 70, pos := "fork.go:151", after := #[{ on := 34, ground := Go.Ground.data }, { on := 31, ground := Go.Ground.guard }], guard := some (31, true) }) (v := undef) rfl (by kernel_rfl) (by kernel_rfl) (by kernel_rfl) (by kernel_rfl) (fun _ _ _ h => h) (Or.inr ⟨by rfl, rfl⟩) hHeld ?_
    try simp only [Act.put, List.setIfInBounds_toArray, List.set_cons_zero, List.set_cons_succ]
    refine Bz.wpAnyE_take (i := 36) (oi := { dst := some 53, op := Go.Op.move (Go.Operand.tmp 1), type := 24, pos := "fork.go:151", after := #[{ on := 31, ground := Go.Ground.guard }], guard := some (31, true) }) (v := undef) rfl (by kernel_rfl) (by kernel_rfl) (by kernel_rfl) (by kernel_rfl) (fun _ _ _ h => h) (Or.inr ⟨by rfl, rfl⟩) hHeld ?_
    try simp only [Act.put, List.setIfInBounds_toArray, List.set_cons_zero, List.set_cons_succ]
    refine Bz.wpAnyE_take (i := 37) (oi := { dst := some 54, op := Go.Op.nilCheck (Go.Operand.tmp 53), type := 0, pos := "fork.go:151", after := #[{ on := 36, ground := Go.Ground.data }, { on := 31, ground := Go.Ground.guard }], guard := some (31, true) }) (v := undef) rfl (by kernel_rfl) (by kernel_rfl) (by kernel_rfl) (by kernel_rfl) (fun _ _ _ h => h) (Or.inr ⟨by rfl, rfl⟩) hHeld ?_
    try simp only [Act.put, List.setIfInBounds_toArray, List.set_cons_zero, List.set_cons_succ]
    refine Bz.wpAnyE_take (i := 38) (oi := { dst := some 55, op := Go.Op.fieldAddr 72 (Go.Operand.tmp 54) 3, type := 0, pos := "fork.go:151", after := #[{ on := 37, ground := Go.Ground.data }, { on := 31, ground := Go.Ground.guard }], guard := some (31, true) }) (v := undef) rfl (by kernel_rfl) (by kernel_rfl) (by kernel_rfl) (by kernel_rfl) (fun _ _ _ h => h) (Or.inr ⟨by rfl, rfl⟩) hHeld ?_
    try simp only [Act.put, List.setIfInBounds_toArray, List.set_cons_zero, List.set_cons_succ]
    refine Bz.wpAnyE_take (i := 39) (oi := { dst := some 56, op := Go.Op.load 70 (Go.Operand.tmp 55), type := 70, pos := "fork.go:151", after := #[{ on := 38, ground := Go.Ground.data }, { on := 31, ground := Go.Ground.guard }], guard := some (31, true) }) (v := undef) rfl (by kernel_rfl) (by kernel_rfl) (by kernel_rfl) (by kernel_rfl) (fun _ _ _ h => h) (Or.inr ⟨by rfl, rfl⟩) hHeld ?_
    try simp only [Act.put, List.setIfInBounds_toArray, List.set_cons_zero, List.set_cons_succ]
    refine Bz.wpAnyE_take (i := 40) (oi := { dst := some 57, op := Go.Op.call { callee := Go.Callee.value (Go.Operand.func 37), args := #[Go.Operand.tmp 52, Go.Operand.tmp 56], argTypes := #[70, 70] }, type := 4, pos := "fork.go:151", after := #[{ on := 35, ground := Go.Ground.data }, { on := 39, ground := Go.Ground.data }, { on := 31, ground := Go.Ground.chain }, { on := 31, ground := Go.Ground.guard }], guard := some (31, true) }) (v := undef) rfl (by kernel_rfl) (by kernel_rfl) (by kernel_rfl) (by kernel_rfl) (fun _ _ _ h => h) (Or.inr ⟨by rfl, rfl⟩) hHeld ?_
    try simp only [Act.put, List.setIfInBounds_toArray, List.set_cons_zero, List.set_cons_succ]
    refine Bz.wpAnyE_take (i := 41) (oi := { dst := some 58, op := Go.Op.pick (Go.Operand.tmp 48) (Go.Operand.tmp 57) (Go.Operand.const (Go.Value.bool false)), type := 4, pos := "fork.go:151", after := #[{ on := 31, ground := Go.Ground.data }, { on := 40, ground := Go.Ground.data }], guard := none }) (v := ?_) rfl (by kernel_rfl) (by kernel_rfl) (by kernel_rfl) (by kernel_rfl) (fun _ _ _ h => h) (Or.inl ⟨by rfl, ?_⟩) hHeld ?_
    rotate_left 1
    · (intro w hSw; (try dsimp only at hSw); go_simp; first | done | with_reducible rfl)
    try simp only [Act.put, List.setIfInBounds_toArray, List.set_cons_zero, List.set_cons_succ]
    refine Bz.wpAnyE_take (i := 42) (oi := { dst := some 4, op := Go.Op.assign (Go.Operand.tmp 58), type := 4, pos := "fork.go:151", after := #[{ on := 41, ground := Go.Ground.data }, { on := 40, ground := Go.Ground.chain }, { on := 0, ground := Go.Ground.phase }, { on := 1, ground := Go.Ground.phase }, { on := 2, ground := Go.Ground.phase }, { on := 3, ground := Go.Ground.phase }, { on := 4, ground := Go.Ground.phase }, { on := 5, ground := Go.Ground.phase }, { on := 6, ground := Go.Ground.phase }, { on := 7, ground := Go.Ground.phase }, { on := 8, ground := Go.Ground.phase }, { on := 9, ground := Go.Ground.phase }, { on := 10, ground := Go.Ground.phase }, { on := 11, ground := Go.Ground.phase }, { on := 12, ground := Go.Ground.phase }, { on := 13, ground := Go.Ground.phase }, { on := 14, ground := Go.Ground.phase }, { on := 15, ground := Go.Ground.phase }, { on := 16, ground := Go.Ground.phase }, { on := 17, ground := Go.Ground.phase }, { on := 18, ground := Go.Ground.phase }, { on := 19, ground := Go.Ground.phase }, { on := 20, ground := Go.Ground.phase }, { on := 21, ground := Go.Ground.phase }, { on := 22, ground := Go.Ground.phase }, { on := 23, ground := Go.Ground.phase }, { on := 24, ground := Go.Ground.phase }, { on := 25, ground := Go.Ground.phase }, { on := 26, ground := Go.Ground.phase }, { on := 27, ground := Go.Ground.phase }, { on := 28, ground := Go.Ground.phase }, { on := 29, ground := Go.Ground.phase }, { on := 30, ground := Go.Ground.phase }, { on := 31, ground := Go.Ground.phase }, { on := 32, ground := Go.Ground.phase }, { on := 33, ground := Go.Ground.phase }, { on := 34, ground := Go.Ground.phase }, { on := 35, ground := Go.Ground.phase }, { on := 36, ground := Go.Ground.phase }, { on := 37, ground := Go.Ground.phase }, { on := 38, ground := Go.Ground.phase }, { on := 39, ground := Go.Ground.phase }, { on := 40, ground := Go.Ground.phase }, { on := 41, ground := Go.Ground.phase }], guard := none }) (v := ?_) rfl (by kernel_rfl) (by kernel_rfl) (by kernel_rfl) (by kernel_rfl) (fun _ _ _ h => h) (Or.inl ⟨by rfl, ?_⟩) hHeld ?_
    rotate_left 1
    · (intro w hSw; (try dsimp only at hSw); go_simp; first | done | with_reducible rfl)
    try simp only [Act.put, List.setIfInBounds_toArray, List.set_cons_zero, List.set_cons_succ]
    refine Bz.wpAnyE_done (by kernel_rfl) ?_ _
    refine NoPanic.normal ?_
    
    clear hHeld
    go_wp2_with fail
    go_ret
    exact ⟨by rw [HR.out]; rfl, (Keep.refl _ _).drew⟩
end Go.Proofs.Ytbkchniomhdieaa
