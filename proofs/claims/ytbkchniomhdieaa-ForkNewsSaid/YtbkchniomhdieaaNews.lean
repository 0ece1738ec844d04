/- ForkNews walked. -/
import Derived.Test.YtbkchniomhdieaaNil
import Derived.Test.YtbkchniomhdieaaTold
import Derived.Test.YtbkchniomhdieaaFinalLaw
namespace Go.Proofs.Ytbkchniomhdieaa
open Go.RowKit Go.Bz

set_option maxRecDepth 100000 in
set_option maxHeartbeats 2000000 in
theorem news_bad (d : D8) (n : Int) (w : World) (hn : n < 0 ∨ 1000 < n) : Calls Try.prog 9 #[dv d, .int .i64 n] w (fun e w' => e = .returned (.bool true) ∧ Keep [] w w') := by
  have hz : decide (d = d) = true := decide_eq_true rfl
  have hB0 := Blk.new w 29 (dcells d)
  have hK0 := (Keep.refl [] w).alloc (.cells (dcells d) 29)
  have q := fun W => run_eqD8 (P := Try.prog) W dt29 9998 ⟨0, 0, 0, 0, 0, 0, 0, 0⟩ ⟨0, 0, 0, 0, 0, 0, 0, 0⟩
  rw [decide_eq_true rfl] at q
  have NB := fun W => new_bad d n W hn
  by_cases h0 : n < 0
  · go_enter Try.func9, Try.ntmps9
    go_wp2_with (first
      | (go_at_call 10; refine (NB _).mono ?_; rintro e w1 ⟨rfl, hk⟩; have hB0 := hB0.keep hk (by simp); have hK0 := hK0.trans hk; have c0 := hB0.cell)
      | (go_at_call 23; refine (nil_parent _ _).mono ?_; rintro e w1 ⟨rfl, hk⟩; have hB0 := hB0.keep hk (by simp); have hK0 := hK0.trans hk; have c0 := hB0.cell)
      | (go_at_call 12; refine (told_any _).mono ?_; rintro e w2 ⟨rfl, hk⟩; have hB0 := (hB0.alloc _).keep hk (by simp); have hK0 := (hK0.alloc _).trans hk; have c0 := hB0.cell)
      | (go_at_call 14; refine (nil_add _ _ _).mono ?_; rintro e w1 ⟨rfl, hk⟩; have hB0 := hB0.keep hk (by simp); have hK0 := hK0.trans hk; have c0 := hB0.cell)
      | (go_at_call 16; refine (nil_height _ _).mono ?_; rintro e w1 ⟨rfl, hk⟩; have hB0 := hB0.keep hk (by simp); have hK0 := hK0.trans hk; have c0 := hB0.cell)
      | (go_at_call 13; refine (nil_tip _).mono ?_; rintro e w1 ⟨rfl, hk⟩; have hB0 := hB0.keep hk (by simp); have hK0 := hK0.trans hk; have c0 := hB0.cell)
      | (go_at_call 18; refine (nil_line _ _).mono ?_; rintro e w1 ⟨rfl, hk⟩; have hB0 := hB0.keep hk (by simp); have hK0 := hK0.trans hk; have c0 := hB0.cell)
      | (go_at_call 21; refine (nil_final _).mono ?_; rintro e w1 ⟨rfl, hk⟩; have hB0 := hB0.keep hk (by simp); have hK0 := hK0.trans hk; have c0 := hB0.cell)
      | (go_at_call 15; refine (nil_undone _ _ _).mono ?_; rintro e w1 ⟨rfl, hk⟩; have hB0 := hB0.keep hk (by simp); have hK0 := hK0.trans hk; have c0 := hB0.cell)
      | (go_at_call 28; refine (nil_clone _).mono ?_; rintro e w1 ⟨rfl, hk⟩; have hB0 := hB0.keep hk (by simp); have hK0 := hK0.trans hk; have c0 := hB0.cell)
      | (go_at_call 29; refine (nil_same _ _).mono ?_; rintro e w1 ⟨rfl, hk⟩; have hB0 := hB0.keep hk (by simp); have hK0 := hK0.trans hk; have c0 := hB0.cell))
    have c0 := hB0.cell
    refine wp_region_noPanic ?_
    refine Bz.wp_region_E (S := (fun w' => ∀ i, w'.cell? ⟨w.heap.size, i, none⟩ = (dcells d)[i]?)) (E := []) (by kernel_rfl) (by exact c0) (fun hHeld => ?_)
    refine Bz.wpAnyE_take (i := 0) (oi := { dst := some 102, op := Go.Op.move (Go.Operand.tmp 5), type := 24, pos := "law.go:208", after := #[], guard := none }) (v := ?_) rfl (by kernel_rfl) (by kernel_rfl) (by kernel_rfl) (by kernel_rfl) (fun _ _ _ h => h) (Or.inl ⟨by rfl, ?_⟩) hHeld ?_
    rotate_left 1
    · (intro w hSw; (try dsimp only at hSw); go_simp; first | done | with_reducible rfl)
    try simp only [Act.put, List.setIfInBounds_toArray, List.set_cons_zero, List.set_cons_succ]
    refine Bz.wpAnyE_take (i := 1) (oi := { dst := some 103, op := Go.Op.binOp Go.BinOp.eql 24 (Go.Operand.tmp 102) (Go.Operand.const (Go.Value.pointer none)) 24, type := 4, pos := "law.go:208", after := #[{ on := 0, ground := Go.Ground.data }], guard := none }) (v := ?_) rfl (by kernel_rfl) (by kernel_rfl) (by kernel_rfl) (by kernel_rfl) (fun _ _ _ h => h) (Or.inl ⟨by rfl, ?_⟩) hHeld ?_
    rotate_left 1
    · (intro w hSw; (try dsimp only at hSw); go_simp; first | done | with_reducible rfl)
    try simp only [Act.put, List.setIfInBounds_toArray, List.set_cons_zero, List.set_cons_succ]
    refine Bz.wpAnyE_take (i := 2) (oi := { dst := some 104, op := Go.Op.move (Go.Operand.tmp 103), type := 4, pos := "law.go:208", after := #[{ on := 1, ground := Go.Ground.data }], guard := none }) (v := ?_) rfl (by kernel_rfl) (by kernel_rfl) (by kernel_rfl) (by kernel_rfl) (fun _ _ _ h => h) (Or.inl ⟨by rfl, ?_⟩) hHeld ?_
    rotate_left 1
    · (intro w hSw; (try dsimp only at hSw); go_simp; first | done | with_reducible rfl)
    try simp only [Act.put, List.setIfInBounds_toArray, List.set_cons_zero, List.set_cons_succ]
    refine Bz.wpAnyE_take (i := 3) (oi := { dst := some 105, op := Go.Op.move (Go.Operand.tmp 8), type := 24, pos := "law.go:208", after := #[{ on := 2, ground := Go.Ground.guard }], guard := some (2, false) }) (v := undef) rfl (by kernel_rfl) (by kernel_rfl) (by kernel_rfl) (by kernel_rfl) (fun _ _ _ h => h) (Or.inr ⟨by rfl, rfl⟩) hHeld ?_
    try simp only [Act.put, List.setIfInBounds_toArray, List.set_cons_zero, List.set_cons_succ]
    refine Bz.wpAnyE_take (i := 4) (oi := { dst := some 106, op := Go.Op.move (Go.Operand.tmp 5), type := 24, pos := "law.go:208", after := #[{ on := 2, ground := Go.Ground.guard }], guard := some (2, false) }) (v := undef) rfl (by kernel_rfl) (by kernel_rfl) (by kernel_rfl) (by kernel_rfl) (fun _ _ _ h => h) (Or.inr ⟨by rfl, rfl⟩) hHeld ?_
    try simp only [Act.put, List.setIfInBounds_toArray, List.set_cons_zero, List.set_cons_succ]
    refine Bz.wpAnyE_take (i := 5) (oi := { dst := some 107, op := Go.Op.call { callee := Go.Callee.value (Go.Operand.func 29), args := #[Go.Operand.tmp 105, Go.Operand.tmp 106], argTypes := #[24, 24] }, type := 4, pos := "law.go:208", after := #[{ on := 3, ground := Go.Ground.data }, { on := 4, ground := Go.Ground.data }, { on := 2, ground := Go.Ground.chain }, { on := 2, ground := Go.Ground.guard }], guard := some (2, false) }) (v := undef) rfl (by kernel_rfl) (by kernel_rfl) (by kernel_rfl) (by kernel_rfl) (fun _ _ _ h => h) (Or.inr ⟨by rfl, rfl⟩) hHeld ?_
    try simp only [Act.put, List.setIfInBounds_toArray, List.set_cons_zero, List.set_cons_succ]
    refine Bz.wpAnyE_take (i := 6) (oi := { dst := some 108, op := Go.Op.unOp Go.UnOp.not 4 (Go.Operand.tmp 107), type := 4, pos := "law.go:208", after := #[{ on := 5, ground := Go.Ground.data }, { on := 2, ground := Go.Ground.guard }], guard := some (2, false) }) (v := undef) rfl (by kernel_rfl) (by kernel_rfl) (by kernel_rfl) (by kernel_rfl) (fun _ _ _ h => h) (Or.inr ⟨by rfl, rfl⟩) hHeld ?_
    try simp only [Act.put, List.setIfInBounds_toArray, List.set_cons_zero, List.set_cons_succ]
    refine Bz.wpAnyE_take (i := 7) (oi := { dst := some 109, op := Go.Op.move (Go.Operand.tmp 108), type := 4, pos := "law.go:208", after := #[{ on := 6, ground := Go.Ground.data }, { on := 5, ground := Go.Ground.chain }, { on := 2, ground := Go.Ground.guard }], guard := some (2, false) }) (v := undef) rfl (by kernel_rfl) (by kernel_rfl) (by kernel_rfl) (by kernel_rfl) (fun _ _ _ h => h) (Or.inr ⟨by rfl, rfl⟩) hHeld ?_
    try simp only [Act.put, List.setIfInBounds_toArray, List.set_cons_zero, List.set_cons_succ]
    refine Bz.wpAnyE_take (i := 8) (oi := { dst := some 110, op := Go.Op.move (Go.Operand.tmp 5), type := 24, pos := "law.go:208", after := #[{ on := 7, ground := Go.Ground.guard }], guard := some (7, true) }) (v := undef) rfl (by kernel_rfl) (by kernel_rfl) (by kernel_rfl) (by kernel_rfl) (fun _ _ _ h => h) (Or.inr ⟨by rfl, rfl⟩) hHeld ?_
    try simp only [Act.put, List.setIfInBounds_toArray, List.set_cons_zero, List.set_cons_succ]
    refine Bz.wpAnyE_take (i := 9) (oi := { dst := some 111, op := Go.Op.call { callee := Go.Callee.value (Go.Operand.func 13), args := #[Go.Operand.tmp 110], argTypes := #[24] }, type := 29, pos := "law.go:208", after := #[{ on := 8, ground := Go.Ground.data }, { on := 7, ground := Go.Ground.chain }, { on := 7, ground := Go.Ground.guard }], guard := some (7, true) }) (v := undef) rfl (by kernel_rfl) (by kernel_rfl) (by kernel_rfl) (by kernel_rfl) (fun _ _ _ h => h) (Or.inr ⟨by rfl, rfl⟩) hHeld ?_
    try simp only [Act.put, List.setIfInBounds_toArray, List.set_cons_zero, List.set_cons_succ]
    refine Bz.wpAnyE_take (i := 10) (oi := { dst := some 112, op := Go.Op.load 29 (Go.Operand.tmp 2), type := 29, pos := "law.go:208", after := #[{ on := 7, ground := Go.Ground.guard }], guard := some (7, true) }) (v := undef) rfl (by kernel_rfl) (by kernel_rfl) (by kernel_rfl) (by kernel_rfl) (fun _ _ _ h => h) (Or.inr ⟨by rfl, rfl⟩) hHeld ?_
    try simp only [Act.put, List.setIfInBounds_toArray, List.set_cons_zero, List.set_cons_succ]
    refine Bz.wpAnyE_take (i := 11) (oi := { dst := some 113, op := Go.Op.binOp Go.BinOp.eql 29 (Go.Operand.tmp 111) (Go.Operand.tmp 112) 29, type := 4, pos := "law.go:208", after := #[{ on := 9, ground := Go.Ground.data }, { on := 10, ground := Go.Ground.data }, { on := 7, ground := Go.Ground.guard }], guard := some (7, true) }) (v := undef) rfl (by kernel_rfl) (by kernel_rfl) (by kernel_rfl) (by kernel_rfl) (fun _ _ _ h => h) (Or.inr ⟨by rfl, rfl⟩) hHeld ?_
    try simp only [Act.put, List.setIfInBounds_toArray, List.set_cons_zero, List.set_cons_succ]
    refine Bz.wpAnyE_take (i := 12) (oi := { dst := some 114, op := Go.Op.pick (Go.Operand.tmp 109) (Go.Operand.tmp 113) (Go.Operand.const (Go.Value.bool false)), type := 4, pos := "law.go:208", after := #[{ on := 7, ground := Go.Ground.data }, { on := 11, ground := Go.Ground.data }, { on := 2, ground := Go.Ground.guard }], guard := some (2, false) }) (v := undef) rfl (by kernel_rfl) (by kernel_rfl) (by kernel_rfl) (by kernel_rfl) (fun _ _ _ h => h) (Or.inr ⟨by rfl, rfl⟩) hHeld ?_
    try simp only [Act.put, List.setIfInBounds_toArray, List.set_cons_zero, List.set_cons_succ]
    refine Bz.wpAnyE_take (i := 13) (oi := { dst := some 115, op := Go.Op.move (Go.Operand.tmp 114), type := 4, pos := "law.go:208", after := #[{ on := 12, ground := Go.Ground.data }, { on := 9, ground := Go.Ground.chain }, { on := 2, ground := Go.Ground.guard }], guard := some (2, false) }) (v := undef) rfl (by kernel_rfl) (by kernel_rfl) (by kernel_rfl) (by kernel_rfl) (fun _ _ _ h => h) (Or.inr ⟨by rfl, rfl⟩) hHeld ?_
    try simp only [Act.put, List.setIfInBounds_toArray, List.set_cons_zero, List.set_cons_succ]
    refine Bz.wpAnyE_take (i := 14) (oi := { dst := some 116, op := Go.Op.move (Go.Operand.tmp 5), type := 24, pos := "law.go:208", after := #[{ on := 13, ground := Go.Ground.guard }], guard := some (13, true) }) (v := undef) rfl (by kernel_rfl) (by kernel_rfl) (by kernel_rfl) (by kernel_rfl) (fun _ _ _ h => h) (Or.inr ⟨by rfl, rfl⟩) hHeld ?_
    try simp only [Act.put, List.setIfInBounds_toArray, List.set_cons_zero, List.set_cons_succ]
    refine Bz.wpAnyE_take (i := 15) (oi := { dst := some 117, op := Go.Op.load 29 (Go.Operand.tmp 2), type := 29, pos := "law.go:208", after := #[{ on := 13, ground := Go.Ground.guard }], guard := some (13, true) }) (v := undef) rfl (by kernel_rfl) (by kernel_rfl) (by kernel_rfl) (by kernel_rfl) (fun _ _ _ h => h) (Or.inr ⟨by rfl, rfl⟩) hHeld ?_
    try simp only [Act.put, List.setIfInBounds_toArray, List.set_cons_zero, List.set_cons_succ]
    refine Bz.wpAnyE_take (i := 16) (oi := { dst := some 118, op := Go.Op.call { callee := Go.Callee.value (Go.Operand.func 16), args := #[Go.Operand.tmp 116, Go.Operand.tmp 117], argTypes := #[24, 29] }, type := 3, pos := "law.go:208", after := #[{ on := 14, ground := Go.Ground.data }, { on := 15, ground := Go.Ground.data }, { on := 13, ground := Go.Ground.chain }, { on := 13, ground := Go.Ground.guard }], guard := some (13, true) }) (v := undef) rfl (by kernel_rfl) (by kernel_rfl) (by kernel_rfl) (by kernel_rfl) (fun _ _ _ h => h) (Or.inr ⟨by rfl, rfl⟩) hHeld ?_
    try simp only [Act.put, List.setIfInBounds_toArray, List.set_cons_zero, List.set_cons_succ]
    refine Bz.wpAnyE_take (i := 17) (oi := { dst := some 119, op := Go.Op.binOp Go.BinOp.eql 3 (Go.Operand.tmp 118) (Go.Operand.const (Go.Value.int Go.IntKind.i64 0)) 3, type := 4, pos := "law.go:208", after := #[{ on := 16, ground := Go.Ground.data }, { on := 13, ground := Go.Ground.guard }], guard := some (13, true) }) (v := undef) rfl (by kernel_rfl) (by kernel_rfl) (by kernel_rfl) (by kernel_rfl) (fun _ _ _ h => h) (Or.inr ⟨by rfl, rfl⟩) hHeld ?_
    try simp only [Act.put, List.setIfInBounds_toArray, List.set_cons_zero, List.set_cons_succ]
    refine Bz.wpAnyE_take (i := 18) (oi := { dst := some 120, op := Go.Op.pick (Go.Operand.tmp 115) (Go.Operand.tmp 119) (Go.Operand.const (Go.Value.bool false)), type := 4, pos := "law.go:208", after := #[{ on := 13, ground := Go.Ground.data }, { on := 17, ground := Go.Ground.data }, { on := 2, ground := Go.Ground.guard }], guard := some (2, false) }) (v := undef) rfl (by kernel_rfl) (by kernel_rfl) (by kernel_rfl) (by kernel_rfl) (fun _ _ _ h => h) (Or.inr ⟨by rfl, rfl⟩) hHeld ?_
    try simp only [Act.put, List.setIfInBounds_toArray, List.set_cons_zero, List.set_cons_succ]
    refine Bz.wpAnyE_take (i := 19) (oi := { dst := some 121, op := Go.Op.move (Go.Operand.tmp 120), type := 4, pos := "law.go:208", after := #[{ on := 18, ground := Go.Ground.data }, { on := 16, ground := Go.Ground.chain }, { on := 2, ground := Go.Ground.guard }], guard := some (2, false) }) (v := undef) rfl (by kernel_rfl) (by kernel_rfl) (by kernel_rfl) (by kernel_rfl) (fun _ _ _ h => h) (Or.inr ⟨by rfl, rfl⟩) hHeld ?_
    try simp only [Act.put, List.setIfInBounds_toArray, List.set_cons_zero, List.set_cons_succ]
    refine Bz.wpAnyE_take (i := 20) (oi := { dst := some 122, op := Go.Op.move (Go.Operand.tmp 5), type := 24, pos := "law.go:208", after := #[{ on := 19, ground := Go.Ground.guard }], guard := some (19, true) }) (v := undef) rfl (by kernel_rfl) (by kernel_rfl) (by kernel_rfl) (by kernel_rfl) (fun _ _ _ h => h) (Or.inr ⟨by rfl, rfl⟩) hHeld ?_
    try simp only [Act.put, List.setIfInBounds_toArray, List.set_cons_zero, List.set_cons_succ]
    refine Bz.wpAnyE_take (i := 21) (oi := { dst := some 123, op := Go.Op.call { callee := Go.Callee.value (Go.Operand.func 21), args := #[Go.Operand.tmp 122], argTypes := #[24] }, type := 36, pos := "law.go:208", after := #[{ on := 20, ground := Go.Ground.data }, { on := 19, ground := Go.Ground.chain }, { on := 19, ground := Go.Ground.guard }], guard := some (19, true) }) (v := undef) rfl (by kernel_rfl) (by kernel_rfl) (by kernel_rfl) (by kernel_rfl) (fun _ _ _ h => h) (Or.inr ⟨by rfl, rfl⟩) hHeld ?_
    try simp only [Act.put, List.setIfInBounds_toArray, List.set_cons_zero, List.set_cons_succ]
    refine Bz.wpAnyE_take (i := 22) (oi := { dst := some 124, op := Go.Op.call { callee := Go.Callee.builtin Go.Builtin.len, args := #[Go.Operand.tmp 123], argTypes := #[36] }, type := 3, pos := "law.go:208", after := #[{ on := 21, ground := Go.Ground.data }, { on := 19, ground := Go.Ground.guard }], guard := some (19, true) }) (v := undef) rfl (by kernel_rfl) (by kernel_rfl) (by kernel_rfl) (by kernel_rfl) (fun _ _ _ h => h) (Or.inr ⟨by rfl, rfl⟩) hHeld ?_
    try simp only [Act.put, List.setIfInBounds_toArray, List.set_cons_zero, List.set_cons_succ]
    refine Bz.wpAnyE_take (i := 23) (oi := { dst := some 125, op := Go.Op.binOp Go.BinOp.eql 3 (Go.Operand.tmp 124) (Go.Operand.const (Go.Value.int Go.IntKind.i64 1)) 3, type := 4, pos := "law.go:208", after := #[{ on := 22, ground := Go.Ground.data }, { on := 19, ground := Go.Ground.guard }], guard := some (19, true) }) (v := undef) rfl (by kernel_rfl) (by kernel_rfl) (by kernel_rfl) (by kernel_rfl) (fun _ _ _ h => h) (Or.inr ⟨by rfl, rfl⟩) hHeld ?_
    try simp only [Act.put, List.setIfInBounds_toArray, List.set_cons_zero, List.set_cons_succ]
    refine Bz.wpAnyE_take (i := 24) (oi := { dst := some 126, op := Go.Op.pick (Go.Operand.tmp 121) (Go.Operand.tmp 125) (Go.Operand.const (Go.Value.bool false)), type := 4, pos := "law.go:208", after := #[{ on := 19, ground := Go.Ground.data }, { on := 23, ground := Go.Ground.data }, { on := 2, ground := Go.Ground.guard }], guard := some (2, false) }) (v := undef) rfl (by kernel_rfl) (by kernel_rfl) (by kernel_rfl) (by kernel_rfl) (fun _ _ _ h => h) (Or.inr ⟨by rfl, rfl⟩) hHeld ?_
    try simp only [Act.put, List.setIfInBounds_toArray, List.set_cons_zero, List.set_cons_succ]
    refine Bz.wpAnyE_take (i := 25) (oi := { dst := some 127, op := Go.Op.pick (Go.Operand.tmp 104) (Go.Operand.const (Go.Value.bool true)) (Go.Operand.tmp 126), type := 4, pos := "law.go:208", after := #[{ on := 2, ground := Go.Ground.data }, { on := 24, ground := Go.Ground.data }], guard := none }) (v := ?_) rfl (by kernel_rfl) (by kernel_rfl) (by kernel_rfl) (by kernel_rfl) (fun _ _ _ h => h) (Or.inl ⟨by rfl, ?_⟩) hHeld ?_
    rotate_left 1
    · (intro w hSw; (try dsimp only at hSw); go_simp; first | done | with_reducible rfl)
    try simp only [Act.put, List.setIfInBounds_toArray, List.set_cons_zero, List.set_cons_succ]
    refine Bz.wpAnyE_take (i := 26) (oi := { dst := some 4, op := Go.Op.assign (Go.Operand.tmp 127), type := 4, pos := "law.go:208", after := #[{ on := 25, ground := Go.Ground.data }, { on := 21, ground := Go.Ground.chain }, { on := 0, ground := Go.Ground.phase }, { on := 1, ground := Go.Ground.phase }, { on := 2, ground := Go.Ground.phase }, { on := 3, ground := Go.Ground.phase }, { on := 4, ground := Go.Ground.phase }, { on := 5, ground := Go.Ground.phase }, { on := 6, ground := Go.Ground.phase }, { on := 7, ground := Go.Ground.phase }, { on := 8, ground := Go.Ground.phase }, { on := 9, ground := Go.Ground.phase }, { on := 10, ground := Go.Ground.phase }, { on := 11, ground := Go.Ground.phase }, { on := 12, ground := Go.Ground.phase }, { on := 13, ground := Go.Ground.phase }, { on := 14, ground := Go.Ground.phase }, { on := 15, ground := Go.Ground.phase }, { on := 16, ground := Go.Ground.phase }, { on := 17, ground := Go.Ground.phase }, { on := 18, ground := Go.Ground.phase }, { on := 19, ground := Go.Ground.phase }, { on := 20, ground := Go.Ground.phase }, { on := 21, ground := Go.Ground.phase }, { on := 22, ground := Go.Ground.phase }, { on := 23, ground := Go.Ground.phase }, { on := 24, ground := Go.Ground.phase }, { on := 25, ground := Go.Ground.phase }], guard := none }) (v := ?_) rfl (by kernel_rfl) (by kernel_rfl) (by kernel_rfl) (by kernel_rfl) (fun _ _ _ h => h) (Or.inl ⟨by rfl, ?_⟩) hHeld ?_
    rotate_left 1
    · (intro w hSw; (try dsimp only at hSw); go_simp; first | done | with_reducible rfl)
    try simp only [Act.put, List.setIfInBounds_toArray, List.set_cons_zero, List.set_cons_succ]
    refine Bz.wpAnyE_done (by kernel_rfl) ?_ _
    refine NoPanic.normal ?_
    
    clear hHeld
    go_wp2_with fail
    go_ret
    exact ⟨rfl, hK0.drew⟩
  · have h1 : 1000 < n := by omega
    go_enter Try.func9, Try.ntmps9
    go_wp2_with (first
      | (go_at_call 10; refine (NB _).mono ?_; rintro e w1 ⟨rfl, hk⟩; have hB0 := hB0.keep hk (by simp); have hK0 := hK0.trans hk; have c0 := hB0.cell)
      | (go_at_call 23; refine (nil_parent _ _).mono ?_; rintro e w1 ⟨rfl, hk⟩; have hB0 := hB0.keep hk (by simp); have hK0 := hK0.trans hk; have c0 := hB0.cell)
      | (go_at_call 12; refine (told_any _).mono ?_; rintro e w2 ⟨rfl, hk⟩; have hB0 := (hB0.alloc _).keep hk (by simp); have hK0 := (hK0.alloc _).trans hk; have c0 := hB0.cell)
      | (go_at_call 14; refine (nil_add _ _ _).mono ?_; rintro e w1 ⟨rfl, hk⟩; have hB0 := hB0.keep hk (by simp); have hK0 := hK0.trans hk; have c0 := hB0.cell)
      | (go_at_call 16; refine (nil_height _ _).mono ?_; rintro e w1 ⟨rfl, hk⟩; have hB0 := hB0.keep hk (by simp); have hK0 := hK0.trans hk; have c0 := hB0.cell)
      | (go_at_call 13; refine (nil_tip _).mono ?_; rintro e w1 ⟨rfl, hk⟩; have hB0 := hB0.keep hk (by simp); have hK0 := hK0.trans hk; have c0 := hB0.cell)
      | (go_at_call 18; refine (nil_line _ _).mono ?_; rintro e w1 ⟨rfl, hk⟩; have hB0 := hB0.keep hk (by simp); have hK0 := hK0.trans hk; have c0 := hB0.cell)
      | (go_at_call 21; refine (nil_final _).mono ?_; rintro e w1 ⟨rfl, hk⟩; have hB0 := hB0.keep hk (by simp); have hK0 := hK0.trans hk; have c0 := hB0.cell)
      | (go_at_call 15; refine (nil_undone _ _ _).mono ?_; rintro e w1 ⟨rfl, hk⟩; have hB0 := hB0.keep hk (by simp); have hK0 := hK0.trans hk; have c0 := hB0.cell)
      | (go_at_call 28; refine (nil_clone _).mono ?_; rintro e w1 ⟨rfl, hk⟩; have hB0 := hB0.keep hk (by simp); have hK0 := hK0.trans hk; have c0 := hB0.cell)
      | (go_at_call 29; refine (nil_same _ _).mono ?_; rintro e w1 ⟨rfl, hk⟩; have hB0 := hB0.keep hk (by simp); have hK0 := hK0.trans hk; have c0 := hB0.cell))
    have c0 := hB0.cell
    refine wp_region_noPanic ?_
    refine Bz.wp_region_E (S := (fun w' => ∀ i, w'.cell? ⟨w.heap.size, i, none⟩ = (dcells d)[i]?)) (E := []) (by kernel_rfl) (by exact c0) (fun hHeld => ?_)
    refine Bz.wpAnyE_take (i := 0) (oi := { dst := some 102, op := Go.Op.move (Go.Operand.tmp 5), type := 24, pos := "law.go:208", after := #[], guard := none }) (v := ?_) rfl (by kernel_rfl) (by kernel_rfl) (by kernel_rfl) (by kernel_rfl) (fun _ _ _ h => h) (Or.inl ⟨by rfl, ?_⟩) hHeld ?_
    rotate_left 1
    · (intro w hSw; (try dsimp only at hSw); go_simp; first | done | with_reducible rfl)
    try simp only [Act.put, List.setIfInBounds_toArray, List.set_cons_zero, List.set_cons_succ]
    refine Bz.wpAnyE_take (i := 1) (oi := { dst := some 103, op := Go.Op.binOp Go.BinOp.eql 24 (Go.Operand.tmp 102) (Go.Operand.const (Go.Value.pointer none)) 24, type := 4, pos := "law.go:208", after := #[{ on := 0, ground := Go.Ground.data }], guard := none }) (v := ?_) rfl (by kernel_rfl) (by kernel_rfl) (by kernel_rfl) (by kernel_rfl) (fun _ _ _ h => h) (Or.inl ⟨by rfl, ?_⟩) hHeld ?_
    rotate_left 1
    · (intro w hSw; (try dsimp only at hSw); go_simp; first | done | with_reducible rfl)
    try simp only [Act.put, List.setIfInBounds_toArray, List.set_cons_zero, List.set_cons_succ]
    refine Bz.wpAnyE_take (i := 2) (oi := { dst := some 104, op := Go.Op.move (Go.Operand.tmp 103), type := 4, pos := "law.go:208", after := #[{ on := 1, ground := Go.Ground.data }], guard := none }) (v := ?_) rfl (by kernel_rfl) (by kernel_rfl) (by kernel_rfl) (by kernel_rfl) (fun _ _ _ h => h) (Or.inl ⟨by rfl, ?_⟩) hHeld ?_
    rotate_left 1
    · (intro w hSw; (try dsimp only at hSw); go_simp; first | done | with_reducible rfl)
    try simp only [Act.put, List.setIfInBounds_toArray, List.set_cons_zero, List.set_cons_succ]
    refine Bz.wpAnyE_take (i := 3) (oi := { dst := some 105, op := Go.Op.move (Go.Operand.tmp 8), type := 24, pos := "law.go:208", after := #[{ on := 2, ground := Go.Ground.guard }], guard := some (2, false) }) (v := undef) rfl (by kernel_rfl) (by kernel_rfl) (by kernel_rfl) (by kernel_rfl) (fun _ _ _ h => h) (Or.inr ⟨by rfl, rfl⟩) hHeld ?_
    try simp only [Act.put, List.setIfInBounds_toArray, List.set_cons_zero, List.set_cons_succ]
    refine Bz.wpAnyE_take (i := 4) (oi := { dst := some 106, op := Go.Op.move (Go.Operand.tmp 5), type := 24, pos := "law.go:208", after := #[{ on := 2, ground := Go.Ground.guard }], guard := some (2, false) }) (v := undef) rfl (by kernel_rfl) (by kernel_rfl) (by kernel_rfl) (by kernel_rfl) (fun _ _ _ h => h) (Or.inr ⟨by rfl, rfl⟩) hHeld ?_
    try simp only [Act.put, List.setIfInBounds_toArray, List.set_cons_zero, List.set_cons_succ]
    refine Bz.wpAnyE_take (i := 5) (oi := { dst := some 107, op := Go.Op.call { callee := Go.Callee.value (Go.Operand.func 29), args := #[Go.Operand.tmp 105, Go.Operand.tmp 106], argTypes := #[24, 24] }, type := 4, pos := "law.go:208", after := #[{ on := 3, ground := Go.Ground.data }, { on := 4, ground := Go.Ground.data }, { on := 2, ground := Go.Ground.chain }, { on := 2, ground := Go.Ground.guard }], guard := some (2, false) }) (v := undef) rfl (by kernel_rfl) (by kernel_rfl) (by kernel_rfl) (by kernel_rfl) (fun _ _ _ h => h) (Or.inr ⟨by rfl, rfl⟩) hHeld ?_
    try simp only [Act.put, List.setIfInBounds_toArray, List.set_cons_zero, List.set_cons_succ]
    refine Bz.wpAnyE_take (i := 6) (oi := { dst := some 108, op := Go.Op.unOp Go.UnOp.not 4 (Go.Operand.tmp 107), type := 4, pos := "law.go:208", after := #[{ on := 5, ground := Go.Ground.data }, { on := 2, ground := Go.Ground.guard }], guard := some (2, false) }) (v := undef) rfl (by kernel_rfl) (by kernel_rfl) (by kernel_rfl) (by kernel_rfl) (fun _ _ _ h => h) (Or.inr ⟨by rfl, rfl⟩) hHeld ?_
    try simp only [Act.put, List.setIfInBounds_toArray, List.set_cons_zero, List.set_cons_succ]
    refine Bz.wpAnyE_take (i := 7) (oi := { dst := some 109, op := Go.Op.move (Go.Operand.tmp 108), type := 4, pos := "law.go:208", after := #[{ on := 6, ground := Go.Ground.data }, { on := 5, ground := Go.Ground.chain }, { on := 2, ground := Go.Ground.guard }], guard := some (2, false) }) (v := undef) rfl (by kernel_rfl) (by kernel_rfl) (by kernel_rfl) (by kernel_rfl) (fun _ _ _ h => h) (Or.inr ⟨by rfl, rfl⟩) hHeld ?_
    try simp only [Act.put, List.setIfInBounds_toArray, List.set_cons_zero, List.set_cons_succ]
    refine Bz.wpAnyE_take (i := 8) (oi := { dst := some 110, op := Go.Op.move (Go.Operand.tmp 5), type := 24, pos := "law.go:208", after := #[{ on := 7, ground := Go.Ground.guard }], guard := some (7, true) }) (v := undef) rfl (by kernel_rfl) (by kernel_rfl) (by kernel_rfl) (by kernel_rfl) (fun _ _ _ h => h) (Or.inr ⟨by rfl, rfl⟩) hHeld ?_
    try simp only [Act.put, List.setIfInBounds_toArray, List.set_cons_zero, List.set_cons_succ]
    refine Bz.wpAnyE_take (i := 9) (oi := { dst := some 111, op := Go.Op.call { callee := Go.Callee.value (Go.Operand.func 13), args := #[Go.Operand.tmp 110], argTypes := #[24] }, type := 29, pos := "law.go:208", after := #[{ on := 8, ground := Go.Ground.data }, { on := 7, ground := Go.Ground.chain }, { on := 7, ground := Go.Ground.guard }], guard := some (7, true) }) (v := undef) rfl (by kernel_rfl) (by kernel_rfl) (by kernel_rfl) (by kernel_rfl) (fun _ _ _ h => h) (Or.inr ⟨by rfl, rfl⟩) hHeld ?_
    try simp only [Act.put, List.setIfInBounds_toArray, List.set_cons_zero, List.set_cons_succ]
    refine Bz.wpAnyE_take (i := 10) (oi := { dst := some 112, op := Go.Op.load 29 (Go.Operand.tmp 2), type := 29, pos := "law.go:208", after := #[{ on := 7, ground := Go.Ground.guard }], guard := some (7, true) }) (v := undef) rfl (by kernel_rfl) (by kernel_rfl) (by kernel_rfl) (by kernel_rfl) (fun _ _ _ h => h) (Or.inr ⟨by rfl, rfl⟩) hHeld ?_
    try simp only [Act.put, List.setIfInBounds_toArray, List.set_cons_zero, List.set_cons_succ]
    refine Bz.wpAnyE_take (i := 11) (oi := { dst := some 113, op := Go.Op.binOp Go.BinOp.eql 29 (Go.Operand.tmp 111) (Go.Operand.tmp 112) 29, type := 4, pos := "law.go:208", after := #[{ on := 9, ground := Go.Ground.data }, { on := 10, ground := Go.Ground.data }, { on := 7, ground := Go.Ground.guard }], guard := some (7, true) }) (v := undef) rfl (by kernel_rfl) (by kernel_rfl) (by kernel_rfl) (by kernel_rfl) (fun _ _ _ h => h) (Or.inr ⟨by rfl, rfl⟩) hHeld ?_
    try simp only [Act.put, List.setIfInBounds_toArray, List.set_cons_zero, List.set_cons_succ]
    refine Bz.wpAnyE_take (i := 12) (oi := { dst := some 114, op := Go.Op.pick (Go.Operand.tmp 109) (Go.Operand.tmp 113) (Go.Operand.const (Go.Value.bool false)), type := 4, pos := "law.go:208", after := #[{ on := 7, ground := Go.Ground.data }, { on := 11, ground := Go.Ground.data }, { on := 2, ground := Go.Ground.guard }], guard := some (2, false) }) (v := undef) rfl (by kernel_rfl) (by kernel_rfl) (by kernel_rfl) (by kernel_rfl) (fun _ _ _ h => h) (Or.inr ⟨by rfl, rfl⟩) hHeld ?_
    try simp only [Act.put, List.setIfInBounds_toArray, List.set_cons_zero, List.set_cons_succ]
    refine Bz.wpAnyE_take (i := 13) (oi := { dst := some 115, op := Go.Op.move (Go.Operand.tmp 114), type := 4, pos := "law.go:208", after := #[{ on := 12, ground := Go.Ground.data }, { on := 9, ground := Go.Ground.chain }, { on := 2, ground := Go.Ground.guard }], guard := some (2, false) }) (v := undef) rfl (by kernel_rfl) (by kernel_rfl) (by kernel_rfl) (by kernel_rfl) (fun _ _ _ h => h) (Or.inr ⟨by rfl, rfl⟩) hHeld ?_
    try simp only [Act.put, List.setIfInBounds_toArray, List.set_cons_zero, List.set_cons_succ]
    refine Bz.wpAnyE_take (i := 14) (oi := { dst := some 116, op := Go.Op.move (Go.Operand.tmp 5), type := 24, pos := "law.go:208", after := #[{ on := 13, ground := Go.Ground.guard }], guard := some (13, true) }) (v := undef) rfl (by kernel_rfl) (by kernel_rfl) (by kernel_rfl) (by kernel_rfl) (fun _ _ _ h => h) (Or.inr ⟨by rfl, rfl⟩) hHeld ?_
    try simp only [Act.put, List.setIfInBounds_toArray, List.set_cons_zero, List.set_cons_succ]
    refine Bz.wpAnyE_take (i := 15) (oi := { dst := some 117, op := Go.Op.load 29 (Go.Operand.tmp 2), type := 29, pos := "law.go:208", after := #[{ on := 13, ground := Go.Ground.guard }], guard := some (13, true) }) (v := undef) rfl (by kernel_rfl) (by kernel_rfl) (by kernel_rfl) (by kernel_rfl) (fun _ _ _ h => h) (Or.inr ⟨by rfl, rfl⟩) hHeld ?_
    try simp only [Act.put, List.setIfInBounds_toArray, List.set_cons_zero, List.set_cons_succ]
    refine Bz.wpAnyE_take (i := 16) (oi := { dst := some 118, op := Go.Op.call { callee := Go.Callee.value (Go.Operand.func 16), args := #[Go.Operand.tmp 116, Go.Operand.tmp 117], argTypes := #[24, 29] }, type := 3, pos := "law.go:208", after := #[{ on := 14, ground := Go.Ground.data }, { on := 15, ground := Go.Ground.data }, { on := 13, ground := Go.Ground.chain }, { on := 13, ground := Go.Ground.guard }], guard := some (13, true) }) (v := undef) rfl (by kernel_rfl) (by kernel_rfl) (by kernel_rfl) (by kernel_rfl) (fun _ _ _ h => h) (Or.inr ⟨by rfl, rfl⟩) hHeld ?_
    try simp only [Act.put, List.setIfInBounds_toArray, List.set_cons_zero, List.set_cons_succ]
    refine Bz.wpAnyE_take (i := 17) (oi := { dst := some 119, op := Go.Op.binOp Go.BinOp.eql 3 (Go.Operand.tmp 118) (Go.Operand.const (Go.Value.int Go.IntKind.i64 0)) 3, type := 4, pos := "law.go:208", after := #[{ on := 16, ground := Go.Ground.data }, { on := 13, ground := Go.Ground.guard }], guard := some (13, true) }) (v := undef) rfl (by kernel_rfl) (by kernel_rfl) (by kernel_rfl) (by kernel_rfl) (fun _ _ _ h => h) (Or.inr ⟨by rfl, rfl⟩) hHeld ?_
    try simp only [Act.put, List.setIfInBounds_toArray, List.set_cons_zero, List.set_cons_succ]
    refine Bz.wpAnyE_take (i := 18) (oi := { dst := some 120, op := Go.Op.pick (Go.Operand.tmp 115) (Go.Operand.tmp 119) (Go.Operand.const (Go.Value.bool false)), type := 4, pos := "law.go:208", after := #[{ on := 13, ground := Go.Ground.data }, { on := 17, ground := Go.Ground.data }, { on := 2, ground := Go.Ground.guard }], guard := some (2, false) }) (v := undef) rfl (by kernel_rfl) (by kernel_rfl) (by kernel_rfl) (by kernel_rfl) (fun _ _ _ h => h) (Or.inr ⟨by rfl, rfl⟩) hHeld ?_
    try simp only [Act.put, List.setIfInBounds_toArray, List.set_cons_zero, List.set_cons_succ]
    refine Bz.wpAnyE_take (i := 19) (oi := { dst := some 121, op := Go.Op.move (Go.Operand.tmp 120), type := 4, pos := "law.go:208", after := #[{ on := 18, ground := Go.Ground.data }, { on := 16, ground := Go.Ground.chain }, { on := 2, ground := Go.Ground.guard }], guard := some (2, false) }) (v := undef) rfl (by kernel_rfl) (by kernel_rfl) (by kernel_rfl) (by kernel_rfl) (fun _ _ _ h => h) (Or.inr ⟨by rfl, rfl⟩) hHeld ?_
    try simp only [Act.put, List.setIfInBounds_toArray, List.set_cons_zero, List.set_cons_succ]
    refine Bz.wpAnyE_take (i := 20) (oi := { dst := some 122, op := Go.Op.move (Go.Operand.tmp 5), type := 24, pos := "law.go:208", after := #[{ on := 19, ground := Go.Ground.guard }], guard := some (19, true) }) (v := undef) rfl (by kernel_rfl) (by kernel_rfl) (by kernel_rfl) (by kernel_rfl) (fun _ _ _ h => h) (Or.inr ⟨by rfl, rfl⟩) hHeld ?_
    try simp only [Act.put, List.setIfInBounds_toArray, List.set_cons_zero, List.set_cons_succ]
    refine Bz.wpAnyE_take (i := 21) (oi := { dst := some 123, op := Go.Op.call { callee := Go.Callee.value (Go.Operand.func 21), args := #[Go.Operand.tmp 122], argTypes := #[24] }, type := 36, pos := "law.go:208", after := #[{ on := 20, ground := Go.Ground.data }, { on := 19, ground := Go.Ground.chain }, { on := 19, ground := Go.Ground.guard }], guard := some (19, true) }) (v := undef) rfl (by kernel_rfl) (by kernel_rfl) (by kernel_rfl) (by kernel_rfl) (fun _ _ _ h => h) (Or.inr ⟨by rfl, rfl⟩) hHeld ?_
    try simp only [Act.put, List.setIfInBounds_toArray, List.set_cons_zero, List.set_cons_succ]
    refine Bz.wpAnyE_take (i := 22) (oi := { dst := some 124, op := Go.Op.call { callee := Go.Callee.builtin Go.Builtin.len, args := #[Go.Operand.tmp 123], argTypes := #[36] }, type := 3, pos := "law.go:208", after := #[{ on := 21, ground := Go.Ground.data }, { on := 19, ground := Go.Ground.guard }], guard := some (19, true) }) (v := undef) rfl (by kernel_rfl) (by kernel_rfl) (by kernel_rfl) (by kernel_rfl) (fun _ _ _ h => h) (Or.inr ⟨by rfl, rfl⟩) hHeld ?_
    try simp only [Act.put, List.setIfInBounds_toArray, List.set_cons_zero, List.set_cons_succ]
    refine Bz.wpAnyE_take (i := 23) (oi := { dst := some 125, op := Go.Op.binOp Go.BinOp.eql 3 (Go.Operand.tmp 124) (Go.Operand.const (Go.Value.int Go.IntKind.i64 1)) 3, type := 4, pos := "law.go:208", after := #[{ on := 22, ground := Go.Ground.data }, { on := 19, ground := Go.Ground.guard }], guard := some (19, true) }) (v := undef) rfl (by kernel_rfl) (by kernel_rfl) (by kernel_rfl) (by kernel_rfl) (fun _ _ _ h => h) (Or.inr ⟨by rfl, rfl⟩) hHeld ?_
    try simp only [Act.put, List.setIfInBounds_toArray, List.set_cons_zero, List.set_cons_succ]
    refine Bz.wpAnyE_take (i := 24) (oi := { dst := some 126, op := Go.Op.pick (Go.Operand.tmp 121) (Go.Operand.tmp 125) (Go.Operand.const (Go.Value.bool false)), type := 4, pos := "law.go:208", after := #[{ on := 19, ground := Go.Ground.data }, { on := 23, ground := Go.Ground.data }, { on := 2, ground := Go.Ground.guard }], guard := some (2, false) }) (v := undef) rfl (by kernel_rfl) (by kernel_rfl) (by kernel_rfl) (by kernel_rfl) (fun _ _ _ h => h) (Or.inr ⟨by rfl, rfl⟩) hHeld ?_
    try simp only [Act.put, List.setIfInBounds_toArray, List.set_cons_zero, List.set_cons_succ]
    refine Bz.wpAnyE_take (i := 25) (oi := { dst := some 127, op := Go.Op.pick (Go.Operand.tmp 104) (Go.Operand.const (Go.Value.bool true)) (Go.Operand.tmp 126), type := 4, pos := "law.go:208", after := #[{ on := 2, ground := Go.Ground.data }, { on := 24, ground := Go.Ground.data }], guard := none }) (v := ?_) rfl (by kernel_rfl) (by kernel_rfl) (by kernel_rfl) (by kernel_rfl) (fun _ _ _ h => h) (Or.inl ⟨by rfl, ?_⟩) hHeld ?_
    rotate_left 1
    · (intro w hSw; (try dsimp only at hSw); go_simp; first | done | with_reducible rfl)
    try simp only [Act.put, List.setIfInBounds_toArray, List.set_cons_zero, List.set_cons_succ]
    refine Bz.wpAnyE_take (i := 26) (oi := { dst := some 4, op := Go.Op.assign (Go.Operand.tmp 127), type := 4, pos := "law.go:208", after := #[{ on := 25, ground := Go.Ground.data }, { on := 21, ground := Go.Ground.chain }, { on := 0, ground := Go.Ground.phase }, { on := 1, ground := Go.Ground.phase }, { on := 2, ground := Go.Ground.phase }, { on := 3, ground := Go.Ground.phase }, { on := 4, ground := Go.Ground.phase }, { on := 5, ground := Go.Ground.phase }, { on := 6, ground := Go.Ground.phase }, { on := 7, ground := Go.Ground.phase }, { on := 8, ground := Go.Ground.phase }, { on := 9, ground := Go.Ground.phase }, { on := 10, ground := Go.Ground.phase }, { on := 11, ground := Go.Ground.phase }, { on := 12, ground := Go.Ground.phase }, { on := 13, ground := Go.Ground.phase }, { on := 14, ground := Go.Ground.phase }, { on := 15, ground := Go.Ground.phase }, { on := 16, ground := Go.Ground.phase }, { on := 17, ground := Go.Ground.phase }, { on := 18, ground := Go.Ground.phase }, { on := 19, ground := Go.Ground.phase }, { on := 20, ground := Go.Ground.phase }, { on := 21, ground := Go.Ground.phase }, { on := 22, ground := Go.Ground.phase }, { on := 23, ground := Go.Ground.phase }, { on := 24, ground := Go.Ground.phase }, { on := 25, ground := Go.Ground.phase }], guard := none }) (v := ?_) rfl (by kernel_rfl) (by kernel_rfl) (by kernel_rfl) (by kernel_rfl) (fun _ _ _ h => h) (Or.inl ⟨by rfl, ?_⟩) hHeld ?_
    rotate_left 1
    · (intro w hSw; (try dsimp only at hSw); go_simp; first | done | with_reducible rfl)
    try simp only [Act.put, List.setIfInBounds_toArray, List.set_cons_zero, List.set_cons_succ]
    refine Bz.wpAnyE_done (by kernel_rfl) ?_ _
    refine NoPanic.normal ?_
    
    clear hHeld
    go_wp2_with fail
    go_ret
    exact ⟨rfl, hK0.drew⟩
set_option maxRecDepth 100000 in
set_option maxHeartbeats 2000000 in
theorem news_ok (d : D8) (n : Int) (w : World) (h0 : 0 ≤ n) (h1 : n ≤ 1000) : Calls Try.prog 9 #[dv d, .int .i64 n] w (fun e w' => e = .returned (.bool true) ∧ Keep [] w w') := by
  have hWF := FT.new_wf d h0 h1
  have htip : (FT.new d n).tip = d := rfl
  have hht : (FT.new d n).height d = 0 := (FT.height_is (T := FT.new d n) (x := d) hWF.first_is).trans (congrArg (fun b : B1 => b.2) hWF.get_first)
  have hfl : (FT.new d n).final.length = 1 := by
    rw [hWF.final_len]
    show (max (((FT.new d n).get (FT.new d n).first).2 - n) 0 + 1).toNat = 1
    rw [hWF.get_first]
    simp only; omega
  obtain ⟨T, hT0⟩ : ∃ T, T = FT.new d n := ⟨_, rfl⟩
  rw [← hT0] at hWF htip hht hfl
  have HF := Lib.hid (And.intro htip (And.intro hht hfl))
  have NB : ∀ W, Calls Try.prog 10 #[dv d, .int .i64 n] W (fun e w' => ∃ t mb, e = .returned (.tuple #[.pointer (some ⟨t,0,none⟩), .int .i64 0]) ∧ TreeAt w' t mb T ∧ Keep [] W w') := by
    intro W
    rw [hT0]
    refine (new_call d n W h0 h1).mono ?_
    rintro e w' ⟨t, mb, he, _, _, hT, hk⟩
    exact ⟨t, mb, he, hT, hk⟩
  clear htip hht hfl hT0
  have hB0 := Blk.new w 29 (dcells d)
  have hK0 := (Keep.refl [] w).alloc (.cells (dcells d) 29)
  have q := fun W => run_eqD8 (P := Try.prog) W dt29 9998 ⟨0, 0, 0, 0, 0, 0, 0, 0⟩ ⟨0, 0, 0, 0, 0, 0, 0, 0⟩
  have qd := fun W => run_eqD8 (P := Try.prog) W dt29 9998 d d
  rw [decide_eq_true rfl] at q qd
  have g0 : decide (n < 0) = false := by simp; omega
  have g1 : decide (1000 < n) = false := by simp; omega
  go_enter Try.func9, Try.ntmps9
  go_wp2_with (first
    | (go_at_call 10; refine (NB _).mono ?_; rintro e w1 ⟨t, mb, rfl, hT, hk⟩; have hB0 := hB0.keep hk (by simp); have hK0 := hK0.trans hk; have c0 := hB0.cell)
    | (go_at_call 23; refine (nil_parent _ _).mono ?_; rintro e w1 ⟨rfl, hk⟩; have hT := hT.keep0 hk; have hB0 := hB0.keep hk (by simp); have hK0 := hK0.trans hk; have c0 := hB0.cell)
    | (go_at_call 12; refine (told_any _).mono ?_; rintro e w2 ⟨rfl, hk⟩; have hT := (hT.alloc _).keep0 hk; have hB0 := (hB0.alloc _).keep hk (by simp); have hK0 := (hK0.alloc _).trans hk; have c0 := hB0.cell)
    | (go_at_call 14; refine (nil_add _ _ _).mono ?_; rintro e w1 ⟨rfl, hk⟩; have hT := hT.keep0 hk; have hB0 := hB0.keep hk (by simp); have hK0 := hK0.trans hk; have c0 := hB0.cell)
    | (go_at_call 16; refine (nil_height _ _).mono ?_; rintro e w1 ⟨rfl, hk⟩; have hT := hT.keep0 hk; have hB0 := hB0.keep hk (by simp); have hK0 := hK0.trans hk; have c0 := hB0.cell)
    | (go_at_call 13; refine (nil_tip _).mono ?_; rintro e w1 ⟨rfl, hk⟩; have hT := hT.keep0 hk; have hB0 := hB0.keep hk (by simp); have hK0 := hK0.trans hk; have c0 := hB0.cell)
    | (go_at_call 18; refine (nil_line _ _).mono ?_; rintro e w1 ⟨rfl, hk⟩; have hT := hT.keep0 hk; have hB0 := hB0.keep hk (by simp); have hK0 := hK0.trans hk; have c0 := hB0.cell)
    | (go_at_call 21; refine (nil_final _).mono ?_; rintro e w1 ⟨rfl, hk⟩; have hT := hT.keep0 hk; have hB0 := hB0.keep hk (by simp); have hK0 := hK0.trans hk; have c0 := hB0.cell)
    | (go_at_call 15; refine (nil_undone _ _ _).mono ?_; rintro e w1 ⟨rfl, hk⟩; have hT := hT.keep0 hk; have hB0 := hB0.keep hk (by simp); have hK0 := hK0.trans hk; have c0 := hB0.cell)
    | (go_at_call 28; refine (nil_clone _).mono ?_; rintro e w1 ⟨rfl, hk⟩; have hT := hT.keep0 hk; have hB0 := hB0.keep hk (by simp); have hK0 := hK0.trans hk; have c0 := hB0.cell)
    | (go_at_call 29; refine (nil_same _ _).mono ?_; rintro e w1 ⟨rfl, hk⟩; have hT := hT.keep0 hk; have hB0 := hB0.keep hk (by simp); have hK0 := hK0.trans hk; have c0 := hB0.cell))
  have c0 := hB0.cell
  refine wp_region_noPanic ?_
  refine Bz.wp_region_E (S := (fun w' => ∀ i, w'.cell? ⟨w.heap.size, i, none⟩ = (dcells d)[i]?)) (E := []) (by kernel_rfl) (by exact c0) (fun hHeld => ?_)
  obtain ⟨wd, hwd⟩ : ∃ W, W = w1.drew := ⟨_, rfl⟩
  rw [← hwd] at hHeld ⊢
  have hT : TreeAt wd t mb T := by rw [hwd]; exact hT
  have hB0 : Blk wd w.heap.size 29 (dcells d) := by rw [hwd]; exact hB0
  have hK0 : Keep [] w wd := by rw [hwd]; exact hK0.drew
  clear hwd c0
  refine Bz.wpAnyE_take (i := 0) (oi := { dst := some 102, op := Go.Op.move (Go.Operand.tmp 5), type := 24, pos := "law.go:208", after := #[], guard := none }) (v := ?_) rfl (by kernel_rfl) (by kernel_rfl) (by kernel_rfl) (by kernel_rfl) (fun _ _ _ h => h) (Or.inl ⟨by rfl, ?_⟩) hHeld ?_
  rotate_left 1
  · (intro w hSw; (try dsimp only at hSw); go_simp; first | done | with_reducible rfl)
  try simp only [Act.put, List.setIfInBounds_toArray, List.set_cons_zero, List.set_cons_succ]
  refine Bz.wpAnyE_take (i := 1) (oi := { dst := some 103, op := Go.Op.binOp Go.BinOp.eql 24 (Go.Operand.tmp 102) (Go.Operand.const (Go.Value.pointer none)) 24, type := 4, pos := "law.go:208", after := #[{ on := 0, ground := Go.Ground.data }], guard := none }) (v := ?_) rfl (by kernel_rfl) (by kernel_rfl) (by kernel_rfl) (by kernel_rfl) (fun _ _ _ h => h) (Or.inl ⟨by rfl, ?_⟩) hHeld ?_
  rotate_left 1
  · (intro w hSw; (try dsimp only at hSw); go_simp; first | done | with_reducible rfl)
  try simp only [Act.put, List.setIfInBounds_toArray, List.set_cons_zero, List.set_cons_succ]
  refine Bz.wpAnyE_take (i := 2) (oi := { dst := some 104, op := Go.Op.move (Go.Operand.tmp 103), type := 4, pos := "law.go:208", after := #[{ on := 1, ground := Go.Ground.data }], guard := none }) (v := ?_) rfl (by kernel_rfl) (by kernel_rfl) (by kernel_rfl) (by kernel_rfl) (fun _ _ _ h => h) (Or.inl ⟨by rfl, ?_⟩) hHeld ?_
  rotate_left 1
  · (intro w hSw; (try dsimp only at hSw); go_simp; first | done | with_reducible rfl)
  try simp only [Act.put, List.setIfInBounds_toArray, List.set_cons_zero, List.set_cons_succ]
  refine Bz.wpAnyE_take (i := 3) (oi := { dst := some 105, op := Go.Op.move (Go.Operand.tmp 8), type := 24, pos := "law.go:208", after := #[{ on := 2, ground := Go.Ground.guard }], guard := some (2, false) }) (v := ?_) rfl (by kernel_rfl) (by kernel_rfl) (by kernel_rfl) (by kernel_rfl) (fun _ _ _ h => h) (Or.inl ⟨by rfl, ?_⟩) hHeld ?_
  rotate_left 1
  · (intro w hSw; (try dsimp only at hSw); go_simp; first | done | with_reducible rfl)
  try simp only [Act.put, List.setIfInBounds_toArray, List.set_cons_zero, List.set_cons_succ]
  refine Bz.wpAnyE_take (i := 4) (oi := { dst := some 106, op := Go.Op.move (Go.Operand.tmp 5), type := 24, pos := "law.go:208", after := #[{ on := 2, ground := Go.Ground.guard }], guard := some (2, false) }) (v := ?_) rfl (by kernel_rfl) (by kernel_rfl) (by kernel_rfl) (by kernel_rfl) (fun _ _ _ h => h) (Or.inl ⟨by rfl, ?_⟩) hHeld ?_
  rotate_left 1
  · (intro w hSw; (try dsimp only at hSw); go_simp; first | done | with_reducible rfl)
  try simp only [Act.put, List.setIfInBounds_toArray, List.set_cons_zero, List.set_cons_succ]
  refine Bz.wpAnyE_ready (rs := [5]) (by kernel_rfl) (by simp) ?_
  refine Bz.AllReadyE.cons (o := { dst := some 107, op := Go.Op.call { callee := Go.Callee.value (Go.Operand.func 29), args := #[Go.Operand.tmp 105, Go.Operand.tmp 106], argTypes := #[24, 24] }, type := 4, pos := "law.go:208", after := #[{ on := 3, ground := Go.Ground.data }, { on := 4, ground := Go.Ground.data }, { on := 2, ground := Go.Ground.chain }, { on := 2, ground := Go.Ground.guard }], guard := some (2, false) }) rfl (fun K hK => ?_) Bz.AllReadyE.nil
  go_simp
  
  refine (nil_same _ _).mono ?_
  rintro e w2 ⟨rfl, hk⟩
  have hT := hT.keep0 hk; have hB0 := hB0.keep hk (by simp); have hK0 := hK0.trans hk
  refine hK.out _ _ (by exact hB0.cell) ?_
  clear hHeld hK K; intro hHeld
  try simp only [Act.put, List.setIfInBounds_toArray, List.set_cons_zero, List.set_cons_succ]
  refine Bz.wpAnyE_take (i := 6) (oi := { dst := some 108, op := Go.Op.unOp Go.UnOp.not 4 (Go.Operand.tmp 107), type := 4, pos := "law.go:208", after := #[{ on := 5, ground := Go.Ground.data }, { on := 2, ground := Go.Ground.guard }], guard := some (2, false) }) (v := ?_) rfl (by kernel_rfl) (by kernel_rfl) (by kernel_rfl) (by kernel_rfl) (fun _ _ _ h => h) (Or.inl ⟨by rfl, ?_⟩) hHeld ?_
  rotate_left 1
  · (intro w hSw; (try dsimp only at hSw); go_simp; first | done | with_reducible rfl)
  try simp only [Act.put, List.setIfInBounds_toArray, List.set_cons_zero, List.set_cons_succ]
  refine Bz.wpAnyE_take (i := 7) (oi := { dst := some 109, op := Go.Op.move (Go.Operand.tmp 108), type := 4, pos := "law.go:208", after := #[{ on := 6, ground := Go.Ground.data }, { on := 5, ground := Go.Ground.chain }, { on := 2, ground := Go.Ground.guard }], guard := some (2, false) }) (v := ?_) rfl (by kernel_rfl) (by kernel_rfl) (by kernel_rfl) (by kernel_rfl) (fun _ _ _ h => h) (Or.inl ⟨by rfl, ?_⟩) hHeld ?_
  rotate_left 1
  · (intro w hSw; (try dsimp only at hSw); go_simp; first | done | with_reducible rfl)
  try simp only [Act.put, List.setIfInBounds_toArray, List.set_cons_zero, List.set_cons_succ]
  refine Bz.wpAnyE_take (i := 8) (oi := { dst := some 110, op := Go.Op.move (Go.Operand.tmp 5), type := 24, pos := "law.go:208", after := #[{ on := 7, ground := Go.Ground.guard }], guard := some (7, true) }) (v := ?_) rfl (by kernel_rfl) (by kernel_rfl) (by kernel_rfl) (by kernel_rfl) (fun _ _ _ h => h) (Or.inl ⟨by rfl, ?_⟩) hHeld ?_
  rotate_left 1
  · (intro w hSw; (try dsimp only at hSw); go_simp; first | done | with_reducible rfl)
  try simp only [Act.put, List.setIfInBounds_toArray, List.set_cons_zero, List.set_cons_succ]
  refine Bz.wpAnyE_take (i := 10) (oi := { dst := some 112, op := Go.Op.load 29 (Go.Operand.tmp 2), type := 29, pos := "law.go:208", after := #[{ on := 7, ground := Go.Ground.guard }], guard := some (7, true) }) (v := ?_) rfl (by kernel_rfl) (by kernel_rfl) (by kernel_rfl) (by kernel_rfl) (fun _ _ _ h => h) (Or.inl ⟨by rfl, ?_⟩) hHeld ?_
  rotate_left 1
  · (intro w hSw; (try dsimp only at hSw); go_simp; first | done | with_reducible rfl)
  try simp only [Act.put, List.setIfInBounds_toArray, List.set_cons_zero, List.set_cons_succ]
  refine Bz.wpAnyE_ready (rs := [9]) (by kernel_rfl) (by simp) ?_
  refine Bz.AllReadyE.cons (o := { dst := some 111, op := Go.Op.call { callee := Go.Callee.value (Go.Operand.func 13), args := #[Go.Operand.tmp 110], argTypes := #[24] }, type := 29, pos := "law.go:208", after := #[{ on := 8, ground := Go.Ground.data }, { on := 7, ground := Go.Ground.chain }, { on := 7, ground := Go.Ground.guard }], guard := some (7, true) }) rfl (fun K hK => ?_) Bz.AllReadyE.nil
  go_simp
  
  refine (tip_any hT).mono ?_
  rw [HF.out.1]
  rintro e w2 ⟨rfl, hk⟩
  have hT := hT.keep0 hk; have hB0 := hB0.keep hk (by simp); have hK0 := hK0.trans hk
  refine hK.out _ _ (by exact hB0.cell) ?_
  clear hHeld hK K; intro hHeld
  try simp only [Act.put, List.setIfInBounds_toArray, List.set_cons_zero, List.set_cons_succ]
  refine Bz.wpAnyE_take (i := 11) (oi := { dst := some 113, op := Go.Op.binOp Go.BinOp.eql 29 (Go.Operand.tmp 111) (Go.Operand.tmp 112) 29, type := 4, pos := "law.go:208", after := #[{ on := 9, ground := Go.Ground.data }, { on := 10, ground := Go.Ground.data }, { on := 7, ground := Go.Ground.guard }], guard := some (7, true) }) (v := ?_) rfl (by kernel_rfl) (by kernel_rfl) (by kernel_rfl) (by kernel_rfl) (fun _ _ _ h => h) (Or.inl ⟨by rfl, ?_⟩) hHeld ?_
  rotate_left 1
  · (intro w hSw; (try dsimp only at hSw); go_simp; first | done | with_reducible rfl)
  try simp only [Act.put, List.setIfInBounds_toArray, List.set_cons_zero, List.set_cons_succ]
  refine Bz.wpAnyE_take (i := 12) (oi := { dst := some 114, op := Go.Op.pick (Go.Operand.tmp 109) (Go.Operand.tmp 113) (Go.Operand.const (Go.Value.bool false)), type := 4, pos := "law.go:208", after := #[{ on := 7, ground := Go.Ground.data }, { on := 11, ground := Go.Ground.data }, { on := 2, ground := Go.Ground.guard }], guard := some (2, false) }) (v := ?_) rfl (by kernel_rfl) (by kernel_rfl) (by kernel_rfl) (by kernel_rfl) (fun _ _ _ h => h) (Or.inl ⟨by rfl, ?_⟩) hHeld ?_
  rotate_left 1
  · (intro w hSw; (try dsimp only at hSw); go_simp; first | done | with_reducible rfl)
  try simp only [Act.put, List.setIfInBounds_toArray, List.set_cons_zero, List.set_cons_succ]
  refine Bz.wpAnyE_take (i := 13) (oi := { dst := some 115, op := Go.Op.move (Go.Operand.tmp 114), type := 4, pos := "law.go:208", after := #[{ on := 12, ground := Go.Ground.data }, { on := 9, ground := Go.Ground.chain }, { on := 2, ground := Go.Ground.guard }], guard := some (2, false) }) (v := ?_) rfl (by kernel_rfl) (by kernel_rfl) (by kernel_rfl) (by kernel_rfl) (fun _ _ _ h => h) (Or.inl ⟨by rfl, ?_⟩) hHeld ?_
  rotate_left 1
  · (intro w hSw; (try dsimp only at hSw); go_simp; first | done | with_reducible rfl)
  try simp only [Act.put, List.setIfInBounds_toArray, List.set_cons_zero, List.set_cons_succ]
  refine Bz.wpAnyE_take (i := 14) (oi := { dst := some 116, op := Go.Op.move (Go.Operand.tmp 5), type := 24, pos := "law.go:208", after := #[{ on := 13, ground := Go.Ground.guard }], guard := some (13, true) }) (v := ?_) rfl (by kernel_rfl) (by kernel_rfl) (by kernel_rfl) (by kernel_rfl) (fun _ _ _ h => h) (Or.inl ⟨by rfl, ?_⟩) hHeld ?_
  rotate_left 1
  · (intro w hSw; (try dsimp only at hSw); go_simp; first | done | with_reducible rfl)
  try simp only [Act.put, List.setIfInBounds_toArray, List.set_cons_zero, List.set_cons_succ]
  refine Bz.wpAnyE_take (i := 15) (oi := { dst := some 117, op := Go.Op.load 29 (Go.Operand.tmp 2), type := 29, pos := "law.go:208", after := #[{ on := 13, ground := Go.Ground.guard }], guard := some (13, true) }) (v := ?_) rfl (by kernel_rfl) (by kernel_rfl) (by kernel_rfl) (by kernel_rfl) (fun _ _ _ h => h) (Or.inl ⟨by rfl, ?_⟩) hHeld ?_
  rotate_left 1
  · (intro w hSw; (try dsimp only at hSw); go_simp; first | done | with_reducible rfl)
  try simp only [Act.put, List.setIfInBounds_toArray, List.set_cons_zero, List.set_cons_succ]
  refine Bz.wpAnyE_ready (rs := [16]) (by kernel_rfl) (by simp) ?_
  refine Bz.AllReadyE.cons (o := { dst := some 118, op := Go.Op.call { callee := Go.Callee.value (Go.Operand.func 16), args := #[Go.Operand.tmp 116, Go.Operand.tmp 117], argTypes := #[24, 29] }, type := 3, pos := "law.go:208", after := #[{ on := 14, ground := Go.Ground.data }, { on := 15, ground := Go.Ground.data }, { on := 13, ground := Go.Ground.chain }, { on := 13, ground := Go.Ground.guard }], guard := some (13, true) }) rfl (fun K hK => ?_) Bz.AllReadyE.nil
  go_simp
  
  refine (height_any hT d).mono ?_
  rw [HF.out.2.1]
  rintro e w2 ⟨rfl, hk⟩
  have hT := hT.keep0 hk; have hB0 := hB0.keep hk (by simp); have hK0 := hK0.trans hk
  refine hK.out _ _ (by exact hB0.cell) ?_
  clear hHeld hK K; intro hHeld
  try simp only [Act.put, List.setIfInBounds_toArray, List.set_cons_zero, List.set_cons_succ]
  refine Bz.wpAnyE_take (i := 17) (oi := { dst := some 119, op := Go.Op.binOp Go.BinOp.eql 3 (Go.Operand.tmp 118) (Go.Operand.const (Go.Value.int Go.IntKind.i64 0)) 3, type := 4, pos := "law.go:208", after := #[{ on := 16, ground := Go.Ground.data }, { on := 13, ground := Go.Ground.guard }], guard := some (13, true) }) (v := ?_) rfl (by kernel_rfl) (by kernel_rfl) (by kernel_rfl) (by kernel_rfl) (fun _ _ _ h => h) (Or.inl ⟨by rfl, ?_⟩) hHeld ?_
  rotate_left 1
  · (intro w hSw; (try dsimp only at hSw); go_simp; first | done | with_reducible rfl)
  try simp only [Act.put, List.setIfInBounds_toArray, List.set_cons_zero, List.set_cons_succ]
  refine Bz.wpAnyE_take (i := 18) (oi := { dst := some 120, op := Go.Op.pick (Go.Operand.tmp 115) (Go.Operand.tmp 119) (Go.Operand.const (Go.Value.bool false)), type := 4, pos := "law.go:208", after := #[{ on := 13, ground := Go.Ground.data }, { on := 17, ground := Go.Ground.data }, { on := 2, ground := Go.Ground.guard }], guard := some (2, false) }) (v := ?_) rfl (by kernel_rfl) (by kernel_rfl) (by kernel_rfl) (by kernel_rfl) (fun _ _ _ h => h) (Or.inl ⟨by rfl, ?_⟩) hHeld ?_
  rotate_left 1
  · (intro w hSw; (try dsimp only at hSw); go_simp; first | done | with_reducible rfl)
  try simp only [Act.put, List.setIfInBounds_toArray, List.set_cons_zero, List.set_cons_succ]
  refine Bz.wpAnyE_take (i := 19) (oi := { dst := some 121, op := Go.Op.move (Go.Operand.tmp 120), type := 4, pos := "law.go:208", after := #[{ on := 18, ground := Go.Ground.data }, { on := 16, ground := Go.Ground.chain }, { on := 2, ground := Go.Ground.guard }], guard := some (2, false) }) (v := ?_) rfl (by kernel_rfl) (by kernel_rfl) (by kernel_rfl) (by kernel_rfl) (fun _ _ _ h => h) (Or.inl ⟨by rfl, ?_⟩) hHeld ?_
  rotate_left 1
  · (intro w hSw; (try dsimp only at hSw); go_simp; first | done | with_reducible rfl)
  try simp only [Act.put, List.setIfInBounds_toArray, List.set_cons_zero, List.set_cons_succ]
  refine Bz.wpAnyE_take (i := 20) (oi := { dst := some 122, op := Go.Op.move (Go.Operand.tmp 5), type := 24, pos := "law.go:208", after := #[{ on := 19, ground := Go.Ground.guard }], guard := some (19, true) }) (v := ?_) rfl (by kernel_rfl) (by kernel_rfl) (by kernel_rfl) (by kernel_rfl) (fun _ _ _ h => h) (Or.inl ⟨by rfl, ?_⟩) hHeld ?_
  rotate_left 1
  · (intro w hSw; (try dsimp only at hSw); go_simp; first | done | with_reducible rfl)
  try simp only [Act.put, List.setIfInBounds_toArray, List.set_cons_zero, List.set_cons_succ]
  refine Bz.wpAnyE_ready (rs := [21]) (by kernel_rfl) (by simp) ?_
  refine Bz.AllReadyE.cons (o := { dst := some 123, op := Go.Op.call { callee := Go.Callee.value (Go.Operand.func 21), args := #[Go.Operand.tmp 122], argTypes := #[24] }, type := 36, pos := "law.go:208", after := #[{ on := 20, ground := Go.Ground.data }, { on := 19, ground := Go.Ground.chain }, { on := 19, ground := Go.Ground.guard }], guard := some (19, true) }) rfl (fun K hK => ?_) Bz.AllReadyE.nil
  go_simp
  
  refine (final_call hT hWF).mono ?_
  rintro e w2 ⟨v, rfl, ⟨A2, c2, rfl, _⟩, hk⟩
  rw [HF.out.2.2]
  have hT := hT.keep0 hk; have hB0 := hB0.keep hk (by simp); have hK0 := hK0.trans hk
  refine hK.out _ _ (by exact hB0.cell) ?_
  clear hHeld hK K; intro hHeld
  try simp only [Act.put, List.setIfInBounds_toArray, List.set_cons_zero, List.set_cons_succ]
  refine Bz.wpAnyE_take (i := 22) (oi := { dst := some 124, op := Go.Op.call { callee := Go.Callee.builtin Go.Builtin.len, args := #[Go.Operand.tmp 123], argTypes := #[36] }, type := 3, pos := "law.go:208", after := #[{ on := 21, ground := Go.Ground.data }, { on := 19, ground := Go.Ground.guard }], guard := some (19, true) }) (v := ?_) rfl (by kernel_rfl) (by kernel_rfl) (by kernel_rfl) (by kernel_rfl) (fun _ _ _ h => h) (Or.inl ⟨by rfl, ?_⟩) hHeld ?_
  rotate_left 1
  · (intro w hSw; (try dsimp only at hSw); go_simp; first | done | with_reducible rfl)
  try simp only [Act.put, List.setIfInBounds_toArray, List.set_cons_zero, List.set_cons_succ]
  refine Bz.wpAnyE_take (i := 23) (oi := { dst := some 125, op := Go.Op.binOp Go.BinOp.eql 3 (Go.Operand.tmp 124) (Go.Operand.const (Go.Value.int Go.IntKind.i64 1)) 3, type := 4, pos := "law.go:208", after := #[{ on := 22, ground := Go.Ground.data }, { on := 19, ground := Go.Ground.guard }], guard := some (19, true) }) (v := ?_) rfl (by kernel_rfl) (by kernel_rfl) (by kernel_rfl) (by kernel_rfl) (fun _ _ _ h => h) (Or.inl ⟨by rfl, ?_⟩) hHeld ?_
  rotate_left 1
  · (intro w hSw; (try dsimp only at hSw); go_simp; first | done | with_reducible rfl)
  try simp only [Act.put, List.setIfInBounds_toArray, List.set_cons_zero, List.set_cons_succ]
  refine Bz.wpAnyE_take (i := 24) (oi := { dst := some 126, op := Go.Op.pick (Go.Operand.tmp 121) (Go.Operand.tmp 125) (Go.Operand.const (Go.Value.bool false)), type := 4, pos := "law.go:208", after := #[{ on := 19, ground := Go.Ground.data }, { on := 23, ground := Go.Ground.data }, { on := 2, ground := Go.Ground.guard }], guard := some (2, false) }) (v := ?_) rfl (by kernel_rfl) (by kernel_rfl) (by kernel_rfl) (by kernel_rfl) (fun _ _ _ h => h) (Or.inl ⟨by rfl, ?_⟩) hHeld ?_
  rotate_left 1
  · (intro w hSw; (try dsimp only at hSw); go_simp; first | done | with_reducible rfl)
  try simp only [Act.put, List.setIfInBounds_toArray, List.set_cons_zero, List.set_cons_succ]
  refine Bz.wpAnyE_take (i := 25) (oi := { dst := some 127, op := Go.Op.pick (Go.Operand.tmp 104) (Go.Operand.const (Go.Value.bool true)) (Go.Operand.tmp 126), type := 4, pos := "law.go:208", after := #[{ on := 2, ground := Go.Ground.data }, { on := 24, ground := Go.Ground.data }], guard := none }) (v := ?_) rfl (by kernel_rfl) (by kernel_rfl) (by kernel_rfl) (by kernel_rfl) (fun _ _ _ h => h) (Or.inl ⟨by rfl, ?_⟩) hHeld ?_
  rotate_left 1
  · (intro w hSw; (try dsimp only at hSw); go_simp; first | done | with_reducible rfl)
  try simp only [Act.put, List.setIfInBounds_toArray, List.set_cons_zero, List.set_cons_succ]
  refine Bz.wpAnyE_take (i := 26) (oi := { dst := some 4, op := Go.Op.assign (Go.Operand.tmp 127), type := 4, pos := "law.go:208", after := #[{ on := 25, ground := Go.Ground.data }, { on := 21, ground := Go.Ground.chain }, { on := 0, ground := Go.Ground.phase }, { on := 1, ground := Go.Ground.phase }, { on := 2, ground := Go.Ground.phase }, { on := 3, ground := Go.Ground.phase }, { on := 4, ground := Go.Ground.phase }, { on := 5, ground := Go.Ground.phase }, { on := 6, ground := Go.Ground.phase }, { on := 7, ground := Go.Ground.phase }, { on := 8, ground := Go.Ground.phase }, { on := 9, ground := Go.Ground.phase }, { on := 10, ground := Go.Ground.phase }, { on := 11, ground := Go.Ground.phase }, { on := 12, ground := Go.Ground.phase }, { on := 13, ground := Go.Ground.phase }, { on := 14, ground := Go.Ground.phase }, { on := 15, ground := Go.Ground.phase }, { on := 16, ground := Go.Ground.phase }, { on := 17, ground := Go.Ground.phase }, { on := 18, ground := Go.Ground.phase }, { on := 19, ground := Go.Ground.phase }, { on := 20, ground := Go.Ground.phase }, { on := 21, ground := Go.Ground.phase }, { on := 22, ground := Go.Ground.phase }, { on := 23, ground := Go.Ground.phase }, { on := 24, ground := Go.Ground.phase }, { on := 25, ground := Go.Ground.phase }], guard := none }) (v := ?_) rfl (by kernel_rfl) (by kernel_rfl) (by kernel_rfl) (by kernel_rfl) (fun _ _ _ h => h) (Or.inl ⟨by rfl, ?_⟩) hHeld ?_
  rotate_left 1
  · (intro w hSw; (try dsimp only at hSw); go_simp; first | done | with_reducible rfl)
  try simp only [Act.put, List.setIfInBounds_toArray, List.set_cons_zero, List.set_cons_succ]
  refine Bz.wpAnyE_done (by kernel_rfl) ?_ _
  refine NoPanic.normal ?_
  
  clear hHeld
  go_wp2_with fail
  go_ret
  exact ⟨rfl, hK0⟩

theorem news_any (d : D8) (n : Int) (w : World) : Calls Try.prog 9 #[dv d, .int .i64 n] w (fun e w' => e = .returned (.bool true) ∧ Keep [] w w') := by
  by_cases h : 0 ≤ n ∧ n ≤ 1000
  · exact news_ok d n w h.1 h.2
  · exact news_bad d n w (by omega)
end Go.Proofs.Ytbkchniomhdieaa
