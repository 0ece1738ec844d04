/- The law's same walked: our tree is as the document's. -/
import Derived.Test.YtbkchniomhdieaaRefUndone
import Derived.Test.YtbkchniomhdieaaAlikeLaw
namespace Go.Proofs.Ytbkchniomhdieaa
open Go.RowKit Go.Bz

set_option maxHeartbeats 8000000 in
theorem lsame_any {t mb : Nat} {T : FT} (hWF : T.WF) (hh : T.Hd) {w : World} {V : Value} (hT : TreeAt w t mb T) (hs : Sl w 57 16 renc V T.ref) :
    Calls Try.prog 30 #[.pointer (some ⟨t, 0, none⟩), rtv V T.rt] w (fun e w' => e = .returned (.bool true) ∧ Keep [] w w') := by
  have q1 := fun W => run_eqD8 (P := Try.prog) W dt29 9998 T.tip T.rt.tip
  rw [decide_eq_true (show T.tip = T.rt.tip from rfl)] at q1
  have l1 : T.final.length ≤ 5000 := by
    have := hWF.line_lt hWF.tip_is
    unfold FT.final; rw [List.length_take]; omega
  have l2 : (T.lines T.tip).length ≤ 5000 := by have := (FT.lines_len hWF T.tip).1; omega
  obtain ⟨w0, hw0⟩ : ∃ W, W = w.alloc (.cells (rcells V T.rt) 42) := ⟨_, rfl⟩
  have B0 : Blk w0 w.heap.size 42 (rcells V T.rt) := by rw [hw0]; exact Blk.new _ _ _
  have hKw : Keep [] w w0 := by rw [hw0]; exact (Keep.refl _ _).alloc _
  have F0 := fun W (hk : Keep [] w0 W) => (B0.keep hk (by simp)).cell
  have T0 := fun W (hk : Keep [] w0 W) => hT.keep0 (hKw.trans hk)
  have S0 := fun W (hk : Keep [] w0 W) => hs.keep0 (hKw.trans hk)
  go_enter Try.func30, Try.ntmps30
  go_wp2_with fail
  rw [← hw0]
  clear hw0
  refine wp_region_noPanic ?_
  refine Bz.wp_region_E (S := (fun w' => Keep [] w0 w')) (E := []) (by kernel_rfl) (by exact (Keep.refl _ _).drew) (fun hHeld => ?_)
  refine Bz.wpAnyE_take (i := 0) (oi := { dst := some 5, op := Go.Op.move (Go.Operand.tmp 0), type := 24, pos := "law.go:49", after := #[], guard := none }) (v := ?_) rfl (by kernel_rfl) (by kernel_rfl) (by kernel_rfl) (by kernel_rfl) (fun _ _ _ h => h) (Or.inl ⟨by rfl, ?_⟩) hHeld ?_
  rotate_left 1
  · (intro w hSw; have f0 := F0 w hSw; go_simp; first | done | with_reducible rfl)
  try simp only [Act.put, List.setIfInBounds_toArray, List.set_cons_zero, List.set_cons_succ]
  refine Bz.wpAnyE_take (i := 2) (oi := { dst := some 7, op := Go.Op.fieldAddr 42 (Go.Operand.tmp 3) 2, type := 0, pos := "law.go:49", after := #[], guard := none }) (v := ?_) rfl (by kernel_rfl) (by kernel_rfl) (by kernel_rfl) (by kernel_rfl) (fun _ _ _ h => h) (Or.inl ⟨by rfl, ?_⟩) hHeld ?_
  rotate_left 1
  · (intro w hSw; have f0 := F0 w hSw; go_simp; first | done | with_reducible rfl)
  try simp only [Act.put, List.setIfInBounds_toArray, List.set_cons_zero, List.set_cons_succ]
  refine Bz.wpAnyE_take (i := 3) (oi := { dst := some 8, op := Go.Op.load 28 (Go.Operand.tmp 7), type := 28, pos := "law.go:49", after := #[{ on := 2, ground := Go.Ground.data }], guard := none }) (v := ?_) rfl (by kernel_rfl) (by kernel_rfl) (by kernel_rfl) (by kernel_rfl) (fun _ _ _ h => h) (Or.inl ⟨by rfl, ?_⟩) hHeld ?_
  rotate_left 1
  · (intro w hSw; have f0 := F0 w hSw; go_simp; first | done | with_reducible rfl)
  try simp only [Act.put, List.setIfInBounds_toArray, List.set_cons_zero, List.set_cons_succ]
  refine Bz.wpAnyE_ready (rs := [1]) (by kernel_rfl) (by simp) ?_
  refine Bz.AllReadyE.cons (o := { dst := some 6, op := Go.Op.call { callee := Go.Callee.value (Go.Operand.func 13), args := #[Go.Operand.tmp 5], argTypes := #[24] }, type := 29, pos := "law.go:49", after := #[{ on := 0, ground := Go.Ground.data }], guard := none }) rfl (fun K hK => ?_) Bz.AllReadyE.nil
  go_simp
  
  refine (tip_any (T0 _ hHeld)).mono ?_
  rintro e w5 ⟨rfl, hk5⟩
  refine hK.out _ _ (by exact hHeld.trans hk5) ?_
  clear hHeld hK K; intro hHeld
  try simp only [Act.put, List.setIfInBounds_toArray, List.set_cons_zero, List.set_cons_succ]
  refine Bz.wpAnyE_take (i := 4) (oi := { dst := some 9, op := Go.Op.binOp Go.BinOp.eql 29 (Go.Operand.tmp 6) (Go.Operand.tmp 8) 29, type := 4, pos := "law.go:49", after := #[{ on := 1, ground := Go.Ground.data }, { on := 3, ground := Go.Ground.data }], guard := none }) (v := ?_) rfl (by kernel_rfl) (by kernel_rfl) (by kernel_rfl) (by kernel_rfl) (fun _ _ _ h => h) (Or.inl ⟨by rfl, ?_⟩) hHeld ?_
  rotate_left 1
  · (intro w hSw; have f0 := F0 w hSw; go_simp; first | done | with_reducible rfl)
  try simp only [Act.put, List.setIfInBounds_toArray, List.set_cons_zero, List.set_cons_succ]
  refine Bz.wpAnyE_take (i := 5) (oi := { dst := some 10, op := Go.Op.move (Go.Operand.tmp 9), type := 4, pos := "law.go:49", after := #[{ on := 4, ground := Go.Ground.data }, { on := 1, ground := Go.Ground.chain }], guard := none }) (v := ?_) rfl (by kernel_rfl) (by kernel_rfl) (by kernel_rfl) (by kernel_rfl) (fun _ _ _ h => h) (Or.inl ⟨by rfl, ?_⟩) hHeld ?_
  rotate_left 1
  · (intro w hSw; have f0 := F0 w hSw; go_simp; first | done | with_reducible rfl)
  try simp only [Act.put, List.setIfInBounds_toArray, List.set_cons_zero, List.set_cons_succ]
  refine Bz.wpAnyE_take (i := 6) (oi := { dst := some 11, op := Go.Op.move (Go.Operand.tmp 0), type := 24, pos := "law.go:49", after := #[{ on := 5, ground := Go.Ground.guard }], guard := some (5, true) }) (v := ?_) rfl (by kernel_rfl) (by kernel_rfl) (by kernel_rfl) (by kernel_rfl) (fun _ _ _ h => h) (Or.inl ⟨by rfl, ?_⟩) hHeld ?_
  rotate_left 1
  · (intro w hSw; have f0 := F0 w hSw; go_simp; first | done | with_reducible rfl)
  try simp only [Act.put, List.setIfInBounds_toArray, List.set_cons_zero, List.set_cons_succ]
  refine Bz.wpAnyE_take (i := 9) (oi := { dst := some 14, op := Go.Op.load 42 (Go.Operand.tmp 3), type := 42, pos := "law.go:49", after := #[{ on := 5, ground := Go.Ground.guard }], guard := some (5, true) }) (v := ?_) rfl (by kernel_rfl) (by kernel_rfl) (by kernel_rfl) (by kernel_rfl) (fun _ _ _ h => h) (Or.inl ⟨by rfl, ?_⟩) hHeld ?_
  rotate_left 1
  · (intro w hSw; have f0 := F0 w hSw; go_simp; first | done | with_reducible rfl)
  try simp only [Act.put, List.setIfInBounds_toArray, List.set_cons_zero, List.set_cons_succ]
  refine Bz.wpAnyE_ready (rs := [7]) (by kernel_rfl) (by simp) ?_
  refine Bz.AllReadyE.cons (o := { dst := some 12, op := Go.Op.call { callee := Go.Callee.value (Go.Operand.func 21), args := #[Go.Operand.tmp 11], argTypes := #[24] }, type := 36, pos := "law.go:49", after := #[{ on := 6, ground := Go.Ground.data }, { on := 5, ground := Go.Ground.chain }, { on := 5, ground := Go.Ground.guard }], guard := some (5, true) }) rfl (fun K hK => ?_) Bz.AllReadyE.nil
  go_simp
  
  refine (final_call (T0 _ hHeld) hWF).mono ?_
  rintro e w5 ⟨v5, rfl, hv5, hk5⟩
  refine hK.out _ _ (by exact hHeld.trans hk5) ?_
  clear hHeld hK K; intro hHeld
  try simp only [Act.put, List.setIfInBounds_toArray, List.set_cons_zero, List.set_cons_succ]
  refine Bz.wpAnyE_ready (rs := [8]) (by kernel_rfl) (by simp) ?_
  refine Bz.AllReadyE.cons (o := { dst := some 13, op := Go.Op.call { callee := Go.Callee.value (Go.Operand.func 20), args := #[Go.Operand.tmp 12], argTypes := #[36] }, type := 47, pos := "law.go:49", after := #[{ on := 7, ground := Go.Ground.data }, { on := 7, ground := Go.Ground.chain }, { on := 5, ground := Go.Ground.guard }], guard := some (5, true) }) rfl (fun K hK => ?_) Bz.AllReadyE.nil
  go_simp
  
  refine (plain_any hv5 l1).mono ?_
  rintro e w6 ⟨v6, rfl, hv6, hk5⟩
  have hv6 := hv6.sl dsz
  refine hK.out _ _ (by exact hHeld.trans hk5) ?_
  clear hHeld hK K; intro hHeld
  try simp only [Act.put, List.setIfInBounds_toArray, List.set_cons_zero, List.set_cons_succ]
  refine Bz.wpAnyE_ready (rs := [10]) (by kernel_rfl) (by simp) ?_
  refine Bz.AllReadyE.cons (o := { dst := some 15, op := Go.Op.call { callee := Go.Callee.value (Go.Operand.func 38), args := #[Go.Operand.tmp 14], argTypes := #[42] }, type := 47, pos := "law.go:49", after := #[{ on := 9, ground := Go.Ground.data }, { on := 8, ground := Go.Ground.chain }, { on := 5, ground := Go.Ground.guard }], guard := some (5, true) }) rfl (fun K hK => ?_) Bz.AllReadyE.nil
  go_simp
  
  refine (rfinal_any hWF hh (S0 _ hHeld)).mono ?_
  rintro e w7 ⟨v7, rfl, hv7, hk5⟩
  have hv6 := hv6.keep0 hk5
  refine hK.out _ _ (by exact hHeld.trans hk5) ?_
  clear hHeld hK K; intro hHeld
  try simp only [Act.put, List.setIfInBounds_toArray, List.set_cons_zero, List.set_cons_succ]
  refine Bz.wpAnyE_ready (rs := [11]) (by kernel_rfl) (by simp) ?_
  refine Bz.AllReadyE.cons (o := { dst := some 16, op := Go.Op.call { callee := Go.Callee.value (Go.Operand.func 19), args := #[Go.Operand.tmp 13, Go.Operand.tmp 15], argTypes := #[47, 47] }, type := 4, pos := "law.go:49", after := #[{ on := 8, ground := Go.Ground.data }, { on := 10, ground := Go.Ground.data }, { on := 10, ground := Go.Ground.chain }, { on := 5, ground := Go.Ground.guard }], guard := some (5, true) }) rfl (fun K hK => ?_) Bz.AllReadyE.nil
  go_simp
  
  refine (same_any hv6 hv7).mono ?_
  rw [decide_eq_true rfl]
  rintro e w9 ⟨rfl, hk5⟩
  refine hK.out _ _ (by exact hHeld.trans hk5) ?_
  clear hHeld hK K; intro hHeld
  try simp only [Act.put, List.setIfInBounds_toArray, List.set_cons_zero, List.set_cons_succ]
  refine Bz.wpAnyE_take (i := 12) (oi := { dst := some 17, op := Go.Op.pick (Go.Operand.tmp 10) (Go.Operand.tmp 16) (Go.Operand.const (Go.Value.bool false)), type := 4, pos := "law.go:49", after := #[{ on := 5, ground := Go.Ground.data }, { on := 11, ground := Go.Ground.data }], guard := none }) (v := ?_) rfl (by kernel_rfl) (by kernel_rfl) (by kernel_rfl) (by kernel_rfl) (fun _ _ _ h => h) (Or.inl ⟨by rfl, ?_⟩) hHeld ?_
  rotate_left 1
  · (intro w hSw; have f0 := F0 w hSw; go_simp; first | done | with_reducible rfl)
  try simp only [Act.put, List.setIfInBounds_toArray, List.set_cons_zero, List.set_cons_succ]
  refine Bz.wpAnyE_take (i := 13) (oi := { dst := some 18, op := Go.Op.move (Go.Operand.tmp 17), type := 4, pos := "law.go:49", after := #[{ on := 12, ground := Go.Ground.data }, { on := 11, ground := Go.Ground.chain }], guard := none }) (v := ?_) rfl (by kernel_rfl) (by kernel_rfl) (by kernel_rfl) (by kernel_rfl) (fun _ _ _ h => h) (Or.inl ⟨by rfl, ?_⟩) hHeld ?_
  rotate_left 1
  · (intro w hSw; have f0 := F0 w hSw; go_simp; first | done | with_reducible rfl)
  try simp only [Act.put, List.setIfInBounds_toArray, List.set_cons_zero, List.set_cons_succ]
  refine Bz.wpAnyE_take (i := 14) (oi := { dst := some 19, op := Go.Op.move (Go.Operand.tmp 0), type := 24, pos := "law.go:49", after := #[{ on := 13, ground := Go.Ground.guard }], guard := some (13, true) }) (v := ?_) rfl (by kernel_rfl) (by kernel_rfl) (by kernel_rfl) (by kernel_rfl) (fun _ _ _ h => h) (Or.inl ⟨by rfl, ?_⟩) hHeld ?_
  rotate_left 1
  · (intro w hSw; have f0 := F0 w hSw; go_simp; first | done | with_reducible rfl)
  try simp only [Act.put, List.setIfInBounds_toArray, List.set_cons_zero, List.set_cons_succ]
  refine Bz.wpAnyE_take (i := 15) (oi := { dst := some 20, op := Go.Op.fieldAddr 42 (Go.Operand.tmp 3) 2, type := 0, pos := "law.go:49", after := #[{ on := 13, ground := Go.Ground.guard }], guard := some (13, true) }) (v := ?_) rfl (by kernel_rfl) (by kernel_rfl) (by kernel_rfl) (by kernel_rfl) (fun _ _ _ h => h) (Or.inl ⟨by rfl, ?_⟩) hHeld ?_
  rotate_left 1
  · (intro w hSw; have f0 := F0 w hSw; go_simp; first | done | with_reducible rfl)
  try simp only [Act.put, List.setIfInBounds_toArray, List.set_cons_zero, List.set_cons_succ]
  refine Bz.wpAnyE_take (i := 16) (oi := { dst := some 21, op := Go.Op.load 28 (Go.Operand.tmp 20), type := 28, pos := "law.go:49", after := #[{ on := 15, ground := Go.Ground.data }, { on := 13, ground := Go.Ground.guard }], guard := some (13, true) }) (v := ?_) rfl (by kernel_rfl) (by kernel_rfl) (by kernel_rfl) (by kernel_rfl) (fun _ _ _ h => h) (Or.inl ⟨by rfl, ?_⟩) hHeld ?_
  rotate_left 1
  · (intro w hSw; have f0 := F0 w hSw; go_simp; first | done | with_reducible rfl)
  try simp only [Act.put, List.setIfInBounds_toArray, List.set_cons_zero, List.set_cons_succ]
  refine Bz.wpAnyE_take (i := 19) (oi := { dst := some 24, op := Go.Op.load 42 (Go.Operand.tmp 3), type := 42, pos := "law.go:49", after := #[{ on := 13, ground := Go.Ground.guard }], guard := some (13, true) }) (v := ?_) rfl (by kernel_rfl) (by kernel_rfl) (by kernel_rfl) (by kernel_rfl) (fun _ _ _ h => h) (Or.inl ⟨by rfl, ?_⟩) hHeld ?_
  rotate_left 1
  · (intro w hSw; have f0 := F0 w hSw; go_simp; first | done | with_reducible rfl)
  try simp only [Act.put, List.setIfInBounds_toArray, List.set_cons_zero, List.set_cons_succ]
  refine Bz.wpAnyE_take (i := 20) (oi := { dst := some 25, op := Go.Op.fieldAddr 42 (Go.Operand.tmp 3) 2, type := 0, pos := "law.go:49", after := #[{ on := 13, ground := Go.Ground.guard }], guard := some (13, true) }) (v := ?_) rfl (by kernel_rfl) (by kernel_rfl) (by kernel_rfl) (by kernel_rfl) (fun _ _ _ h => h) (Or.inl ⟨by rfl, ?_⟩) hHeld ?_
  rotate_left 1
  · (intro w hSw; have f0 := F0 w hSw; go_simp; first | done | with_reducible rfl)
  try simp only [Act.put, List.setIfInBounds_toArray, List.set_cons_zero, List.set_cons_succ]
  refine Bz.wpAnyE_take (i := 21) (oi := { dst := some 26, op := Go.Op.load 28 (Go.Operand.tmp 25), type := 28, pos := "law.go:49", after := #[{ on := 20, ground := Go.Ground.data }, { on := 13, ground := Go.Ground.guard }], guard := some (13, true) }) (v := ?_) rfl (by kernel_rfl) (by kernel_rfl) (by kernel_rfl) (by kernel_rfl) (fun _ _ _ h => h) (Or.inl ⟨by rfl, ?_⟩) hHeld ?_
  rotate_left 1
  · (intro w hSw; have f0 := F0 w hSw; go_simp; first | done | with_reducible rfl)
  try simp only [Act.put, List.setIfInBounds_toArray, List.set_cons_zero, List.set_cons_succ]
  refine Bz.wpAnyE_ready (rs := [17]) (by kernel_rfl) (by simp) ?_
  refine Bz.AllReadyE.cons (o := { dst := some 22, op := Go.Op.call { callee := Go.Callee.value (Go.Operand.func 18), args := #[Go.Operand.tmp 19, Go.Operand.tmp 21], argTypes := #[24, 29] }, type := 36, pos := "law.go:49", after := #[{ on := 14, ground := Go.Ground.data }, { on := 16, ground := Go.Ground.data }, { on := 13, ground := Go.Ground.chain }, { on := 13, ground := Go.Ground.guard }], guard := some (13, true) }) rfl (fun K hK => ?_) Bz.AllReadyE.nil
  go_simp
  
  refine (line_call (T0 _ hHeld) hWF T.rt.tip).mono ?_
  rintro e w5 ⟨v8, rfl, hv8, hk5⟩
  refine hK.out _ _ (by exact hHeld.trans hk5) ?_
  clear hHeld hK K; intro hHeld
  try simp only [Act.put, List.setIfInBounds_toArray, List.set_cons_zero, List.set_cons_succ]
  refine Bz.wpAnyE_ready (rs := [18]) (by kernel_rfl) (by simp) ?_
  refine Bz.AllReadyE.cons (o := { dst := some 23, op := Go.Op.call { callee := Go.Callee.value (Go.Operand.func 20), args := #[Go.Operand.tmp 22], argTypes := #[36] }, type := 47, pos := "law.go:49", after := #[{ on := 17, ground := Go.Ground.data }, { on := 17, ground := Go.Ground.chain }, { on := 13, ground := Go.Ground.guard }], guard := some (13, true) }) rfl (fun K hK => ?_) Bz.AllReadyE.nil
  go_simp
  
  refine (plain_any hv8 l2).mono ?_
  rintro e w6 ⟨v6, rfl, hv6, hk5⟩
  have hv6 := hv6.sl dsz
  refine hK.out _ _ (by exact hHeld.trans hk5) ?_
  clear hHeld hK K; intro hHeld
  try simp only [Act.put, List.setIfInBounds_toArray, List.set_cons_zero, List.set_cons_succ]
  refine Bz.wpAnyE_ready (rs := [22]) (by kernel_rfl) (by simp) ?_
  refine Bz.AllReadyE.cons (o := { dst := some 27, op := Go.Op.call { callee := Go.Callee.value (Go.Operand.func 26), args := #[Go.Operand.tmp 24, Go.Operand.tmp 26], argTypes := #[42, 28] }, type := 47, pos := "law.go:49", after := #[{ on := 19, ground := Go.Ground.data }, { on := 21, ground := Go.Ground.data }, { on := 18, ground := Go.Ground.chain }, { on := 13, ground := Go.Ground.guard }], guard := some (13, true) }) rfl (fun K hK => ?_) Bz.AllReadyE.nil
  go_simp
  
  refine (rline_any hWF hh T.rt.tip (S0 _ hHeld)).mono ?_
  rintro e w7 ⟨v7, rfl, hv7, hk5⟩
  have hv7 := hv7.sl dsz
  have hv6 := hv6.keep0 hk5
  refine hK.out _ _ (by exact hHeld.trans hk5) ?_
  clear hHeld hK K; intro hHeld
  try simp only [Act.put, List.setIfInBounds_toArray, List.set_cons_zero, List.set_cons_succ]
  refine Bz.wpAnyE_ready (rs := [23]) (by kernel_rfl) (by simp) ?_
  refine Bz.AllReadyE.cons (o := { dst := some 28, op := Go.Op.call { callee := Go.Callee.value (Go.Operand.func 19), args := #[Go.Operand.tmp 23, Go.Operand.tmp 27], argTypes := #[47, 47] }, type := 4, pos := "law.go:49", after := #[{ on := 18, ground := Go.Ground.data }, { on := 22, ground := Go.Ground.data }, { on := 22, ground := Go.Ground.chain }, { on := 13, ground := Go.Ground.guard }], guard := some (13, true) }) rfl (fun K hK => ?_) Bz.AllReadyE.nil
  go_simp
  
  refine (same_any hv6 hv7).mono ?_
  rw [decide_eq_true rfl]
  rintro e w9 ⟨rfl, hk5⟩
  refine hK.out _ _ (by exact hHeld.trans hk5) ?_
  clear hHeld hK K; intro hHeld
  try simp only [Act.put, List.setIfInBounds_toArray, List.set_cons_zero, List.set_cons_succ]
  refine Bz.wpAnyE_take (i := 24) (oi := { dst := some 29, op := Go.Op.pick (Go.Operand.tmp 18) (Go.Operand.tmp 28) (Go.Operand.const (Go.Value.bool false)), type := 4, pos := "law.go:49", after := #[{ on := 13, ground := Go.Ground.data }, { on := 23, ground := Go.Ground.data }], guard := none }) (v := ?_) rfl (by kernel_rfl) (by kernel_rfl) (by kernel_rfl) (by kernel_rfl) (fun _ _ _ h => h) (Or.inl ⟨by rfl, ?_⟩) hHeld ?_
  rotate_left 1
  · (intro w hSw; have f0 := F0 w hSw; go_simp; first | done | with_reducible rfl)
  try simp only [Act.put, List.setIfInBounds_toArray, List.set_cons_zero, List.set_cons_succ]
  refine Bz.wpAnyE_take (i := 25) (oi := { dst := some 4, op := Go.Op.assign (Go.Operand.tmp 29), type := 4, pos := "law.go:49", after := #[{ on := 24, ground := Go.Ground.data }, { on := 23, ground := Go.Ground.chain }, { on := 0, ground := Go.Ground.phase }, { on := 1, ground := Go.Ground.phase }, { on := 2, ground := Go.Ground.phase }, { on := 3, ground := Go.Ground.phase }, { on := 4, ground := Go.Ground.phase }, { on := 5, ground := Go.Ground.phase }, { on := 6, ground := Go.Ground.phase }, { on := 7, ground := Go.Ground.phase }, { on := 8, ground := Go.Ground.phase }, { on := 9, ground := Go.Ground.phase }, { on := 10, ground := Go.Ground.phase }, { on := 11, ground := Go.Ground.phase }, { on := 12, ground := Go.Ground.phase }, { on := 13, ground := Go.Ground.phase }, { on := 14, ground := Go.Ground.phase }, { on := 15, ground := Go.Ground.phase }, { on := 16, ground := Go.Ground.phase }, { on := 17, ground := Go.Ground.phase }, { on := 18, ground := Go.Ground.phase }, { on := 19, ground := Go.Ground.phase }, { on := 20, ground := Go.Ground.phase }, { on := 21, ground := Go.Ground.phase }, { on := 22, ground := Go.Ground.phase }, { on := 23, ground := Go.Ground.phase }, { on := 24, ground := Go.Ground.phase }], guard := none }) (v := ?_) rfl (by kernel_rfl) (by kernel_rfl) (by kernel_rfl) (by kernel_rfl) (fun _ _ _ h => h) (Or.inl ⟨by rfl, ?_⟩) hHeld ?_
  rotate_left 1
  · (intro w hSw; have f0 := F0 w hSw; go_simp; first | done | with_reducible rfl)
  try simp only [Act.put, List.setIfInBounds_toArray, List.set_cons_zero, List.set_cons_succ]
  refine Bz.wpAnyE_done (by kernel_rfl) ?_ _
  refine NoPanic.normal ?_
  
  go_wp2_with fail
  go_ret
  exact ⟨rfl, hKw.trans hHeld⟩
end Go.Proofs.Ytbkchniomhdieaa
