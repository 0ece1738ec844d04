/- fork's Parent, the document's Alike, the law's same walked. -/
import Derived.Test.YtbkchniomhdieaaAlikeLaw
namespace Go.Proofs.Ytbkchniomhdieaa
open Go.RowKit Go.Bz

def FT.under (T : FT) (x : D8) : Bool := T.is x && decide (x ≠ T.first)
set_option maxHeartbeats 2000000 in
theorem parent_any {t mb : Nat} {T : FT} {w : World} (h : TreeAt w t mb T) (hT : T.WF) (x : D8) :
    Calls Try.prog 23 #[.pointer (some ⟨t, 0, none⟩), dv x] w (fun e w' => e = .returned (.tuple #[dv (T.get x).1, .bool (T.under x)]) ∧ Keep [] w w') := by
  have B1 := (Blk.new w 29 (dcells x)).alloc (.cells (dcells ⟨0, 0, 0, 0, 0, 0, 0, 0⟩) 29)
  have B2 := Blk.new_ (w := w.alloc (.cells (dcells x) 29)) (t := 29) (cs := dcells d0) (g := w.heap.size + 1) (by simp)
  have hT1 := (h.alloc (.cells (dcells x) 29)).alloc (.cells (dcells ⟨0, 0, 0, 0, 0, 0, 0, 0⟩) 29)
  have hKw := ((Keep.refl [] w).alloc (.cells (dcells x) 29)).alloc (.cells (dcells ⟨0, 0, 0, 0, 0, 0, 0, 0⟩) 29)
  have c1 := B1.cell
  have ct := hT1.1.cell
  have q1 := fun W => run_eqD8 (P := Try.prog) W dt29 9998 x T.first
  by_cases he : x = T.first
  · rw [decide_eq_true he] at q1
    have HU : Hid ((T.get x).1 = d0 ∧ T.under x = false) := Lib.hid ⟨by rw [he, hT.get_first], by unfold FT.under; simp [he]⟩
    clear he h
    go_enter Try.func23, Try.ntmps23
    go_wp2_with fail
    refine wp_region_noPanic ?_
    refine Bz.wp_region_E (S := (fun w' => (∀ i, w'.cell? ⟨w.heap.size, i, none⟩ = (dcells x)[i]?) ∧ (∀ i, w'.cell? ⟨t, i, none⟩ = (tcells T mb)[i]?))) (E := []) (by kernel_rfl) (by exact ⟨c1, ct⟩) (fun hHeld => ?_)
    refine Bz.wpAnyE_take (i := 0) (oi := { dst := some 8, op := Go.Op.move (Go.Operand.tmp 0), type := 24, pos := "fork.go:99", after := #[], guard := none }) (v := ?_) rfl (by kernel_rfl) (by kernel_rfl) (by kernel_rfl) (by kernel_rfl) (fun _ _ _ h => h) (Or.inl ⟨by rfl, ?_⟩) hHeld ?_
    rotate_left 1
    · (intro w hSw; (try dsimp only at hSw); go_simp; first | done | with_reducible rfl)
    try simp only [Act.put, List.setIfInBounds_toArray, List.set_cons_zero, List.set_cons_succ]
    refine Bz.wpAnyE_take (i := 1) (oi := { dst := some 9, op := Go.Op.binOp Go.BinOp.eql 24 (Go.Operand.tmp 8) (Go.Operand.const (Go.Value.pointer none)) 24, type := 4, pos := "fork.go:99", after := #[{ on := 0, ground := Go.Ground.data }], guard := none }) (v := ?_) rfl (by kernel_rfl) (by kernel_rfl) (by kernel_rfl) (by kernel_rfl) (fun _ _ _ h => h) (Or.inl ⟨by rfl, ?_⟩) hHeld ?_
    rotate_left 1
    · (intro w hSw; (try dsimp only at hSw); go_simp; first | done | with_reducible rfl)
    try simp only [Act.put, List.setIfInBounds_toArray, List.set_cons_zero, List.set_cons_succ]
    refine Bz.wpAnyE_take (i := 2) (oi := { dst := some 10, op := Go.Op.move (Go.Operand.tmp 9), type := 4, pos := "fork.go:99", after := #[{ on := 1, ground := Go.Ground.data }], guard := none }) (v := ?_) rfl (by kernel_rfl) (by kernel_rfl) (by kernel_rfl) (by kernel_rfl) (fun _ _ _ h => h) (Or.inl ⟨by rfl, ?_⟩) hHeld ?_
    rotate_left 1
    · (intro w hSw; (try dsimp only at hSw); go_simp; first | done | with_reducible rfl)
    try simp only [Act.put, List.setIfInBounds_toArray, List.set_cons_zero, List.set_cons_succ]
    refine Bz.wpAnyE_take (i := 3) (oi := { dst := some 11, op := Go.Op.load 29 (Go.Operand.tmp 3), type := 29, pos := "fork.go:99", after := #[{ on := 2, ground := Go.Ground.guard }], guard := some (2, false) }) (v := ?_) rfl (by kernel_rfl) (by kernel_rfl) (by kernel_rfl) (by kernel_rfl) (fun _ _ _ h => h) (Or.inl ⟨by rfl, ?_⟩) hHeld ?_
    rotate_left 1
    · (intro w hSw; (try dsimp only at hSw); go_simp; first | done | with_reducible rfl)
    try simp only [Act.put, List.setIfInBounds_toArray, List.set_cons_zero, List.set_cons_succ]
    refine Bz.wpAnyE_take (i := 4) (oi := { dst := some 12, op := Go.Op.move (Go.Operand.tmp 0), type := 24, pos := "fork.go:99", after := #[{ on := 2, ground := Go.Ground.guard }], guard := some (2, false) }) (v := ?_) rfl (by kernel_rfl) (by kernel_rfl) (by kernel_rfl) (by kernel_rfl) (fun _ _ _ h => h) (Or.inl ⟨by rfl, ?_⟩) hHeld ?_
    rotate_left 1
    · (intro w hSw; (try dsimp only at hSw); go_simp; first | done | with_reducible rfl)
    try simp only [Act.put, List.setIfInBounds_toArray, List.set_cons_zero, List.set_cons_succ]
    refine Bz.wpAnyE_take (i := 5) (oi := { dst := some 13, op := Go.Op.nilCheck (Go.Operand.tmp 12), type := 0, pos := "fork.go:99", after := #[{ on := 4, ground := Go.Ground.data }, { on := 2, ground := Go.Ground.guard }], guard := some (2, false) }) (v := ?_) rfl (by kernel_rfl) (by kernel_rfl) (by kernel_rfl) (by kernel_rfl) (fun _ _ _ h => h) (Or.inl ⟨by rfl, ?_⟩) hHeld ?_
    rotate_left 1
    · (intro w hSw; (try dsimp only at hSw); go_simp; first | done | with_reducible rfl)
    try simp only [Act.put, List.setIfInBounds_toArray, List.set_cons_zero, List.set_cons_succ]
    refine Bz.wpAnyE_take (i := 6) (oi := { dst := some 14, op := Go.Op.fieldAddr 72 (Go.Operand.tmp 13) 0, type := 0, pos := "fork.go:99", after := #[{ on := 5, ground := Go.Ground.data }, { on := 2, ground := Go.Ground.guard }], guard := some (2, false) }) (v := ?_) rfl (by kernel_rfl) (by kernel_rfl) (by kernel_rfl) (by kernel_rfl) (fun _ _ _ h => h) (Or.inl ⟨by rfl, ?_⟩) hHeld ?_
    rotate_left 1
    · (intro w hSw; (try dsimp only at hSw); go_simp; first | done | with_reducible rfl)
    try simp only [Act.put, List.setIfInBounds_toArray, List.set_cons_zero, List.set_cons_succ]
    refine Bz.wpAnyE_take (i := 7) (oi := { dst := some 15, op := Go.Op.load 29 (Go.Operand.tmp 14), type := 29, pos := "fork.go:99", after := #[{ on := 6, ground := Go.Ground.data }, { on := 2, ground := Go.Ground.guard }], guard := some (2, false) }) (v := ?_) rfl (by kernel_rfl) (by kernel_rfl) (by kernel_rfl) (by kernel_rfl) (fun _ _ _ h => h) (Or.inl ⟨by rfl, ?_⟩) hHeld ?_
    rotate_left 1
    · (intro w hSw; (try dsimp only at hSw); go_simp; first | done | with_reducible rfl)
    try simp only [Act.put, List.setIfInBounds_toArray, List.set_cons_zero, List.set_cons_succ]
    refine Bz.wpAnyE_take (i := 8) (oi := { dst := some 16, op := Go.Op.binOp Go.BinOp.eql 29 (Go.Operand.tmp 11) (Go.Operand.tmp 15) 29, type := 4, pos := "fork.go:99", after := #[{ on := 3, ground := Go.Ground.data }, { on := 7, ground := Go.Ground.data }, { on := 2, ground := Go.Ground.guard }], guard := some (2, false) }) (v := ?_) rfl (by kernel_rfl) (by kernel_rfl) (by kernel_rfl) (by kernel_rfl) (fun _ _ _ h => h) (Or.inl ⟨by rfl, ?_⟩) hHeld ?_
    rotate_left 1
    · (intro w hSw; (try dsimp only at hSw); go_simp; first | done | with_reducible rfl)
    try simp only [Act.put, List.setIfInBounds_toArray, List.set_cons_zero, List.set_cons_succ]
    refine Bz.wpAnyE_take (i := 9) (oi := { dst := some 17, op := Go.Op.pick (Go.Operand.tmp 10) (Go.Operand.const (Go.Value.bool true)) (Go.Operand.tmp 16), type := 4, pos := "fork.go:99", after := #[{ on := 2, ground := Go.Ground.data }, { on := 8, ground := Go.Ground.data }], guard := none }) (v := ?_) rfl (by kernel_rfl) (by kernel_rfl) (by kernel_rfl) (by kernel_rfl) (fun _ _ _ h => h) (Or.inl ⟨by rfl, ?_⟩) hHeld ?_
    rotate_left 1
    · (intro w hSw; (try dsimp only at hSw); go_simp; first | done | with_reducible rfl)
    try simp only [Act.put, List.setIfInBounds_toArray, List.set_cons_zero, List.set_cons_succ]
    refine Bz.wpAnyE_done (by kernel_rfl) ?_ _
    refine NoPanic.normal ?_
    
    clear hHeld
    have c2 := B2.cell
    have f2 := B2.frozen
    go_wp2_with fail
    have cS := B2.drew.cell
    exact bodyPost_ret (v := .tuple #[dv ⟨0, 0, 0, 0, 0, 0, 0, 0⟩, .bool false]) (by simp [results, Try.results23, go_sem, cS]) rfl ⟨by rw [HU.out.1, HU.out.2]; rfl, hKw.drew⟩
  · rw [decide_eq_false he] at q1
    have HU : Hid (T.under x = T.is x) := Lib.hid (by unfold FT.under; simp [he])
    go_enter Try.func23, Try.ntmps23
    go_wp2_with fail
    refine wp_region_noPanic ?_
    refine Bz.wp_region_E (S := (fun w' => (∀ i, w'.cell? ⟨w.heap.size, i, none⟩ = (dcells x)[i]?) ∧ (∀ i, w'.cell? ⟨t, i, none⟩ = (tcells T mb)[i]?))) (E := []) (by kernel_rfl) (by exact ⟨c1, ct⟩) (fun hHeld => ?_)
    refine Bz.wpAnyE_take (i := 0) (oi := { dst := some 8, op := Go.Op.move (Go.Operand.tmp 0), type := 24, pos := "fork.go:99", after := #[], guard := none }) (v := ?_) rfl (by kernel_rfl) (by kernel_rfl) (by kernel_rfl) (by kernel_rfl) (fun _ _ _ h => h) (Or.inl ⟨by rfl, ?_⟩) hHeld ?_
    rotate_left 1
    · (intro w hSw; (try dsimp only at hSw); go_simp; first | done | with_reducible rfl)
    try simp only [Act.put, List.setIfInBounds_toArray, List.set_cons_zero, List.set_cons_succ]
    refine Bz.wpAnyE_take (i := 1) (oi := { dst := some 9, op := Go.Op.binOp Go.BinOp.eql 24 (Go.Operand.tmp 8) (Go.Operand.const (Go.Value.pointer none)) 24, type := 4, pos := "fork.go:99", after := #[{ on := 0, ground := Go.Ground.data }], guard := none }) (v := ?_) rfl (by kernel_rfl) (by kernel_rfl) (by kernel_rfl) (by kernel_rfl) (fun _ _ _ h => h) (Or.inl ⟨by rfl, ?_⟩) hHeld ?_
    rotate_left 1
    · (intro w hSw; (try dsimp only at hSw); go_simp; first | done | with_reducible rfl)
    try simp only [Act.put, List.setIfInBounds_toArray, List.set_cons_zero, List.set_cons_succ]
    refine Bz.wpAnyE_take (i := 2) (oi := { dst := some 10, op := Go.Op.move (Go.Operand.tmp 9), type := 4, pos := "fork.go:99", after := #[{ on := 1, ground := Go.Ground.data }], guard := none }) (v := ?_) rfl (by kernel_rfl) (by kernel_rfl) (by kernel_rfl) (by kernel_rfl) (fun _ _ _ h => h) (Or.inl ⟨by rfl, ?_⟩) hHeld ?_
    rotate_left 1
    · (intro w hSw; (try dsimp only at hSw); go_simp; first | done | with_reducible rfl)
    try simp only [Act.put, List.setIfInBounds_toArray, List.set_cons_zero, List.set_cons_succ]
    refine Bz.wpAnyE_take (i := 3) (oi := { dst := some 11, op := Go.Op.load 29 (Go.Operand.tmp 3), type := 29, pos := "fork.go:99", after := #[{ on := 2, ground := Go.Ground.guard }], guard := some (2, false) }) (v := ?_) rfl (by kernel_rfl) (by kernel_rfl) (by kernel_rfl) (by kernel_rfl) (fun _ _ _ h => h) (Or.inl ⟨by rfl, ?_⟩) hHeld ?_
    rotate_left 1
    · (intro w hSw; (try dsimp only at hSw); go_simp; first | done | with_reducible rfl)
    try simp only [Act.put, List.setIfInBounds_toArray, List.set_cons_zero, List.set_cons_succ]
    refine Bz.wpAnyE_take (i := 4) (oi := { dst := some 12, op := Go.Op.move (Go.Operand.tmp 0), type := 24, pos := "fork.go:99", after := #[{ on := 2, ground := Go.Ground.guard }], guard := some (2, false) }) (v := ?_) rfl (by kernel_rfl) (by kernel_rfl) (by kernel_rfl) (by kernel_rfl) (fun _ _ _ h => h) (Or.inl ⟨by rfl, ?_⟩) hHeld ?_
    rotate_left 1
    · (intro w hSw; (try dsimp only at hSw); go_simp; first | done | with_reducible rfl)
    try simp only [Act.put, List.setIfInBounds_toArray, List.set_cons_zero, List.set_cons_succ]
    refine Bz.wpAnyE_take (i := 5) (oi := { dst := some 13, op := Go.Op.nilCheck (Go.Operand.tmp 12), type := 0, pos := "fork.go:99", after := #[{ on := 4, ground := Go.Ground.data }, { on := 2, ground := Go.Ground.guard }], guard := some (2, false) }) (v := ?_) rfl (by kernel_rfl) (by kernel_rfl) (by kernel_rfl) (by kernel_rfl) (fun _ _ _ h => h) (Or.inl ⟨by rfl, ?_⟩) hHeld ?_
    rotate_left 1
    · (intro w hSw; (try dsimp only at hSw); go_simp; first | done | with_reducible rfl)
    try simp only [Act.put, List.setIfInBounds_toArray, List.set_cons_zero, List.set_cons_succ]
    refine Bz.wpAnyE_take (i := 6) (oi := { dst := some 14, op := Go.Op.fieldAddr 72 (Go.Operand.tmp 13) 0, type := 0, pos := "fork.go:99", after := #[{ on := 5, ground := Go.Ground.data }, { on := 2, ground := Go.Ground.guard }], guard := some (2, false) }) (v := ?_) rfl (by kernel_rfl) (by kernel_rfl) (by kernel_rfl) (by kernel_rfl) (fun _ _ _ h => h) (Or.inl ⟨by rfl, ?_⟩) hHeld ?_
    rotate_left 1
    · (intro w hSw; (try dsimp only at hSw); go_simp; first | done | with_reducible rfl)
    try simp only [Act.put, List.setIfInBounds_toArray, List.set_cons_zero, List.set_cons_succ]
    refine Bz.wpAnyE_take (i := 7) (oi := { dst := some 15, op := Go.Op.load 29 (Go.Operand.tmp 14), type := 29, pos := "fork.go:99", after := #[{ on := 6, ground := Go.Ground.data }, { on := 2, ground := Go.Ground.guard }], guard := some (2, false) }) (v := ?_) rfl (by kernel_rfl) (by kernel_rfl) (by kernel_rfl) (by kernel_rfl) (fun _ _ _ h => h) (Or.inl ⟨by rfl, ?_⟩) hHeld ?_
    rotate_left 1
    · (intro w hSw; (try dsimp only at hSw); go_simp; first | done | with_reducible rfl)
    try simp only [Act.put, List.setIfInBounds_toArray, List.set_cons_zero, List.set_cons_succ]
    refine Bz.wpAnyE_take (i := 8) (oi := { dst := some 16, op := Go.Op.binOp Go.BinOp.eql 29 (Go.Operand.tmp 11) (Go.Operand.tmp 15) 29, type := 4, pos := "fork.go:99", after := #[{ on := 3, ground := Go.Ground.data }, { on := 7, ground := Go.Ground.data }, { on := 2, ground := Go.Ground.guard }], guard := some (2, false) }) (v := ?_) rfl (by kernel_rfl) (by kernel_rfl) (by kernel_rfl) (by kernel_rfl) (fun _ _ _ h => h) (Or.inl ⟨by rfl, ?_⟩) hHeld ?_
    rotate_left 1
    · (intro w hSw; (try dsimp only at hSw); go_simp; first | done | with_reducible rfl)
    try simp only [Act.put, List.setIfInBounds_toArray, List.set_cons_zero, List.set_cons_succ]
    refine Bz.wpAnyE_take (i := 9) (oi := { dst := some 17, op := Go.Op.pick (Go.Operand.tmp 10) (Go.Operand.const (Go.Value.bool true)) (Go.Operand.tmp 16), type := 4, pos := "fork.go:99", after := #[{ on := 2, ground := Go.Ground.data }, { on := 8, ground := Go.Ground.data }], guard := none }) (v := ?_) rfl (by kernel_rfl) (by kernel_rfl) (by kernel_rfl) (by kernel_rfl) (fun _ _ _ h => h) (Or.inl ⟨by rfl, ?_⟩) hHeld ?_
    rotate_left 1
    · (intro w hSw; (try dsimp only at hSw); go_simp; first | done | with_reducible rfl)
    try simp only [Act.put, List.setIfInBounds_toArray, List.set_cons_zero, List.set_cons_succ]
    refine Bz.wpAnyE_done (by kernel_rfl) ?_ _
    refine NoPanic.normal ?_
    
    clear hHeld
    obtain ⟨w1, hw1⟩ : ∃ W, W = ((w.alloc (.cells (dcells x) 29)).alloc (.cells (dcells ⟨0, 0, 0, 0, 0, 0, 0, 0⟩) 29)).drew := ⟨_, rfl⟩
    have hT1 : TreeAt w1 t mb T := by rw [hw1]; exact hT1.drew
    have B1 : Blk w1 w.heap.size 29 (dcells x) := by rw [hw1]; exact B1.drew
    have B2 : Blk w1 (w.heap.size + 1) 29 (dcells ⟨0, 0, 0, 0, 0, 0, 0, 0⟩) := by rw [hw1]; exact B2.drew
    have hKw : Keep [] w w1 := by rw [hw1]; exact hKw.drew
    go_wp2_with fail
    rw [← hw1]
    have hl0 := (hT1.drew).look_ok x
    have hl1 := ((hT1.alloc (.cells z69 69)).drew).look_ok x
    have c1 := B1.cell
    have c2 := B2.cell
    have f2 := B2.frozen
    have l2 := B2.lt
    have l1 := B1.lt
    have lt := hT1.1.lt
    have ct := hT1.1.cell
    clear hw1 he h
    have hK8 := (Keep.refl [w.heap.size + 1] w1).put8 (g := w.heap.size + 1) (.inl (by simp)) (T.get x).1
    have hS := B2.put8 (T.get x).1
    obtain ⟨W8, hW8⟩ : ∃ W, W = put8 w1 (w.heap.size + 1) (T.get x).1 := ⟨_, rfl⟩
    rw [← hW8] at hS hK8
    simp only [put8] at hW8
    have cS := fun o => ((hS.alloc o).drew).cell
    have hKW := hKw.own hK8 (by simp)
    cases hx : T.is x with
    | true =>
      rw [hx] at hl0 hl1 HU
      clear hx
      go_region
      all_goals go_wp2
      all_goals rw [← hW8]
      all_goals exact bodyPost_ret (v := .tuple #[dv (T.get x).1, .bool true]) (by simp [results, Try.results23, go_sem, cS]) rfl ⟨by rw [HU.out], (hKW.alloc _).drew⟩
    | false =>
      rw [hx] at hl0 hl1 HU
      clear hx
      go_region
      all_goals go_wp2
      all_goals rw [← hW8]
      all_goals exact bodyPost_ret (v := .tuple #[dv (T.get x).1, .bool false]) (by simp [results, Try.results23, go_sem, cS]) rfl ⟨by rw [HU.out], (hKW.alloc _).drew⟩
end Go.Proofs.Ytbkchniomhdieaa
