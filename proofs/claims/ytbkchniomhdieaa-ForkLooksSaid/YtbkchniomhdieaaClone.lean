/- maps.Clone, fork.Tree.Clone walked. -/
import Derived.Test.YtbkchniomhdieaaAll
import Derived.Test.YtbkchniomhdieaaRange
namespace Go.Proofs.Ytbkchniomhdieaa
open Go.RowKit Go.Bz

theorem mclone_any {w : World} {mb : Nat} {l : List (D8 × B1)} (h : MapAt w mb dv benc l) : Calls Try.prog 36 #[.map (some mb)] w (fun e w' => ∃ mb', e = .returned (.map (some mb')) ∧ w.heap.size ≤ mb' ∧ MapAt w' mb' dv benc l ∧ Keep [] w w') := by
  have hq := fun W => run_eq_map_nil (P := Try.prog) W (some mb) Try.underlying70
  obtain ⟨w', hrun, hM, hK⟩ := run_clone_map (P := Try.prog) 70 h
  go_enter Try.func36, Try.ntmps36
  go_wp2
  rw [run_callFunc_extern Try.func39 (by kernel_rfl) (by kernel_rfl) (by kernel_rfl) (e := Extern.MapsClone.clone) (by kernel_rfl), hrun]
  simp only [Result.andThen]
  rw [Oper.upon_value]
  go_wp2
  rw [run_assert_map _ 20 _ Try.underlying70]
  simp only [Result.andThen]
  rw [Oper.upon_value]
  go_wp2
  go_ret
  exact ⟨_, rfl, Nat.le_refl _, hM, hK⟩
set_option maxHeartbeats 1000000 in
theorem clone_any {t mb : Nat} {T : FT} {w : World} (h : TreeAt w t mb T) : Calls Try.prog 28 #[.pointer (some ⟨t, 0, none⟩)] w (fun e w' => ∃ t' mb', e = .returned (.pointer (some ⟨t', 0, none⟩)) ∧ w.heap.size ≤ t' ∧ w.heap.size ≤ mb' ∧ TreeAt w' t' mb' T ∧ Keep [] w w') := by
  have hc := h.1.cell
  go_enter Try.func28, Try.ntmps28
  go_wp2_with fail
  refine wp_region_noPanic ?_
  refine Bz.wp_region_E (S := (fun w' => ∀ i, w'.cell? ⟨t, i, none⟩ = (tcells T mb)[i]?)) (E := []) (by kernel_rfl) (by exact hc) (fun hHeld => ?_)
  refine Bz.wpAnyE_take (i := 0) (oi := { dst := some 5, op := Go.Op.move (Go.Operand.tmp 0), type := 24, pos := "fork.go:143", after := #[], guard := none }) (v := ?_) rfl (by kernel_rfl) (by kernel_rfl) (by kernel_rfl) (by kernel_rfl) (fun _ _ _ h => h) (Or.inl ⟨by rfl, ?_⟩) hHeld ?_
  rotate_left 1
  · (intro w hSw; (try dsimp only at hSw); go_simp; first | done | with_reducible rfl)
  try simp only [Act.put, List.setIfInBounds_toArray, List.set_cons_zero, List.set_cons_succ]
  refine Bz.wpAnyE_take (i := 1) (oi := { dst := some 6, op := Go.Op.nilCheck (Go.Operand.tmp 5), type := 0, pos := "fork.go:143", after := #[{ on := 0, ground := Go.Ground.data }], guard := none }) (v := ?_) rfl (by kernel_rfl) (by kernel_rfl) (by kernel_rfl) (by kernel_rfl) (fun _ _ _ h => h) (Or.inl ⟨by rfl, ?_⟩) hHeld ?_
  rotate_left 1
  · (intro w hSw; (try dsimp only at hSw); go_simp; first | done | with_reducible rfl)
  try simp only [Act.put, List.setIfInBounds_toArray, List.set_cons_zero, List.set_cons_succ]
  refine Bz.wpAnyE_take (i := 2) (oi := { dst := some 7, op := Go.Op.fieldAddr 72 (Go.Operand.tmp 6) 0, type := 0, pos := "fork.go:143", after := #[{ on := 1, ground := Go.Ground.data }], guard := none }) (v := ?_) rfl (by kernel_rfl) (by kernel_rfl) (by kernel_rfl) (by kernel_rfl) (fun _ _ _ h => h) (Or.inl ⟨by rfl, ?_⟩) hHeld ?_
  rotate_left 1
  · (intro w hSw; (try dsimp only at hSw); go_simp; first | done | with_reducible rfl)
  try simp only [Act.put, List.setIfInBounds_toArray, List.set_cons_zero, List.set_cons_succ]
  refine Bz.wpAnyE_take (i := 3) (oi := { dst := some 8, op := Go.Op.load 29 (Go.Operand.tmp 7), type := 29, pos := "fork.go:143", after := #[{ on := 2, ground := Go.Ground.data }], guard := none }) (v := ?_) rfl (by kernel_rfl) (by kernel_rfl) (by kernel_rfl) (by kernel_rfl) (fun _ _ _ h => h) (Or.inl ⟨by rfl, ?_⟩) hHeld ?_
  rotate_left 1
  · (intro w hSw; (try dsimp only at hSw); go_simp; first | done | with_reducible rfl)
  try simp only [Act.put, List.setIfInBounds_toArray, List.set_cons_zero, List.set_cons_succ]
  refine Bz.wpAnyE_take (i := 4) (oi := { dst := some 9, op := Go.Op.move (Go.Operand.tmp 0), type := 24, pos := "fork.go:143", after := #[], guard := none }) (v := ?_) rfl (by kernel_rfl) (by kernel_rfl) (by kernel_rfl) (by kernel_rfl) (fun _ _ _ h => h) (Or.inl ⟨by rfl, ?_⟩) hHeld ?_
  rotate_left 1
  · (intro w hSw; (try dsimp only at hSw); go_simp; first | done | with_reducible rfl)
  try simp only [Act.put, List.setIfInBounds_toArray, List.set_cons_zero, List.set_cons_succ]
  refine Bz.wpAnyE_take (i := 5) (oi := { dst := some 10, op := Go.Op.nilCheck (Go.Operand.tmp 9), type := 0, pos := "fork.go:143", after := #[{ on := 4, ground := Go.Ground.data }], guard := none }) (v := ?_) rfl (by kernel_rfl) (by kernel_rfl) (by kernel_rfl) (by kernel_rfl) (fun _ _ _ h => h) (Or.inl ⟨by rfl, ?_⟩) hHeld ?_
  rotate_left 1
  · (intro w hSw; (try dsimp only at hSw); go_simp; first | done | with_reducible rfl)
  try simp only [Act.put, List.setIfInBounds_toArray, List.set_cons_zero, List.set_cons_succ]
  refine Bz.wpAnyE_take (i := 6) (oi := { dst := some 11, op := Go.Op.fieldAddr 72 (Go.Operand.tmp 10) 1, type := 0, pos := "fork.go:143", after := #[{ on := 5, ground := Go.Ground.data }], guard := none }) (v := ?_) rfl (by kernel_rfl) (by kernel_rfl) (by kernel_rfl) (by kernel_rfl) (fun _ _ _ h => h) (Or.inl ⟨by rfl, ?_⟩) hHeld ?_
  rotate_left 1
  · (intro w hSw; (try dsimp only at hSw); go_simp; first | done | with_reducible rfl)
  try simp only [Act.put, List.setIfInBounds_toArray, List.set_cons_zero, List.set_cons_succ]
  refine Bz.wpAnyE_take (i := 7) (oi := { dst := some 12, op := Go.Op.load 29 (Go.Operand.tmp 11), type := 29, pos := "fork.go:143", after := #[{ on := 6, ground := Go.Ground.data }], guard := none }) (v := ?_) rfl (by kernel_rfl) (by kernel_rfl) (by kernel_rfl) (by kernel_rfl) (fun _ _ _ h => h) (Or.inl ⟨by rfl, ?_⟩) hHeld ?_
  rotate_left 1
  · (intro w hSw; (try dsimp only at hSw); go_simp; first | done | with_reducible rfl)
  try simp only [Act.put, List.setIfInBounds_toArray, List.set_cons_zero, List.set_cons_succ]
  refine Bz.wpAnyE_take (i := 8) (oi := { dst := some 13, op := Go.Op.move (Go.Operand.tmp 0), type := 24, pos := "fork.go:143", after := #[], guard := none }) (v := ?_) rfl (by kernel_rfl) (by kernel_rfl) (by kernel_rfl) (by kernel_rfl) (fun _ _ _ h => h) (Or.inl ⟨by rfl, ?_⟩) hHeld ?_
  rotate_left 1
  · (intro w hSw; (try dsimp only at hSw); go_simp; first | done | with_reducible rfl)
  try simp only [Act.put, List.setIfInBounds_toArray, List.set_cons_zero, List.set_cons_succ]
  refine Bz.wpAnyE_take (i := 9) (oi := { dst := some 14, op := Go.Op.nilCheck (Go.Operand.tmp 13), type := 0, pos := "fork.go:143", after := #[{ on := 8, ground := Go.Ground.data }], guard := none }) (v := ?_) rfl (by kernel_rfl) (by kernel_rfl) (by kernel_rfl) (by kernel_rfl) (fun _ _ _ h => h) (Or.inl ⟨by rfl, ?_⟩) hHeld ?_
  rotate_left 1
  · (intro w hSw; (try dsimp only at hSw); go_simp; first | done | with_reducible rfl)
  try simp only [Act.put, List.setIfInBounds_toArray, List.set_cons_zero, List.set_cons_succ]
  refine Bz.wpAnyE_take (i := 10) (oi := { dst := some 15, op := Go.Op.fieldAddr 72 (Go.Operand.tmp 14) 2, type := 0, pos := "fork.go:143", after := #[{ on := 9, ground := Go.Ground.data }], guard := none }) (v := ?_) rfl (by kernel_rfl) (by kernel_rfl) (by kernel_rfl) (by kernel_rfl) (fun _ _ _ h => h) (Or.inl ⟨by rfl, ?_⟩) hHeld ?_
  rotate_left 1
  · (intro w hSw; (try dsimp only at hSw); go_simp; first | done | with_reducible rfl)
  try simp only [Act.put, List.setIfInBounds_toArray, List.set_cons_zero, List.set_cons_succ]
  refine Bz.wpAnyE_take (i := 11) (oi := { dst := some 16, op := Go.Op.load 3 (Go.Operand.tmp 15), type := 3, pos := "fork.go:143", after := #[{ on := 10, ground := Go.Ground.data }], guard := none }) (v := ?_) rfl (by kernel_rfl) (by kernel_rfl) (by kernel_rfl) (by kernel_rfl) (fun _ _ _ h => h) (Or.inl ⟨by rfl, ?_⟩) hHeld ?_
  rotate_left 1
  · (intro w hSw; (try dsimp only at hSw); go_simp; first | done | with_reducible rfl)
  try simp only [Act.put, List.setIfInBounds_toArray, List.set_cons_zero, List.set_cons_succ]
  refine Bz.wpAnyE_take (i := 12) (oi := { dst := some 17, op := Go.Op.move (Go.Operand.tmp 0), type := 24, pos := "fork.go:143", after := #[], guard := none }) (v := ?_) rfl (by kernel_rfl) (by kernel_rfl) (by kernel_rfl) (by kernel_rfl) (fun _ _ _ h => h) (Or.inl ⟨by rfl, ?_⟩) hHeld ?_
  rotate_left 1
  · (intro w hSw; (try dsimp only at hSw); go_simp; first | done | with_reducible rfl)
  try simp only [Act.put, List.setIfInBounds_toArray, List.set_cons_zero, List.set_cons_succ]
  refine Bz.wpAnyE_take (i := 13) (oi := { dst := some 18, op := Go.Op.nilCheck (Go.Operand.tmp 17), type := 0, pos := "fork.go:143", after := #[{ on := 12, ground := Go.Ground.data }], guard := none }) (v := ?_) rfl (by kernel_rfl) (by kernel_rfl) (by kernel_rfl) (by kernel_rfl) (fun _ _ _ h => h) (Or.inl ⟨by rfl, ?_⟩) hHeld ?_
  rotate_left 1
  · (intro w hSw; (try dsimp only at hSw); go_simp; first | done | with_reducible rfl)
  try simp only [Act.put, List.setIfInBounds_toArray, List.set_cons_zero, List.set_cons_succ]
  refine Bz.wpAnyE_take (i := 14) (oi := { dst := some 19, op := Go.Op.fieldAddr 72 (Go.Operand.tmp 18) 3, type := 0, pos := "fork.go:143", after := #[{ on := 13, ground := Go.Ground.data }], guard := none }) (v := ?_) rfl (by kernel_rfl) (by kernel_rfl) (by kernel_rfl) (by kernel_rfl) (fun _ _ _ h => h) (Or.inl ⟨by rfl, ?_⟩) hHeld ?_
  rotate_left 1
  · (intro w hSw; (try dsimp only at hSw); go_simp; first | done | with_reducible rfl)
  try simp only [Act.put, List.setIfInBounds_toArray, List.set_cons_zero, List.set_cons_succ]
  refine Bz.wpAnyE_take (i := 15) (oi := { dst := some 20, op := Go.Op.load 70 (Go.Operand.tmp 19), type := 70, pos := "fork.go:143", after := #[{ on := 14, ground := Go.Ground.data }], guard := none }) (v := ?_) rfl (by kernel_rfl) (by kernel_rfl) (by kernel_rfl) (by kernel_rfl) (fun _ _ _ h => h) (Or.inl ⟨by rfl, ?_⟩) hHeld ?_
  rotate_left 1
  · (intro w hSw; (try dsimp only at hSw); go_simp; first | done | with_reducible rfl)
  try simp only [Act.put, List.setIfInBounds_toArray, List.set_cons_zero, List.set_cons_succ]
  refine Bz.wpAnyE_ready (rs := [16]) (by kernel_rfl) (by simp) ?_
  refine Bz.AllReadyE.cons (o := { dst := some 21, op := Go.Op.call { callee := Go.Callee.value (Go.Operand.func 36), args := #[Go.Operand.tmp 20], argTypes := #[70] }, type := 70, pos := "fork.go:143", after := #[{ on := 15, ground := Go.Ground.data }], guard := none }) rfl (fun K hK => ?_) Bz.AllReadyE.nil
  go_simp
  
  refine (mclone_any h.2.drew).mono ?_
  rintro e w2 ⟨mb', rfl, hmb, hM, hk⟩
  have hk := hk.undrew
  have hc2 := (h.1.keep hk (by simp)).cell
  have hc3 := fun o => ((h.1.keep hk (by simp)).alloc o).cell
  refine hK.out _ _ (by exact hc2) ?_
  clear hHeld hK K; intro hHeld
  try simp only [Act.put, List.setIfInBounds_toArray, List.set_cons_zero, List.set_cons_succ]
  refine Bz.wpAnyE_take (i := 17) (oi := { dst := some 22, op := Go.Op.build 72 #[(0, Go.Operand.tmp 8), (1, Go.Operand.tmp 12), (2, Go.Operand.tmp 16), (3, Go.Operand.tmp 21)], type := 72, pos := "fork.go:143", after := #[{ on := 3, ground := Go.Ground.data }, { on := 7, ground := Go.Ground.data }, { on := 11, ground := Go.Ground.data }, { on := 16, ground := Go.Ground.data }], guard := none }) (v := ?_) rfl (by kernel_rfl) (by kernel_rfl) (by kernel_rfl) (by kernel_rfl) (fun _ _ _ h => h) (Or.inl ⟨by rfl, ?_⟩) hHeld ?_
  rotate_left 1
  · (intro w hSw; (try dsimp only at hSw); go_simp; first | done | with_reducible rfl)
  try simp only [Act.put, List.setIfInBounds_toArray, List.set_cons_zero, List.set_cons_succ]
  refine Bz.wpAnyE_ready (rs := [18]) (by kernel_rfl) (by simp) ?_
  refine Bz.AllReadyE.cons (o := { dst := some 23, op := Go.Op.box 72 (Go.Operand.tmp 22), type := 24, pos := "fork.go:143", after := #[{ on := 17, ground := Go.Ground.data }], guard := none }) rfl (fun K hK => ?_) Bz.AllReadyE.nil
  go_simp
  refine hK.out _ _ (by exact hc3 _) ?_
  clear hHeld hK K; intro hHeld
  try simp only [Act.put, List.setIfInBounds_toArray, List.set_cons_zero, List.set_cons_succ]
  refine Bz.wpAnyE_take (i := 19) (oi := { dst := some 2, op := Go.Op.assign (Go.Operand.tmp 23), type := 24, pos := "fork.go:143", after := #[{ on := 18, ground := Go.Ground.data }, { on := 16, ground := Go.Ground.chain }, { on := 0, ground := Go.Ground.phase }, { on := 1, ground := Go.Ground.phase }, { on := 2, ground := Go.Ground.phase }, { on := 3, ground := Go.Ground.phase }, { on := 4, ground := Go.Ground.phase }, { on := 5, ground := Go.Ground.phase }, { on := 6, ground := Go.Ground.phase }, { on := 7, ground := Go.Ground.phase }, { on := 8, ground := Go.Ground.phase }, { on := 9, ground := Go.Ground.phase }, { on := 10, ground := Go.Ground.phase }, { on := 11, ground := Go.Ground.phase }, { on := 12, ground := Go.Ground.phase }, { on := 13, ground := Go.Ground.phase }, { on := 14, ground := Go.Ground.phase }, { on := 15, ground := Go.Ground.phase }, { on := 16, ground := Go.Ground.phase }, { on := 17, ground := Go.Ground.phase }, { on := 18, ground := Go.Ground.phase }], guard := none }) (v := ?_) rfl (by kernel_rfl) (by kernel_rfl) (by kernel_rfl) (by kernel_rfl) (fun _ _ _ h => h) (Or.inl ⟨by rfl, ?_⟩) hHeld ?_
  rotate_left 1
  · (intro w hSw; (try dsimp only at hSw); go_simp; first | done | with_reducible rfl)
  try simp only [Act.put, List.setIfInBounds_toArray, List.set_cons_zero, List.set_cons_succ]
  refine Bz.wpAnyE_done (by kernel_rfl) ?_ _
  refine NoPanic.normal ?_
  
  clear hHeld hc2 hc3
  go_wp2_with fail
  go_ret
  exact ⟨_, mb', rfl, hk.size, hmb, ⟨Blk.new w2 72 (tcells T mb'), hM.alloc _⟩, hk.alloc _⟩
end Go.Proofs.Ytbkchniomhdieaa
