/- The law's helpers walked: told, begin. -/
import Derived.Test.YtbkchniomhdieaaAll
namespace Go.Proofs.Ytbkchniomhdieaa
open Go.RowKit Go.Bz

def tt0 : FT := FT.new ⟨0, 1, 0, 0, 0, 0, 0, 0⟩ 1
def tt1 : FT := tt0.add ⟨1, 1, 0, 0, 0, 0, 0, 0⟩ ⟨0, 1, 0, 0, 0, 0, 0, 0⟩
def tt2 : FT := tt1.add ⟨2, 1, 0, 0, 0, 0, 0, 0⟩ ⟨1, 1, 0, 0, 0, 0, 0, 0⟩
def tt3 : FT := tt2.add ⟨3, 1, 0, 0, 0, 0, 0, 0⟩ ⟨0, 1, 0, 0, 0, 0, 0, 0⟩
def tt4 : FT := tt3.add ⟨4, 1, 0, 0, 0, 0, 0, 0⟩ ⟨1, 1, 0, 0, 0, 0, 0, 0⟩
def tt5 : FT := tt4.add ⟨5, 1, 0, 0, 0, 0, 0, 0⟩ ⟨4, 1, 0, 0, 0, 0, 0, 0⟩
theorem tt_wf : tt0.WF ∧ tt1.WF ∧ tt2.WF ∧ tt3.WF ∧ tt4.WF ∧ tt5.WF := by
  have h0 : tt0.WF := FT.new_wf _ (by decide) (by decide)
  exact ⟨h0, h0.add _ _, (h0.add _ _).add _ _, ((h0.add _ _).add _ _).add _ _, (((h0.add _ _).add _ _).add _ _).add _ _, ((((h0.add _ _).add _ _).add _ _).add _ _).add _ _⟩
set_option maxRecDepth 100000 in
theorem tt_err : tt0.err ⟨1, 1, 0, 0, 0, 0, 0, 0⟩ ⟨0, 1, 0, 0, 0, 0, 0, 0⟩ = 0 ∧ tt1.err ⟨2, 1, 0, 0, 0, 0, 0, 0⟩ ⟨1, 1, 0, 0, 0, 0, 0, 0⟩ = 0 ∧ tt2.err ⟨3, 1, 0, 0, 0, 0, 0, 0⟩ ⟨0, 1, 0, 0, 0, 0, 0, 0⟩ = 25 ∧
    tt3.err ⟨4, 1, 0, 0, 0, 0, 0, 0⟩ ⟨1, 1, 0, 0, 0, 0, 0, 0⟩ = 0 ∧ tt4.err ⟨5, 1, 0, 0, 0, 0, 0, 0⟩ ⟨4, 1, 0, 0, 0, 0, 0, 0⟩ = 0 := by decide +kernel
set_option maxRecDepth 100000 in
theorem tt_tip : tt4.tip = ⟨2, 1, 0, 0, 0, 0, 0, 0⟩ ∧ tt5.tip = ⟨5, 1, 0, 0, 0, 0, 0, 0⟩ ∧ tt5.height ⟨5, 1, 0, 0, 0, 0, 0, 0⟩ = 3 ∧ (tt5.undone ⟨2, 1, 0, 0, 0, 0, 0, 0⟩ ⟨5, 1, 0, 0, 0, 0, 0, 0⟩).length = 1 := by decide +kernel

set_option maxRecDepth 100000 in
set_option maxHeartbeats 1000000 in
theorem told_any (w : World) : Calls Try.prog 12 #[] w (fun e w' => e = .returned (.bool true) ∧ Keep [] w w') := by
  obtain ⟨f0, f1, f2, f3, f4, f5⟩ := tt_wf
  obtain ⟨e0, e1, e2, e3, e4⟩ := tt_err
  obtain ⟨p4, p5, h5, u5⟩ := tt_tip
  go_enter Try.func12, Try.ntmps12
  have hK := Keep.refl [] w
  go_wp2_with (first
    | (go_at_call 11; refine (id_any _ _).mono ?_; rintro e W1 ⟨rfl, hk⟩; have hK := hK.trans hk; (try have hT := hT.keep0 hk))
    | (go_at_call 10; refine (new_call _ _ _ (by decide) (by decide)).mono ?_; rintro e W2 ⟨t, mb, rfl, ht, hmb, hT, hk⟩; have hk2 := hK.trans hk; have ht := Nat.le_trans hK.size ht; have hmb := Nat.le_trans hK.size hmb; clear hK; have hK := hk2; clear hk2; have own : ∀ g ∈ [t, mb], w.heap.size ≤ g := (by intro g hg; simp at hg; rcases hg with rfl | rfl <;> assumption); change TreeAt W2 t mb tt0 at hT))
  refine (add_any hT f0 _ _).mono ?_
  rw [e0]
  rintro e W ⟨rfl, hT', hk⟩
  have hK := hK.own hk own
  have hT : TreeAt W t mb tt1 := hT'
  clear hT'
  go_wp2_with (first
    | (go_at_call 11; refine (id_any _ _).mono ?_; rintro e W1 ⟨rfl, hk⟩; have hK := hK.trans hk; have hT := hT.keep0 hk)
    | (go_at_call 13; refine (tip_any hT).mono ?_; rw [p4]; rintro e W1 ⟨rfl, hk⟩; have hK := hK.trans hk; have hT := hT.keep0 hk))
  refine (add_any hT f1 _ _).mono ?_
  rw [e1]
  rintro e W ⟨rfl, hT', hk⟩
  have hK := hK.own hk own
  have hT : TreeAt W t mb tt2 := hT'
  clear hT'
  go_wp2_with (first
    | (go_at_call 11; refine (id_any _ _).mono ?_; rintro e W1 ⟨rfl, hk⟩; have hK := hK.trans hk; have hT := hT.keep0 hk)
    | (go_at_call 13; refine (tip_any hT).mono ?_; rw [p4]; rintro e W1 ⟨rfl, hk⟩; have hK := hK.trans hk; have hT := hT.keep0 hk))
  refine (add_any hT f2 _ _).mono ?_
  rw [e2]
  rintro e W ⟨rfl, hT', hk⟩
  have hK := hK.own hk own
  have hT : TreeAt W t mb tt3 := hT'
  clear hT'
  go_wp2_with (first
    | (go_at_call 11; refine (id_any _ _).mono ?_; rintro e W1 ⟨rfl, hk⟩; have hK := hK.trans hk; have hT := hT.keep0 hk)
    | (go_at_call 13; refine (tip_any hT).mono ?_; rw [p4]; rintro e W1 ⟨rfl, hk⟩; have hK := hK.trans hk; have hT := hT.keep0 hk))
  refine (add_any hT f3 _ _).mono ?_
  rw [e3]
  rintro e W ⟨rfl, hT', hk⟩
  have hK := hK.own hk own
  have hT : TreeAt W t mb tt4 := hT'
  clear hT'
  go_wp2_with (first
    | (go_at_call 11; refine (id_any _ _).mono ?_; rintro e W1 ⟨rfl, hk⟩; have hK := hK.trans hk; have hT := hT.keep0 hk)
    | (go_at_call 13; refine (tip_any hT).mono ?_; rw [p4]; rintro e W1 ⟨rfl, hk⟩; have hK := hK.trans hk; have hT := hT.keep0 hk))
  have hT := hT.alloc (.cells (dcells ⟨2, 1, 0, 0, 0, 0, 0, 0⟩) 29)
  have hK := hK.alloc (.cells (dcells ⟨2, 1, 0, 0, 0, 0, 0, 0⟩) 29)
  have hB := Blk.new W1 29 (dcells ⟨2, 1, 0, 0, 0, 0, 0, 0⟩)
  have hBo : W1.heap.size ∉ [t, mb] := by
    have : TreeAt W1 t mb tt4 := by assumption
    have h3 := this.1.lt; have h4 := this.2.lt
    simp; omega
  refine (id_any _ _).mono ?_
  rintro e W3 ⟨rfl, hk⟩
  have hK := hK.trans hk
  have hT := hT.keep0 hk
  have hB := hB.keep hk (by simp)
  go_wp2_with (first
    | (go_at_call 11; refine (id_any _ _).mono ?_; rintro e W4 ⟨rfl, hk⟩; have hK := hK.trans hk; have hT := hT.keep0 hk; have hB := hB.keep hk (by simp)))
  refine (add_any hT f4 _ _).mono ?_
  rw [e4]
  rintro e W ⟨rfl, hT', hk⟩
  have hK := hK.own hk own
  have hB := hB.keep hk hBo
  have hT : TreeAt W t mb tt5 := hT'
  clear hT'
  obtain ⟨g5, hg5⟩ : ∃ g, g = W1.heap.size := ⟨_, rfl⟩
  rw [← hg5] at hB
  go_wp2_with fail
  rw [← hg5]
  clear hg5
  have hW := hK
  clear hK
  have heq := fun W => run_eqD8 (P := Try.prog) W dt29 9998 ⟨2, 1, 0, 0, 0, 0, 0, 0⟩ ⟨2, 1, 0, 0, 0, 0, 0, 0⟩
  have heq5 := fun W => run_eqD8 (P := Try.prog) W dt29 9998 ⟨5, 1, 0, 0, 0, 0, 0, 0⟩ ⟨5, 1, 0, 0, 0, 0, 0, 0⟩
  rw [decide_eq_true rfl] at heq heq5
  refine wp_region_noPanic ?_
  refine Bz.wp_region_E (S := (fun w' => ∀ i, w'.cell? ⟨g5, i, none⟩ = (dcells ⟨2, 1, 0, 0, 0, 0, 0, 0⟩)[i]?)) (E := []) (by kernel_rfl) (by exact hB.cell) (fun hHeld => ?_)
  refine Bz.wpAnyE_take (i := 0) (oi := { dst := some 46, op := Go.Op.move (Go.Operand.tmp 3), type := 25, pos := "law.go:28", after := #[], guard := none }) (v := ?_) rfl (by kernel_rfl) (by kernel_rfl) (by kernel_rfl) (by kernel_rfl) (fun _ _ _ h => h) (Or.inl ⟨by rfl, ?_⟩) hHeld ?_
  rotate_left 1
  · (intro w hSw; (try dsimp only at hSw); go_simp; first | done | with_reducible rfl)
  try simp only [Act.put, List.setIfInBounds_toArray, List.set_cons_zero, List.set_cons_succ]
  refine Bz.wpAnyE_take (i := 1) (oi := { dst := some 47, op := Go.Op.binOp Go.BinOp.eql 25 (Go.Operand.tmp 46) (Go.Operand.const (Go.Value.int Go.IntKind.i64 25)) 25, type := 4, pos := "law.go:28", after := #[{ on := 0, ground := Go.Ground.data }], guard := none }) (v := ?_) rfl (by kernel_rfl) (by kernel_rfl) (by kernel_rfl) (by kernel_rfl) (fun _ _ _ h => h) (Or.inl ⟨by rfl, ?_⟩) hHeld ?_
  rotate_left 1
  · (intro w hSw; (try dsimp only at hSw); go_simp; first | done | with_reducible rfl)
  try simp only [Act.put, List.setIfInBounds_toArray, List.set_cons_zero, List.set_cons_succ]
  refine Bz.wpAnyE_take (i := 2) (oi := { dst := some 48, op := Go.Op.move (Go.Operand.tmp 47), type := 4, pos := "law.go:28", after := #[{ on := 1, ground := Go.Ground.data }], guard := none }) (v := ?_) rfl (by kernel_rfl) (by kernel_rfl) (by kernel_rfl) (by kernel_rfl) (fun _ _ _ h => h) (Or.inl ⟨by rfl, ?_⟩) hHeld ?_
  rotate_left 1
  · (intro w hSw; (try dsimp only at hSw); go_simp; first | done | with_reducible rfl)
  try simp only [Act.put, List.setIfInBounds_toArray, List.set_cons_zero, List.set_cons_succ]
  refine Bz.wpAnyE_take (i := 3) (oi := { dst := some 49, op := Go.Op.move (Go.Operand.tmp 4), type := 25, pos := "law.go:28", after := #[{ on := 2, ground := Go.Ground.guard }], guard := some (2, true) }) (v := ?_) rfl (by kernel_rfl) (by kernel_rfl) (by kernel_rfl) (by kernel_rfl) (fun _ _ _ h => h) (Or.inl ⟨by rfl, ?_⟩) hHeld ?_
  rotate_left 1
  · (intro w hSw; (try dsimp only at hSw); go_simp; first | done | with_reducible rfl)
  try simp only [Act.put, List.setIfInBounds_toArray, List.set_cons_zero, List.set_cons_succ]
  refine Bz.wpAnyE_take (i := 4) (oi := { dst := some 50, op := Go.Op.binOp Go.BinOp.eql 25 (Go.Operand.tmp 49) (Go.Operand.const (Go.Value.int Go.IntKind.i64 0)) 25, type := 4, pos := "law.go:28", after := #[{ on := 3, ground := Go.Ground.data }, { on := 2, ground := Go.Ground.guard }], guard := some (2, true) }) (v := ?_) rfl (by kernel_rfl) (by kernel_rfl) (by kernel_rfl) (by kernel_rfl) (fun _ _ _ h => h) (Or.inl ⟨by rfl, ?_⟩) hHeld ?_
  rotate_left 1
  · (intro w hSw; (try dsimp only at hSw); go_simp; first | done | with_reducible rfl)
  try simp only [Act.put, List.setIfInBounds_toArray, List.set_cons_zero, List.set_cons_succ]
  refine Bz.wpAnyE_take (i := 5) (oi := { dst := some 51, op := Go.Op.pick (Go.Operand.tmp 48) (Go.Operand.tmp 50) (Go.Operand.const (Go.Value.bool false)), type := 4, pos := "law.go:28", after := #[{ on := 2, ground := Go.Ground.data }, { on := 4, ground := Go.Ground.data }], guard := none }) (v := ?_) rfl (by kernel_rfl) (by kernel_rfl) (by kernel_rfl) (by kernel_rfl) (fun _ _ _ h => h) (Or.inl ⟨by rfl, ?_⟩) hHeld ?_
  rotate_left 1
  · (intro w hSw; (try dsimp only at hSw); go_simp; first | done | with_reducible rfl)
  try simp only [Act.put, List.setIfInBounds_toArray, List.set_cons_zero, List.set_cons_succ]
  refine Bz.wpAnyE_take (i := 6) (oi := { dst := some 52, op := Go.Op.move (Go.Operand.tmp 51), type := 4, pos := "law.go:28", after := #[{ on := 5, ground := Go.Ground.data }, { on := 2, ground := Go.Ground.chain }], guard := none }) (v := ?_) rfl (by kernel_rfl) (by kernel_rfl) (by kernel_rfl) (by kernel_rfl) (fun _ _ _ h => h) (Or.inl ⟨by rfl, ?_⟩) hHeld ?_
  rotate_left 1
  · (intro w hSw; (try dsimp only at hSw); go_simp; first | done | with_reducible rfl)
  try simp only [Act.put, List.setIfInBounds_toArray, List.set_cons_zero, List.set_cons_succ]
  refine Bz.wpAnyE_take (i := 7) (oi := { dst := some 53, op := Go.Op.load 29 (Go.Operand.tmp 5), type := 29, pos := "law.go:28", after := #[{ on := 6, ground := Go.Ground.guard }], guard := some (6, true) }) (v := ?_) rfl (by kernel_rfl) (by kernel_rfl) (by kernel_rfl) (by kernel_rfl) (fun _ _ _ h => h) (Or.inl ⟨by rfl, ?_⟩) hHeld ?_
  rotate_left 1
  · (intro w hSw; (try dsimp only at hSw); go_simp; first | done | with_reducible rfl)
  try simp only [Act.put, List.setIfInBounds_toArray, List.set_cons_zero, List.set_cons_succ]
  refine Bz.wpAnyE_ready (rs := [8]) (by kernel_rfl) (by simp) ?_
  refine Bz.AllReadyE.cons (o := { dst := some 54, op := Go.Op.call { callee := Go.Callee.value (Go.Operand.func 11), args := #[Go.Operand.const (Go.Value.int Go.IntKind.u8 2)], argTypes := #[5] }, type := 29, pos := "law.go:28", after := #[{ on := 6, ground := Go.Ground.chain }, { on := 6, ground := Go.Ground.guard }], guard := some (6, true) }) rfl (fun K hK => ?_) Bz.AllReadyE.nil
  go_simp
  
  refine (id_any _ _).mono ?_
  rintro e W4 ⟨rfl, hk⟩
  try have hk := hk.undrew
  have hW := hW.trans hk; have hT := hT.keep0 hk; have hB := hB.keep hk (by simp)
  refine hK.out _ _ (by exact hB.cell) ?_
  clear hHeld hK K; intro hHeld
  try simp only [Act.put, List.setIfInBounds_toArray, List.set_cons_zero, List.set_cons_succ]
  refine Bz.wpAnyE_take (i := 9) (oi := { dst := some 55, op := Go.Op.binOp Go.BinOp.eql 29 (Go.Operand.tmp 53) (Go.Operand.tmp 54) 29, type := 4, pos := "law.go:28", after := #[{ on := 7, ground := Go.Ground.data }, { on := 8, ground := Go.Ground.data }, { on := 6, ground := Go.Ground.guard }], guard := some (6, true) }) (v := ?_) rfl (by kernel_rfl) (by kernel_rfl) (by kernel_rfl) (by kernel_rfl) (fun _ _ _ h => h) (Or.inl ⟨by rfl, ?_⟩) hHeld ?_
  rotate_left 1
  · (intro w hSw; (try dsimp only at hSw); go_simp; first | done | with_reducible rfl)
  try simp only [Act.put, List.setIfInBounds_toArray, List.set_cons_zero, List.set_cons_succ]
  refine Bz.wpAnyE_take (i := 10) (oi := { dst := some 56, op := Go.Op.pick (Go.Operand.tmp 52) (Go.Operand.tmp 55) (Go.Operand.const (Go.Value.bool false)), type := 4, pos := "law.go:28", after := #[{ on := 6, ground := Go.Ground.data }, { on := 9, ground := Go.Ground.data }], guard := none }) (v := ?_) rfl (by kernel_rfl) (by kernel_rfl) (by kernel_rfl) (by kernel_rfl) (fun _ _ _ h => h) (Or.inl ⟨by rfl, ?_⟩) hHeld ?_
  rotate_left 1
  · (intro w hSw; (try dsimp only at hSw); go_simp; first | done | with_reducible rfl)
  try simp only [Act.put, List.setIfInBounds_toArray, List.set_cons_zero, List.set_cons_succ]
  refine Bz.wpAnyE_take (i := 11) (oi := { dst := some 57, op := Go.Op.move (Go.Operand.tmp 56), type := 4, pos := "law.go:28", after := #[{ on := 10, ground := Go.Ground.data }, { on := 8, ground := Go.Ground.chain }], guard := none }) (v := ?_) rfl (by kernel_rfl) (by kernel_rfl) (by kernel_rfl) (by kernel_rfl) (fun _ _ _ h => h) (Or.inl ⟨by rfl, ?_⟩) hHeld ?_
  rotate_left 1
  · (intro w hSw; (try dsimp only at hSw); go_simp; first | done | with_reducible rfl)
  try simp only [Act.put, List.setIfInBounds_toArray, List.set_cons_zero, List.set_cons_succ]
  refine Bz.wpAnyE_take (i := 12) (oi := { dst := some 58, op := Go.Op.move (Go.Operand.tmp 6), type := 25, pos := "law.go:28", after := #[{ on := 11, ground := Go.Ground.guard }], guard := some (11, true) }) (v := ?_) rfl (by kernel_rfl) (by kernel_rfl) (by kernel_rfl) (by kernel_rfl) (fun _ _ _ h => h) (Or.inl ⟨by rfl, ?_⟩) hHeld ?_
  rotate_left 1
  · (intro w hSw; (try dsimp only at hSw); go_simp; first | done | with_reducible rfl)
  try simp only [Act.put, List.setIfInBounds_toArray, List.set_cons_zero, List.set_cons_succ]
  refine Bz.wpAnyE_take (i := 13) (oi := { dst := some 59, op := Go.Op.binOp Go.BinOp.eql 25 (Go.Operand.tmp 58) (Go.Operand.const (Go.Value.int Go.IntKind.i64 0)) 25, type := 4, pos := "law.go:28", after := #[{ on := 12, ground := Go.Ground.data }, { on := 11, ground := Go.Ground.guard }], guard := some (11, true) }) (v := ?_) rfl (by kernel_rfl) (by kernel_rfl) (by kernel_rfl) (by kernel_rfl) (fun _ _ _ h => h) (Or.inl ⟨by rfl, ?_⟩) hHeld ?_
  rotate_left 1
  · (intro w hSw; (try dsimp only at hSw); go_simp; first | done | with_reducible rfl)
  try simp only [Act.put, List.setIfInBounds_toArray, List.set_cons_zero, List.set_cons_succ]
  refine Bz.wpAnyE_take (i := 14) (oi := { dst := some 60, op := Go.Op.pick (Go.Operand.tmp 57) (Go.Operand.tmp 59) (Go.Operand.const (Go.Value.bool false)), type := 4, pos := "law.go:28", after := #[{ on := 11, ground := Go.Ground.data }, { on := 13, ground := Go.Ground.data }], guard := none }) (v := ?_) rfl (by kernel_rfl) (by kernel_rfl) (by kernel_rfl) (by kernel_rfl) (fun _ _ _ h => h) (Or.inl ⟨by rfl, ?_⟩) hHeld ?_
  rotate_left 1
  · (intro w hSw; (try dsimp only at hSw); go_simp; first | done | with_reducible rfl)
  try simp only [Act.put, List.setIfInBounds_toArray, List.set_cons_zero, List.set_cons_succ]
  refine Bz.wpAnyE_take (i := 15) (oi := { dst := some 61, op := Go.Op.move (Go.Operand.tmp 60), type := 4, pos := "law.go:28", after := #[{ on := 14, ground := Go.Ground.data }, { on := 11, ground := Go.Ground.chain }], guard := none }) (v := ?_) rfl (by kernel_rfl) (by kernel_rfl) (by kernel_rfl) (by kernel_rfl) (fun _ _ _ h => h) (Or.inl ⟨by rfl, ?_⟩) hHeld ?_
  rotate_left 1
  · (intro w hSw; (try dsimp only at hSw); go_simp; first | done | with_reducible rfl)
  try simp only [Act.put, List.setIfInBounds_toArray, List.set_cons_zero, List.set_cons_succ]
  refine Bz.wpAnyE_take (i := 16) (oi := { dst := some 62, op := Go.Op.move (Go.Operand.tmp 1), type := 24, pos := "law.go:28", after := #[{ on := 15, ground := Go.Ground.guard }], guard := some (15, true) }) (v := ?_) rfl (by kernel_rfl) (by kernel_rfl) (by kernel_rfl) (by kernel_rfl) (fun _ _ _ h => h) (Or.inl ⟨by rfl, ?_⟩) hHeld ?_
  rotate_left 1
  · (intro w hSw; (try dsimp only at hSw); go_simp; first | done | with_reducible rfl)
  try simp only [Act.put, List.setIfInBounds_toArray, List.set_cons_zero, List.set_cons_succ]
  refine Bz.wpAnyE_ready (rs := [17]) (by kernel_rfl) (by simp) ?_
  refine Bz.AllReadyE.cons (o := { dst := some 63, op := Go.Op.call { callee := Go.Callee.value (Go.Operand.func 13), args := #[Go.Operand.tmp 62], argTypes := #[24] }, type := 29, pos := "law.go:28", after := #[{ on := 16, ground := Go.Ground.data }, { on := 15, ground := Go.Ground.chain }, { on := 15, ground := Go.Ground.guard }], guard := some (15, true) }) rfl (fun K hK => ?_) Bz.AllReadyE.nil
  go_simp
  
  refine (tip_any hT).mono ?_
  rw [p5]
  rintro e W4 ⟨rfl, hk⟩
  try have hk := hk.undrew
  have hW := hW.trans hk; have hT := hT.keep0 hk; have hB := hB.keep hk (by simp)
  refine hK.out _ _ (by exact hB.cell) ?_
  clear hHeld hK K; intro hHeld
  try simp only [Act.put, List.setIfInBounds_toArray, List.set_cons_zero, List.set_cons_succ]
  refine Bz.wpAnyE_ready (rs := [18]) (by kernel_rfl) (by simp) ?_
  refine Bz.AllReadyE.cons (o := { dst := some 64, op := Go.Op.call { callee := Go.Callee.value (Go.Operand.func 11), args := #[Go.Operand.const (Go.Value.int Go.IntKind.u8 5)], argTypes := #[5] }, type := 29, pos := "law.go:28", after := #[{ on := 17, ground := Go.Ground.chain }, { on := 15, ground := Go.Ground.guard }], guard := some (15, true) }) rfl (fun K hK => ?_) Bz.AllReadyE.nil
  go_simp
  
  refine (id_any _ _).mono ?_
  rintro e W4 ⟨rfl, hk⟩
  try have hk := hk.undrew
  have hW := hW.trans hk; have hT := hT.keep0 hk; have hB := hB.keep hk (by simp)
  refine hK.out _ _ (by exact hB.cell) ?_
  clear hHeld hK K; intro hHeld
  try simp only [Act.put, List.setIfInBounds_toArray, List.set_cons_zero, List.set_cons_succ]
  refine Bz.wpAnyE_take (i := 19) (oi := { dst := some 65, op := Go.Op.binOp Go.BinOp.eql 29 (Go.Operand.tmp 63) (Go.Operand.tmp 64) 29, type := 4, pos := "law.go:28", after := #[{ on := 17, ground := Go.Ground.data }, { on := 18, ground := Go.Ground.data }, { on := 15, ground := Go.Ground.guard }], guard := some (15, true) }) (v := ?_) rfl (by kernel_rfl) (by kernel_rfl) (by kernel_rfl) (by kernel_rfl) (fun _ _ _ h => h) (Or.inl ⟨by rfl, ?_⟩) hHeld ?_
  rotate_left 1
  · (intro w hSw; (try dsimp only at hSw); go_simp; first | done | with_reducible rfl)
  try simp only [Act.put, List.setIfInBounds_toArray, List.set_cons_zero, List.set_cons_succ]
  refine Bz.wpAnyE_take (i := 20) (oi := { dst := some 66, op := Go.Op.pick (Go.Operand.tmp 61) (Go.Operand.tmp 65) (Go.Operand.const (Go.Value.bool false)), type := 4, pos := "law.go:28", after := #[{ on := 15, ground := Go.Ground.data }, { on := 19, ground := Go.Ground.data }], guard := none }) (v := ?_) rfl (by kernel_rfl) (by kernel_rfl) (by kernel_rfl) (by kernel_rfl) (fun _ _ _ h => h) (Or.inl ⟨by rfl, ?_⟩) hHeld ?_
  rotate_left 1
  · (intro w hSw; (try dsimp only at hSw); go_simp; first | done | with_reducible rfl)
  try simp only [Act.put, List.setIfInBounds_toArray, List.set_cons_zero, List.set_cons_succ]
  refine Bz.wpAnyE_take (i := 21) (oi := { dst := some 67, op := Go.Op.move (Go.Operand.tmp 66), type := 4, pos := "law.go:28", after := #[{ on := 20, ground := Go.Ground.data }, { on := 18, ground := Go.Ground.chain }], guard := none }) (v := ?_) rfl (by kernel_rfl) (by kernel_rfl) (by kernel_rfl) (by kernel_rfl) (fun _ _ _ h => h) (Or.inl ⟨by rfl, ?_⟩) hHeld ?_
  rotate_left 1
  · (intro w hSw; (try dsimp only at hSw); go_simp; first | done | with_reducible rfl)
  try simp only [Act.put, List.setIfInBounds_toArray, List.set_cons_zero, List.set_cons_succ]
  refine Bz.wpAnyE_take (i := 22) (oi := { dst := some 68, op := Go.Op.move (Go.Operand.tmp 1), type := 24, pos := "law.go:28", after := #[{ on := 21, ground := Go.Ground.guard }], guard := some (21, true) }) (v := ?_) rfl (by kernel_rfl) (by kernel_rfl) (by kernel_rfl) (by kernel_rfl) (fun _ _ _ h => h) (Or.inl ⟨by rfl, ?_⟩) hHeld ?_
  rotate_left 1
  · (intro w hSw; (try dsimp only at hSw); go_simp; first | done | with_reducible rfl)
  try simp only [Act.put, List.setIfInBounds_toArray, List.set_cons_zero, List.set_cons_succ]
  refine Bz.wpAnyE_ready (rs := [23]) (by kernel_rfl) (by simp) ?_
  refine Bz.AllReadyE.cons (o := { dst := some 69, op := Go.Op.call { callee := Go.Callee.value (Go.Operand.func 11), args := #[Go.Operand.const (Go.Value.int Go.IntKind.u8 5)], argTypes := #[5] }, type := 29, pos := "law.go:28", after := #[{ on := 21, ground := Go.Ground.chain }, { on := 21, ground := Go.Ground.guard }], guard := some (21, true) }) rfl (fun K hK => ?_) Bz.AllReadyE.nil
  go_simp
  
  refine (id_any _ _).mono ?_
  rintro e W4 ⟨rfl, hk⟩
  try have hk := hk.undrew
  have hW := hW.trans hk; have hT := hT.keep0 hk; have hB := hB.keep hk (by simp)
  refine hK.out _ _ (by exact hB.cell) ?_
  clear hHeld hK K; intro hHeld
  try simp only [Act.put, List.setIfInBounds_toArray, List.set_cons_zero, List.set_cons_succ]
  refine Bz.wpAnyE_ready (rs := [24]) (by kernel_rfl) (by simp) ?_
  refine Bz.AllReadyE.cons (o := { dst := some 70, op := Go.Op.call { callee := Go.Callee.value (Go.Operand.func 16), args := #[Go.Operand.tmp 68, Go.Operand.tmp 69], argTypes := #[24, 29] }, type := 3, pos := "law.go:28", after := #[{ on := 22, ground := Go.Ground.data }, { on := 23, ground := Go.Ground.data }, { on := 23, ground := Go.Ground.chain }, { on := 21, ground := Go.Ground.guard }], guard := some (21, true) }) rfl (fun K hK => ?_) Bz.AllReadyE.nil
  go_simp
  
  refine (height_any hT _).mono ?_
  rw [h5]
  rintro e W4 ⟨rfl, hk⟩
  try have hk := hk.undrew
  have hW := hW.trans hk; have hT := hT.keep0 hk; have hB := hB.keep hk (by simp)
  refine hK.out _ _ (by exact hB.cell) ?_
  clear hHeld hK K; intro hHeld
  try simp only [Act.put, List.setIfInBounds_toArray, List.set_cons_zero, List.set_cons_succ]
  refine Bz.wpAnyE_take (i := 25) (oi := { dst := some 71, op := Go.Op.binOp Go.BinOp.eql 3 (Go.Operand.tmp 70) (Go.Operand.const (Go.Value.int Go.IntKind.i64 3)) 3, type := 4, pos := "law.go:28", after := #[{ on := 24, ground := Go.Ground.data }, { on := 21, ground := Go.Ground.guard }], guard := some (21, true) }) (v := ?_) rfl (by kernel_rfl) (by kernel_rfl) (by kernel_rfl) (by kernel_rfl) (fun _ _ _ h => h) (Or.inl ⟨by rfl, ?_⟩) hHeld ?_
  rotate_left 1
  · (intro w hSw; (try dsimp only at hSw); go_simp; first | done | with_reducible rfl)
  try simp only [Act.put, List.setIfInBounds_toArray, List.set_cons_zero, List.set_cons_succ]
  refine Bz.wpAnyE_take (i := 26) (oi := { dst := some 72, op := Go.Op.pick (Go.Operand.tmp 67) (Go.Operand.tmp 71) (Go.Operand.const (Go.Value.bool false)), type := 4, pos := "law.go:28", after := #[{ on := 21, ground := Go.Ground.data }, { on := 25, ground := Go.Ground.data }], guard := none }) (v := ?_) rfl (by kernel_rfl) (by kernel_rfl) (by kernel_rfl) (by kernel_rfl) (fun _ _ _ h => h) (Or.inl ⟨by rfl, ?_⟩) hHeld ?_
  rotate_left 1
  · (intro w hSw; (try dsimp only at hSw); go_simp; first | done | with_reducible rfl)
  try simp only [Act.put, List.setIfInBounds_toArray, List.set_cons_zero, List.set_cons_succ]
  refine Bz.wpAnyE_take (i := 27) (oi := { dst := some 73, op := Go.Op.move (Go.Operand.tmp 72), type := 4, pos := "law.go:28", after := #[{ on := 26, ground := Go.Ground.data }, { on := 24, ground := Go.Ground.chain }], guard := none }) (v := ?_) rfl (by kernel_rfl) (by kernel_rfl) (by kernel_rfl) (by kernel_rfl) (fun _ _ _ h => h) (Or.inl ⟨by rfl, ?_⟩) hHeld ?_
  rotate_left 1
  · (intro w hSw; (try dsimp only at hSw); go_simp; first | done | with_reducible rfl)
  try simp only [Act.put, List.setIfInBounds_toArray, List.set_cons_zero, List.set_cons_succ]
  refine Bz.wpAnyE_take (i := 28) (oi := { dst := some 74, op := Go.Op.move (Go.Operand.tmp 1), type := 24, pos := "law.go:28", after := #[{ on := 27, ground := Go.Ground.guard }], guard := some (27, true) }) (v := ?_) rfl (by kernel_rfl) (by kernel_rfl) (by kernel_rfl) (by kernel_rfl) (fun _ _ _ h => h) (Or.inl ⟨by rfl, ?_⟩) hHeld ?_
  rotate_left 1
  · (intro w hSw; (try dsimp only at hSw); go_simp; first | done | with_reducible rfl)
  try simp only [Act.put, List.setIfInBounds_toArray, List.set_cons_zero, List.set_cons_succ]
  refine Bz.wpAnyE_ready (rs := [29]) (by kernel_rfl) (by simp) ?_
  refine Bz.AllReadyE.cons (o := { dst := some 75, op := Go.Op.call { callee := Go.Callee.value (Go.Operand.func 11), args := #[Go.Operand.const (Go.Value.int Go.IntKind.u8 2)], argTypes := #[5] }, type := 29, pos := "law.go:28", after := #[{ on := 27, ground := Go.Ground.chain }, { on := 27, ground := Go.Ground.guard }], guard := some (27, true) }) rfl (fun K hK => ?_) Bz.AllReadyE.nil
  go_simp
  
  refine (id_any _ _).mono ?_
  rintro e W4 ⟨rfl, hk⟩
  try have hk := hk.undrew
  have hW := hW.trans hk; have hT := hT.keep0 hk; have hB := hB.keep hk (by simp)
  refine hK.out _ _ (by exact hB.cell) ?_
  clear hHeld hK K; intro hHeld
  try simp only [Act.put, List.setIfInBounds_toArray, List.set_cons_zero, List.set_cons_succ]
  refine Bz.wpAnyE_ready (rs := [30]) (by kernel_rfl) (by simp) ?_
  refine Bz.AllReadyE.cons (o := { dst := some 76, op := Go.Op.call { callee := Go.Callee.value (Go.Operand.func 11), args := #[Go.Operand.const (Go.Value.int Go.IntKind.u8 5)], argTypes := #[5] }, type := 29, pos := "law.go:28", after := #[{ on := 29, ground := Go.Ground.chain }, { on := 27, ground := Go.Ground.guard }], guard := some (27, true) }) rfl (fun K hK => ?_) Bz.AllReadyE.nil
  go_simp
  
  refine (id_any _ _).mono ?_
  rintro e W4 ⟨rfl, hk⟩
  try have hk := hk.undrew
  have hW := hW.trans hk; have hT := hT.keep0 hk; have hB := hB.keep hk (by simp)
  refine hK.out _ _ (by exact hB.cell) ?_
  clear hHeld hK K; intro hHeld
  try simp only [Act.put, List.setIfInBounds_toArray, List.set_cons_zero, List.set_cons_succ]
  refine Bz.wpAnyE_ready (rs := [31]) (by kernel_rfl) (by simp) ?_
  refine Bz.AllReadyE.cons (o := { dst := some 77, op := Go.Op.call { callee := Go.Callee.value (Go.Operand.func 15), args := #[Go.Operand.tmp 74, Go.Operand.tmp 75, Go.Operand.tmp 76], argTypes := #[24, 29, 29] }, type := 36, pos := "law.go:28", after := #[{ on := 28, ground := Go.Ground.data }, { on := 29, ground := Go.Ground.data }, { on := 30, ground := Go.Ground.data }, { on := 30, ground := Go.Ground.chain }, { on := 27, ground := Go.Ground.guard }], guard := some (27, true) }) rfl (fun K hK => ?_) Bz.AllReadyE.nil
  go_simp
  
  refine (undone_call hT f5 _ _).mono ?_
  rintro e W4 ⟨v, rfl, hs, hk⟩
  obtain ⟨A, cap, rfl, _⟩ := hs
  rw [u5]
  try have hk := hk.undrew
  have hW := hW.trans hk; have hT := hT.keep0 hk; have hB := hB.keep hk (by simp)
  refine hK.out _ _ (by exact hB.cell) ?_
  clear hHeld hK K; intro hHeld
  try simp only [Act.put, List.setIfInBounds_toArray, List.set_cons_zero, List.set_cons_succ]
  refine Bz.wpAnyE_take (i := 32) (oi := { dst := some 78, op := Go.Op.call { callee := Go.Callee.builtin Go.Builtin.len, args := #[Go.Operand.tmp 77], argTypes := #[36] }, type := 3, pos := "law.go:28", after := #[{ on := 31, ground := Go.Ground.data }, { on := 27, ground := Go.Ground.guard }], guard := some (27, true) }) (v := ?_) rfl (by kernel_rfl) (by kernel_rfl) (by kernel_rfl) (by kernel_rfl) (fun _ _ _ h => h) (Or.inl ⟨by rfl, ?_⟩) hHeld ?_
  rotate_left 1
  · (intro w hSw; (try dsimp only at hSw); go_simp; first | done | with_reducible rfl)
  try simp only [Act.put, List.setIfInBounds_toArray, List.set_cons_zero, List.set_cons_succ]
  refine Bz.wpAnyE_take (i := 33) (oi := { dst := some 79, op := Go.Op.binOp Go.BinOp.eql 3 (Go.Operand.tmp 78) (Go.Operand.const (Go.Value.int Go.IntKind.i64 1)) 3, type := 4, pos := "law.go:28", after := #[{ on := 32, ground := Go.Ground.data }, { on := 27, ground := Go.Ground.guard }], guard := some (27, true) }) (v := ?_) rfl (by kernel_rfl) (by kernel_rfl) (by kernel_rfl) (by kernel_rfl) (fun _ _ _ h => h) (Or.inl ⟨by rfl, ?_⟩) hHeld ?_
  rotate_left 1
  · (intro w hSw; (try dsimp only at hSw); go_simp; first | done | with_reducible rfl)
  try simp only [Act.put, List.setIfInBounds_toArray, List.set_cons_zero, List.set_cons_succ]
  refine Bz.wpAnyE_take (i := 34) (oi := { dst := some 80, op := Go.Op.pick (Go.Operand.tmp 73) (Go.Operand.tmp 79) (Go.Operand.const (Go.Value.bool false)), type := 4, pos := "law.go:28", after := #[{ on := 27, ground := Go.Ground.data }, { on := 33, ground := Go.Ground.data }], guard := none }) (v := ?_) rfl (by kernel_rfl) (by kernel_rfl) (by kernel_rfl) (by kernel_rfl) (fun _ _ _ h => h) (Or.inl ⟨by rfl, ?_⟩) hHeld ?_
  rotate_left 1
  · (intro w hSw; (try dsimp only at hSw); go_simp; first | done | with_reducible rfl)
  try simp only [Act.put, List.setIfInBounds_toArray, List.set_cons_zero, List.set_cons_succ]
  refine Bz.wpAnyE_take (i := 35) (oi := { dst := some 0, op := Go.Op.assign (Go.Operand.tmp 80), type := 4, pos := "law.go:28", after := #[{ on := 34, ground := Go.Ground.data }, { on := 31, ground := Go.Ground.chain }, { on := 0, ground := Go.Ground.phase }, { on := 1, ground := Go.Ground.phase }, { on := 2, ground := Go.Ground.phase }, { on := 3, ground := Go.Ground.phase }, { on := 4, ground := Go.Ground.phase }, { on := 5, ground := Go.Ground.phase }, { on := 6, ground := Go.Ground.phase }, { on := 7, ground := Go.Ground.phase }, { on := 8, ground := Go.Ground.phase }, { on := 9, ground := Go.Ground.phase }, { on := 10, ground := Go.Ground.phase }, { on := 11, ground := Go.Ground.phase }, { on := 12, ground := Go.Ground.phase }, { on := 13, ground := Go.Ground.phase }, { on := 14, ground := Go.Ground.phase }, { on := 15, ground := Go.Ground.phase }, { on := 16, ground := Go.Ground.phase }, { on := 17, ground := Go.Ground.phase }, { on := 18, ground := Go.Ground.phase }, { on := 19, ground := Go.Ground.phase }, { on := 20, ground := Go.Ground.phase }, { on := 21, ground := Go.Ground.phase }, { on := 22, ground := Go.Ground.phase }, { on := 23, ground := Go.Ground.phase }, { on := 24, ground := Go.Ground.phase }, { on := 25, ground := Go.Ground.phase }, { on := 26, ground := Go.Ground.phase }, { on := 27, ground := Go.Ground.phase }, { on := 28, ground := Go.Ground.phase }, { on := 29, ground := Go.Ground.phase }, { on := 30, ground := Go.Ground.phase }, { on := 31, ground := Go.Ground.phase }, { on := 32, ground := Go.Ground.phase }, { on := 33, ground := Go.Ground.phase }, { on := 34, ground := Go.Ground.phase }], guard := none }) (v := ?_) rfl (by kernel_rfl) (by kernel_rfl) (by kernel_rfl) (by kernel_rfl) (fun _ _ _ h => h) (Or.inl ⟨by rfl, ?_⟩) hHeld ?_
  rotate_left 1
  · (intro w hSw; (try dsimp only at hSw); go_simp; first | done | with_reducible rfl)
  try simp only [Act.put, List.setIfInBounds_toArray, List.set_cons_zero, List.set_cons_succ]
  refine Bz.wpAnyE_done (by kernel_rfl) ?_ _
  refine NoPanic.normal ?_
  
  clear hHeld
  go_wp2
  go_ret
  exact ⟨rfl, hW⟩
end Go.Proofs.Ytbkchniomhdieaa
