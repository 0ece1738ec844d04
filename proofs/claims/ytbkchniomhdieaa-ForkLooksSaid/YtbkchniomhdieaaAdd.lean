/- fork.Tree.Add walked. -/
import Derived.Test.YtbkchniomhdieaaBelow
namespace Go.Proofs.Ytbkchniomhdieaa
open Go.RowKit Go.Bz

/-- What the drawn regions of Add read. -/
def AddS (t mb N : Nat) (T : FT) (x p : D8) (W : World) : Prop :=
  (∀ z, (Instr.lookup 70 (.map (some mb)) (dv z) true).run Try.prog W = .ok (.tuple #[benc (T.get z), .bool (T.is z)]) W) ∧ (∀ i, W.cell? ⟨t, i, none⟩ = (tcells T mb)[i]?) ∧
  (∀ i, W.cell? ⟨N, i, none⟩ = (dcells x)[i]?) ∧ (∀ i, W.cell? ⟨N + 1, i, none⟩ = (dcells p)[i]?)
/-- The world in Add: the tree, and the two boxed parameters. -/
structure AddW (w : World) (t mb : Nat) (T : FT) (x p : D8) (W : World) : Prop where
  tree : TreeAt W t mb T
  b0 : Blk W w.heap.size 29 (dcells x)
  b1 : Blk W (w.heap.size + 1) 29 (dcells p)
  keep : Keep [] w W
section
variable {w W : World} {t mb : Nat} {T : FT} {x p : D8}
theorem AddW.s (h : AddW w t mb T x p W) : AddS t mb w.heap.size T x p W := ⟨h.tree.look_ok, h.tree.1.cell, h.b0.cell, h.b1.cell⟩
theorem AddW.alloc (h : AddW w t mb T x p W) (o : Obj) : AddW w t mb T x p (W.alloc o) := ⟨h.tree.alloc o, h.b0.alloc o, h.b1.alloc o, h.keep.alloc o⟩
theorem AddW.drew (h : AddW w t mb T x p W) : AddW w t mb T x p W.drew := ⟨h.tree.drew, h.b0.drew, h.b1.drew, h.keep.drew⟩
theorem AddW.on {W' : World} (h : AddW w t mb T x p W) (hk : Keep [] W W') : AddW w t mb T x p W' := ⟨h.tree.keep0 hk, h.b0.keep hk (by simp), h.b1.keep hk (by simp), h.keep.trans hk⟩
theorem AddW.start (h : TreeAt w t mb T) (x p : D8) : AddW w t mb T x p ((w.alloc (.cells (dcells x) 29)).alloc (.cells (dcells p) 29)) :=
  ⟨(h.alloc _).alloc _, (Blk.new_ rfl).alloc _, Blk.new_ (by simp), ((Keep.refl _ _).alloc _).alloc _⟩
end
theorem add_twice {t mb : Nat} {T : FT} {w : World} (h : TreeAt w t mb T) (x p : D8) (hx : T.is x = true) :
    Calls Try.prog 14 #[.pointer (some ⟨t, 0, none⟩), dv x, dv p] w (fun e w' => e = .returned (.int .i64 7) ∧ Keep [] w w') := by
  have hA := AddW.start h x p
  have K0 := hA.drew.s
  have K1 := fun o => (hA.alloc o).drew.s
  unfold AddS at K0 K1
  clear h
  go_enter Try.func14, Try.ntmps14
  go_wp2
  refine wp_region_noPanic ?_
  refine Bz.wp_region_E (S := (fun w' => (∀ z, (Instr.lookup 70 (.map (some mb)) (dv z) true).run Try.prog w' = .ok (.tuple #[benc (T.get z), .bool (T.is z)]) w') ∧ (∀ i, w'.cell? ⟨t, i, none⟩ = (tcells T mb)[i]?) ∧ (∀ i, w'.cell? ⟨w.heap.size, i, none⟩ = (dcells x)[i]?) ∧ (∀ i, w'.cell? ⟨w.heap.size + 1, i, none⟩ = (dcells p)[i]?))) (E := []) (by kernel_rfl) (by exact K0) (fun hHeld => ?_)
  refine Bz.wpAnyE_take (i := 0) (oi := { dst := some 14, op := Go.Op.move (Go.Operand.tmp 0), type := 24, pos := "fork.go:58", after := #[], guard := none }) (v := ?_) rfl (by kernel_rfl) (by kernel_rfl) (by kernel_rfl) (by kernel_rfl) (fun _ _ _ h => h) (Or.inl ⟨by rfl, ?_⟩) hHeld ?_
  rotate_left 1
  · (intro w hSw; (try dsimp only at hSw); go_simp; first | done | with_reducible rfl)
  try simp only [Act.put, List.setIfInBounds_toArray, List.set_cons_zero, List.set_cons_succ]
  refine Bz.wpAnyE_take (i := 1) (oi := { dst := some 15, op := Go.Op.nilCheck (Go.Operand.tmp 14), type := 0, pos := "fork.go:58", after := #[{ on := 0, ground := Go.Ground.data }], guard := none }) (v := ?_) rfl (by kernel_rfl) (by kernel_rfl) (by kernel_rfl) (by kernel_rfl) (fun _ _ _ h => h) (Or.inl ⟨by rfl, ?_⟩) hHeld ?_
  rotate_left 1
  · (intro w hSw; (try dsimp only at hSw); go_simp; first | done | with_reducible rfl)
  try simp only [Act.put, List.setIfInBounds_toArray, List.set_cons_zero, List.set_cons_succ]
  refine Bz.wpAnyE_take (i := 2) (oi := { dst := some 16, op := Go.Op.fieldAddr 72 (Go.Operand.tmp 15) 3, type := 0, pos := "fork.go:58", after := #[{ on := 1, ground := Go.Ground.data }], guard := none }) (v := ?_) rfl (by kernel_rfl) (by kernel_rfl) (by kernel_rfl) (by kernel_rfl) (fun _ _ _ h => h) (Or.inl ⟨by rfl, ?_⟩) hHeld ?_
  rotate_left 1
  · (intro w hSw; (try dsimp only at hSw); go_simp; first | done | with_reducible rfl)
  try simp only [Act.put, List.setIfInBounds_toArray, List.set_cons_zero, List.set_cons_succ]
  refine Bz.wpAnyE_take (i := 3) (oi := { dst := some 17, op := Go.Op.load 70 (Go.Operand.tmp 16), type := 70, pos := "fork.go:58", after := #[{ on := 2, ground := Go.Ground.data }], guard := none }) (v := ?_) rfl (by kernel_rfl) (by kernel_rfl) (by kernel_rfl) (by kernel_rfl) (fun _ _ _ h => h) (Or.inl ⟨by rfl, ?_⟩) hHeld ?_
  rotate_left 1
  · (intro w hSw; (try dsimp only at hSw); go_simp; first | done | with_reducible rfl)
  try simp only [Act.put, List.setIfInBounds_toArray, List.set_cons_zero, List.set_cons_succ]
  refine Bz.wpAnyE_take (i := 4) (oi := { dst := some 18, op := Go.Op.load 29 (Go.Operand.tmp 4), type := 29, pos := "fork.go:58", after := #[], guard := none }) (v := ?_) rfl (by kernel_rfl) (by kernel_rfl) (by kernel_rfl) (by kernel_rfl) (fun _ _ _ h => h) (Or.inl ⟨by rfl, ?_⟩) hHeld ?_
  rotate_left 1
  · (intro w hSw; (try dsimp only at hSw); go_simp; first | done | with_reducible rfl)
  try simp only [Act.put, List.setIfInBounds_toArray, List.set_cons_zero, List.set_cons_succ]
  refine Bz.wpAnyE_take (i := 5) (oi := { dst := some 19, op := Go.Op.lookup 70 (Go.Operand.tmp 17) (Go.Operand.tmp 18) true, type := 73, pos := "fork.go:58", after := #[{ on := 3, ground := Go.Ground.data }, { on := 4, ground := Go.Ground.data }], guard := none }) (v := ?_) rfl (by kernel_rfl) (by kernel_rfl) (by kernel_rfl) (by kernel_rfl) (fun _ _ _ h => h) (Or.inl ⟨by rfl, ?_⟩) hHeld ?_
  rotate_left 1
  · (intro w hSw; (try dsimp only at hSw); go_simp; first | done | with_reducible rfl)
  try simp only [Act.put, List.setIfInBounds_toArray, List.set_cons_zero, List.set_cons_succ]
  refine Bz.wpAnyE_take (i := 6) (oi := { dst := some 13, op := Go.Op.move (Go.Operand.tmp 19), type := 73, pos := "fork.go:58", after := #[{ on := 5, ground := Go.Ground.data }], guard := none }) (v := ?_) rfl (by kernel_rfl) (by kernel_rfl) (by kernel_rfl) (by kernel_rfl) (fun _ _ _ h => h) (Or.inl ⟨by rfl, ?_⟩) hHeld ?_
  rotate_left 1
  · (intro w hSw; (try dsimp only at hSw); go_simp; first | done | with_reducible rfl)
  try simp only [Act.put, List.setIfInBounds_toArray, List.set_cons_zero, List.set_cons_succ]
  refine Bz.wpAnyE_take (i := 7) (oi := { dst := some 20, op := Go.Op.extract (Go.Operand.tmp 13) 0, type := 69, pos := "fork.go:58", after := #[{ on := 6, ground := Go.Ground.data }], guard := none }) (v := ?_) rfl (by kernel_rfl) (by kernel_rfl) (by kernel_rfl) (by kernel_rfl) (fun _ _ _ h => h) (Or.inl ⟨by rfl, ?_⟩) hHeld ?_
  rotate_left 1
  · (intro w hSw; (try dsimp only at hSw); go_simp; first | done | with_reducible rfl)
  try simp only [Act.put, List.setIfInBounds_toArray, List.set_cons_zero, List.set_cons_succ]
  refine Bz.wpAnyE_take (i := 8) (oi := { dst := some 21, op := Go.Op.extract (Go.Operand.tmp 13) 1, type := 4, pos := "fork.go:58", after := #[{ on := 6, ground := Go.Ground.data }, { on := 10, ground := Go.Ground.gcOnly Go.Departure.lateStores }], guard := none }) (v := ?_) rfl (by kernel_rfl) (by kernel_rfl) (by kernel_rfl) (by kernel_rfl) (fun _ _ _ h => h) (Or.inl ⟨by rfl, ?_⟩) hHeld ?_
  rotate_left 1
  · (intro w hSw; (try dsimp only at hSw); go_simp; first | done | with_reducible rfl)
  try simp only [Act.put, List.setIfInBounds_toArray, List.set_cons_zero, List.set_cons_succ]
  refine Bz.wpAnyE_ready (rs := [9]) (by kernel_rfl) (by simp) ?_
  refine Bz.AllReadyE.cons (o := { dst := some 7, op := Go.Op.alloc 69, type := 0, pos := "fork.go:58", after := #[], guard := none }) rfl (fun K hK => ?_) Bz.AllReadyE.nil
  go_simp
  refine hK.out _ _ (by exact K1 _) ?_
  clear hHeld hK K; intro hHeld
  try simp only [Act.put, List.setIfInBounds_toArray, List.set_cons_zero, List.set_cons_succ]
  refine Bz.wpAnyE_ready (rs := [10]) (by kernel_rfl) (by simp) ?_
  refine Bz.AllReadyE.cons (o := { dst := none, op := Go.Op.store 69 (Go.Operand.tmp 7) (Go.Operand.tmp 20), type := 0, pos := "fork.go:58", after := #[{ on := 9, ground := Go.Ground.data }, { on := 7, ground := Go.Ground.data }, { on := 0, ground := Go.Ground.phase }, { on := 1, ground := Go.Ground.phase }, { on := 2, ground := Go.Ground.phase }, { on := 3, ground := Go.Ground.phase }, { on := 4, ground := Go.Ground.phase }, { on := 5, ground := Go.Ground.phase }, { on := 6, ground := Go.Ground.phase }, { on := 7, ground := Go.Ground.phase }, { on := 8, ground := Go.Ground.textOnly Go.Departure.lateStores }, { on := 9, ground := Go.Ground.phase }], guard := none }) rfl (fun K hK => ?_) Bz.AllReadyE.nil
  go_simp
  refine hK.out _ _ (by exact K1 _) ?_
  clear hHeld hK K; intro hHeld
  try simp only [Act.put, List.setIfInBounds_toArray, List.set_cons_zero, List.set_cons_succ]
  refine Bz.wpAnyE_take (i := 11) (oi := { dst := some 8, op := Go.Op.assign (Go.Operand.tmp 21), type := 4, pos := "fork.go:58", after := #[{ on := 8, ground := Go.Ground.data }, { on := 10, ground := Go.Ground.chain }, { on := 0, ground := Go.Ground.phase }, { on := 1, ground := Go.Ground.phase }, { on := 2, ground := Go.Ground.phase }, { on := 3, ground := Go.Ground.phase }, { on := 4, ground := Go.Ground.phase }, { on := 5, ground := Go.Ground.phase }, { on := 6, ground := Go.Ground.phase }, { on := 7, ground := Go.Ground.phase }, { on := 8, ground := Go.Ground.phase }, { on := 9, ground := Go.Ground.phase }, { on := 10, ground := Go.Ground.phase }], guard := none }) (v := ?_) rfl (by kernel_rfl) (by kernel_rfl) (by kernel_rfl) (by kernel_rfl) (fun _ _ _ h => h) (Or.inl ⟨by rfl, ?_⟩) hHeld ?_
  rotate_left 1
  · (intro w hSw; (try dsimp only at hSw); go_simp; first | done | with_reducible rfl)
  try simp only [Act.put, List.setIfInBounds_toArray, List.set_cons_zero, List.set_cons_succ]
  refine Bz.wpAnyE_done (by kernel_rfl) ?_ _
  refine NoPanic.normal ?_
  
  clear hHeld K0 K1
  go_wp2
  go_ret
  exact ⟨rfl, (((Keep.refl _ _).alloc _).alloc _).alloc _ |>.drew⟩
theorem add_noparent {t mb : Nat} {T : FT} {w : World} (h : TreeAt w t mb T) (x p : D8) (hx : T.is x = false) (hp : T.is p = false) :
    Calls Try.prog 14 #[.pointer (some ⟨t, 0, none⟩), dv x, dv p] w (fun e w' => e = .returned (.int .i64 24) ∧ Keep [] w w') := by
  have hA := AddW.start h x p
  have K0 := hA.drew.s
  have K1 := fun o => (hA.alloc o).drew.s
  have K2 := fun c => (hA.alloc c).drew.drew.s
  have K3 := fun c o => ((hA.alloc c).alloc o).drew.drew.s
  unfold AddS at K0 K1 K2 K3
  have HA := fun c c' => ((hA.alloc c).alloc c').drew.drew
  clear h hA
  go_enter Try.func14, Try.ntmps14
  go_wp2
  refine wp_region_noPanic ?_
  refine Bz.wp_region_E (S := (fun w' => (∀ z, (Instr.lookup 70 (.map (some mb)) (dv z) true).run Try.prog w' = .ok (.tuple #[benc (T.get z), .bool (T.is z)]) w') ∧ (∀ i, w'.cell? ⟨t, i, none⟩ = (tcells T mb)[i]?) ∧ (∀ i, w'.cell? ⟨w.heap.size, i, none⟩ = (dcells x)[i]?) ∧ (∀ i, w'.cell? ⟨w.heap.size + 1, i, none⟩ = (dcells p)[i]?))) (E := []) (by kernel_rfl) (by exact K0) (fun hHeld => ?_)
  refine Bz.wpAnyE_take (i := 0) (oi := { dst := some 14, op := Go.Op.move (Go.Operand.tmp 0), type := 24, pos := "fork.go:58", after := #[], guard := none }) (v := ?_) rfl (by kernel_rfl) (by kernel_rfl) (by kernel_rfl) (by kernel_rfl) (fun _ _ _ h => h) (Or.inl ⟨by rfl, ?_⟩) hHeld ?_
  rotate_left 1
  · (intro w hSw; (try dsimp only at hSw); go_simp; first | done | with_reducible rfl)
  try simp only [Act.put, List.setIfInBounds_toArray, List.set_cons_zero, List.set_cons_succ]
  refine Bz.wpAnyE_take (i := 1) (oi := { dst := some 15, op := Go.Op.nilCheck (Go.Operand.tmp 14), type := 0, pos := "fork.go:58", after := #[{ on := 0, ground := Go.Ground.data }], guard := none }) (v := ?_) rfl (by kernel_rfl) (by kernel_rfl) (by kernel_rfl) (by kernel_rfl) (fun _ _ _ h => h) (Or.inl ⟨by rfl, ?_⟩) hHeld ?_
  rotate_left 1
  · (intro w hSw; (try dsimp only at hSw); go_simp; first | done | with_reducible rfl)
  try simp only [Act.put, List.setIfInBounds_toArray, List.set_cons_zero, List.set_cons_succ]
  refine Bz.wpAnyE_take (i := 2) (oi := { dst := some 16, op := Go.Op.fieldAddr 72 (Go.Operand.tmp 15) 3, type := 0, pos := "fork.go:58", after := #[{ on := 1, ground := Go.Ground.data }], guard := none }) (v := ?_) rfl (by kernel_rfl) (by kernel_rfl) (by kernel_rfl) (by kernel_rfl) (fun _ _ _ h => h) (Or.inl ⟨by rfl, ?_⟩) hHeld ?_
  rotate_left 1
  · (intro w hSw; (try dsimp only at hSw); go_simp; first | done | with_reducible rfl)
  try simp only [Act.put, List.setIfInBounds_toArray, List.set_cons_zero, List.set_cons_succ]
  refine Bz.wpAnyE_take (i := 3) (oi := { dst := some 17, op := Go.Op.load 70 (Go.Operand.tmp 16), type := 70, pos := "fork.go:58", after := #[{ on := 2, ground := Go.Ground.data }], guard := none }) (v := ?_) rfl (by kernel_rfl) (by kernel_rfl) (by kernel_rfl) (by kernel_rfl) (fun _ _ _ h => h) (Or.inl ⟨by rfl, ?_⟩) hHeld ?_
  rotate_left 1
  · (intro w hSw; (try dsimp only at hSw); go_simp; first | done | with_reducible rfl)
  try simp only [Act.put, List.setIfInBounds_toArray, List.set_cons_zero, List.set_cons_succ]
  refine Bz.wpAnyE_take (i := 4) (oi := { dst := some 18, op := Go.Op.load 29 (Go.Operand.tmp 4), type := 29, pos := "fork.go:58", after := #[], guard := none }) (v := ?_) rfl (by kernel_rfl) (by kernel_rfl) (by kernel_rfl) (by kernel_rfl) (fun _ _ _ h => h) (Or.inl ⟨by rfl, ?_⟩) hHeld ?_
  rotate_left 1
  · (intro w hSw; (try dsimp only at hSw); go_simp; first | done | with_reducible rfl)
  try simp only [Act.put, List.setIfInBounds_toArray, List.set_cons_zero, List.set_cons_succ]
  refine Bz.wpAnyE_take (i := 5) (oi := { dst := some 19, op := Go.Op.lookup 70 (Go.Operand.tmp 17) (Go.Operand.tmp 18) true, type := 73, pos := "fork.go:58", after := #[{ on := 3, ground := Go.Ground.data }, { on := 4, ground := Go.Ground.data }], guard := none }) (v := ?_) rfl (by kernel_rfl) (by kernel_rfl) (by kernel_rfl) (by kernel_rfl) (fun _ _ _ h => h) (Or.inl ⟨by rfl, ?_⟩) hHeld ?_
  rotate_left 1
  · (intro w hSw; (try dsimp only at hSw); go_simp; first | done | with_reducible rfl)
  try simp only [Act.put, List.setIfInBounds_toArray, List.set_cons_zero, List.set_cons_succ]
  refine Bz.wpAnyE_take (i := 6) (oi := { dst := some 13, op := Go.Op.move (Go.Operand.tmp 19), type := 73, pos := "fork.go:58", after := #[{ on := 5, ground := Go.Ground.data }], guard := none }) (v := ?_) rfl (by kernel_rfl) (by kernel_rfl) (by kernel_rfl) (by kernel_rfl) (fun _ _ _ h => h) (Or.inl ⟨by rfl, ?_⟩) hHeld ?_
  rotate_left 1
  · (intro w hSw; (try dsimp only at hSw); go_simp; first | done | with_reducible rfl)
  try simp only [Act.put, List.setIfInBounds_toArray, List.set_cons_zero, List.set_cons_succ]
  refine Bz.wpAnyE_take (i := 7) (oi := { dst := some 20, op := Go.Op.extract (Go.Operand.tmp 13) 0, type := 69, pos := "fork.go:58", after := #[{ on := 6, ground := Go.Ground.data }], guard := none }) (v := ?_) rfl (by kernel_rfl) (by kernel_rfl) (by kernel_rfl) (by kernel_rfl) (fun _ _ _ h => h) (Or.inl ⟨by rfl, ?_⟩) hHeld ?_
  rotate_left 1
  · (intro w hSw; (try dsimp only at hSw); go_simp; first | done | with_reducible rfl)
  try simp only [Act.put, List.setIfInBounds_toArray, List.set_cons_zero, List.set_cons_succ]
  refine Bz.wpAnyE_take (i := 8) (oi := { dst := some 21, op := Go.Op.extract (Go.Operand.tmp 13) 1, type := 4, pos := "fork.go:58", after := #[{ on := 6, ground := Go.Ground.data }, { on := 10, ground := Go.Ground.gcOnly Go.Departure.lateStores }], guard := none }) (v := ?_) rfl (by kernel_rfl) (by kernel_rfl) (by kernel_rfl) (by kernel_rfl) (fun _ _ _ h => h) (Or.inl ⟨by rfl, ?_⟩) hHeld ?_
  rotate_left 1
  · (intro w hSw; (try dsimp only at hSw); go_simp; first | done | with_reducible rfl)
  try simp only [Act.put, List.setIfInBounds_toArray, List.set_cons_zero, List.set_cons_succ]
  refine Bz.wpAnyE_ready (rs := [9]) (by kernel_rfl) (by simp) ?_
  refine Bz.AllReadyE.cons (o := { dst := some 7, op := Go.Op.alloc 69, type := 0, pos := "fork.go:58", after := #[], guard := none }) rfl (fun K hK => ?_) Bz.AllReadyE.nil
  go_simp
  refine hK.out _ _ (by exact K1 _) ?_
  clear hHeld hK K; intro hHeld
  try simp only [Act.put, List.setIfInBounds_toArray, List.set_cons_zero, List.set_cons_succ]
  refine Bz.wpAnyE_ready (rs := [10]) (by kernel_rfl) (by simp) ?_
  refine Bz.AllReadyE.cons (o := { dst := none, op := Go.Op.store 69 (Go.Operand.tmp 7) (Go.Operand.tmp 20), type := 0, pos := "fork.go:58", after := #[{ on := 9, ground := Go.Ground.data }, { on := 7, ground := Go.Ground.data }, { on := 0, ground := Go.Ground.phase }, { on := 1, ground := Go.Ground.phase }, { on := 2, ground := Go.Ground.phase }, { on := 3, ground := Go.Ground.phase }, { on := 4, ground := Go.Ground.phase }, { on := 5, ground := Go.Ground.phase }, { on := 6, ground := Go.Ground.phase }, { on := 7, ground := Go.Ground.phase }, { on := 8, ground := Go.Ground.textOnly Go.Departure.lateStores }, { on := 9, ground := Go.Ground.phase }], guard := none }) rfl (fun K hK => ?_) Bz.AllReadyE.nil
  go_simp
  refine hK.out _ _ (by exact K1 _) ?_
  clear hHeld hK K; intro hHeld
  try simp only [Act.put, List.setIfInBounds_toArray, List.set_cons_zero, List.set_cons_succ]
  refine Bz.wpAnyE_take (i := 11) (oi := { dst := some 8, op := Go.Op.assign (Go.Operand.tmp 21), type := 4, pos := "fork.go:58", after := #[{ on := 8, ground := Go.Ground.data }, { on := 10, ground := Go.Ground.chain }, { on := 0, ground := Go.Ground.phase }, { on := 1, ground := Go.Ground.phase }, { on := 2, ground := Go.Ground.phase }, { on := 3, ground := Go.Ground.phase }, { on := 4, ground := Go.Ground.phase }, { on := 5, ground := Go.Ground.phase }, { on := 6, ground := Go.Ground.phase }, { on := 7, ground := Go.Ground.phase }, { on := 8, ground := Go.Ground.phase }, { on := 9, ground := Go.Ground.phase }, { on := 10, ground := Go.Ground.phase }], guard := none }) (v := ?_) rfl (by kernel_rfl) (by kernel_rfl) (by kernel_rfl) (by kernel_rfl) (fun _ _ _ h => h) (Or.inl ⟨by rfl, ?_⟩) hHeld ?_
  rotate_left 1
  · (intro w hSw; (try dsimp only at hSw); go_simp; first | done | with_reducible rfl)
  try simp only [Act.put, List.setIfInBounds_toArray, List.set_cons_zero, List.set_cons_succ]
  refine Bz.wpAnyE_done (by kernel_rfl) ?_ _
  refine NoPanic.normal ?_
  
  clear hHeld K0 K1
  go_wp2
  refine wp_region_noPanic ?_
  refine Bz.wp_region_E (S := (fun w' => (∀ z, (Instr.lookup 70 (.map (some mb)) (dv z) true).run Try.prog w' = .ok (.tuple #[benc (T.get z), .bool (T.is z)]) w') ∧ (∀ i, w'.cell? ⟨t, i, none⟩ = (tcells T mb)[i]?) ∧ (∀ i, w'.cell? ⟨w.heap.size, i, none⟩ = (dcells x)[i]?) ∧ (∀ i, w'.cell? ⟨w.heap.size + 1, i, none⟩ = (dcells p)[i]?))) (E := []) (by kernel_rfl) (by exact K2 _) (fun hHeld => ?_)
  refine Bz.wpAnyE_take (i := 0) (oi := { dst := some 24, op := Go.Op.move (Go.Operand.tmp 0), type := 24, pos := "fork.go:61", after := #[], guard := none }) (v := ?_) rfl (by kernel_rfl) (by kernel_rfl) (by kernel_rfl) (by kernel_rfl) (fun _ _ _ h => h) (Or.inl ⟨by rfl, ?_⟩) hHeld ?_
  rotate_left 1
  · (intro w hSw; (try dsimp only at hSw); go_simp; first | done | with_reducible rfl)
  try simp only [Act.put, List.setIfInBounds_toArray, List.set_cons_zero, List.set_cons_succ]
  refine Bz.wpAnyE_take (i := 1) (oi := { dst := some 25, op := Go.Op.nilCheck (Go.Operand.tmp 24), type := 0, pos := "fork.go:61", after := #[{ on := 0, ground := Go.Ground.data }], guard := none }) (v := ?_) rfl (by kernel_rfl) (by kernel_rfl) (by kernel_rfl) (by kernel_rfl) (fun _ _ _ h => h) (Or.inl ⟨by rfl, ?_⟩) hHeld ?_
  rotate_left 1
  · (intro w hSw; (try dsimp only at hSw); go_simp; first | done | with_reducible rfl)
  try simp only [Act.put, List.setIfInBounds_toArray, List.set_cons_zero, List.set_cons_succ]
  refine Bz.wpAnyE_take (i := 2) (oi := { dst := some 26, op := Go.Op.fieldAddr 72 (Go.Operand.tmp 25) 3, type := 0, pos := "fork.go:61", after := #[{ on := 1, ground := Go.Ground.data }], guard := none }) (v := ?_) rfl (by kernel_rfl) (by kernel_rfl) (by kernel_rfl) (by kernel_rfl) (fun _ _ _ h => h) (Or.inl ⟨by rfl, ?_⟩) hHeld ?_
  rotate_left 1
  · (intro w hSw; (try dsimp only at hSw); go_simp; first | done | with_reducible rfl)
  try simp only [Act.put, List.setIfInBounds_toArray, List.set_cons_zero, List.set_cons_succ]
  refine Bz.wpAnyE_take (i := 3) (oi := { dst := some 27, op := Go.Op.load 70 (Go.Operand.tmp 26), type := 70, pos := "fork.go:61", after := #[{ on := 2, ground := Go.Ground.data }], guard := none }) (v := ?_) rfl (by kernel_rfl) (by kernel_rfl) (by kernel_rfl) (by kernel_rfl) (fun _ _ _ h => h) (Or.inl ⟨by rfl, ?_⟩) hHeld ?_
  rotate_left 1
  · (intro w hSw; (try dsimp only at hSw); go_simp; first | done | with_reducible rfl)
  try simp only [Act.put, List.setIfInBounds_toArray, List.set_cons_zero, List.set_cons_succ]
  refine Bz.wpAnyE_take (i := 4) (oi := { dst := some 28, op := Go.Op.load 29 (Go.Operand.tmp 5), type := 29, pos := "fork.go:61", after := #[], guard := none }) (v := ?_) rfl (by kernel_rfl) (by kernel_rfl) (by kernel_rfl) (by kernel_rfl) (fun _ _ _ h => h) (Or.inl ⟨by rfl, ?_⟩) hHeld ?_
  rotate_left 1
  · (intro w hSw; (try dsimp only at hSw); go_simp; first | done | with_reducible rfl)
  try simp only [Act.put, List.setIfInBounds_toArray, List.set_cons_zero, List.set_cons_succ]
  refine Bz.wpAnyE_take (i := 5) (oi := { dst := some 29, op := Go.Op.lookup 70 (Go.Operand.tmp 27) (Go.Operand.tmp 28) true, type := 73, pos := "fork.go:61", after := #[{ on := 3, ground := Go.Ground.data }, { on := 4, ground := Go.Ground.data }], guard := none }) (v := ?_) rfl (by kernel_rfl) (by kernel_rfl) (by kernel_rfl) (by kernel_rfl) (fun _ _ _ h => h) (Or.inl ⟨by rfl, ?_⟩) hHeld ?_
  rotate_left 1
  · (intro w hSw; (try dsimp only at hSw); go_simp; first | done | with_reducible rfl)
  try simp only [Act.put, List.setIfInBounds_toArray, List.set_cons_zero, List.set_cons_succ]
  refine Bz.wpAnyE_take (i := 6) (oi := { dst := some 23, op := Go.Op.move (Go.Operand.tmp 29), type := 73, pos := "fork.go:61", after := #[{ on := 5, ground := Go.Ground.data }], guard := none }) (v := ?_) rfl (by kernel_rfl) (by kernel_rfl) (by kernel_rfl) (by kernel_rfl) (fun _ _ _ h => h) (Or.inl ⟨by rfl, ?_⟩) hHeld ?_
  rotate_left 1
  · (intro w hSw; (try dsimp only at hSw); go_simp; first | done | with_reducible rfl)
  try simp only [Act.put, List.setIfInBounds_toArray, List.set_cons_zero, List.set_cons_succ]
  refine Bz.wpAnyE_take (i := 7) (oi := { dst := some 30, op := Go.Op.extract (Go.Operand.tmp 23) 0, type := 69, pos := "fork.go:61", after := #[{ on := 6, ground := Go.Ground.data }], guard := none }) (v := ?_) rfl (by kernel_rfl) (by kernel_rfl) (by kernel_rfl) (by kernel_rfl) (fun _ _ _ h => h) (Or.inl ⟨by rfl, ?_⟩) hHeld ?_
  rotate_left 1
  · (intro w hSw; (try dsimp only at hSw); go_simp; first | done | with_reducible rfl)
  try simp only [Act.put, List.setIfInBounds_toArray, List.set_cons_zero, List.set_cons_succ]
  refine Bz.wpAnyE_take (i := 8) (oi := { dst := some 31, op := Go.Op.extract (Go.Operand.tmp 23) 1, type := 4, pos := "fork.go:61", after := #[{ on := 6, ground := Go.Ground.data }, { on := 10, ground := Go.Ground.gcOnly Go.Departure.lateStores }], guard := none }) (v := ?_) rfl (by kernel_rfl) (by kernel_rfl) (by kernel_rfl) (by kernel_rfl) (fun _ _ _ h => h) (Or.inl ⟨by rfl, ?_⟩) hHeld ?_
  rotate_left 1
  · (intro w hSw; (try dsimp only at hSw); go_simp; first | done | with_reducible rfl)
  try simp only [Act.put, List.setIfInBounds_toArray, List.set_cons_zero, List.set_cons_succ]
  refine Bz.wpAnyE_ready (rs := [9]) (by kernel_rfl) (by simp) ?_
  refine Bz.AllReadyE.cons (o := { dst := some 9, op := Go.Op.alloc 69, type := 0, pos := "fork.go:61", after := #[], guard := none }) rfl (fun K hK => ?_) Bz.AllReadyE.nil
  go_simp
  refine hK.out _ _ (by exact K3 _ _) ?_
  clear hHeld hK K; intro hHeld
  try simp only [Act.put, List.setIfInBounds_toArray, List.set_cons_zero, List.set_cons_succ]
  refine Bz.wpAnyE_ready (rs := [10]) (by kernel_rfl) (by simp) ?_
  refine Bz.AllReadyE.cons (o := { dst := none, op := Go.Op.store 69 (Go.Operand.tmp 9) (Go.Operand.tmp 30), type := 0, pos := "fork.go:61", after := #[{ on := 9, ground := Go.Ground.data }, { on := 7, ground := Go.Ground.data }, { on := 0, ground := Go.Ground.phase }, { on := 1, ground := Go.Ground.phase }, { on := 2, ground := Go.Ground.phase }, { on := 3, ground := Go.Ground.phase }, { on := 4, ground := Go.Ground.phase }, { on := 5, ground := Go.Ground.phase }, { on := 6, ground := Go.Ground.phase }, { on := 7, ground := Go.Ground.phase }, { on := 8, ground := Go.Ground.textOnly Go.Departure.lateStores }, { on := 9, ground := Go.Ground.phase }], guard := none }) rfl (fun K hK => ?_) Bz.AllReadyE.nil
  go_simp
  refine hK.out _ _ (by exact K3 _ _) ?_
  clear hHeld hK K; intro hHeld
  try simp only [Act.put, List.setIfInBounds_toArray, List.set_cons_zero, List.set_cons_succ]
  refine Bz.wpAnyE_take (i := 11) (oi := { dst := some 10, op := Go.Op.assign (Go.Operand.tmp 31), type := 4, pos := "fork.go:61", after := #[{ on := 8, ground := Go.Ground.data }, { on := 10, ground := Go.Ground.chain }, { on := 0, ground := Go.Ground.phase }, { on := 1, ground := Go.Ground.phase }, { on := 2, ground := Go.Ground.phase }, { on := 3, ground := Go.Ground.phase }, { on := 4, ground := Go.Ground.phase }, { on := 5, ground := Go.Ground.phase }, { on := 6, ground := Go.Ground.phase }, { on := 7, ground := Go.Ground.phase }, { on := 8, ground := Go.Ground.phase }, { on := 9, ground := Go.Ground.phase }, { on := 10, ground := Go.Ground.phase }], guard := none }) (v := ?_) rfl (by kernel_rfl) (by kernel_rfl) (by kernel_rfl) (by kernel_rfl) (fun _ _ _ h => h) (Or.inl ⟨by rfl, ?_⟩) hHeld ?_
  rotate_left 1
  · (intro w hSw; (try dsimp only at hSw); go_simp; first | done | with_reducible rfl)
  try simp only [Act.put, List.setIfInBounds_toArray, List.set_cons_zero, List.set_cons_succ]
  refine Bz.wpAnyE_done (by kernel_rfl) ?_ _
  refine NoPanic.normal ?_
  
  clear hHeld K2 K3
  clear HA
  go_wp2
  go_ret
  exact ⟨rfl, ((((Keep.refl _ _).alloc _).alloc _).alloc _).alloc _ |>.drew.drew⟩
set_option maxRecDepth 100000 in
theorem add_full {t mb : Nat} {T : FT} {w : World} (h : TreeAt w t mb T) (x p : D8) (hx : T.is x = false) (hp : T.is p = true) (hl : 4096 ≤ T.bl.length) :
    Calls Try.prog 14 #[.pointer (some ⟨t, 0, none⟩), dv x, dv p] w (fun e w' => e = .returned (.int .i64 8) ∧ Keep [] w w') := by
  have hA := AddW.start h x p
  have K0 := hA.drew.s
  have K1 := fun o => (hA.alloc o).drew.s
  have K2 := fun c => (hA.alloc c).drew.drew.s
  have K3 := fun c o => ((hA.alloc c).alloc o).drew.drew.s
  unfold AddS at K0 K1 K2 K3
  have HA := fun c c' => ((hA.alloc c).alloc c').drew.drew
  clear h hA
  go_enter Try.func14, Try.ntmps14
  go_wp2
  refine wp_region_noPanic ?_
  refine Bz.wp_region_E (S := (fun w' => (∀ z, (Instr.lookup 70 (.map (some mb)) (dv z) true).run Try.prog w' = .ok (.tuple #[benc (T.get z), .bool (T.is z)]) w') ∧ (∀ i, w'.cell? ⟨t, i, none⟩ = (tcells T mb)[i]?) ∧ (∀ i, w'.cell? ⟨w.heap.size, i, none⟩ = (dcells x)[i]?) ∧ (∀ i, w'.cell? ⟨w.heap.size + 1, i, none⟩ = (dcells p)[i]?))) (E := []) (by kernel_rfl) (by exact K0) (fun hHeld => ?_)
  refine Bz.wpAnyE_take (i := 0) (oi := { dst := some 14, op := Go.Op.move (Go.Operand.tmp 0), type := 24, pos := "fork.go:58", after := #[], guard := none }) (v := ?_) rfl (by kernel_rfl) (by kernel_rfl) (by kernel_rfl) (by kernel_rfl) (fun _ _ _ h => h) (Or.inl ⟨by rfl, ?_⟩) hHeld ?_
  rotate_left 1
  · (intro w hSw; (try dsimp only at hSw); go_simp; first | done | with_reducible rfl)
  try simp only [Act.put, List.setIfInBounds_toArray, List.set_cons_zero, List.set_cons_succ]
  refine Bz.wpAnyE_take (i := 1) (oi := { dst := some 15, op := Go.Op.nilCheck (Go.Operand.tmp 14), type := 0, pos := "fork.go:58", after := #[{ on := 0, ground := Go.Ground.data }], guard := none }) (v := ?_) rfl (by kernel_rfl) (by kernel_rfl) (by kernel_rfl) (by kernel_rfl) (fun _ _ _ h => h) (Or.inl ⟨by rfl, ?_⟩) hHeld ?_
  rotate_left 1
  · (intro w hSw; (try dsimp only at hSw); go_simp; first | done | with_reducible rfl)
  try simp only [Act.put, List.setIfInBounds_toArray, List.set_cons_zero, List.set_cons_succ]
  refine Bz.wpAnyE_take (i := 2) (oi := { dst := some 16, op := Go.Op.fieldAddr 72 (Go.Operand.tmp 15) 3, type := 0, pos := "fork.go:58", after := #[{ on := 1, ground := Go.Ground.data }], guard := none }) (v := ?_) rfl (by kernel_rfl) (by kernel_rfl) (by kernel_rfl) (by kernel_rfl) (fun _ _ _ h => h) (Or.inl ⟨by rfl, ?_⟩) hHeld ?_
  rotate_left 1
  · (intro w hSw; (try dsimp only at hSw); go_simp; first | done | with_reducible rfl)
  try simp only [Act.put, List.setIfInBounds_toArray, List.set_cons_zero, List.set_cons_succ]
  refine Bz.wpAnyE_take (i := 3) (oi := { dst := some 17, op := Go.Op.load 70 (Go.Operand.tmp 16), type := 70, pos := "fork.go:58", after := #[{ on := 2, ground := Go.Ground.data }], guard := none }) (v := ?_) rfl (by kernel_rfl) (by kernel_rfl) (by kernel_rfl) (by kernel_rfl) (fun _ _ _ h => h) (Or.inl ⟨by rfl, ?_⟩) hHeld ?_
  rotate_left 1
  · (intro w hSw; (try dsimp only at hSw); go_simp; first | done | with_reducible rfl)
  try simp only [Act.put, List.setIfInBounds_toArray, List.set_cons_zero, List.set_cons_succ]
  refine Bz.wpAnyE_take (i := 4) (oi := { dst := some 18, op := Go.Op.load 29 (Go.Operand.tmp 4), type := 29, pos := "fork.go:58", after := #[], guard := none }) (v := ?_) rfl (by kernel_rfl) (by kernel_rfl) (by kernel_rfl) (by kernel_rfl) (fun _ _ _ h => h) (Or.inl ⟨by rfl, ?_⟩) hHeld ?_
  rotate_left 1
  · (intro w hSw; (try dsimp only at hSw); go_simp; first | done | with_reducible rfl)
  try simp only [Act.put, List.setIfInBounds_toArray, List.set_cons_zero, List.set_cons_succ]
  refine Bz.wpAnyE_take (i := 5) (oi := { dst := some 19, op := Go.Op.lookup 70 (Go.Operand.tmp 17) (Go.Operand.tmp 18) true, type := 73, pos := "fork.go:58", after := #[{ on := 3, ground := Go.Ground.data }, { on := 4, ground := Go.Ground.data }], guard := none }) (v := ?_) rfl (by kernel_rfl) (by kernel_rfl) (by kernel_rfl) (by kernel_rfl) (fun _ _ _ h => h) (Or.inl ⟨by rfl, ?_⟩) hHeld ?_
  rotate_left 1
  · (intro w hSw; (try dsimp only at hSw); go_simp; first | done | with_reducible rfl)
  try simp only [Act.put, List.setIfInBounds_toArray, List.set_cons_zero, List.set_cons_succ]
  refine Bz.wpAnyE_take (i := 6) (oi := { dst := some 13, op := Go.Op.move (Go.Operand.tmp 19), type := 73, pos := "fork.go:58", after := #[{ on := 5, ground := Go.Ground.data }], guard := none }) (v := ?_) rfl (by kernel_rfl) (by kernel_rfl) (by kernel_rfl) (by kernel_rfl) (fun _ _ _ h => h) (Or.inl ⟨by rfl, ?_⟩) hHeld ?_
  rotate_left 1
  · (intro w hSw; (try dsimp only at hSw); go_simp; first | done | with_reducible rfl)
  try simp only [Act.put, List.setIfInBounds_toArray, List.set_cons_zero, List.set_cons_succ]
  refine Bz.wpAnyE_take (i := 7) (oi := { dst := some 20, op := Go.Op.extract (Go.Operand.tmp 13) 0, type := 69, pos := "fork.go:58", after := #[{ on := 6, ground := Go.Ground.data }], guard := none }) (v := ?_) rfl (by kernel_rfl) (by kernel_rfl) (by kernel_rfl) (by kernel_rfl) (fun _ _ _ h => h) (Or.inl ⟨by rfl, ?_⟩) hHeld ?_
  rotate_left 1
  · (intro w hSw; (try dsimp only at hSw); go_simp; first | done | with_reducible rfl)
  try simp only [Act.put, List.setIfInBounds_toArray, List.set_cons_zero, List.set_cons_succ]
  refine Bz.wpAnyE_take (i := 8) (oi := { dst := some 21, op := Go.Op.extract (Go.Operand.tmp 13) 1, type := 4, pos := "fork.go:58", after := #[{ on := 6, ground := Go.Ground.data }, { on := 10, ground := Go.Ground.gcOnly Go.Departure.lateStores }], guard := none }) (v := ?_) rfl (by kernel_rfl) (by kernel_rfl) (by kernel_rfl) (by kernel_rfl) (fun _ _ _ h => h) (Or.inl ⟨by rfl, ?_⟩) hHeld ?_
  rotate_left 1
  · (intro w hSw; (try dsimp only at hSw); go_simp; first | done | with_reducible rfl)
  try simp only [Act.put, List.setIfInBounds_toArray, List.set_cons_zero, List.set_cons_succ]
  refine Bz.wpAnyE_ready (rs := [9]) (by kernel_rfl) (by simp) ?_
  refine Bz.AllReadyE.cons (o := { dst := some 7, op := Go.Op.alloc 69, type := 0, pos := "fork.go:58", after := #[], guard := none }) rfl (fun K hK => ?_) Bz.AllReadyE.nil
  go_simp
  refine hK.out _ _ (by exact K1 _) ?_
  clear hHeld hK K; intro hHeld
  try simp only [Act.put, List.setIfInBounds_toArray, List.set_cons_zero, List.set_cons_succ]
  refine Bz.wpAnyE_ready (rs := [10]) (by kernel_rfl) (by simp) ?_
  refine Bz.AllReadyE.cons (o := { dst := none, op := Go.Op.store 69 (Go.Operand.tmp 7) (Go.Operand.tmp 20), type := 0, pos := "fork.go:58", after := #[{ on := 9, ground := Go.Ground.data }, { on := 7, ground := Go.Ground.data }, { on := 0, ground := Go.Ground.phase }, { on := 1, ground := Go.Ground.phase }, { on := 2, ground := Go.Ground.phase }, { on := 3, ground := Go.Ground.phase }, { on := 4, ground := Go.Ground.phase }, { on := 5, ground := Go.Ground.phase }, { on := 6, ground := Go.Ground.phase }, { on := 7, ground := Go.Ground.phase }, { on := 8, ground := Go.Ground.textOnly Go.Departure.lateStores }, { on := 9, ground := Go.Ground.phase }], guard := none }) rfl (fun K hK => ?_) Bz.AllReadyE.nil
  go_simp
  refine hK.out _ _ (by exact K1 _) ?_
  clear hHeld hK K; intro hHeld
  try simp only [Act.put, List.setIfInBounds_toArray, List.set_cons_zero, List.set_cons_succ]
  refine Bz.wpAnyE_take (i := 11) (oi := { dst := some 8, op := Go.Op.assign (Go.Operand.tmp 21), type := 4, pos := "fork.go:58", after := #[{ on := 8, ground := Go.Ground.data }, { on := 10, ground := Go.Ground.chain }, { on := 0, ground := Go.Ground.phase }, { on := 1, ground := Go.Ground.phase }, { on := 2, ground := Go.Ground.phase }, { on := 3, ground := Go.Ground.phase }, { on := 4, ground := Go.Ground.phase }, { on := 5, ground := Go.Ground.phase }, { on := 6, ground := Go.Ground.phase }, { on := 7, ground := Go.Ground.phase }, { on := 8, ground := Go.Ground.phase }, { on := 9, ground := Go.Ground.phase }, { on := 10, ground := Go.Ground.phase }], guard := none }) (v := ?_) rfl (by kernel_rfl) (by kernel_rfl) (by kernel_rfl) (by kernel_rfl) (fun _ _ _ h => h) (Or.inl ⟨by rfl, ?_⟩) hHeld ?_
  rotate_left 1
  · (intro w hSw; (try dsimp only at hSw); go_simp; first | done | with_reducible rfl)
  try simp only [Act.put, List.setIfInBounds_toArray, List.set_cons_zero, List.set_cons_succ]
  refine Bz.wpAnyE_done (by kernel_rfl) ?_ _
  refine NoPanic.normal ?_
  
  clear hHeld K0 K1
  go_wp2
  refine wp_region_noPanic ?_
  refine Bz.wp_region_E (S := (fun w' => (∀ z, (Instr.lookup 70 (.map (some mb)) (dv z) true).run Try.prog w' = .ok (.tuple #[benc (T.get z), .bool (T.is z)]) w') ∧ (∀ i, w'.cell? ⟨t, i, none⟩ = (tcells T mb)[i]?) ∧ (∀ i, w'.cell? ⟨w.heap.size, i, none⟩ = (dcells x)[i]?) ∧ (∀ i, w'.cell? ⟨w.heap.size + 1, i, none⟩ = (dcells p)[i]?))) (E := []) (by kernel_rfl) (by exact K2 _) (fun hHeld => ?_)
  refine Bz.wpAnyE_take (i := 0) (oi := { dst := some 24, op := Go.Op.move (Go.Operand.tmp 0), type := 24, pos := "fork.go:61", after := #[], guard := none }) (v := ?_) rfl (by kernel_rfl) (by kernel_rfl) (by kernel_rfl) (by kernel_rfl) (fun _ _ _ h => h) (Or.inl ⟨by rfl, ?_⟩) hHeld ?_
  rotate_left 1
  · (intro w hSw; (try dsimp only at hSw); go_simp; first | done | with_reducible rfl)
  try simp only [Act.put, List.setIfInBounds_toArray, List.set_cons_zero, List.set_cons_succ]
  refine Bz.wpAnyE_take (i := 1) (oi := { dst := some 25, op := Go.Op.nilCheck (Go.Operand.tmp 24), type := 0, pos := "fork.go:61", after := #[{ on := 0, ground := Go.Ground.data }], guard := none }) (v := ?_) rfl (by kernel_rfl) (by kernel_rfl) (by kernel_rfl) (by kernel_rfl) (fun _ _ _ h => h) (Or.inl ⟨by rfl, ?_⟩) hHeld ?_
  rotate_left 1
  · (intro w hSw; (try dsimp only at hSw); go_simp; first | done | with_reducible rfl)
  try simp only [Act.put, List.setIfInBounds_toArray, List.set_cons_zero, List.set_cons_succ]
  refine Bz.wpAnyE_take (i := 2) (oi := { dst := some 26, op := Go.Op.fieldAddr 72 (Go.Operand.tmp 25) 3, type := 0, pos := "fork.go:61", after := #[{ on := 1, ground := Go.Ground.data }], guard := none }) (v := ?_) rfl (by kernel_rfl) (by kernel_rfl) (by kernel_rfl) (by kernel_rfl) (fun _ _ _ h => h) (Or.inl ⟨by rfl, ?_⟩) hHeld ?_
  rotate_left 1
  · (intro w hSw; (try dsimp only at hSw); go_simp; first | done | with_reducible rfl)
  try simp only [Act.put, List.setIfInBounds_toArray, List.set_cons_zero, List.set_cons_succ]
  refine Bz.wpAnyE_take (i := 3) (oi := { dst := some 27, op := Go.Op.load 70 (Go.Operand.tmp 26), type := 70, pos := "fork.go:61", after := #[{ on := 2, ground := Go.Ground.data }], guard := none }) (v := ?_) rfl (by kernel_rfl) (by kernel_rfl) (by kernel_rfl) (by kernel_rfl) (fun _ _ _ h => h) (Or.inl ⟨by rfl, ?_⟩) hHeld ?_
  rotate_left 1
  · (intro w hSw; (try dsimp only at hSw); go_simp; first | done | with_reducible rfl)
  try simp only [Act.put, List.setIfInBounds_toArray, List.set_cons_zero, List.set_cons_succ]
  refine Bz.wpAnyE_take (i := 4) (oi := { dst := some 28, op := Go.Op.load 29 (Go.Operand.tmp 5), type := 29, pos := "fork.go:61", after := #[], guard := none }) (v := ?_) rfl (by kernel_rfl) (by kernel_rfl) (by kernel_rfl) (by kernel_rfl) (fun _ _ _ h => h) (Or.inl ⟨by rfl, ?_⟩) hHeld ?_
  rotate_left 1
  · (intro w hSw; (try dsimp only at hSw); go_simp; first | done | with_reducible rfl)
  try simp only [Act.put, List.setIfInBounds_toArray, List.set_cons_zero, List.set_cons_succ]
  refine Bz.wpAnyE_take (i := 5) (oi := { dst := some 29, op := Go.Op.lookup 70 (Go.Operand.tmp 27) (Go.Operand.tmp 28) true, type := 73, pos := "fork.go:61", after := #[{ on := 3, ground := Go.Ground.data }, { on := 4, ground := Go.Ground.data }], guard := none }) (v := ?_) rfl (by kernel_rfl) (by kernel_rfl) (by kernel_rfl) (by kernel_rfl) (fun _ _ _ h => h) (Or.inl ⟨by rfl, ?_⟩) hHeld ?_
  rotate_left 1
  · (intro w hSw; (try dsimp only at hSw); go_simp; first | done | with_reducible rfl)
  try simp only [Act.put, List.setIfInBounds_toArray, List.set_cons_zero, List.set_cons_succ]
  refine Bz.wpAnyE_take (i := 6) (oi := { dst := some 23, op := Go.Op.move (Go.Operand.tmp 29), type := 73, pos := "fork.go:61", after := #[{ on := 5, ground := Go.Ground.data }], guard := none }) (v := ?_) rfl (by kernel_rfl) (by kernel_rfl) (by kernel_rfl) (by kernel_rfl) (fun _ _ _ h => h) (Or.inl ⟨by rfl, ?_⟩) hHeld ?_
  rotate_left 1
  · (intro w hSw; (try dsimp only at hSw); go_simp; first | done | with_reducible rfl)
  try simp only [Act.put, List.setIfInBounds_toArray, List.set_cons_zero, List.set_cons_succ]
  refine Bz.wpAnyE_take (i := 7) (oi := { dst := some 30, op := Go.Op.extract (Go.Operand.tmp 23) 0, type := 69, pos := "fork.go:61", after := #[{ on := 6, ground := Go.Ground.data }], guard := none }) (v := ?_) rfl (by kernel_rfl) (by kernel_rfl) (by kernel_rfl) (by kernel_rfl) (fun _ _ _ h => h) (Or.inl ⟨by rfl, ?_⟩) hHeld ?_
  rotate_left 1
  · (intro w hSw; (try dsimp only at hSw); go_simp; first | done | with_reducible rfl)
  try simp only [Act.put, List.setIfInBounds_toArray, List.set_cons_zero, List.set_cons_succ]
  refine Bz.wpAnyE_take (i := 8) (oi := { dst := some 31, op := Go.Op.extract (Go.Operand.tmp 23) 1, type := 4, pos := "fork.go:61", after := #[{ on := 6, ground := Go.Ground.data }, { on := 10, ground := Go.Ground.gcOnly Go.Departure.lateStores }], guard := none }) (v := ?_) rfl (by kernel_rfl) (by kernel_rfl) (by kernel_rfl) (by kernel_rfl) (fun _ _ _ h => h) (Or.inl ⟨by rfl, ?_⟩) hHeld ?_
  rotate_left 1
  · (intro w hSw; (try dsimp only at hSw); go_simp; first | done | with_reducible rfl)
  try simp only [Act.put, List.setIfInBounds_toArray, List.set_cons_zero, List.set_cons_succ]
  refine Bz.wpAnyE_ready (rs := [9]) (by kernel_rfl) (by simp) ?_
  refine Bz.AllReadyE.cons (o := { dst := some 9, op := Go.Op.alloc 69, type := 0, pos := "fork.go:61", after := #[], guard := none }) rfl (fun K hK => ?_) Bz.AllReadyE.nil
  go_simp
  refine hK.out _ _ (by exact K3 _ _) ?_
  clear hHeld hK K; intro hHeld
  try simp only [Act.put, List.setIfInBounds_toArray, List.set_cons_zero, List.set_cons_succ]
  refine Bz.wpAnyE_ready (rs := [10]) (by kernel_rfl) (by simp) ?_
  refine Bz.AllReadyE.cons (o := { dst := none, op := Go.Op.store 69 (Go.Operand.tmp 9) (Go.Operand.tmp 30), type := 0, pos := "fork.go:61", after := #[{ on := 9, ground := Go.Ground.data }, { on := 7, ground := Go.Ground.data }, { on := 0, ground := Go.Ground.phase }, { on := 1, ground := Go.Ground.phase }, { on := 2, ground := Go.Ground.phase }, { on := 3, ground := Go.Ground.phase }, { on := 4, ground := Go.Ground.phase }, { on := 5, ground := Go.Ground.phase }, { on := 6, ground := Go.Ground.phase }, { on := 7, ground := Go.Ground.phase }, { on := 8, ground := Go.Ground.textOnly Go.Departure.lateStores }, { on := 9, ground := Go.Ground.phase }], guard := none }) rfl (fun K hK => ?_) Bz.AllReadyE.nil
  go_simp
  refine hK.out _ _ (by exact K3 _ _) ?_
  clear hHeld hK K; intro hHeld
  try simp only [Act.put, List.setIfInBounds_toArray, List.set_cons_zero, List.set_cons_succ]
  refine Bz.wpAnyE_take (i := 11) (oi := { dst := some 10, op := Go.Op.assign (Go.Operand.tmp 31), type := 4, pos := "fork.go:61", after := #[{ on := 8, ground := Go.Ground.data }, { on := 10, ground := Go.Ground.chain }, { on := 0, ground := Go.Ground.phase }, { on := 1, ground := Go.Ground.phase }, { on := 2, ground := Go.Ground.phase }, { on := 3, ground := Go.Ground.phase }, { on := 4, ground := Go.Ground.phase }, { on := 5, ground := Go.Ground.phase }, { on := 6, ground := Go.Ground.phase }, { on := 7, ground := Go.Ground.phase }, { on := 8, ground := Go.Ground.phase }, { on := 9, ground := Go.Ground.phase }, { on := 10, ground := Go.Ground.phase }], guard := none }) (v := ?_) rfl (by kernel_rfl) (by kernel_rfl) (by kernel_rfl) (by kernel_rfl) (fun _ _ _ h => h) (Or.inl ⟨by rfl, ?_⟩) hHeld ?_
  rotate_left 1
  · (intro w hSw; (try dsimp only at hSw); go_simp; first | done | with_reducible rfl)
  try simp only [Act.put, List.setIfInBounds_toArray, List.set_cons_zero, List.set_cons_succ]
  refine Bz.wpAnyE_done (by kernel_rfl) ?_ _
  refine NoPanic.normal ?_
  
  clear hHeld K2 K3
  have hlen := fun c c' => (HA c c').tree.2.len Try.underlying70 3
  have hc := fun c c' => (HA c c').tree.1.cell
  clear HA
  go_wp2
  go_ret
  exact ⟨rfl, ((((Keep.refl _ _).alloc _).alloc _).alloc _).alloc _ |>.drew.drew⟩
theorem hgt_bd {T : FT} (hT : T.WF) : T.height T.tip = (T.get T.tip).2 ∧ 0 ≤ T.height T.tip ∧ T.height T.tip < 4096 := by
  have h1 := hT.nonneg hT.tip_is
  have h2 := hT.size
  have e : T.height T.tip = (T.get T.tip).2 := by unfold FT.height; rw [hT.tip_is]; rfl
  exact ⟨e, by omega, by omega⟩
set_option maxRecDepth 100000 in
set_option maxHeartbeats 400000 in
theorem add_deep {t mb : Nat} {T : FT} {w : World} (h : TreeAt w t mb T) (hT : T.WF) (x p : D8) (hx : T.is x = false) (hp : T.is p = true) (hl : T.bl.length < 4096) (hd : T.below p T.tip < T.height T.tip - T.depth) :
    Calls Try.prog 14 #[.pointer (some ⟨t, 0, none⟩), dv x, dv p] w (fun e w' => e = .returned (.int .i64 25) ∧ Keep [] w w') := by
  have hwr : IntKind.i64.wrap (T.height T.tip - T.depth) = T.height T.tip - T.depth := IntWalk.i64_in _ (by have := hgt_bd hT; have := hT.dep; omega)
  have hA := AddW.start h x p
  have K0 := hA.drew.s
  have K1 := fun o => (hA.alloc o).drew.s
  have K2 := fun c => (hA.alloc c).drew.drew.s
  have K3 := fun c o => ((hA.alloc c).alloc o).drew.drew.s
  unfold AddS at K0 K1 K2 K3
  have HA := fun c c' => ((hA.alloc c).alloc c').drew.drew
  clear h hA
  go_enter Try.func14, Try.ntmps14
  go_wp2
  refine wp_region_noPanic ?_
  refine Bz.wp_region_E (S := (fun w' => (∀ z, (Instr.lookup 70 (.map (some mb)) (dv z) true).run Try.prog w' = .ok (.tuple #[benc (T.get z), .bool (T.is z)]) w') ∧ (∀ i, w'.cell? ⟨t, i, none⟩ = (tcells T mb)[i]?) ∧ (∀ i, w'.cell? ⟨w.heap.size, i, none⟩ = (dcells x)[i]?) ∧ (∀ i, w'.cell? ⟨w.heap.size + 1, i, none⟩ = (dcells p)[i]?))) (E := []) (by kernel_rfl) (by exact K0) (fun hHeld => ?_)
  refine Bz.wpAnyE_take (i := 0) (oi := { dst := some 14, op := Go.Op.move (Go.Operand.tmp 0), type := 24, pos := "fork.go:58", after := #[], guard := none }) (v := ?_) rfl (by kernel_rfl) (by kernel_rfl) (by kernel_rfl) (by kernel_rfl) (fun _ _ _ h => h) (Or.inl ⟨by rfl, ?_⟩) hHeld ?_
  rotate_left 1
  · (intro w hSw; (try dsimp only at hSw); go_simp; first | done | with_reducible rfl)
  try simp only [Act.put, List.setIfInBounds_toArray, List.set_cons_zero, List.set_cons_succ]
  refine Bz.wpAnyE_take (i := 1) (oi := { dst := some 15, op := Go.Op.nilCheck (Go.Operand.tmp 14), type := 0, pos := "fork.go:58", after := #[{ on := 0, ground := Go.Ground.data }], guard := none }) (v := ?_) rfl (by kernel_rfl) (by kernel_rfl) (by kernel_rfl) (by kernel_rfl) (fun _ _ _ h => h) (Or.inl ⟨by rfl, ?_⟩) hHeld ?_
  rotate_left 1
  · (intro w hSw; (try dsimp only at hSw); go_simp; first | done | with_reducible rfl)
  try simp only [Act.put, List.setIfInBounds_toArray, List.set_cons_zero, List.set_cons_succ]
  refine Bz.wpAnyE_take (i := 2) (oi := { dst := some 16, op := Go.Op.fieldAddr 72 (Go.Operand.tmp 15) 3, type := 0, pos := "fork.go:58", after := #[{ on := 1, ground := Go.Ground.data }], guard := none }) (v := ?_) rfl (by kernel_rfl) (by kernel_rfl) (by kernel_rfl) (by kernel_rfl) (fun _ _ _ h => h) (Or.inl ⟨by rfl, ?_⟩) hHeld ?_
  rotate_left 1
  · (intro w hSw; (try dsimp only at hSw); go_simp; first | done | with_reducible rfl)
  try simp only [Act.put, List.setIfInBounds_toArray, List.set_cons_zero, List.set_cons_succ]
  refine Bz.wpAnyE_take (i := 3) (oi := { dst := some 17, op := Go.Op.load 70 (Go.Operand.tmp 16), type := 70, pos := "fork.go:58", after := #[{ on := 2, ground := Go.Ground.data }], guard := none }) (v := ?_) rfl (by kernel_rfl) (by kernel_rfl) (by kernel_rfl) (by kernel_rfl) (fun _ _ _ h => h) (Or.inl ⟨by rfl, ?_⟩) hHeld ?_
  rotate_left 1
  · (intro w hSw; (try dsimp only at hSw); go_simp; first | done | with_reducible rfl)
  try simp only [Act.put, List.setIfInBounds_toArray, List.set_cons_zero, List.set_cons_succ]
  refine Bz.wpAnyE_take (i := 4) (oi := { dst := some 18, op := Go.Op.load 29 (Go.Operand.tmp 4), type := 29, pos := "fork.go:58", after := #[], guard := none }) (v := ?_) rfl (by kernel_rfl) (by kernel_rfl) (by kernel_rfl) (by kernel_rfl) (fun _ _ _ h => h) (Or.inl ⟨by rfl, ?_⟩) hHeld ?_
  rotate_left 1
  · (intro w hSw; (try dsimp only at hSw); go_simp; first | done | with_reducible rfl)
  try simp only [Act.put, List.setIfInBounds_toArray, List.set_cons_zero, List.set_cons_succ]
  refine Bz.wpAnyE_take (i := 5) (oi := { dst := some 19, op := Go.Op.lookup 70 (Go.Operand.tmp 17) (Go.Operand.tmp 18) true, type := 73, pos := "fork.go:58", after := #[{ on := 3, ground := Go.Ground.data }, { on := 4, ground := Go.Ground.data }], guard := none }) (v := ?_) rfl (by kernel_rfl) (by kernel_rfl) (by kernel_rfl) (by kernel_rfl) (fun _ _ _ h => h) (Or.inl ⟨by rfl, ?_⟩) hHeld ?_
  rotate_left 1
  · (intro w hSw; (try dsimp only at hSw); go_simp; first | done | with_reducible rfl)
  try simp only [Act.put, List.setIfInBounds_toArray, List.set_cons_zero, List.set_cons_succ]
  refine Bz.wpAnyE_take (i := 6) (oi := { dst := some 13, op := Go.Op.move (Go.Operand.tmp 19), type := 73, pos := "fork.go:58", after := #[{ on := 5, ground := Go.Ground.data }], guard := none }) (v := ?_) rfl (by kernel_rfl) (by kernel_rfl) (by kernel_rfl) (by kernel_rfl) (fun _ _ _ h => h) (Or.inl ⟨by rfl, ?_⟩) hHeld ?_
  rotate_left 1
  · (intro w hSw; (try dsimp only at hSw); go_simp; first | done | with_reducible rfl)
  try simp only [Act.put, List.setIfInBounds_toArray, List.set_cons_zero, List.set_cons_succ]
  refine Bz.wpAnyE_take (i := 7) (oi := { dst := some 20, op := Go.Op.extract (Go.Operand.tmp 13) 0, type := 69, pos := "fork.go:58", after := #[{ on := 6, ground := Go.Ground.data }], guard := none }) (v := ?_) rfl (by kernel_rfl) (by kernel_rfl) (by kernel_rfl) (by kernel_rfl) (fun _ _ _ h => h) (Or.inl ⟨by rfl, ?_⟩) hHeld ?_
  rotate_left 1
  · (intro w hSw; (try dsimp only at hSw); go_simp; first | done | with_reducible rfl)
  try simp only [Act.put, List.setIfInBounds_toArray, List.set_cons_zero, List.set_cons_succ]
  refine Bz.wpAnyE_take (i := 8) (oi := { dst := some 21, op := Go.Op.extract (Go.Operand.tmp 13) 1, type := 4, pos := "fork.go:58", after := #[{ on := 6, ground := Go.Ground.data }, { on := 10, ground := Go.Ground.gcOnly Go.Departure.lateStores }], guard := none }) (v := ?_) rfl (by kernel_rfl) (by kernel_rfl) (by kernel_rfl) (by kernel_rfl) (fun _ _ _ h => h) (Or.inl ⟨by rfl, ?_⟩) hHeld ?_
  rotate_left 1
  · (intro w hSw; (try dsimp only at hSw); go_simp; first | done | with_reducible rfl)
  try simp only [Act.put, List.setIfInBounds_toArray, List.set_cons_zero, List.set_cons_succ]
  refine Bz.wpAnyE_ready (rs := [9]) (by kernel_rfl) (by simp) ?_
  refine Bz.AllReadyE.cons (o := { dst := some 7, op := Go.Op.alloc 69, type := 0, pos := "fork.go:58", after := #[], guard := none }) rfl (fun K hK => ?_) Bz.AllReadyE.nil
  go_simp
  refine hK.out _ _ (by exact K1 _) ?_
  clear hHeld hK K; intro hHeld
  try simp only [Act.put, List.setIfInBounds_toArray, List.set_cons_zero, List.set_cons_succ]
  refine Bz.wpAnyE_ready (rs := [10]) (by kernel_rfl) (by simp) ?_
  refine Bz.AllReadyE.cons (o := { dst := none, op := Go.Op.store 69 (Go.Operand.tmp 7) (Go.Operand.tmp 20), type := 0, pos := "fork.go:58", after := #[{ on := 9, ground := Go.Ground.data }, { on := 7, ground := Go.Ground.data }, { on := 0, ground := Go.Ground.phase }, { on := 1, ground := Go.Ground.phase }, { on := 2, ground := Go.Ground.phase }, { on := 3, ground := Go.Ground.phase }, { on := 4, ground := Go.Ground.phase }, { on := 5, ground := Go.Ground.phase }, { on := 6, ground := Go.Ground.phase }, { on := 7, ground := Go.Ground.phase }, { on := 8, ground := Go.Ground.textOnly Go.Departure.lateStores }, { on := 9, ground := Go.Ground.phase }], guard := none }) rfl (fun K hK => ?_) Bz.AllReadyE.nil
  go_simp
  refine hK.out _ _ (by exact K1 _) ?_
  clear hHeld hK K; intro hHeld
  try simp only [Act.put, List.setIfInBounds_toArray, List.set_cons_zero, List.set_cons_succ]
  refine Bz.wpAnyE_take (i := 11) (oi := { dst := some 8, op := Go.Op.assign (Go.Operand.tmp 21), type := 4, pos := "fork.go:58", after := #[{ on := 8, ground := Go.Ground.data }, { on := 10, ground := Go.Ground.chain }, { on := 0, ground := Go.Ground.phase }, { on := 1, ground := Go.Ground.phase }, { on := 2, ground := Go.Ground.phase }, { on := 3, ground := Go.Ground.phase }, { on := 4, ground := Go.Ground.phase }, { on := 5, ground := Go.Ground.phase }, { on := 6, ground := Go.Ground.phase }, { on := 7, ground := Go.Ground.phase }, { on := 8, ground := Go.Ground.phase }, { on := 9, ground := Go.Ground.phase }, { on := 10, ground := Go.Ground.phase }], guard := none }) (v := ?_) rfl (by kernel_rfl) (by kernel_rfl) (by kernel_rfl) (by kernel_rfl) (fun _ _ _ h => h) (Or.inl ⟨by rfl, ?_⟩) hHeld ?_
  rotate_left 1
  · (intro w hSw; (try dsimp only at hSw); go_simp; first | done | with_reducible rfl)
  try simp only [Act.put, List.setIfInBounds_toArray, List.set_cons_zero, List.set_cons_succ]
  refine Bz.wpAnyE_done (by kernel_rfl) ?_ _
  refine NoPanic.normal ?_
  
  clear hHeld K0 K1
  go_wp2
  refine wp_region_noPanic ?_
  refine Bz.wp_region_E (S := (fun w' => (∀ z, (Instr.lookup 70 (.map (some mb)) (dv z) true).run Try.prog w' = .ok (.tuple #[benc (T.get z), .bool (T.is z)]) w') ∧ (∀ i, w'.cell? ⟨t, i, none⟩ = (tcells T mb)[i]?) ∧ (∀ i, w'.cell? ⟨w.heap.size, i, none⟩ = (dcells x)[i]?) ∧ (∀ i, w'.cell? ⟨w.heap.size + 1, i, none⟩ = (dcells p)[i]?))) (E := []) (by kernel_rfl) (by exact K2 _) (fun hHeld => ?_)
  refine Bz.wpAnyE_take (i := 0) (oi := { dst := some 24, op := Go.Op.move (Go.Operand.tmp 0), type := 24, pos := "fork.go:61", after := #[], guard := none }) (v := ?_) rfl (by kernel_rfl) (by kernel_rfl) (by kernel_rfl) (by kernel_rfl) (fun _ _ _ h => h) (Or.inl ⟨by rfl, ?_⟩) hHeld ?_
  rotate_left 1
  · (intro w hSw; (try dsimp only at hSw); go_simp; first | done | with_reducible rfl)
  try simp only [Act.put, List.setIfInBounds_toArray, List.set_cons_zero, List.set_cons_succ]
  refine Bz.wpAnyE_take (i := 1) (oi := { dst := some 25, op := Go.Op.nilCheck (Go.Operand.tmp 24), type := 0, pos := "fork.go:61", after := #[{ on := 0, ground := Go.Ground.data }], guard := none }) (v := ?_) rfl (by kernel_rfl) (by kernel_rfl) (by kernel_rfl) (by kernel_rfl) (fun _ _ _ h => h) (Or.inl ⟨by rfl, ?_⟩) hHeld ?_
  rotate_left 1
  · (intro w hSw; (try dsimp only at hSw); go_simp; first | done | with_reducible rfl)
  try simp only [Act.put, List.setIfInBounds_toArray, List.set_cons_zero, List.set_cons_succ]
  refine Bz.wpAnyE_take (i := 2) (oi := { dst := some 26, op := Go.Op.fieldAddr 72 (Go.Operand.tmp 25) 3, type := 0, pos := "fork.go:61", after := #[{ on := 1, ground := Go.Ground.data }], guard := none }) (v := ?_) rfl (by kernel_rfl) (by kernel_rfl) (by kernel_rfl) (by kernel_rfl) (fun _ _ _ h => h) (Or.inl ⟨by rfl, ?_⟩) hHeld ?_
  rotate_left 1
  · (intro w hSw; (try dsimp only at hSw); go_simp; first | done | with_reducible rfl)
  try simp only [Act.put, List.setIfInBounds_toArray, List.set_cons_zero, List.set_cons_succ]
  refine Bz.wpAnyE_take (i := 3) (oi := { dst := some 27, op := Go.Op.load 70 (Go.Operand.tmp 26), type := 70, pos := "fork.go:61", after := #[{ on := 2, ground := Go.Ground.data }], guard := none }) (v := ?_) rfl (by kernel_rfl) (by kernel_rfl) (by kernel_rfl) (by kernel_rfl) (fun _ _ _ h => h) (Or.inl ⟨by rfl, ?_⟩) hHeld ?_
  rotate_left 1
  · (intro w hSw; (try dsimp only at hSw); go_simp; first | done | with_reducible rfl)
  try simp only [Act.put, List.setIfInBounds_toArray, List.set_cons_zero, List.set_cons_succ]
  refine Bz.wpAnyE_take (i := 4) (oi := { dst := some 28, op := Go.Op.load 29 (Go.Operand.tmp 5), type := 29, pos := "fork.go:61", after := #[], guard := none }) (v := ?_) rfl (by kernel_rfl) (by kernel_rfl) (by kernel_rfl) (by kernel_rfl) (fun _ _ _ h => h) (Or.inl ⟨by rfl, ?_⟩) hHeld ?_
  rotate_left 1
  · (intro w hSw; (try dsimp only at hSw); go_simp; first | done | with_reducible rfl)
  try simp only [Act.put, List.setIfInBounds_toArray, List.set_cons_zero, List.set_cons_succ]
  refine Bz.wpAnyE_take (i := 5) (oi := { dst := some 29, op := Go.Op.lookup 70 (Go.Operand.tmp 27) (Go.Operand.tmp 28) true, type := 73, pos := "fork.go:61", after := #[{ on := 3, ground := Go.Ground.data }, { on := 4, ground := Go.Ground.data }], guard := none }) (v := ?_) rfl (by kernel_rfl) (by kernel_rfl) (by kernel_rfl) (by kernel_rfl) (fun _ _ _ h => h) (Or.inl ⟨by rfl, ?_⟩) hHeld ?_
  rotate_left 1
  · (intro w hSw; (try dsimp only at hSw); go_simp; first | done | with_reducible rfl)
  try simp only [Act.put, List.setIfInBounds_toArray, List.set_cons_zero, List.set_cons_succ]
  refine Bz.wpAnyE_take (i := 6) (oi := { dst := some 23, op := Go.Op.move (Go.Operand.tmp 29), type := 73, pos := "fork.go:61", after := #[{ on := 5, ground := Go.Ground.data }], guard := none }) (v := ?_) rfl (by kernel_rfl) (by kernel_rfl) (by kernel_rfl) (by kernel_rfl) (fun _ _ _ h => h) (Or.inl ⟨by rfl, ?_⟩) hHeld ?_
  rotate_left 1
  · (intro w hSw; (try dsimp only at hSw); go_simp; first | done | with_reducible rfl)
  try simp only [Act.put, List.setIfInBounds_toArray, List.set_cons_zero, List.set_cons_succ]
  refine Bz.wpAnyE_take (i := 7) (oi := { dst := some 30, op := Go.Op.extract (Go.Operand.tmp 23) 0, type := 69, pos := "fork.go:61", after := #[{ on := 6, ground := Go.Ground.data }], guard := none }) (v := ?_) rfl (by kernel_rfl) (by kernel_rfl) (by kernel_rfl) (by kernel_rfl) (fun _ _ _ h => h) (Or.inl ⟨by rfl, ?_⟩) hHeld ?_
  rotate_left 1
  · (intro w hSw; (try dsimp only at hSw); go_simp; first | done | with_reducible rfl)
  try simp only [Act.put, List.setIfInBounds_toArray, List.set_cons_zero, List.set_cons_succ]
  refine Bz.wpAnyE_take (i := 8) (oi := { dst := some 31, op := Go.Op.extract (Go.Operand.tmp 23) 1, type := 4, pos := "fork.go:61", after := #[{ on := 6, ground := Go.Ground.data }, { on := 10, ground := Go.Ground.gcOnly Go.Departure.lateStores }], guard := none }) (v := ?_) rfl (by kernel_rfl) (by kernel_rfl) (by kernel_rfl) (by kernel_rfl) (fun _ _ _ h => h) (Or.inl ⟨by rfl, ?_⟩) hHeld ?_
  rotate_left 1
  · (intro w hSw; (try dsimp only at hSw); go_simp; first | done | with_reducible rfl)
  try simp only [Act.put, List.setIfInBounds_toArray, List.set_cons_zero, List.set_cons_succ]
  refine Bz.wpAnyE_ready (rs := [9]) (by kernel_rfl) (by simp) ?_
  refine Bz.AllReadyE.cons (o := { dst := some 9, op := Go.Op.alloc 69, type := 0, pos := "fork.go:61", after := #[], guard := none }) rfl (fun K hK => ?_) Bz.AllReadyE.nil
  go_simp
  refine hK.out _ _ (by exact K3 _ _) ?_
  clear hHeld hK K; intro hHeld
  try simp only [Act.put, List.setIfInBounds_toArray, List.set_cons_zero, List.set_cons_succ]
  refine Bz.wpAnyE_ready (rs := [10]) (by kernel_rfl) (by simp) ?_
  refine Bz.AllReadyE.cons (o := { dst := none, op := Go.Op.store 69 (Go.Operand.tmp 9) (Go.Operand.tmp 30), type := 0, pos := "fork.go:61", after := #[{ on := 9, ground := Go.Ground.data }, { on := 7, ground := Go.Ground.data }, { on := 0, ground := Go.Ground.phase }, { on := 1, ground := Go.Ground.phase }, { on := 2, ground := Go.Ground.phase }, { on := 3, ground := Go.Ground.phase }, { on := 4, ground := Go.Ground.phase }, { on := 5, ground := Go.Ground.phase }, { on := 6, ground := Go.Ground.phase }, { on := 7, ground := Go.Ground.phase }, { on := 8, ground := Go.Ground.textOnly Go.Departure.lateStores }, { on := 9, ground := Go.Ground.phase }], guard := none }) rfl (fun K hK => ?_) Bz.AllReadyE.nil
  go_simp
  refine hK.out _ _ (by exact K3 _ _) ?_
  clear hHeld hK K; intro hHeld
  try simp only [Act.put, List.setIfInBounds_toArray, List.set_cons_zero, List.set_cons_succ]
  refine Bz.wpAnyE_take (i := 11) (oi := { dst := some 10, op := Go.Op.assign (Go.Operand.tmp 31), type := 4, pos := "fork.go:61", after := #[{ on := 8, ground := Go.Ground.data }, { on := 10, ground := Go.Ground.chain }, { on := 0, ground := Go.Ground.phase }, { on := 1, ground := Go.Ground.phase }, { on := 2, ground := Go.Ground.phase }, { on := 3, ground := Go.Ground.phase }, { on := 4, ground := Go.Ground.phase }, { on := 5, ground := Go.Ground.phase }, { on := 6, ground := Go.Ground.phase }, { on := 7, ground := Go.Ground.phase }, { on := 8, ground := Go.Ground.phase }, { on := 9, ground := Go.Ground.phase }, { on := 10, ground := Go.Ground.phase }], guard := none }) (v := ?_) rfl (by kernel_rfl) (by kernel_rfl) (by kernel_rfl) (by kernel_rfl) (fun _ _ _ h => h) (Or.inl ⟨by rfl, ?_⟩) hHeld ?_
  rotate_left 1
  · (intro w hSw; (try dsimp only at hSw); go_simp; first | done | with_reducible rfl)
  try simp only [Act.put, List.setIfInBounds_toArray, List.set_cons_zero, List.set_cons_succ]
  refine Bz.wpAnyE_done (by kernel_rfl) ?_ _
  refine NoPanic.normal ?_
  
  clear hHeld K2 K3
  have hlen := fun c c' => (HA c c').tree.2.len Try.underlying70 3
  have hc := fun c c' => (HA c c').tree.1.cell
  go_wp2_with fail
  obtain ⟨W3, hW3⟩ : ∃ W3, W3 = ((((w.alloc (.cells (dcells x) 29)).alloc (.cells (dcells p) 29)).alloc (.cells (benc (T.get x)).cells 69)).alloc (.cells (benc (T.get p)).cells 69)).drew.drew := ⟨_, rfl⟩
  have hb9 : Blk W3 (w.heap.size + 1 + 1 + 1) 69 (benc (T.get p)).cells := hW3 ▸ Blk.new_ (by simp)
  have hA := HA (.cells (benc (T.get x)).cells 69) (.cells (benc (T.get p)).cells 69)
  rw [← hW3] at hA
  simp only [Value.cells] at hW3
  rw [← hW3]
  clear hW3 HA hlen hc
  have hA1 := hA.drew
  have h9 := hb9.drew
  refine wp_region_noPanic ?_
  refine Bz.wp_region_E (S := (fun w' => (∀ i, w'.cell? ⟨t, i, none⟩ = (tcells T mb)[i]?) ∧ (∀ i, w'.cell? ⟨w.heap.size + 1, i, none⟩ = (dcells p)[i]?))) (E := []) (by kernel_rfl) (by exact ⟨hA1.s.2.1, hA1.s.2.2.2⟩) (fun hHeld => ?_)
  refine Bz.wpAnyE_take (i := 0) (oi := { dst := some 43, op := Go.Op.move (Go.Operand.tmp 0), type := 24, pos := "fork.go:67", after := #[], guard := none }) (v := ?_) rfl (by kernel_rfl) (by kernel_rfl) (by kernel_rfl) (by kernel_rfl) (fun _ _ _ h => h) (Or.inl ⟨by rfl, ?_⟩) hHeld ?_
  rotate_left 1
  · (intro w hSw; (try dsimp only at hSw); go_simp; first | done | with_reducible rfl)
  try simp only [Act.put, List.setIfInBounds_toArray, List.set_cons_zero, List.set_cons_succ]
  refine Bz.wpAnyE_take (i := 1) (oi := { dst := some 44, op := Go.Op.load 29 (Go.Operand.tmp 5), type := 29, pos := "fork.go:67", after := #[], guard := none }) (v := ?_) rfl (by kernel_rfl) (by kernel_rfl) (by kernel_rfl) (by kernel_rfl) (fun _ _ _ h => h) (Or.inl ⟨by rfl, ?_⟩) hHeld ?_
  rotate_left 1
  · (intro w hSw; (try dsimp only at hSw); go_simp; first | done | with_reducible rfl)
  try simp only [Act.put, List.setIfInBounds_toArray, List.set_cons_zero, List.set_cons_succ]
  refine Bz.wpAnyE_take (i := 2) (oi := { dst := some 45, op := Go.Op.move (Go.Operand.tmp 0), type := 24, pos := "fork.go:67", after := #[], guard := none }) (v := ?_) rfl (by kernel_rfl) (by kernel_rfl) (by kernel_rfl) (by kernel_rfl) (fun _ _ _ h => h) (Or.inl ⟨by rfl, ?_⟩) hHeld ?_
  rotate_left 1
  · (intro w hSw; (try dsimp only at hSw); go_simp; first | done | with_reducible rfl)
  try simp only [Act.put, List.setIfInBounds_toArray, List.set_cons_zero, List.set_cons_succ]
  refine Bz.wpAnyE_take (i := 3) (oi := { dst := some 46, op := Go.Op.nilCheck (Go.Operand.tmp 45), type := 0, pos := "fork.go:67", after := #[{ on := 2, ground := Go.Ground.data }], guard := none }) (v := ?_) rfl (by kernel_rfl) (by kernel_rfl) (by kernel_rfl) (by kernel_rfl) (fun _ _ _ h => h) (Or.inl ⟨by rfl, ?_⟩) hHeld ?_
  rotate_left 1
  · (intro w hSw; (try dsimp only at hSw); go_simp; first | done | with_reducible rfl)
  try simp only [Act.put, List.setIfInBounds_toArray, List.set_cons_zero, List.set_cons_succ]
  refine Bz.wpAnyE_take (i := 4) (oi := { dst := some 47, op := Go.Op.fieldAddr 72 (Go.Operand.tmp 46) 1, type := 0, pos := "fork.go:67", after := #[{ on := 3, ground := Go.Ground.data }], guard := none }) (v := ?_) rfl (by kernel_rfl) (by kernel_rfl) (by kernel_rfl) (by kernel_rfl) (fun _ _ _ h => h) (Or.inl ⟨by rfl, ?_⟩) hHeld ?_
  rotate_left 1
  · (intro w hSw; (try dsimp only at hSw); go_simp; first | done | with_reducible rfl)
  try simp only [Act.put, List.setIfInBounds_toArray, List.set_cons_zero, List.set_cons_succ]
  refine Bz.wpAnyE_take (i := 5) (oi := { dst := some 48, op := Go.Op.load 29 (Go.Operand.tmp 47), type := 29, pos := "fork.go:67", after := #[{ on := 4, ground := Go.Ground.data }], guard := none }) (v := ?_) rfl (by kernel_rfl) (by kernel_rfl) (by kernel_rfl) (by kernel_rfl) (fun _ _ _ h => h) (Or.inl ⟨by rfl, ?_⟩) hHeld ?_
  rotate_left 1
  · (intro w hSw; (try dsimp only at hSw); go_simp; first | done | with_reducible rfl)
  try simp only [Act.put, List.setIfInBounds_toArray, List.set_cons_zero, List.set_cons_succ]
  refine Bz.wpAnyE_take (i := 7) (oi := { dst := some 50, op := Go.Op.move (Go.Operand.tmp 0), type := 24, pos := "fork.go:67", after := #[], guard := none }) (v := ?_) rfl (by kernel_rfl) (by kernel_rfl) (by kernel_rfl) (by kernel_rfl) (fun _ _ _ h => h) (Or.inl ⟨by rfl, ?_⟩) hHeld ?_
  rotate_left 1
  · (intro w hSw; (try dsimp only at hSw); go_simp; first | done | with_reducible rfl)
  try simp only [Act.put, List.setIfInBounds_toArray, List.set_cons_zero, List.set_cons_succ]
  refine Bz.wpAnyE_take (i := 8) (oi := { dst := some 51, op := Go.Op.move (Go.Operand.tmp 0), type := 24, pos := "fork.go:67", after := #[], guard := none }) (v := ?_) rfl (by kernel_rfl) (by kernel_rfl) (by kernel_rfl) (by kernel_rfl) (fun _ _ _ h => h) (Or.inl ⟨by rfl, ?_⟩) hHeld ?_
  rotate_left 1
  · (intro w hSw; (try dsimp only at hSw); go_simp; first | done | with_reducible rfl)
  try simp only [Act.put, List.setIfInBounds_toArray, List.set_cons_zero, List.set_cons_succ]
  refine Bz.wpAnyE_take (i := 9) (oi := { dst := some 52, op := Go.Op.nilCheck (Go.Operand.tmp 51), type := 0, pos := "fork.go:67", after := #[{ on := 8, ground := Go.Ground.data }], guard := none }) (v := ?_) rfl (by kernel_rfl) (by kernel_rfl) (by kernel_rfl) (by kernel_rfl) (fun _ _ _ h => h) (Or.inl ⟨by rfl, ?_⟩) hHeld ?_
  rotate_left 1
  · (intro w hSw; (try dsimp only at hSw); go_simp; first | done | with_reducible rfl)
  try simp only [Act.put, List.setIfInBounds_toArray, List.set_cons_zero, List.set_cons_succ]
  refine Bz.wpAnyE_take (i := 10) (oi := { dst := some 53, op := Go.Op.fieldAddr 72 (Go.Operand.tmp 52) 1, type := 0, pos := "fork.go:67", after := #[{ on := 9, ground := Go.Ground.data }], guard := none }) (v := ?_) rfl (by kernel_rfl) (by kernel_rfl) (by kernel_rfl) (by kernel_rfl) (fun _ _ _ h => h) (Or.inl ⟨by rfl, ?_⟩) hHeld ?_
  rotate_left 1
  · (intro w hSw; (try dsimp only at hSw); go_simp; first | done | with_reducible rfl)
  try simp only [Act.put, List.setIfInBounds_toArray, List.set_cons_zero, List.set_cons_succ]
  refine Bz.wpAnyE_take (i := 11) (oi := { dst := some 54, op := Go.Op.load 29 (Go.Operand.tmp 53), type := 29, pos := "fork.go:67", after := #[{ on := 10, ground := Go.Ground.data }], guard := none }) (v := ?_) rfl (by kernel_rfl) (by kernel_rfl) (by kernel_rfl) (by kernel_rfl) (fun _ _ _ h => h) (Or.inl ⟨by rfl, ?_⟩) hHeld ?_
  rotate_left 1
  · (intro w hSw; (try dsimp only at hSw); go_simp; first | done | with_reducible rfl)
  try simp only [Act.put, List.setIfInBounds_toArray, List.set_cons_zero, List.set_cons_succ]
  refine Bz.wpAnyE_take (i := 13) (oi := { dst := some 56, op := Go.Op.move (Go.Operand.tmp 0), type := 24, pos := "fork.go:67", after := #[], guard := none }) (v := ?_) rfl (by kernel_rfl) (by kernel_rfl) (by kernel_rfl) (by kernel_rfl) (fun _ _ _ h => h) (Or.inl ⟨by rfl, ?_⟩) hHeld ?_
  rotate_left 1
  · (intro w hSw; (try dsimp only at hSw); go_simp; first | done | with_reducible rfl)
  try simp only [Act.put, List.setIfInBounds_toArray, List.set_cons_zero, List.set_cons_succ]
  refine Bz.wpAnyE_take (i := 14) (oi := { dst := some 57, op := Go.Op.nilCheck (Go.Operand.tmp 56), type := 0, pos := "fork.go:67", after := #[{ on := 13, ground := Go.Ground.data }], guard := none }) (v := ?_) rfl (by kernel_rfl) (by kernel_rfl) (by kernel_rfl) (by kernel_rfl) (fun _ _ _ h => h) (Or.inl ⟨by rfl, ?_⟩) hHeld ?_
  rotate_left 1
  · (intro w hSw; (try dsimp only at hSw); go_simp; first | done | with_reducible rfl)
  try simp only [Act.put, List.setIfInBounds_toArray, List.set_cons_zero, List.set_cons_succ]
  refine Bz.wpAnyE_take (i := 15) (oi := { dst := some 58, op := Go.Op.fieldAddr 72 (Go.Operand.tmp 57) 2, type := 0, pos := "fork.go:67", after := #[{ on := 14, ground := Go.Ground.data }], guard := none }) (v := ?_) rfl (by kernel_rfl) (by kernel_rfl) (by kernel_rfl) (by kernel_rfl) (fun _ _ _ h => h) (Or.inl ⟨by rfl, ?_⟩) hHeld ?_
  rotate_left 1
  · (intro w hSw; (try dsimp only at hSw); go_simp; first | done | with_reducible rfl)
  try simp only [Act.put, List.setIfInBounds_toArray, List.set_cons_zero, List.set_cons_succ]
  refine Bz.wpAnyE_take (i := 16) (oi := { dst := some 59, op := Go.Op.load 3 (Go.Operand.tmp 58), type := 3, pos := "fork.go:67", after := #[{ on := 15, ground := Go.Ground.data }], guard := none }) (v := ?_) rfl (by kernel_rfl) (by kernel_rfl) (by kernel_rfl) (by kernel_rfl) (fun _ _ _ h => h) (Or.inl ⟨by rfl, ?_⟩) hHeld ?_
  rotate_left 1
  · (intro w hSw; (try dsimp only at hSw); go_simp; first | done | with_reducible rfl)
  try simp only [Act.put, List.setIfInBounds_toArray, List.set_cons_zero, List.set_cons_succ]
  refine Bz.wpAnyE_ready (rs := [6]) (by kernel_rfl) (by simp) ?_
  refine Bz.AllReadyE.cons (o := { dst := some 49, op := Go.Op.call { callee := Go.Callee.value (Go.Operand.func 32), args := #[Go.Operand.tmp 43, Go.Operand.tmp 44, Go.Operand.tmp 48], argTypes := #[24, 29, 29] }, type := 3, pos := "fork.go:67", after := #[{ on := 0, ground := Go.Ground.data }, { on := 1, ground := Go.Ground.data }, { on := 5, ground := Go.Ground.data }], guard := none }) rfl (fun K hK => ?_) Bz.AllReadyE.nil
  go_simp
  
  refine (below_any hA1.tree hT p T.tip hp hT.tip_is).mono ?_
  rintro e w5 ⟨rfl, hk5⟩
  have h9 := h9.keep hk5 (by simp)
  have hA1 := hA1.on hk5
  refine hK.out _ _ (by exact ⟨hA1.s.2.1, hA1.s.2.2.2⟩) ?_
  clear hHeld hK K; intro hHeld
  try simp only [Act.put, List.setIfInBounds_toArray, List.set_cons_zero, List.set_cons_succ]
  refine Bz.wpAnyE_ready (rs := [12]) (by kernel_rfl) (by simp) ?_
  refine Bz.AllReadyE.cons (o := { dst := some 55, op := Go.Op.call { callee := Go.Callee.value (Go.Operand.func 16), args := #[Go.Operand.tmp 50, Go.Operand.tmp 54], argTypes := #[24, 29] }, type := 3, pos := "fork.go:67", after := #[{ on := 7, ground := Go.Ground.data }, { on := 11, ground := Go.Ground.data }, { on := 6, ground := Go.Ground.chain }], guard := none }) rfl (fun K hK => ?_) Bz.AllReadyE.nil
  go_simp
  
  refine (height_any hA1.tree T.tip).mono ?_
  rintro e w6 ⟨rfl, hk6⟩
  have h9 := h9.keep hk6 (by simp)
  have hA1 := hA1.on hk6
  refine hK.out _ _ (by exact ⟨hA1.s.2.1, hA1.s.2.2.2⟩) ?_
  clear hHeld hK K; intro hHeld
  try simp only [Act.put, List.setIfInBounds_toArray, List.set_cons_zero, List.set_cons_succ]
  refine Bz.wpAnyE_take (i := 17) (oi := { dst := some 60, op := Go.Op.binOp Go.BinOp.sub 3 (Go.Operand.tmp 55) (Go.Operand.tmp 59) 3, type := 3, pos := "fork.go:67", after := #[{ on := 12, ground := Go.Ground.data }, { on := 16, ground := Go.Ground.data }], guard := none }) (v := ?_) rfl (by kernel_rfl) (by kernel_rfl) (by kernel_rfl) (by kernel_rfl) (fun _ _ _ h => h) (Or.inl ⟨by rfl, ?_⟩) hHeld ?_
  rotate_left 1
  · (intro w hSw; (try dsimp only at hSw); go_simp; first | done | with_reducible rfl)
  try simp only [Act.put, List.setIfInBounds_toArray, List.set_cons_zero, List.set_cons_succ]
  refine Bz.wpAnyE_take (i := 18) (oi := { dst := some 61, op := Go.Op.binOp Go.BinOp.lss 3 (Go.Operand.tmp 49) (Go.Operand.tmp 60) 3, type := 4, pos := "fork.go:67", after := #[{ on := 6, ground := Go.Ground.data }, { on := 17, ground := Go.Ground.data }], guard := none }) (v := ?_) rfl (by kernel_rfl) (by kernel_rfl) (by kernel_rfl) (by kernel_rfl) (fun _ _ _ h => h) (Or.inl ⟨by rfl, ?_⟩) hHeld ?_
  rotate_left 1
  · (intro w hSw; (try dsimp only at hSw); go_simp; first | done | with_reducible rfl)
  try simp only [Act.put, List.setIfInBounds_toArray, List.set_cons_zero, List.set_cons_succ]
  refine Bz.wpAnyE_take (i := 19) (oi := { dst := some 42, op := Go.Op.assign (Go.Operand.tmp 61), type := 4, pos := "fork.go:67", after := #[{ on := 18, ground := Go.Ground.data }, { on := 12, ground := Go.Ground.chain }], guard := none }) (v := ?_) rfl (by kernel_rfl) (by kernel_rfl) (by kernel_rfl) (by kernel_rfl) (fun _ _ _ h => h) (Or.inl ⟨by rfl, ?_⟩) hHeld ?_
  rotate_left 1
  · (intro w hSw; (try dsimp only at hSw); go_simp; first | done | with_reducible rfl)
  try simp only [Act.put, List.setIfInBounds_toArray, List.set_cons_zero, List.set_cons_succ]
  refine Bz.wpAnyE_done (by kernel_rfl) ?_ _
  refine NoPanic.normal ?_
  
  clear hHeld
  have hk := hA1.keep
  clear hA1 h9
  go_wp2
  go_ret
  exact ⟨rfl, hk⟩
/-- The tip is stored. -/
@[reducible] def tipSet (w : World) (t : Nat) (x : D8) : World := ((((((((w.setCell ⟨t, 8, none⟩ (.int .u8 x.a)).setCell ⟨t, 9, none⟩ (.int .u8 x.b)).setCell ⟨t, 10, none⟩ (.int .u8 x.c)).setCell ⟨t, 11, none⟩ (.int .u8 x.d)).setCell ⟨t, 12, none⟩ (.int .u8 x.e)).setCell ⟨t, 13, none⟩ (.int .u8 x.f)).setCell ⟨t, 14, none⟩ (.int .u8 x.g)).setCell ⟨t, 15, none⟩ (.int .u8 x.h))
theorem tcells_tip (T : FT) (mb : Nat) (x : D8) : (((((((((tcells T mb).setIfInBounds 8 (.int .u8 x.a)).setIfInBounds 9 (.int .u8 x.b)).setIfInBounds 10 (.int .u8 x.c)).setIfInBounds 11 (.int .u8 x.d)).setIfInBounds 12 (.int .u8 x.e)).setIfInBounds 13 (.int .u8 x.f)).setIfInBounds 14 (.int .u8 x.g)).setIfInBounds 15 (.int .u8 x.h)) = tcells { T with tip := x } mb := by
  simp only [tcells, List.setIfInBounds_toArray, List.set_cons_zero, List.set_cons_succ]
theorem put_tip {w : World} {t mb : Nat} {T : FT} (h : TreeAt w t mb T) (x : D8) : TreeAt (tipSet w t x) t mb { T with tip := x } := by
  have h8 := ((((((((h.1.set_ 8 (.int .u8 x.a)).set_ 9 (.int .u8 x.b)).set_ 10 (.int .u8 x.c)).set_ 11 (.int .u8 x.d)).set_ 12 (.int .u8 x.e)).set_ 13 (.int .u8 x.f)).set_ 14 (.int .u8 x.g)).set_ 15 (.int .u8 x.h))
  rw [tcells_tip] at h8
  have hm := h.ne
  exact ⟨h8, ((((((((h.2.setCell (p := ⟨t, 8, none⟩) (Ne.symm hm) (.int .u8 x.a)).setCell (p := ⟨t, 9, none⟩) (Ne.symm hm) (.int .u8 x.b)).setCell (p := ⟨t, 10, none⟩) (Ne.symm hm) (.int .u8 x.c)).setCell (p := ⟨t, 11, none⟩) (Ne.symm hm) (.int .u8 x.d)).setCell (p := ⟨t, 12, none⟩) (Ne.symm hm) (.int .u8 x.e)).setCell (p := ⟨t, 13, none⟩) (Ne.symm hm) (.int .u8 x.f)).setCell (p := ⟨t, 14, none⟩) (Ne.symm hm) (.int .u8 x.g)).setCell (p := ⟨t, 15, none⟩) (Ne.symm hm) (.int .u8 x.h))⟩
theorem keep_tip {S : List Nat} {t : Nat} {a b : World} (h : Keep (t :: S) a b) (x : D8) : Keep (t :: S) a (tipSet b t x) :=
  ((((((((h.setCell (p := ⟨t, 8, none⟩) (.inl (by simp)) _).setCell (p := ⟨t, 9, none⟩) (.inl (by simp)) _).setCell (p := ⟨t, 10, none⟩) (.inl (by simp)) _).setCell (p := ⟨t, 11, none⟩) (.inl (by simp)) _).setCell (p := ⟨t, 12, none⟩) (.inl (by simp)) _).setCell (p := ⟨t, 13, none⟩) (.inl (by simp)) _).setCell (p := ⟨t, 14, none⟩) (.inl (by simp)) _).setCell (p := ⟨t, 15, none⟩) (.inl (by simp)) _)
/-- The tree behind the map's store. -/
def FT.put (T : FT) (x p : D8) : FT := { T with bl := mput x (p, (T.get p).2 + 1) T.bl }
theorem FT.put_height (T : FT) (x p y : D8) (h : x ≠ y) : (T.put x p).height y = T.height y := by
  unfold FT.height FT.is FT.get FT.put
  rw [mlook_put, if_neg h]
set_option maxRecDepth 100000 in
set_option maxHeartbeats 1000000 in
theorem add_ok {t mb : Nat} {T : FT} {w : World} (h : TreeAt w t mb T) (hT : T.WF) (x p : D8) (hx : T.is x = false) (hp : T.is p = true) (hl : T.bl.length < 4096) (hd : ¬ T.below p T.tip < T.height T.tip - T.depth) :
    Calls Try.prog 14 #[.pointer (some ⟨t, 0, none⟩), dv x, dv p] w (fun e w' => e = .returned (.int .i64 0) ∧ TreeAt w' t mb (T.added x p) ∧ Keep [t, mb] w w') := by
  have hwp : IntKind.i64.wrap ((T.get p).2 + 1) = (T.get p).2 + 1 := IntWalk.i64_in _ (by have := hT.nonneg hp; omega)
  have hbp := hT.nonneg hp
  have hwr : IntKind.i64.wrap (T.height T.tip - T.depth) = T.height T.tip - T.depth := IntWalk.i64_in _ (by have := hgt_bd hT; have := hT.dep; omega)
  have hA := AddW.start h x p
  have K0 := hA.drew.s
  have K1 := fun o => (hA.alloc o).drew.s
  have K2 := fun c => (hA.alloc c).drew.drew.s
  have K3 := fun c o => ((hA.alloc c).alloc o).drew.drew.s
  unfold AddS at K0 K1 K2 K3
  have HA := fun c c' => ((hA.alloc c).alloc c').drew.drew
  clear h hA
  go_enter Try.func14, Try.ntmps14
  go_wp2
  refine wp_region_noPanic ?_
  refine Bz.wp_region_E (S := (fun w' => (∀ z, (Instr.lookup 70 (.map (some mb)) (dv z) true).run Try.prog w' = .ok (.tuple #[benc (T.get z), .bool (T.is z)]) w') ∧ (∀ i, w'.cell? ⟨t, i, none⟩ = (tcells T mb)[i]?) ∧ (∀ i, w'.cell? ⟨w.heap.size, i, none⟩ = (dcells x)[i]?) ∧ (∀ i, w'.cell? ⟨w.heap.size + 1, i, none⟩ = (dcells p)[i]?))) (E := []) (by kernel_rfl) (by exact K0) (fun hHeld => ?_)
  refine Bz.wpAnyE_take (i := 0) (oi := { dst := some 14, op := Go.Op.move (Go.Operand.tmp 0), type := 24, pos := "fork.go:58", after := #[], guard := none }) (v := ?_) rfl (by kernel_rfl) (by kernel_rfl) (by kernel_rfl) (by kernel_rfl) (fun _ _ _ h => h) (Or.inl ⟨by rfl, ?_⟩) hHeld ?_
  rotate_left 1
  · (intro w hSw; (try dsimp only at hSw); go_simp; first | done | with_reducible rfl)
  try simp only [Act.put, List.setIfInBounds_toArray, List.set_cons_zero, List.set_cons_succ]
  refine Bz.wpAnyE_take (i := 1) (oi := { dst := some 15, op := Go.Op.nilCheck (Go.Operand.tmp 14), type := 0, pos := "fork.go:58", after := #[{ on := 0, ground := Go.Ground.data }], guard := none }) (v := ?_) rfl (by kernel_rfl) (by kernel_rfl) (by kernel_rfl) (by kernel_rfl) (fun _ _ _ h => h) (Or.inl ⟨by rfl, ?_⟩) hHeld ?_
  rotate_left 1
  · (intro w hSw; (try dsimp only at hSw); go_simp; first | done | with_reducible rfl)
  try simp only [Act.put, List.setIfInBounds_toArray, List.set_cons_zero, List.set_cons_succ]
  refine Bz.wpAnyE_take (i := 2) (oi := { dst := some 16, op := Go.Op.fieldAddr 72 (Go.Operand.tmp 15) 3, type := 0, pos := "fork.go:58", after := #[{ on := 1, ground := Go.Ground.data }], guard := none }) (v := ?_) rfl (by kernel_rfl) (by kernel_rfl) (by kernel_rfl) (by kernel_rfl) (fun _ _ _ h => h) (Or.inl ⟨by rfl, ?_⟩) hHeld ?_
  rotate_left 1
  · (intro w hSw; (try dsimp only at hSw); go_simp; first | done | with_reducible rfl)
  try simp only [Act.put, List.setIfInBounds_toArray, List.set_cons_zero, List.set_cons_succ]
  refine Bz.wpAnyE_take (i := 3) (oi := { dst := some 17, op := Go.Op.load 70 (Go.Operand.tmp 16), type := 70, pos := "fork.go:58", after := #[{ on := 2, ground := Go.Ground.data }], guard := none }) (v := ?_) rfl (by kernel_rfl) (by kernel_rfl) (by kernel_rfl) (by kernel_rfl) (fun _ _ _ h => h) (Or.inl ⟨by rfl, ?_⟩) hHeld ?_
  rotate_left 1
  · (intro w hSw; (try dsimp only at hSw); go_simp; first | done | with_reducible rfl)
  try simp only [Act.put, List.setIfInBounds_toArray, List.set_cons_zero, List.set_cons_succ]
  refine Bz.wpAnyE_take (i := 4) (oi := { dst := some 18, op := Go.Op.load 29 (Go.Operand.tmp 4), type := 29, pos := "fork.go:58", after := #[], guard := none }) (v := ?_) rfl (by kernel_rfl) (by kernel_rfl) (by kernel_rfl) (by kernel_rfl) (fun _ _ _ h => h) (Or.inl ⟨by rfl, ?_⟩) hHeld ?_
  rotate_left 1
  · (intro w hSw; (try dsimp only at hSw); go_simp; first | done | with_reducible rfl)
  try simp only [Act.put, List.setIfInBounds_toArray, List.set_cons_zero, List.set_cons_succ]
  refine Bz.wpAnyE_take (i := 5) (oi := { dst := some 19, op := Go.Op.lookup 70 (Go.Operand.tmp 17) (Go.Operand.tmp 18) true, type := 73, pos := "fork.go:58", after := #[{ on := 3, ground := Go.Ground.data }, { on := 4, ground := Go.Ground.data }], guard := none }) (v := ?_) rfl (by kernel_rfl) (by kernel_rfl) (by kernel_rfl) (by kernel_rfl) (fun _ _ _ h => h) (Or.inl ⟨by rfl, ?_⟩) hHeld ?_
  rotate_left 1
  · (intro w hSw; (try dsimp only at hSw); go_simp; first | done | with_reducible rfl)
  try simp only [Act.put, List.setIfInBounds_toArray, List.set_cons_zero, List.set_cons_succ]
  refine Bz.wpAnyE_take (i := 6) (oi := { dst := some 13, op := Go.Op.move (Go.Operand.tmp 19), type := 73, pos := "fork.go:58", after := #[{ on := 5, ground := Go.Ground.data }], guard := none }) (v := ?_) rfl (by kernel_rfl) (by kernel_rfl) (by kernel_rfl) (by kernel_rfl) (fun _ _ _ h => h) (Or.inl ⟨by rfl, ?_⟩) hHeld ?_
  rotate_left 1
  · (intro w hSw; (try dsimp only at hSw); go_simp; first | done | with_reducible rfl)
  try simp only [Act.put, List.setIfInBounds_toArray, List.set_cons_zero, List.set_cons_succ]
  refine Bz.wpAnyE_take (i := 7) (oi := { dst := some 20, op := Go.Op.extract (Go.Operand.tmp 13) 0, type := 69, pos := "fork.go:58", after := #[{ on := 6, ground := Go.Ground.data }], guard := none }) (v := ?_) rfl (by kernel_rfl) (by kernel_rfl) (by kernel_rfl) (by kernel_rfl) (fun _ _ _ h => h) (Or.inl ⟨by rfl, ?_⟩) hHeld ?_
  rotate_left 1
  · (intro w hSw; (try dsimp only at hSw); go_simp; first | done | with_reducible rfl)
  try simp only [Act.put, List.setIfInBounds_toArray, List.set_cons_zero, List.set_cons_succ]
  refine Bz.wpAnyE_take (i := 8) (oi := { dst := some 21, op := Go.Op.extract (Go.Operand.tmp 13) 1, type := 4, pos := "fork.go:58", after := #[{ on := 6, ground := Go.Ground.data }, { on := 10, ground := Go.Ground.gcOnly Go.Departure.lateStores }], guard := none }) (v := ?_) rfl (by kernel_rfl) (by kernel_rfl) (by kernel_rfl) (by kernel_rfl) (fun _ _ _ h => h) (Or.inl ⟨by rfl, ?_⟩) hHeld ?_
  rotate_left 1
  · (intro w hSw; (try dsimp only at hSw); go_simp; first | done | with_reducible rfl)
  try simp only [Act.put, List.setIfInBounds_toArray, List.set_cons_zero, List.set_cons_succ]
  refine Bz.wpAnyE_ready (rs := [9]) (by kernel_rfl) (by simp) ?_
  refine Bz.AllReadyE.cons (o := { dst := some 7, op := Go.Op.alloc 69, type := 0, pos := "fork.go:58", after := #[], guard := none }) rfl (fun K hK => ?_) Bz.AllReadyE.nil
  go_simp
  refine hK.out _ _ (by exact K1 _) ?_
  clear hHeld hK K; intro hHeld
  try simp only [Act.put, List.setIfInBounds_toArray, List.set_cons_zero, List.set_cons_succ]
  refine Bz.wpAnyE_ready (rs := [10]) (by kernel_rfl) (by simp) ?_
  refine Bz.AllReadyE.cons (o := { dst := none, op := Go.Op.store 69 (Go.Operand.tmp 7) (Go.Operand.tmp 20), type := 0, pos := "fork.go:58", after := #[{ on := 9, ground := Go.Ground.data }, { on := 7, ground := Go.Ground.data }, { on := 0, ground := Go.Ground.phase }, { on := 1, ground := Go.Ground.phase }, { on := 2, ground := Go.Ground.phase }, { on := 3, ground := Go.Ground.phase }, { on := 4, ground := Go.Ground.phase }, { on := 5, ground := Go.Ground.phase }, { on := 6, ground := Go.Ground.phase }, { on := 7, ground := Go.Ground.phase }, { on := 8, ground := Go.Ground.textOnly Go.Departure.lateStores }, { on := 9, ground := Go.Ground.phase }], guard := none }) rfl (fun K hK => ?_) Bz.AllReadyE.nil
  go_simp
  refine hK.out _ _ (by exact K1 _) ?_
  clear hHeld hK K; intro hHeld
  try simp only [Act.put, List.setIfInBounds_toArray, List.set_cons_zero, List.set_cons_succ]
  refine Bz.wpAnyE_take (i := 11) (oi := { dst := some 8, op := Go.Op.assign (Go.Operand.tmp 21), type := 4, pos := "fork.go:58", after := #[{ on := 8, ground := Go.Ground.data }, { on := 10, ground := Go.Ground.chain }, { on := 0, ground := Go.Ground.phase }, { on := 1, ground := Go.Ground.phase }, { on := 2, ground := Go.Ground.phase }, { on := 3, ground := Go.Ground.phase }, { on := 4, ground := Go.Ground.phase }, { on := 5, ground := Go.Ground.phase }, { on := 6, ground := Go.Ground.phase }, { on := 7, ground := Go.Ground.phase }, { on := 8, ground := Go.Ground.phase }, { on := 9, ground := Go.Ground.phase }, { on := 10, ground := Go.Ground.phase }], guard := none }) (v := ?_) rfl (by kernel_rfl) (by kernel_rfl) (by kernel_rfl) (by kernel_rfl) (fun _ _ _ h => h) (Or.inl ⟨by rfl, ?_⟩) hHeld ?_
  rotate_left 1
  · (intro w hSw; (try dsimp only at hSw); go_simp; first | done | with_reducible rfl)
  try simp only [Act.put, List.setIfInBounds_toArray, List.set_cons_zero, List.set_cons_succ]
  refine Bz.wpAnyE_done (by kernel_rfl) ?_ _
  refine NoPanic.normal ?_
  
  clear hHeld K0 K1
  go_wp2
  refine wp_region_noPanic ?_
  refine Bz.wp_region_E (S := (fun w' => (∀ z, (Instr.lookup 70 (.map (some mb)) (dv z) true).run Try.prog w' = .ok (.tuple #[benc (T.get z), .bool (T.is z)]) w') ∧ (∀ i, w'.cell? ⟨t, i, none⟩ = (tcells T mb)[i]?) ∧ (∀ i, w'.cell? ⟨w.heap.size, i, none⟩ = (dcells x)[i]?) ∧ (∀ i, w'.cell? ⟨w.heap.size + 1, i, none⟩ = (dcells p)[i]?))) (E := []) (by kernel_rfl) (by exact K2 _) (fun hHeld => ?_)
  refine Bz.wpAnyE_take (i := 0) (oi := { dst := some 24, op := Go.Op.move (Go.Operand.tmp 0), type := 24, pos := "fork.go:61", after := #[], guard := none }) (v := ?_) rfl (by kernel_rfl) (by kernel_rfl) (by kernel_rfl) (by kernel_rfl) (fun _ _ _ h => h) (Or.inl ⟨by rfl, ?_⟩) hHeld ?_
  rotate_left 1
  · (intro w hSw; (try dsimp only at hSw); go_simp; first | done | with_reducible rfl)
  try simp only [Act.put, List.setIfInBounds_toArray, List.set_cons_zero, List.set_cons_succ]
  refine Bz.wpAnyE_take (i := 1) (oi := { dst := some 25, op := Go.Op.nilCheck (Go.Operand.tmp 24), type := 0, pos := "fork.go:61", after := #[{ on := 0, ground := Go.Ground.data }], guard := none }) (v := ?_) rfl (by kernel_rfl) (by kernel_rfl) (by kernel_rfl) (by kernel_rfl) (fun _ _ _ h => h) (Or.inl ⟨by rfl, ?_⟩) hHeld ?_
  rotate_left 1
  · (intro w hSw; (try dsimp only at hSw); go_simp; first | done | with_reducible rfl)
  try simp only [Act.put, List.setIfInBounds_toArray, List.set_cons_zero, List.set_cons_succ]
  refine Bz.wpAnyE_take (i := 2) (oi := { dst := some 26, op := Go.Op.fieldAddr 72 (Go.Operand.tmp 25) 3, type := 0, pos := "fork.go:61", after := #[{ on := 1, ground := Go.Ground.data }], guard := none }) (v := ?_) rfl (by kernel_rfl) (by kernel_rfl) (by kernel_rfl) (by kernel_rfl) (fun _ _ _ h => h) (Or.inl ⟨by rfl, ?_⟩) hHeld ?_
  rotate_left 1
  · (intro w hSw; (try dsimp only at hSw); go_simp; first | done | with_reducible rfl)
  try simp only [Act.put, List.setIfInBounds_toArray, List.set_cons_zero, List.set_cons_succ]
  refine Bz.wpAnyE_take (i := 3) (oi := { dst := some 27, op := Go.Op.load 70 (Go.Operand.tmp 26), type := 70, pos := "fork.go:61", after := #[{ on := 2, ground := Go.Ground.data }], guard := none }) (v := ?_) rfl (by kernel_rfl) (by kernel_rfl) (by kernel_rfl) (by kernel_rfl) (fun _ _ _ h => h) (Or.inl ⟨by rfl, ?_⟩) hHeld ?_
  rotate_left 1
  · (intro w hSw; (try dsimp only at hSw); go_simp; first | done | with_reducible rfl)
  try simp only [Act.put, List.setIfInBounds_toArray, List.set_cons_zero, List.set_cons_succ]
  refine Bz.wpAnyE_take (i := 4) (oi := { dst := some 28, op := Go.Op.load 29 (Go.Operand.tmp 5), type := 29, pos := "fork.go:61", after := #[], guard := none }) (v := ?_) rfl (by kernel_rfl) (by kernel_rfl) (by kernel_rfl) (by kernel_rfl) (fun _ _ _ h => h) (Or.inl ⟨by rfl, ?_⟩) hHeld ?_
  rotate_left 1
  · (intro w hSw; (try dsimp only at hSw); go_simp; first | done | with_reducible rfl)
  try simp only [Act.put, List.setIfInBounds_toArray, List.set_cons_zero, List.set_cons_succ]
  refine Bz.wpAnyE_take (i := 5) (oi := { dst := some 29, op := Go.Op.lookup 70 (Go.Operand.tmp 27) (Go.Operand.tmp 28) true, type := 73, pos := "fork.go:61", after := #[{ on := 3, ground := Go.Ground.data }, { on := 4, ground := Go.Ground.data }], guard := none }) (v := ?_) rfl (by kernel_rfl) (by kernel_rfl) (by kernel_rfl) (by kernel_rfl) (fun _ _ _ h => h) (Or.inl ⟨by rfl, ?_⟩) hHeld ?_
  rotate_left 1
  · (intro w hSw; (try dsimp only at hSw); go_simp; first | done | with_reducible rfl)
  try simp only [Act.put, List.setIfInBounds_toArray, List.set_cons_zero, List.set_cons_succ]
  refine Bz.wpAnyE_take (i := 6) (oi := { dst := some 23, op := Go.Op.move (Go.Operand.tmp 29), type := 73, pos := "fork.go:61", after := #[{ on := 5, ground := Go.Ground.data }], guard := none }) (v := ?_) rfl (by kernel_rfl) (by kernel_rfl) (by kernel_rfl) (by kernel_rfl) (fun _ _ _ h => h) (Or.inl ⟨by rfl, ?_⟩) hHeld ?_
  rotate_left 1
  · (intro w hSw; (try dsimp only at hSw); go_simp; first | done | with_reducible rfl)
  try simp only [Act.put, List.setIfInBounds_toArray, List.set_cons_zero, List.set_cons_succ]
  refine Bz.wpAnyE_take (i := 7) (oi := { dst := some 30, op := Go.Op.extract (Go.Operand.tmp 23) 0, type := 69, pos := "fork.go:61", after := #[{ on := 6, ground := Go.Ground.data }], guard := none }) (v := ?_) rfl (by kernel_rfl) (by kernel_rfl) (by kernel_rfl) (by kernel_rfl) (fun _ _ _ h => h) (Or.inl ⟨by rfl, ?_⟩) hHeld ?_
  rotate_left 1
  · (intro w hSw; (try dsimp only at hSw); go_simp; first | done | with_reducible rfl)
  try simp only [Act.put, List.setIfInBounds_toArray, List.set_cons_zero, List.set_cons_succ]
  refine Bz.wpAnyE_take (i := 8) (oi := { dst := some 31, op := Go.Op.extract (Go.Operand.tmp 23) 1, type := 4, pos := "fork.go:61", after := #[{ on := 6, ground := Go.Ground.data }, { on := 10, ground := Go.Ground.gcOnly Go.Departure.lateStores }], guard := none }) (v := ?_) rfl (by kernel_rfl) (by kernel_rfl) (by kernel_rfl) (by kernel_rfl) (fun _ _ _ h => h) (Or.inl ⟨by rfl, ?_⟩) hHeld ?_
  rotate_left 1
  · (intro w hSw; (try dsimp only at hSw); go_simp; first | done | with_reducible rfl)
  try simp only [Act.put, List.setIfInBounds_toArray, List.set_cons_zero, List.set_cons_succ]
  refine Bz.wpAnyE_ready (rs := [9]) (by kernel_rfl) (by simp) ?_
  refine Bz.AllReadyE.cons (o := { dst := some 9, op := Go.Op.alloc 69, type := 0, pos := "fork.go:61", after := #[], guard := none }) rfl (fun K hK => ?_) Bz.AllReadyE.nil
  go_simp
  refine hK.out _ _ (by exact K3 _ _) ?_
  clear hHeld hK K; intro hHeld
  try simp only [Act.put, List.setIfInBounds_toArray, List.set_cons_zero, List.set_cons_succ]
  refine Bz.wpAnyE_ready (rs := [10]) (by kernel_rfl) (by simp) ?_
  refine Bz.AllReadyE.cons (o := { dst := none, op := Go.Op.store 69 (Go.Operand.tmp 9) (Go.Operand.tmp 30), type := 0, pos := "fork.go:61", after := #[{ on := 9, ground := Go.Ground.data }, { on := 7, ground := Go.Ground.data }, { on := 0, ground := Go.Ground.phase }, { on := 1, ground := Go.Ground.phase }, { on := 2, ground := Go.Ground.phase }, { on := 3, ground := Go.Ground.phase }, { on := 4, ground := Go.Ground.phase }, { on := 5, ground := Go.Ground.phase }, { on := 6, ground := Go.Ground.phase }, { on := 7, ground := Go.Ground.phase }, { on := 8, ground := Go.Ground.textOnly Go.Departure.lateStores }, { on := 9, ground := Go.Ground.phase }], guard := none }) rfl (fun K hK => ?_) Bz.AllReadyE.nil
  go_simp
  refine hK.out _ _ (by exact K3 _ _) ?_
  clear hHeld hK K; intro hHeld
  try simp only [Act.put, List.setIfInBounds_toArray, List.set_cons_zero, List.set_cons_succ]
  refine Bz.wpAnyE_take (i := 11) (oi := { dst := some 10, op := Go.Op.assign (Go.Operand.tmp 31), type := 4, pos := "fork.go:61", after := #[{ on := 8, ground := Go.Ground.data }, { on := 10, ground := Go.Ground.chain }, { on := 0, ground := Go.Ground.phase }, { on := 1, ground := Go.Ground.phase }, { on := 2, ground := Go.Ground.phase }, { on := 3, ground := Go.Ground.phase }, { on := 4, ground := Go.Ground.phase }, { on := 5, ground := Go.Ground.phase }, { on := 6, ground := Go.Ground.phase }, { on := 7, ground := Go.Ground.phase }, { on := 8, ground := Go.Ground.phase }, { on := 9, ground := Go.Ground.phase }, { on := 10, ground := Go.Ground.phase }], guard := none }) (v := ?_) rfl (by kernel_rfl) (by kernel_rfl) (by kernel_rfl) (by kernel_rfl) (fun _ _ _ h => h) (Or.inl ⟨by rfl, ?_⟩) hHeld ?_
  rotate_left 1
  · (intro w hSw; (try dsimp only at hSw); go_simp; first | done | with_reducible rfl)
  try simp only [Act.put, List.setIfInBounds_toArray, List.set_cons_zero, List.set_cons_succ]
  refine Bz.wpAnyE_done (by kernel_rfl) ?_ _
  refine NoPanic.normal ?_
  
  clear hHeld K2 K3
  have hlen := fun c c' => (HA c c').tree.2.len Try.underlying70 3
  have hc := fun c c' => (HA c c').tree.1.cell
  go_wp2_with fail
  obtain ⟨W3, hW3⟩ : ∃ W3, W3 = ((((w.alloc (.cells (dcells x) 29)).alloc (.cells (dcells p) 29)).alloc (.cells (benc (T.get x)).cells 69)).alloc (.cells (benc (T.get p)).cells 69)).drew.drew := ⟨_, rfl⟩
  have hb9 : Blk W3 (w.heap.size + 1 + 1 + 1) 69 (benc (T.get p)).cells := hW3 ▸ Blk.new_ (by simp)
  have hA := HA (.cells (benc (T.get x)).cells 69) (.cells (benc (T.get p)).cells 69)
  rw [← hW3] at hA
  simp only [Value.cells] at hW3
  rw [← hW3]
  clear hW3 HA hlen hc
  have hA1 := hA.drew
  have h9 := hb9.drew
  refine wp_region_noPanic ?_
  refine Bz.wp_region_E (S := (fun w' => (∀ i, w'.cell? ⟨t, i, none⟩ = (tcells T mb)[i]?) ∧ (∀ i, w'.cell? ⟨w.heap.size + 1, i, none⟩ = (dcells p)[i]?))) (E := []) (by kernel_rfl) (by exact ⟨hA1.s.2.1, hA1.s.2.2.2⟩) (fun hHeld => ?_)
  refine Bz.wpAnyE_take (i := 0) (oi := { dst := some 43, op := Go.Op.move (Go.Operand.tmp 0), type := 24, pos := "fork.go:67", after := #[], guard := none }) (v := ?_) rfl (by kernel_rfl) (by kernel_rfl) (by kernel_rfl) (by kernel_rfl) (fun _ _ _ h => h) (Or.inl ⟨by rfl, ?_⟩) hHeld ?_
  rotate_left 1
  · (intro w hSw; (try dsimp only at hSw); go_simp; first | done | with_reducible rfl)
  try simp only [Act.put, List.setIfInBounds_toArray, List.set_cons_zero, List.set_cons_succ]
  refine Bz.wpAnyE_take (i := 1) (oi := { dst := some 44, op := Go.Op.load 29 (Go.Operand.tmp 5), type := 29, pos := "fork.go:67", after := #[], guard := none }) (v := ?_) rfl (by kernel_rfl) (by kernel_rfl) (by kernel_rfl) (by kernel_rfl) (fun _ _ _ h => h) (Or.inl ⟨by rfl, ?_⟩) hHeld ?_
  rotate_left 1
  · (intro w hSw; (try dsimp only at hSw); go_simp; first | done | with_reducible rfl)
  try simp only [Act.put, List.setIfInBounds_toArray, List.set_cons_zero, List.set_cons_succ]
  refine Bz.wpAnyE_take (i := 2) (oi := { dst := some 45, op := Go.Op.move (Go.Operand.tmp 0), type := 24, pos := "fork.go:67", after := #[], guard := none }) (v := ?_) rfl (by kernel_rfl) (by kernel_rfl) (by kernel_rfl) (by kernel_rfl) (fun _ _ _ h => h) (Or.inl ⟨by rfl, ?_⟩) hHeld ?_
  rotate_left 1
  · (intro w hSw; (try dsimp only at hSw); go_simp; first | done | with_reducible rfl)
  try simp only [Act.put, List.setIfInBounds_toArray, List.set_cons_zero, List.set_cons_succ]
  refine Bz.wpAnyE_take (i := 3) (oi := { dst := some 46, op := Go.Op.nilCheck (Go.Operand.tmp 45), type := 0, pos := "fork.go:67", after := #[{ on := 2, ground := Go.Ground.data }], guard := none }) (v := ?_) rfl (by kernel_rfl) (by kernel_rfl) (by kernel_rfl) (by kernel_rfl) (fun _ _ _ h => h) (Or.inl ⟨by rfl, ?_⟩) hHeld ?_
  rotate_left 1
  · (intro w hSw; (try dsimp only at hSw); go_simp; first | done | with_reducible rfl)
  try simp only [Act.put, List.setIfInBounds_toArray, List.set_cons_zero, List.set_cons_succ]
  refine Bz.wpAnyE_take (i := 4) (oi := { dst := some 47, op := Go.Op.fieldAddr 72 (Go.Operand.tmp 46) 1, type := 0, pos := "fork.go:67", after := #[{ on := 3, ground := Go.Ground.data }], guard := none }) (v := ?_) rfl (by kernel_rfl) (by kernel_rfl) (by kernel_rfl) (by kernel_rfl) (fun _ _ _ h => h) (Or.inl ⟨by rfl, ?_⟩) hHeld ?_
  rotate_left 1
  · (intro w hSw; (try dsimp only at hSw); go_simp; first | done | with_reducible rfl)
  try simp only [Act.put, List.setIfInBounds_toArray, List.set_cons_zero, List.set_cons_succ]
  refine Bz.wpAnyE_take (i := 5) (oi := { dst := some 48, op := Go.Op.load 29 (Go.Operand.tmp 47), type := 29, pos := "fork.go:67", after := #[{ on := 4, ground := Go.Ground.data }], guard := none }) (v := ?_) rfl (by kernel_rfl) (by kernel_rfl) (by kernel_rfl) (by kernel_rfl) (fun _ _ _ h => h) (Or.inl ⟨by rfl, ?_⟩) hHeld ?_
  rotate_left 1
  · (intro w hSw; (try dsimp only at hSw); go_simp; first | done | with_reducible rfl)
  try simp only [Act.put, List.setIfInBounds_toArray, List.set_cons_zero, List.set_cons_succ]
  refine Bz.wpAnyE_take (i := 7) (oi := { dst := some 50, op := Go.Op.move (Go.Operand.tmp 0), type := 24, pos := "fork.go:67", after := #[], guard := none }) (v := ?_) rfl (by kernel_rfl) (by kernel_rfl) (by kernel_rfl) (by kernel_rfl) (fun _ _ _ h => h) (Or.inl ⟨by rfl, ?_⟩) hHeld ?_
  rotate_left 1
  · (intro w hSw; (try dsimp only at hSw); go_simp; first | done | with_reducible rfl)
  try simp only [Act.put, List.setIfInBounds_toArray, List.set_cons_zero, List.set_cons_succ]
  refine Bz.wpAnyE_take (i := 8) (oi := { dst := some 51, op := Go.Op.move (Go.Operand.tmp 0), type := 24, pos := "fork.go:67", after := #[], guard := none }) (v := ?_) rfl (by kernel_rfl) (by kernel_rfl) (by kernel_rfl) (by kernel_rfl) (fun _ _ _ h => h) (Or.inl ⟨by rfl, ?_⟩) hHeld ?_
  rotate_left 1
  · (intro w hSw; (try dsimp only at hSw); go_simp; first | done | with_reducible rfl)
  try simp only [Act.put, List.setIfInBounds_toArray, List.set_cons_zero, List.set_cons_succ]
  refine Bz.wpAnyE_take (i := 9) (oi := { dst := some 52, op := Go.Op.nilCheck (Go.Operand.tmp 51), type := 0, pos := "fork.go:67", after := #[{ on := 8, ground := Go.Ground.data }], guard := none }) (v := ?_) rfl (by kernel_rfl) (by kernel_rfl) (by kernel_rfl) (by kernel_rfl) (fun _ _ _ h => h) (Or.inl ⟨by rfl, ?_⟩) hHeld ?_
  rotate_left 1
  · (intro w hSw; (try dsimp only at hSw); go_simp; first | done | with_reducible rfl)
  try simp only [Act.put, List.setIfInBounds_toArray, List.set_cons_zero, List.set_cons_succ]
  refine Bz.wpAnyE_take (i := 10) (oi := { dst := some 53, op := Go.Op.fieldAddr 72 (Go.Operand.tmp 52) 1, type := 0, pos := "fork.go:67", after := #[{ on := 9, ground := Go.Ground.data }], guard := none }) (v := ?_) rfl (by kernel_rfl) (by kernel_rfl) (by kernel_rfl) (by kernel_rfl) (fun _ _ _ h => h) (Or.inl ⟨by rfl, ?_⟩) hHeld ?_
  rotate_left 1
  · (intro w hSw; (try dsimp only at hSw); go_simp; first | done | with_reducible rfl)
  try simp only [Act.put, List.setIfInBounds_toArray, List.set_cons_zero, List.set_cons_succ]
  refine Bz.wpAnyE_take (i := 11) (oi := { dst := some 54, op := Go.Op.load 29 (Go.Operand.tmp 53), type := 29, pos := "fork.go:67", after := #[{ on := 10, ground := Go.Ground.data }], guard := none }) (v := ?_) rfl (by kernel_rfl) (by kernel_rfl) (by kernel_rfl) (by kernel_rfl) (fun _ _ _ h => h) (Or.inl ⟨by rfl, ?_⟩) hHeld ?_
  rotate_left 1
  · (intro w hSw; (try dsimp only at hSw); go_simp; first | done | with_reducible rfl)
  try simp only [Act.put, List.setIfInBounds_toArray, List.set_cons_zero, List.set_cons_succ]
  refine Bz.wpAnyE_take (i := 13) (oi := { dst := some 56, op := Go.Op.move (Go.Operand.tmp 0), type := 24, pos := "fork.go:67", after := #[], guard := none }) (v := ?_) rfl (by kernel_rfl) (by kernel_rfl) (by kernel_rfl) (by kernel_rfl) (fun _ _ _ h => h) (Or.inl ⟨by rfl, ?_⟩) hHeld ?_
  rotate_left 1
  · (intro w hSw; (try dsimp only at hSw); go_simp; first | done | with_reducible rfl)
  try simp only [Act.put, List.setIfInBounds_toArray, List.set_cons_zero, List.set_cons_succ]
  refine Bz.wpAnyE_take (i := 14) (oi := { dst := some 57, op := Go.Op.nilCheck (Go.Operand.tmp 56), type := 0, pos := "fork.go:67", after := #[{ on := 13, ground := Go.Ground.data }], guard := none }) (v := ?_) rfl (by kernel_rfl) (by kernel_rfl) (by kernel_rfl) (by kernel_rfl) (fun _ _ _ h => h) (Or.inl ⟨by rfl, ?_⟩) hHeld ?_
  rotate_left 1
  · (intro w hSw; (try dsimp only at hSw); go_simp; first | done | with_reducible rfl)
  try simp only [Act.put, List.setIfInBounds_toArray, List.set_cons_zero, List.set_cons_succ]
  refine Bz.wpAnyE_take (i := 15) (oi := { dst := some 58, op := Go.Op.fieldAddr 72 (Go.Operand.tmp 57) 2, type := 0, pos := "fork.go:67", after := #[{ on := 14, ground := Go.Ground.data }], guard := none }) (v := ?_) rfl (by kernel_rfl) (by kernel_rfl) (by kernel_rfl) (by kernel_rfl) (fun _ _ _ h => h) (Or.inl ⟨by rfl, ?_⟩) hHeld ?_
  rotate_left 1
  · (intro w hSw; (try dsimp only at hSw); go_simp; first | done | with_reducible rfl)
  try simp only [Act.put, List.setIfInBounds_toArray, List.set_cons_zero, List.set_cons_succ]
  refine Bz.wpAnyE_take (i := 16) (oi := { dst := some 59, op := Go.Op.load 3 (Go.Operand.tmp 58), type := 3, pos := "fork.go:67", after := #[{ on := 15, ground := Go.Ground.data }], guard := none }) (v := ?_) rfl (by kernel_rfl) (by kernel_rfl) (by kernel_rfl) (by kernel_rfl) (fun _ _ _ h => h) (Or.inl ⟨by rfl, ?_⟩) hHeld ?_
  rotate_left 1
  · (intro w hSw; (try dsimp only at hSw); go_simp; first | done | with_reducible rfl)
  try simp only [Act.put, List.setIfInBounds_toArray, List.set_cons_zero, List.set_cons_succ]
  refine Bz.wpAnyE_ready (rs := [6]) (by kernel_rfl) (by simp) ?_
  refine Bz.AllReadyE.cons (o := { dst := some 49, op := Go.Op.call { callee := Go.Callee.value (Go.Operand.func 32), args := #[Go.Operand.tmp 43, Go.Operand.tmp 44, Go.Operand.tmp 48], argTypes := #[24, 29, 29] }, type := 3, pos := "fork.go:67", after := #[{ on := 0, ground := Go.Ground.data }, { on := 1, ground := Go.Ground.data }, { on := 5, ground := Go.Ground.data }], guard := none }) rfl (fun K hK => ?_) Bz.AllReadyE.nil
  go_simp
  
  refine (below_any hA1.tree hT p T.tip hp hT.tip_is).mono ?_
  rintro e w5 ⟨rfl, hk5⟩
  have h9 := h9.keep hk5 (by simp)
  have hA1 := hA1.on hk5
  refine hK.out _ _ (by exact ⟨hA1.s.2.1, hA1.s.2.2.2⟩) ?_
  clear hHeld hK K; intro hHeld
  try simp only [Act.put, List.setIfInBounds_toArray, List.set_cons_zero, List.set_cons_succ]
  refine Bz.wpAnyE_ready (rs := [12]) (by kernel_rfl) (by simp) ?_
  refine Bz.AllReadyE.cons (o := { dst := some 55, op := Go.Op.call { callee := Go.Callee.value (Go.Operand.func 16), args := #[Go.Operand.tmp 50, Go.Operand.tmp 54], argTypes := #[24, 29] }, type := 3, pos := "fork.go:67", after := #[{ on := 7, ground := Go.Ground.data }, { on := 11, ground := Go.Ground.data }, { on := 6, ground := Go.Ground.chain }], guard := none }) rfl (fun K hK => ?_) Bz.AllReadyE.nil
  go_simp
  
  refine (height_any hA1.tree T.tip).mono ?_
  rintro e w6 ⟨rfl, hk6⟩
  have h9 := h9.keep hk6 (by simp)
  have hA1 := hA1.on hk6
  refine hK.out _ _ (by exact ⟨hA1.s.2.1, hA1.s.2.2.2⟩) ?_
  clear hHeld hK K; intro hHeld
  try simp only [Act.put, List.setIfInBounds_toArray, List.set_cons_zero, List.set_cons_succ]
  refine Bz.wpAnyE_take (i := 17) (oi := { dst := some 60, op := Go.Op.binOp Go.BinOp.sub 3 (Go.Operand.tmp 55) (Go.Operand.tmp 59) 3, type := 3, pos := "fork.go:67", after := #[{ on := 12, ground := Go.Ground.data }, { on := 16, ground := Go.Ground.data }], guard := none }) (v := ?_) rfl (by kernel_rfl) (by kernel_rfl) (by kernel_rfl) (by kernel_rfl) (fun _ _ _ h => h) (Or.inl ⟨by rfl, ?_⟩) hHeld ?_
  rotate_left 1
  · (intro w hSw; (try dsimp only at hSw); go_simp; first | done | with_reducible rfl)
  try simp only [Act.put, List.setIfInBounds_toArray, List.set_cons_zero, List.set_cons_succ]
  refine Bz.wpAnyE_take (i := 18) (oi := { dst := some 61, op := Go.Op.binOp Go.BinOp.lss 3 (Go.Operand.tmp 49) (Go.Operand.tmp 60) 3, type := 4, pos := "fork.go:67", after := #[{ on := 6, ground := Go.Ground.data }, { on := 17, ground := Go.Ground.data }], guard := none }) (v := ?_) rfl (by kernel_rfl) (by kernel_rfl) (by kernel_rfl) (by kernel_rfl) (fun _ _ _ h => h) (Or.inl ⟨by rfl, ?_⟩) hHeld ?_
  rotate_left 1
  · (intro w hSw; (try dsimp only at hSw); go_simp; first | done | with_reducible rfl)
  try simp only [Act.put, List.setIfInBounds_toArray, List.set_cons_zero, List.set_cons_succ]
  refine Bz.wpAnyE_take (i := 19) (oi := { dst := some 42, op := Go.Op.assign (Go.Operand.tmp 61), type := 4, pos := "fork.go:67", after := #[{ on := 18, ground := Go.Ground.data }, { on := 12, ground := Go.Ground.chain }], guard := none }) (v := ?_) rfl (by kernel_rfl) (by kernel_rfl) (by kernel_rfl) (by kernel_rfl) (fun _ _ _ h => h) (Or.inl ⟨by rfl, ?_⟩) hHeld ?_
  rotate_left 1
  · (intro w hSw; (try dsimp only at hSw); go_simp; first | done | with_reducible rfl)
  try simp only [Act.put, List.setIfInBounds_toArray, List.set_cons_zero, List.set_cons_succ]
  refine Bz.wpAnyE_done (by kernel_rfl) ?_ _
  refine NoPanic.normal ?_
  
  clear hHeld
  go_wp2
  obtain ⟨W7, hrun, hM7, hK7⟩ := hA1.drew.tree.2.update k29 Try.underlying70 x (p, (T.get p).2 + 1)
  have hne := hA1.tree.ne
  have q0 : w.heap.size ∉ [mb] := by simp; exact fun e => hA1.tree.2.ne_blk hA1.b0 e.symm
  have q1 : w.heap.size + 1 ∉ [mb] := by simp; exact fun e => hA1.tree.2.ne_blk hA1.b1 e.symm
  have q9 : w.heap.size + 1 + 1 + 1 ∉ [mb] := by simp; exact fun e => hA1.tree.2.ne_blk h9 e.symm
  have c0 := (hA1.drew.b0.keep hK7 q0)
  have c1 := (hA1.drew.b1.keep hK7 q1)
  have c9 := (h9.drew.keep hK7 q9)
  have ct := (hA1.drew.tree.1.keep hK7 (by simp; exact fun e => hne e.symm))
  have hT7 : TreeAt W7 t mb (T.put x p) := ⟨ct, hM7⟩
  have hKa : Keep [t, mb] w W7 := (hA1.keep.drew.sub (S := [t, mb])).trans (hK7.mono (fun _ _ h => by simp at h ⊢; exact Or.inr h))
  refine wp_region_noPanic ?_
  refine Bz.wp_region_E (S := (fun w' => (∀ i, w'.cell? ⟨t, i, none⟩ = (tcells T mb)[i]?) ∧ (∀ i, w'.cell? ⟨w.heap.size, i, none⟩ = (dcells x)[i]?) ∧ (∀ i, w'.cell? ⟨w.heap.size + 1, i, none⟩ = (dcells p)[i]?) ∧ (∀ i, w'.cell? ⟨w.heap.size + 1 + 1 + 1, i, none⟩ = (benc (T.get p)).cells[i]?))) (E := []) (by kernel_rfl) (by exact ⟨hA1.s.2.1, hA1.s.2.2.1, hA1.s.2.2.2, h9.cell⟩) (fun hHeld => ?_)
  refine Bz.wpAnyE_take (i := 0) (oi := { dst := some 62, op := Go.Op.move (Go.Operand.tmp 0), type := 24, pos := "fork.go:70", after := #[], guard := none }) (v := ?_) rfl (by kernel_rfl) (by kernel_rfl) (by kernel_rfl) (by kernel_rfl) (fun _ _ _ h => h) (Or.inl ⟨by rfl, ?_⟩) hHeld ?_
  rotate_left 1
  · (intro w hSw; (try dsimp only at hSw); go_simp; first | done | with_reducible rfl)
  try simp only [Act.put, List.setIfInBounds_toArray, List.set_cons_zero, List.set_cons_succ]
  refine Bz.wpAnyE_take (i := 1) (oi := { dst := some 63, op := Go.Op.nilCheck (Go.Operand.tmp 62), type := 0, pos := "fork.go:70", after := #[{ on := 0, ground := Go.Ground.data }], guard := none }) (v := ?_) rfl (by kernel_rfl) (by kernel_rfl) (by kernel_rfl) (by kernel_rfl) (fun _ _ _ h => h) (Or.inl ⟨by rfl, ?_⟩) hHeld ?_
  rotate_left 1
  · (intro w hSw; (try dsimp only at hSw); go_simp; first | done | with_reducible rfl)
  try simp only [Act.put, List.setIfInBounds_toArray, List.set_cons_zero, List.set_cons_succ]
  refine Bz.wpAnyE_take (i := 2) (oi := { dst := some 64, op := Go.Op.fieldAddr 72 (Go.Operand.tmp 63) 3, type := 0, pos := "fork.go:70", after := #[{ on := 1, ground := Go.Ground.data }], guard := none }) (v := ?_) rfl (by kernel_rfl) (by kernel_rfl) (by kernel_rfl) (by kernel_rfl) (fun _ _ _ h => h) (Or.inl ⟨by rfl, ?_⟩) hHeld ?_
  rotate_left 1
  · (intro w hSw; (try dsimp only at hSw); go_simp; first | done | with_reducible rfl)
  try simp only [Act.put, List.setIfInBounds_toArray, List.set_cons_zero, List.set_cons_succ]
  refine Bz.wpAnyE_take (i := 3) (oi := { dst := some 65, op := Go.Op.load 70 (Go.Operand.tmp 64), type := 70, pos := "fork.go:70", after := #[{ on := 2, ground := Go.Ground.data }], guard := none }) (v := ?_) rfl (by kernel_rfl) (by kernel_rfl) (by kernel_rfl) (by kernel_rfl) (fun _ _ _ h => h) (Or.inl ⟨by rfl, ?_⟩) hHeld ?_
  rotate_left 1
  · (intro w hSw; (try dsimp only at hSw); go_simp; first | done | with_reducible rfl)
  try simp only [Act.put, List.setIfInBounds_toArray, List.set_cons_zero, List.set_cons_succ]
  refine Bz.wpAnyE_take (i := 4) (oi := { dst := some 66, op := Go.Op.load 29 (Go.Operand.tmp 4), type := 29, pos := "fork.go:70", after := #[], guard := none }) (v := ?_) rfl (by kernel_rfl) (by kernel_rfl) (by kernel_rfl) (by kernel_rfl) (fun _ _ _ h => h) (Or.inl ⟨by rfl, ?_⟩) hHeld ?_
  rotate_left 1
  · (intro w hSw; (try dsimp only at hSw); go_simp; first | done | with_reducible rfl)
  try simp only [Act.put, List.setIfInBounds_toArray, List.set_cons_zero, List.set_cons_succ]
  refine Bz.wpAnyE_take (i := 5) (oi := { dst := some 67, op := Go.Op.load 29 (Go.Operand.tmp 5), type := 29, pos := "fork.go:70", after := #[], guard := none }) (v := ?_) rfl (by kernel_rfl) (by kernel_rfl) (by kernel_rfl) (by kernel_rfl) (fun _ _ _ h => h) (Or.inl ⟨by rfl, ?_⟩) hHeld ?_
  rotate_left 1
  · (intro w hSw; (try dsimp only at hSw); go_simp; first | done | with_reducible rfl)
  try simp only [Act.put, List.setIfInBounds_toArray, List.set_cons_zero, List.set_cons_succ]
  refine Bz.wpAnyE_take (i := 6) (oi := { dst := some 68, op := Go.Op.fieldAddr 69 (Go.Operand.tmp 9) 1, type := 0, pos := "fork.go:70", after := #[], guard := none }) (v := ?_) rfl (by kernel_rfl) (by kernel_rfl) (by kernel_rfl) (by kernel_rfl) (fun _ _ _ h => h) (Or.inl ⟨by rfl, ?_⟩) hHeld ?_
  rotate_left 1
  · (intro w hSw; (try dsimp only at hSw); go_simp; first | done | with_reducible rfl)
  try simp only [Act.put, List.setIfInBounds_toArray, List.set_cons_zero, List.set_cons_succ]
  refine Bz.wpAnyE_take (i := 7) (oi := { dst := some 69, op := Go.Op.load 3 (Go.Operand.tmp 68), type := 3, pos := "fork.go:70", after := #[{ on := 6, ground := Go.Ground.data }], guard := none }) (v := ?_) rfl (by kernel_rfl) (by kernel_rfl) (by kernel_rfl) (by kernel_rfl) (fun _ _ _ h => h) (Or.inl ⟨by rfl, ?_⟩) hHeld ?_
  rotate_left 1
  · (intro w hSw; (try dsimp only at hSw); go_simp; first | done | with_reducible rfl)
  try simp only [Act.put, List.setIfInBounds_toArray, List.set_cons_zero, List.set_cons_succ]
  refine Bz.wpAnyE_take (i := 8) (oi := { dst := some 70, op := Go.Op.binOp Go.BinOp.add 3 (Go.Operand.tmp 69) (Go.Operand.const (Go.Value.int Go.IntKind.i64 1)) 3, type := 3, pos := "fork.go:70", after := #[{ on := 7, ground := Go.Ground.data }], guard := none }) (v := ?_) rfl (by kernel_rfl) (by kernel_rfl) (by kernel_rfl) (by kernel_rfl) (fun _ _ _ h => h) (Or.inl ⟨by rfl, ?_⟩) hHeld ?_
  rotate_left 1
  · (intro w hSw; (try dsimp only at hSw); go_simp; first | done | with_reducible rfl)
  try simp only [Act.put, List.setIfInBounds_toArray, List.set_cons_zero, List.set_cons_succ]
  refine Bz.wpAnyE_take (i := 9) (oi := { dst := some 71, op := Go.Op.build 69 #[(0, Go.Operand.tmp 67), (1, Go.Operand.tmp 70)], type := 69, pos := "fork.go:70", after := #[{ on := 5, ground := Go.Ground.data }, { on := 8, ground := Go.Ground.data }], guard := none }) (v := ?_) rfl (by kernel_rfl) (by kernel_rfl) (by kernel_rfl) (by kernel_rfl) (fun _ _ _ h => h) (Or.inl ⟨by rfl, ?_⟩) hHeld ?_
  rotate_left 1
  · (intro w hSw; (try dsimp only at hSw); go_simp; first | done | with_reducible rfl)
  try simp only [Act.put, List.setIfInBounds_toArray, List.set_cons_zero, List.set_cons_succ]
  refine Bz.wpAnyE_ready (rs := [10]) (by kernel_rfl) (by simp) ?_
  refine Bz.AllReadyE.cons (o := { dst := none, op := Go.Op.mapUpdate 70 (Go.Operand.tmp 65) (Go.Operand.tmp 66) (Go.Operand.tmp 71), type := 0, pos := "fork.go:70", after := #[{ on := 3, ground := Go.Ground.data }, { on := 4, ground := Go.Ground.data }, { on := 9, ground := Go.Ground.data }, { on := 0, ground := Go.Ground.phase }, { on := 1, ground := Go.Ground.phase }, { on := 2, ground := Go.Ground.phase }, { on := 3, ground := Go.Ground.phase }, { on := 4, ground := Go.Ground.phase }, { on := 5, ground := Go.Ground.phase }, { on := 6, ground := Go.Ground.phase }, { on := 7, ground := Go.Ground.phase }, { on := 8, ground := Go.Ground.phase }, { on := 9, ground := Go.Ground.phase }], guard := none }) rfl (fun K hK => ?_) Bz.AllReadyE.nil
  go_simp
  refine hK.out _ _ (by exact ⟨ct.cell, c0.cell, c1.cell, c9.cell⟩) ?_
  clear hHeld hK K; intro hHeld
  try simp only [Act.put, List.setIfInBounds_toArray, List.set_cons_zero, List.set_cons_succ]
  refine Bz.wpAnyE_done (by kernel_rfl) ?_ _
  refine NoPanic.normal ?_
  
  clear hHeld hA1 h9 hrun hM7 hK7
  have hxt : x ≠ T.tip := fun e => by subst e; have := hT.tip_is; rw [hx] at this; cases this
  have hh := T.put_height x p T.tip hxt
  go_wp2
  refine wp_region_noPanic ?_
  refine Bz.wp_region_E (S := (fun w' => (∀ i, w'.cell? ⟨t, i, none⟩ = (tcells T mb)[i]?) ∧ (∀ i, w'.cell? ⟨w.heap.size + 1 + 1 + 1, i, none⟩ = (benc (T.get p)).cells[i]?))) (E := []) (by kernel_rfl) (by exact ⟨ct.cell, c9.cell⟩) (fun hHeld => ?_)
  refine Bz.wpAnyE_take (i := 0) (oi := { dst := some 72, op := Go.Op.fieldAddr 69 (Go.Operand.tmp 9) 1, type := 0, pos := "fork.go:71", after := #[], guard := none }) (v := ?_) rfl (by kernel_rfl) (by kernel_rfl) (by kernel_rfl) (by kernel_rfl) (fun _ _ _ h => h) (Or.inl ⟨by rfl, ?_⟩) hHeld ?_
  rotate_left 1
  · (intro w hSw; (try dsimp only at hSw); go_simp; first | done | with_reducible rfl)
  try simp only [Act.put, List.setIfInBounds_toArray, List.set_cons_zero, List.set_cons_succ]
  refine Bz.wpAnyE_take (i := 1) (oi := { dst := some 73, op := Go.Op.load 3 (Go.Operand.tmp 72), type := 3, pos := "fork.go:71", after := #[{ on := 0, ground := Go.Ground.data }], guard := none }) (v := ?_) rfl (by kernel_rfl) (by kernel_rfl) (by kernel_rfl) (by kernel_rfl) (fun _ _ _ h => h) (Or.inl ⟨by rfl, ?_⟩) hHeld ?_
  rotate_left 1
  · (intro w hSw; (try dsimp only at hSw); go_simp; first | done | with_reducible rfl)
  try simp only [Act.put, List.setIfInBounds_toArray, List.set_cons_zero, List.set_cons_succ]
  refine Bz.wpAnyE_take (i := 2) (oi := { dst := some 74, op := Go.Op.binOp Go.BinOp.add 3 (Go.Operand.tmp 73) (Go.Operand.const (Go.Value.int Go.IntKind.i64 1)) 3, type := 3, pos := "fork.go:71", after := #[{ on := 1, ground := Go.Ground.data }], guard := none }) (v := ?_) rfl (by kernel_rfl) (by kernel_rfl) (by kernel_rfl) (by kernel_rfl) (fun _ _ _ h => h) (Or.inl ⟨by rfl, ?_⟩) hHeld ?_
  rotate_left 1
  · (intro w hSw; (try dsimp only at hSw); go_simp; first | done | with_reducible rfl)
  try simp only [Act.put, List.setIfInBounds_toArray, List.set_cons_zero, List.set_cons_succ]
  refine Bz.wpAnyE_take (i := 3) (oi := { dst := some 75, op := Go.Op.move (Go.Operand.tmp 0), type := 24, pos := "fork.go:71", after := #[], guard := none }) (v := ?_) rfl (by kernel_rfl) (by kernel_rfl) (by kernel_rfl) (by kernel_rfl) (fun _ _ _ h => h) (Or.inl ⟨by rfl, ?_⟩) hHeld ?_
  rotate_left 1
  · (intro w hSw; (try dsimp only at hSw); go_simp; first | done | with_reducible rfl)
  try simp only [Act.put, List.setIfInBounds_toArray, List.set_cons_zero, List.set_cons_succ]
  refine Bz.wpAnyE_take (i := 4) (oi := { dst := some 76, op := Go.Op.move (Go.Operand.tmp 0), type := 24, pos := "fork.go:71", after := #[], guard := none }) (v := ?_) rfl (by kernel_rfl) (by kernel_rfl) (by kernel_rfl) (by kernel_rfl) (fun _ _ _ h => h) (Or.inl ⟨by rfl, ?_⟩) hHeld ?_
  rotate_left 1
  · (intro w hSw; (try dsimp only at hSw); go_simp; first | done | with_reducible rfl)
  try simp only [Act.put, List.setIfInBounds_toArray, List.set_cons_zero, List.set_cons_succ]
  refine Bz.wpAnyE_take (i := 5) (oi := { dst := some 77, op := Go.Op.nilCheck (Go.Operand.tmp 76), type := 0, pos := "fork.go:71", after := #[{ on := 4, ground := Go.Ground.data }], guard := none }) (v := ?_) rfl (by kernel_rfl) (by kernel_rfl) (by kernel_rfl) (by kernel_rfl) (fun _ _ _ h => h) (Or.inl ⟨by rfl, ?_⟩) hHeld ?_
  rotate_left 1
  · (intro w hSw; (try dsimp only at hSw); go_simp; first | done | with_reducible rfl)
  try simp only [Act.put, List.setIfInBounds_toArray, List.set_cons_zero, List.set_cons_succ]
  refine Bz.wpAnyE_take (i := 6) (oi := { dst := some 78, op := Go.Op.fieldAddr 72 (Go.Operand.tmp 77) 1, type := 0, pos := "fork.go:71", after := #[{ on := 5, ground := Go.Ground.data }], guard := none }) (v := ?_) rfl (by kernel_rfl) (by kernel_rfl) (by kernel_rfl) (by kernel_rfl) (fun _ _ _ h => h) (Or.inl ⟨by rfl, ?_⟩) hHeld ?_
  rotate_left 1
  · (intro w hSw; (try dsimp only at hSw); go_simp; first | done | with_reducible rfl)
  try simp only [Act.put, List.setIfInBounds_toArray, List.set_cons_zero, List.set_cons_succ]
  refine Bz.wpAnyE_take (i := 7) (oi := { dst := some 79, op := Go.Op.load 29 (Go.Operand.tmp 78), type := 29, pos := "fork.go:71", after := #[{ on := 6, ground := Go.Ground.data }], guard := none }) (v := ?_) rfl (by kernel_rfl) (by kernel_rfl) (by kernel_rfl) (by kernel_rfl) (fun _ _ _ h => h) (Or.inl ⟨by rfl, ?_⟩) hHeld ?_
  rotate_left 1
  · (intro w hSw; (try dsimp only at hSw); go_simp; first | done | with_reducible rfl)
  try simp only [Act.put, List.setIfInBounds_toArray, List.set_cons_zero, List.set_cons_succ]
  refine Bz.wpAnyE_ready (rs := [8]) (by kernel_rfl) (by simp) ?_
  refine Bz.AllReadyE.cons (o := { dst := some 80, op := Go.Op.call { callee := Go.Callee.value (Go.Operand.func 16), args := #[Go.Operand.tmp 75, Go.Operand.tmp 79], argTypes := #[24, 29] }, type := 3, pos := "fork.go:71", after := #[{ on := 3, ground := Go.Ground.data }, { on := 7, ground := Go.Ground.data }], guard := none }) rfl (fun K hK => ?_) Bz.AllReadyE.nil
  go_simp
  
  refine (height_any hT7.drew T.tip).mono ?_
  rw [hh]
  rintro e w8 ⟨rfl, hk8⟩
  have ct := ct.keep hk8.undrew (by simp)
  have c9 := c9.keep hk8.undrew (by simp)
  refine hK.out _ _ (by exact ⟨ct.cell, c9.cell⟩) ?_
  clear hHeld hK K; intro hHeld
  try simp only [Act.put, List.setIfInBounds_toArray, List.set_cons_zero, List.set_cons_succ]
  refine Bz.wpAnyE_take (i := 9) (oi := { dst := some 81, op := Go.Op.binOp Go.BinOp.gtr 3 (Go.Operand.tmp 74) (Go.Operand.tmp 80) 3, type := 4, pos := "fork.go:71", after := #[{ on := 2, ground := Go.Ground.data }, { on := 8, ground := Go.Ground.data }], guard := none }) (v := ?_) rfl (by kernel_rfl) (by kernel_rfl) (by kernel_rfl) (by kernel_rfl) (fun _ _ _ h => h) (Or.inl ⟨by rfl, ?_⟩) hHeld ?_
  rotate_left 1
  · (intro w hSw; (try dsimp only at hSw); go_simp; first | done | with_reducible rfl)
  try simp only [Act.put, List.setIfInBounds_toArray, List.set_cons_zero, List.set_cons_succ]
  refine Bz.wpAnyE_done (by kernel_rfl) ?_ _
  refine NoPanic.normal ?_
  
  clear hHeld
  have hT8 := hT7.keep0 hk8.undrew
  have c08 := c0.keep hk8.undrew (by simp)
  have c8 := c08.cell
  have hKb := hKa.trans hk8.undrew.sub
  have tc := hT8.1.cell
  have tf := hT8.1.frozen
  clear hT7 ct c9 c0 c1 hKa hk8
  by_cases hgt : T.height T.tip < (T.get p).2 + 1
  · go_wp2
    go_ret
    have e : T.added x p = { T.put x p with tip := x } := by unfold FT.added FT.put; rw [if_pos (by rw [← (hgt_bd hT).1]; exact hgt)]
    rw [e]
    exact ⟨rfl, put_tip hT8 x, keep_tip hKb x⟩
  · go_wp2
    go_ret
    refine ⟨rfl, ?_, hKb⟩
    have : T.added x p = T.put x p := by unfold FT.added FT.put; rw [if_neg (by rw [← (hgt_bd hT).1]; omega)]
    rw [this]; exact hT8
end Go.Proofs.Ytbkchniomhdieaa
