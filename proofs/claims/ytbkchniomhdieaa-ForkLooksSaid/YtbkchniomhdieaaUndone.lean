/- fork.Tree.Undone and Final walked. -/
import Derived.Test.YtbkchniomhdieaaLine
import Derived.Test.YtbkchniomhdieaaBelow
namespace Go.Proofs.Ytbkchniomhdieaa
open Go.RowKit Go.Bz

theorem undone_none {t mb : Nat} {T : FT} {w : World} (h : TreeAt w t mb T) (hT : T.WF) (x y : D8) (hx : ¬ (T.is x = true ∧ T.is y = true)) :
    Calls Try.prog 15 #[.pointer (some ⟨t, 0, none⟩), dv x, dv y] w (fun e w' => e = .returned (.slice none 0 0) ∧ Keep [] w w') := by
  by_cases h1 : T.is x = true
  · have h2 : T.is y = false := by cases hh : T.is y with
      | false => rfl
      | true => exact absurd ⟨h1, hh⟩ hx
    have hh1 : T.height x = (T.get x).2 := by simp [FT.height, h1]
    have hh2 : T.height y = -1 := by simp [FT.height, h2]
    have hn := (hT.nonneg h1).1
    clear h1 h2 hx
    go_enter Try.func15, Try.ntmps15
    go_wp2_with fail
    refine (height_any ((h.alloc _).alloc _) _).mono ?_
    rw [hh1]
    rintro e w1 ⟨rfl, hk1⟩
    have b1 := (((Blk.new w 29 (dcells x)).alloc (.cells (dcells y) 29)).keep hk1 (by simp)).cell
    have b2 := ((Blk.new_ (w := w.alloc (.cells (dcells x) 29)) (t := 29) (cs := dcells y) (g := w.heap.size + 1) (by simp)).keep hk1 (by simp)).cell
    go_wp2_with fail
    refine (height_any (((h.alloc _).alloc _).keep0 hk1) _).mono ?_
    rw [hh2]
    rintro e w2 ⟨rfl, hk2⟩
    go_wp2
    go_ret
    exact ⟨rfl, ((((Keep.refl _ _).alloc _).alloc _).trans hk1).trans hk2⟩
  · have h1 : T.is x = false := by cases hh : T.is x with
      | false => rfl
      | true => exact absurd hh h1
    have hh1 : T.height x = -1 := by simp [FT.height, h1]
    clear h1 hx
    go_enter Try.func15, Try.ntmps15
    go_wp2_with fail
    refine (height_any ((h.alloc _).alloc _) _).mono ?_
    rw [hh1]
    rintro e w1 ⟨rfl, hk1⟩
    go_wp2
    go_ret
    exact ⟨rfl, (((Keep.refl _ _).alloc _).alloc _).trans hk1⟩
set_option maxHeartbeats 1000000 in
theorem undone_any {t mb : Nat} {T : FT} {w : World} (h : TreeAt w t mb T) (hT : T.WF) (x y : D8) (hx : T.is x = true) (hy : T.is y = true) :
    Calls Try.prog 15 #[.pointer (some ⟨t, 0, none⟩), dv x, dv y] w (fun e w' => (∃ v, e = .returned v ∧ Sl w' 29 8 dcells v (T.undone x y)) ∧ Keep [] w w') := by
  have hh1 : T.height x = (T.get x).2 := by simp [FT.height, hx]
  have hh2 : T.height y = (T.get y).2 := by simp [FT.height, hy]
  have hn1 := (hT.nonneg hx).1
  have hn2 := (hT.nonneg hy).1
  have hcl := (common_le (T.line x) (T.line y)).1
  have hll := hT.line_lt hx
  have hund : T.undone x y = ((T.line x).drop (common (T.line x) (T.line y))).reverse := by unfold FT.undone; rw [if_pos ⟨hx, hy⟩]
  have hwr : IntKind.i64.wrap (T.below x y + 1) = (common (T.line x) (T.line y) : Int) := by unfold FT.below; rw [IntWalk.i64_in _ (by omega)]; omega
  have HU := Lib.hid hund
  clear hund
  go_enter Try.func15, Try.ntmps15
  go_wp2_with fail
  refine (height_any ((h.alloc _).alloc _) _).mono ?_
  rw [hh1]
  rintro e w1 ⟨rfl, hk1⟩
  have B1 := (((Blk.new w 29 (dcells x)).alloc (.cells (dcells y) 29)).keep hk1 (by simp))
  have B2 := ((Blk.new_ (w := w.alloc (.cells (dcells x) 29)) (t := 29) (cs := dcells y) (g := w.heap.size + 1) (by simp)).keep hk1 (by simp))
  have b1 := B1.cell
  have b2 := B2.cell
  have hT1 := ((h.alloc (.cells (dcells x) 29)).alloc (.cells (dcells y) 29)).keep0 hk1
  have hK1 := (((Keep.refl [] w).alloc (.cells (dcells x) 29)).alloc (.cells (dcells y) 29)).trans hk1
  go_wp2_with fail
  refine (height_any hT1 _).mono ?_
  rw [hh2]
  rintro e w2 ⟨rfl, hk2⟩
  have hT2 := hT1.keep0 hk2
  have B1 := B1.keep hk2 (by simp)
  have B2 := B2.keep hk2 (by simp)
  have hK2 := hK1.trans hk2
  have b1 := B1.cell
  have b2 := B2.cell
  clear hk1 hk2 hT1 hK1 hh1 hh2 h
  go_wp2_with fail
  refine wp_region_noPanic ?_
  refine Bz.wp_region_E (S := (fun w' => (∀ i, w'.cell? ⟨w.heap.size, i, none⟩ = (dcells x)[i]?) ∧ (∀ i, w'.cell? ⟨w.heap.size + 1, i, none⟩ = (dcells y)[i]?))) (E := []) (by kernel_rfl) (by exact ⟨b1, b2⟩) (fun hHeld => ?_)
  refine Bz.wpAnyE_take (i := 0) (oi := { dst := some 18, op := Go.Op.move (Go.Operand.tmp 0), type := 24, pos := "fork.go:133", after := #[], guard := none }) (v := ?_) rfl (by kernel_rfl) (by kernel_rfl) (by kernel_rfl) (by kernel_rfl) (fun _ _ _ h => h) (Or.inl ⟨by rfl, ?_⟩) hHeld ?_
  rotate_left 1
  · (intro w hSw; (try dsimp only at hSw); go_simp; first | done | with_reducible rfl)
  try simp only [Act.put, List.setIfInBounds_toArray, List.set_cons_zero, List.set_cons_succ]
  refine Bz.wpAnyE_take (i := 1) (oi := { dst := some 19, op := Go.Op.load 29 (Go.Operand.tmp 4), type := 29, pos := "fork.go:133", after := #[], guard := none }) (v := ?_) rfl (by kernel_rfl) (by kernel_rfl) (by kernel_rfl) (by kernel_rfl) (fun _ _ _ h => h) (Or.inl ⟨by rfl, ?_⟩) hHeld ?_
  rotate_left 1
  · (intro w hSw; (try dsimp only at hSw); go_simp; first | done | with_reducible rfl)
  try simp only [Act.put, List.setIfInBounds_toArray, List.set_cons_zero, List.set_cons_succ]
  refine Bz.wpAnyE_take (i := 3) (oi := { dst := some 21, op := Go.Op.move (Go.Operand.tmp 0), type := 24, pos := "fork.go:133", after := #[], guard := none }) (v := ?_) rfl (by kernel_rfl) (by kernel_rfl) (by kernel_rfl) (by kernel_rfl) (fun _ _ _ h => h) (Or.inl ⟨by rfl, ?_⟩) hHeld ?_
  rotate_left 1
  · (intro w hSw; (try dsimp only at hSw); go_simp; first | done | with_reducible rfl)
  try simp only [Act.put, List.setIfInBounds_toArray, List.set_cons_zero, List.set_cons_succ]
  refine Bz.wpAnyE_take (i := 4) (oi := { dst := some 22, op := Go.Op.load 29 (Go.Operand.tmp 4), type := 29, pos := "fork.go:133", after := #[], guard := none }) (v := ?_) rfl (by kernel_rfl) (by kernel_rfl) (by kernel_rfl) (by kernel_rfl) (fun _ _ _ h => h) (Or.inl ⟨by rfl, ?_⟩) hHeld ?_
  rotate_left 1
  · (intro w hSw; (try dsimp only at hSw); go_simp; first | done | with_reducible rfl)
  try simp only [Act.put, List.setIfInBounds_toArray, List.set_cons_zero, List.set_cons_succ]
  refine Bz.wpAnyE_take (i := 5) (oi := { dst := some 23, op := Go.Op.load 29 (Go.Operand.tmp 5), type := 29, pos := "fork.go:133", after := #[], guard := none }) (v := ?_) rfl (by kernel_rfl) (by kernel_rfl) (by kernel_rfl) (by kernel_rfl) (fun _ _ _ h => h) (Or.inl ⟨by rfl, ?_⟩) hHeld ?_
  rotate_left 1
  · (intro w hSw; (try dsimp only at hSw); go_simp; first | done | with_reducible rfl)
  try simp only [Act.put, List.setIfInBounds_toArray, List.set_cons_zero, List.set_cons_succ]
  refine Bz.wpAnyE_ready (rs := [2]) (by kernel_rfl) (by simp) ?_
  refine Bz.AllReadyE.cons (o := { dst := some 20, op := Go.Op.call { callee := Go.Callee.value (Go.Operand.func 18), args := #[Go.Operand.tmp 18, Go.Operand.tmp 19], argTypes := #[24, 29] }, type := 36, pos := "fork.go:133", after := #[{ on := 0, ground := Go.Ground.data }, { on := 1, ground := Go.Ground.data }], guard := none }) rfl (fun K hK => ?_) Bz.AllReadyE.nil
  go_simp
  
  refine (line_any hT2.drew hT x hx).mono ?_
  rintro e w3 ⟨⟨g, cap, rfl, hg, hcap, hm, hsl⟩, hk3⟩
  have hk3 := hk3.undrew
  have hT3 := hT2.keep0 hk3
  have B1 := B1.keep hk3 (by simp)
  have B2 := B2.keep hk3 (by simp)
  have hK3 := hK2.trans hk3
  refine hK.out _ _ (by exact ⟨B1.cell, B2.cell⟩) ?_
  clear hHeld hK K; intro hHeld
  try simp only [Act.put, List.setIfInBounds_toArray, List.set_cons_zero, List.set_cons_succ]
  refine Bz.wpAnyE_ready (rs := [6]) (by kernel_rfl) (by simp) ?_
  refine Bz.AllReadyE.cons (o := { dst := some 24, op := Go.Op.call { callee := Go.Callee.value (Go.Operand.func 32), args := #[Go.Operand.tmp 21, Go.Operand.tmp 22, Go.Operand.tmp 23], argTypes := #[24, 29, 29] }, type := 3, pos := "fork.go:133", after := #[{ on := 3, ground := Go.Ground.data }, { on := 4, ground := Go.Ground.data }, { on := 5, ground := Go.Ground.data }, { on := 2, ground := Go.Ground.chain }], guard := none }) rfl (fun K hK => ?_) Bz.AllReadyE.nil
  go_simp
  
  refine (below_any hT3 hT x y hx hy).mono ?_
  rintro e w4 ⟨rfl, hk4⟩
  have B1 := B1.keep hk4 (by simp)
  have B2 := B2.keep hk4 (by simp)
  have hsl := hsl.keep hk4 (by simp)
  have hK4 := hK3.trans hk4
  refine hK.out _ _ (by exact ⟨B1.cell, B2.cell⟩) ?_
  clear hHeld hK K; intro hHeld
  try simp only [Act.put, List.setIfInBounds_toArray, List.set_cons_zero, List.set_cons_succ]
  refine Bz.wpAnyE_take (i := 7) (oi := { dst := some 25, op := Go.Op.binOp Go.BinOp.add 3 (Go.Operand.tmp 24) (Go.Operand.const (Go.Value.int Go.IntKind.i64 1)) 3, type := 3, pos := "fork.go:133", after := #[{ on := 6, ground := Go.Ground.data }], guard := none }) (v := ?_) rfl (by kernel_rfl) (by kernel_rfl) (by kernel_rfl) (by kernel_rfl) (fun _ _ _ h => h) (Or.inl ⟨by rfl, ?_⟩) hHeld ?_
  rotate_left 1
  · (intro w hSw; (try dsimp only at hSw); go_simp; first | done | with_reducible rfl)
  try simp only [Act.put, List.setIfInBounds_toArray, List.set_cons_zero, List.set_cons_succ]
  refine Bz.wpAnyE_take (i := 8) (oi := { dst := some 26, op := Go.Op.slice 36 (Go.Operand.tmp 20) (some (Go.Operand.tmp 25)) none none, type := 36, pos := "fork.go:133", after := #[{ on := 2, ground := Go.Ground.data }, { on := 7, ground := Go.Ground.data }], guard := none }) (v := ?_) rfl (by kernel_rfl) (by kernel_rfl) (by kernel_rfl) (by kernel_rfl) (fun _ _ _ h => h) (Or.inl ⟨by rfl, ?_⟩) hHeld ?_
  rotate_left 1
  · (intro w hSw; (try dsimp only at hSw); go_simp; first | done | with_reducible rfl)
  try simp only [Act.put, List.setIfInBounds_toArray, List.set_cons_zero, List.set_cons_succ]
  refine Bz.wpAnyE_take (i := 9) (oi := { dst := some 7, op := Go.Op.assign (Go.Operand.tmp 26), type := 36, pos := "fork.go:133", after := #[{ on := 8, ground := Go.Ground.data }, { on := 6, ground := Go.Ground.chain }, { on := 0, ground := Go.Ground.phase }, { on := 1, ground := Go.Ground.phase }, { on := 2, ground := Go.Ground.phase }, { on := 3, ground := Go.Ground.phase }, { on := 4, ground := Go.Ground.phase }, { on := 5, ground := Go.Ground.phase }, { on := 6, ground := Go.Ground.phase }, { on := 7, ground := Go.Ground.phase }, { on := 8, ground := Go.Ground.phase }], guard := none }) (v := ?_) rfl (by kernel_rfl) (by kernel_rfl) (by kernel_rfl) (by kernel_rfl) (fun _ _ _ h => h) (Or.inl ⟨by rfl, ?_⟩) hHeld ?_
  rotate_left 1
  · (intro w hSw; (try dsimp only at hSw); go_simp; first | done | with_reducible rfl)
  try simp only [Act.put, List.setIfInBounds_toArray, List.set_cons_zero, List.set_cons_succ]
  refine Bz.wpAnyE_done (by kernel_rfl) ?_ _
  refine NoPanic.normal ?_
  
  go_wp2_with fail
  all_goals
    clear hHeld b1 b2
    by_cases hz : (T.line x).length = common (T.line x) (T.line y)
    · have hdr : (T.line x).drop (common (T.line x) (T.line y)) = [] := List.drop_eq_nil_of_le (by omega)
      rw [show (T.line x).length - common (T.line x) (T.line y) = 0 by omega]
      refine (reverse_empty _ _ _).mono ?_
      rintro e w5 ⟨rfl, rfl⟩
      go_wp2
      go_ret
      refine ⟨⟨_, rfl, ?_⟩, hK4⟩
      rw [HU.out, hdr]
      exact ⟨_, _, rfl, by simp, by omega, fun h => absurd rfl h⟩
    · first
        | (exfalso; omega)
        | (have hdl : ((T.line x).drop (common (T.line x) (T.line y))).length = (T.line x).length - common (T.line x) (T.line y) := List.length_drop ..
           have hsd := hsl.drop (common (T.line x) (T.line y))
           have hne : (T.line x).drop (common (T.line x) (T.line y)) ≠ [] := by intro hh; rw [hh] at hdl; simp at hdl; omega
           have hrv := reverse_any (cap := cap - common (T.line x) (T.line y)) hne hsd (by omega) (by omega)
           rw [hdl, Nat.zero_add] at hrv
           refine hrv.mono ?_
           rintro e w5 ⟨rfl, hs5, hk5⟩
           go_wp2
           go_ret
           refine ⟨⟨_, rfl, ?_⟩, hK4.andThen hk5 (fun k hk => .inr ?_)⟩
           · rw [HU.out]
             refine ⟨_, _, by rw [List.length_reverse, hdl]; rfl, by rw [List.length_reverse, hdl]; omega, by omega, fun _ => ⟨g, _, rfl, hs5⟩⟩
           · have : k = g := by simpa using hk
             rw [this]
             exact Nat.le_trans hK2.size hg)
end Go.Proofs.Ytbkchniomhdieaa
