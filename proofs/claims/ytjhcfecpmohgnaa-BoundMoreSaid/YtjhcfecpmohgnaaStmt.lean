/- What statements cost, walked. -/
import Derived.Test.YtjhcfecpmohgnaaExpr
import Derived.Test.YtjhcfecpmohgnaaDig
namespace Go.Proofs.Ytjhcfecpmohgnaa
open Go.RowKit Go.Bz

theorem k3 : KeyT Try.prog 3 (Value.int .i64) := keyT_int Try.underlying3
theorem costs_any (w : World) : Calls Try.prog 26 #[] w (fun e w' => ∃ m, e = .returned (.map (some m)) ∧ MapAt w' m (Value.int .i64) (Value.int .i64) costs ∧ Keep [] w w') := by
  have hmm := @run_makeMap Try.prog
  have m0 := MapAt.made w (Value.int .i64 : Int → Value) (Value.int .i64 : Int → Value)
  obtain ⟨w1, e1, m1, k1⟩ := m0.update k3 Try.underlying53 0 3
  obtain ⟨w2, e2, m2, k2⟩ := m1.update k3 Try.underlying53 1 6
  obtain ⟨w3, e3, m3, k3'⟩ := m2.update k3 Try.underlying53 2 3
  obtain ⟨w4, e4, m4, k4⟩ := m3.update k3 Try.underlying53 3 3
  obtain ⟨w5, e5, m5, k5⟩ := m4.update k3 Try.underlying53 4 2
  obtain ⟨w6, e6, m6, k6⟩ := m5.update k3 Try.underlying53 7 2
  obtain ⟨w7, e7, m7, k7⟩ := m6.update k3 Try.underlying53 5 4
  obtain ⟨w8, e8, m8, k8⟩ := m7.update k3 Try.underlying53 6 3
  obtain ⟨w9, e9, m9, k9⟩ := m8.update k3 Try.underlying53 9 3
  obtain ⟨wa, ea, ma, ka⟩ := m9.update k3 Try.underlying53 8 8
  go_enter Try.func26, Try.ntmps26
  go_wp2_with fail
  go_ret
  refine ⟨_, rfl, ma, ?_⟩
  have hk : Keep [w.heap.size] (w.alloc (.map #[] 0)) wa := ((((((((k1.trans k2).trans k3').trans k4).trans k5).trans k6).trans k7).trans k8).trans k9).trans ka
  exact ((Keep.refl [] w).alloc _).andThen hk (by simp)
theorem rounds_any (lo hi : Int) (w : World) (hl : I64 lo) (hh : I64 hi) : Calls Try.prog 28 #[.int .i64 lo, .int .i64 hi] w (fun e w' => e = .returned (.int .i64 (roundsOf lo hi)) ∧ Keep [] w w') := by
  unfold I64 at hl hh
  by_cases h : hi < lo
  · have HR : Hid (roundsOf lo hi = 0) := Lib.hid (by unfold roundsOf; rw [if_pos h])
    go_enter Try.func28, Try.ntmps28
    go_wp2_with fail
    go_ret
    exact ⟨by rw [HR.out]; rfl, Keep.refl _ _⟩
  · have HR : Hid (roundsOf lo hi = (if 65536 < hi - lo then 65536 else hi - lo) + 1) := Lib.hid (by unfold roundsOf; rw [if_neg h])
    have h' : decide (hi < lo) = false := by simp; omega
    have HD : Hid (IntKind.u64.wrap (IntKind.u64.wrap hi - IntKind.u64.wrap lo) = hi - lo) := Lib.hid (by
      rw [IntKind.wrap_u64, IntKind.wrap_u64, IntKind.wrap_u64]; omega)
    go_enter Try.func28, Try.ntmps28
    go_wp2_with fail
    · go_ret
      rw [HD.out] at h
      refine ⟨ret_int ?_, Keep.refl _ _⟩
      rw [HR.out, if_pos h]
      unfold wrap64; omega
    · go_ret
      rw [HD.out] at h
      refine ⟨ret_int ?_, Keep.refl _ _⟩
      rw [HR.out, if_neg (by omega), HD.out]
      unfold wrap64; omega
/-- Block's contract, of statements no deeper than h. -/
def BlockOk (h : Nat) : Prop := ∀ (w : World) (V : Value) (cs : List Int), StL w h V cs → Calls Try.prog 12 #[V] w (fun e w' => e = .returned (.int .i64 (bcost cs)) ∧ Keep [] w w')
set_option maxRecDepth 100000 in
theorem inner_any {h : Nat} (IH : BlockOk h) {w : World} {r : SRaw} (hr : I64 r.lo ∧ I64 r.hi) (he : ∃ A cap, r.E = .slice A r.es.length cap) (hl : StL w h r.L r.ls) (hx : StL w h r.X r.xs) :
    Calls Try.prog 27 #[.agg (senc r)] w (fun e w' => e = .returned (.int .i64 (innerOf r.kind r.lo r.hi r.ls r.xs)) ∧ Keep [] w w') := by
  obtain ⟨kind, s, E, lo, hi, L, X, es, ls, xs⟩ := r
  obtain ⟨AE, cE, hE⟩ := he
  obtain ⟨AL, cL, hL⟩ := hl.sl
  obtain ⟨AX, cX, hX⟩ := hx.sl
  simp only at hE hL hX hl hx hr
  subst hE hL hX
  have hLr := loop_range (lo := lo) (hi := hi) hl.cs
  have hXr := bcost_range hx.cs
  have hBr := bcost_range hl.cs
  have bL := fun W (hk : Keep [] w W) => IH W _ _ (hl.keep hk)
  have bX := fun W (hk : Keep [] w W) => IH W _ _ (hx.keep hk)
  obtain ⟨bl, HL⟩ : ∃ t, Hid (t = bcost ls) := ⟨_, Lib.hid rfl⟩
  obtain ⟨bx, HX⟩ : ∃ t, Hid (t = bcost xs) := ⟨_, Lib.hid rfl⟩
  rw [← HL.out] at bL hLr hBr
  rw [← HX.out] at bX hXr
  clear hl hx
  obtain ⟨w1, hw1⟩ : ∃ W, W = w.alloc (.cells #[.int .i64 kind, .string s, .slice AE es.length cE, .int .i64 lo, .int .i64 hi, .slice AL ls.length cL, .slice AX xs.length cX] 28) := ⟨_, rfl⟩
  have B1 : Blk w1 w.heap.size 28 (senc ⟨kind, s, .slice AE es.length cE, lo, hi, .slice AL ls.length cL, .slice AX xs.length cX, es, ls, xs⟩) := by rw [hw1]; exact Blk.new _ _ _
  have hk1 : Keep [] w w1 := by rw [hw1]; exact (Keep.refl _ _).alloc _
  have FB := fun W (hk : Keep [] w1 W) => (B1.keep hk (by simp)).cell
  have bL := fun W (hk : Keep [] w1 W) => bL W (hk1.trans hk)
  have bX := fun W (hk : Keep [] w1 W) => bX W (hk1.trans hk)
  have c0 := FB w1 (Keep.refl _ _)
  by_cases h2 : kind = 2
  · subst h2
    have HI : Hid (innerOf 2 lo hi ls xs = imax bl bx) := Lib.hid (by unfold innerOf; rw [if_pos rfl, HL.out, HX.out])
    go_enter Try.func27, Try.ntmps27
    go_upto_region 1 with fail
    rw [← hw1]
    clear hw1
    go_upto_region 3 with fail
    clear c0
    refine wp_region_noPanic ?_
    refine Bz.wp_region_E (S := (fun w' => Keep [] w1 w')) (E := []) (by kernel_rfl) (by exact (Keep.refl _ _).drew) (fun hHeld => ?_)
    refine Bz.wpAnyE_take (i := 0) (oi := { dst := some 7, op := Go.Op.fieldAddr 28 (Go.Operand.tmp 1) 5, type := 0, pos := "bound.go:78", after := #[], guard := none }) (v := ?_) rfl (by kernel_rfl) (by kernel_rfl) (by kernel_rfl) (by kernel_rfl) (fun _ _ _ h => h) (Or.inl ⟨by rfl, ?_⟩) hHeld ?_
    rotate_left 1
    · (intro w hSw; have f0 := FB w hSw; go_simp; first | done | with_reducible rfl)
    try simp only [Act.put, List.setIfInBounds_toArray, List.set_cons_zero, List.set_cons_succ]
    refine Bz.wpAnyE_take (i := 1) (oi := { dst := some 8, op := Go.Op.load 25 (Go.Operand.tmp 7), type := 25, pos := "bound.go:78", after := #[{ on := 0, ground := Go.Ground.data }], guard := none }) (v := ?_) rfl (by kernel_rfl) (by kernel_rfl) (by kernel_rfl) (by kernel_rfl) (fun _ _ _ h => h) (Or.inl ⟨by rfl, ?_⟩) hHeld ?_
    rotate_left 1
    · (intro w hSw; have f0 := FB w hSw; go_simp; first | done | with_reducible rfl)
    try simp only [Act.put, List.setIfInBounds_toArray, List.set_cons_zero, List.set_cons_succ]
    refine Bz.wpAnyE_take (i := 3) (oi := { dst := some 10, op := Go.Op.fieldAddr 28 (Go.Operand.tmp 1) 6, type := 0, pos := "bound.go:78", after := #[], guard := none }) (v := ?_) rfl (by kernel_rfl) (by kernel_rfl) (by kernel_rfl) (by kernel_rfl) (fun _ _ _ h => h) (Or.inl ⟨by rfl, ?_⟩) hHeld ?_
    rotate_left 1
    · (intro w hSw; have f0 := FB w hSw; go_simp; first | done | with_reducible rfl)
    try simp only [Act.put, List.setIfInBounds_toArray, List.set_cons_zero, List.set_cons_succ]
    refine Bz.wpAnyE_take (i := 4) (oi := { dst := some 11, op := Go.Op.load 25 (Go.Operand.tmp 10), type := 25, pos := "bound.go:78", after := #[{ on := 3, ground := Go.Ground.data }], guard := none }) (v := ?_) rfl (by kernel_rfl) (by kernel_rfl) (by kernel_rfl) (by kernel_rfl) (fun _ _ _ h => h) (Or.inl ⟨by rfl, ?_⟩) hHeld ?_
    rotate_left 1
    · (intro w hSw; have f0 := FB w hSw; go_simp; first | done | with_reducible rfl)
    try simp only [Act.put, List.setIfInBounds_toArray, List.set_cons_zero, List.set_cons_succ]
    refine Bz.wpAnyE_ready (rs := [2]) (by kernel_rfl) (by simp) ?_
    refine Bz.AllReadyE.cons (o := { dst := some 9, op := Go.Op.call { callee := Go.Callee.value (Go.Operand.func 12), args := #[Go.Operand.tmp 8], argTypes := #[25] }, type := 3, pos := "bound.go:78", after := #[{ on := 1, ground := Go.Ground.data }], guard := none }) rfl (fun K hK => ?_) Bz.AllReadyE.nil
    go_simp
    
    refine (bL _ hHeld).mono ?_
    rintro e w5 ⟨rfl, hk5⟩
    refine hK.out _ _ (by exact hHeld.trans hk5) ?_
    clear hHeld hK K; intro hHeld
    try simp only [Act.put, List.setIfInBounds_toArray, List.set_cons_zero, List.set_cons_succ]
    refine Bz.wpAnyE_ready (rs := [5]) (by kernel_rfl) (by simp) ?_
    refine Bz.AllReadyE.cons (o := { dst := some 12, op := Go.Op.call { callee := Go.Callee.value (Go.Operand.func 12), args := #[Go.Operand.tmp 11], argTypes := #[25] }, type := 3, pos := "bound.go:78", after := #[{ on := 4, ground := Go.Ground.data }, { on := 2, ground := Go.Ground.chain }], guard := none }) rfl (fun K hK => ?_) Bz.AllReadyE.nil
    go_simp
    
    refine (bX _ hHeld).mono ?_
    rintro e w5 ⟨rfl, hk5⟩
    refine hK.out _ _ (by exact hHeld.trans hk5) ?_
    clear hHeld hK K; intro hHeld
    try simp only [Act.put, List.setIfInBounds_toArray, List.set_cons_zero, List.set_cons_succ]
    refine Bz.wpAnyE_take (i := 6) (oi := { dst := some 13, op := Go.Op.call { callee := Go.Callee.builtin Go.Builtin.max, args := #[Go.Operand.tmp 9, Go.Operand.tmp 12], argTypes := #[3, 3] }, type := 3, pos := "bound.go:78", after := #[{ on := 2, ground := Go.Ground.data }, { on := 5, ground := Go.Ground.data }], guard := none }) (v := ?_) rfl (by kernel_rfl) (by kernel_rfl) (by kernel_rfl) (by kernel_rfl) (fun _ _ _ h => h) (Or.inl ⟨by rfl, ?_⟩) hHeld ?_
    rotate_left 1
    · (intro w hSw; have f0 := FB w hSw; go_simp; first | done | with_reducible rfl)
    try simp only [Act.put, List.setIfInBounds_toArray, List.set_cons_zero, List.set_cons_succ]
    refine Bz.wpAnyE_take (i := 7) (oi := { dst := some 2, op := Go.Op.assign (Go.Operand.tmp 13), type := 3, pos := "bound.go:78", after := #[{ on := 6, ground := Go.Ground.data }, { on := 5, ground := Go.Ground.chain }, { on := 0, ground := Go.Ground.phase }, { on := 1, ground := Go.Ground.phase }, { on := 2, ground := Go.Ground.phase }, { on := 3, ground := Go.Ground.phase }, { on := 4, ground := Go.Ground.phase }, { on := 5, ground := Go.Ground.phase }, { on := 6, ground := Go.Ground.phase }], guard := none }) (v := ?_) rfl (by kernel_rfl) (by kernel_rfl) (by kernel_rfl) (by kernel_rfl) (fun _ _ _ h => h) (Or.inl ⟨by rfl, ?_⟩) hHeld ?_
    rotate_left 1
    · (intro w hSw; have f0 := FB w hSw; go_simp; first | done | with_reducible rfl)
    try simp only [Act.put, List.setIfInBounds_toArray, List.set_cons_zero, List.set_cons_succ]
    refine Bz.wpAnyE_done (by kernel_rfl) ?_ _
    refine NoPanic.normal ?_
    
    all_goals (go_wp2_with fail; all_goals (go_ret; exact ⟨ret_int (by rw [HI.out]; unfold imax; split <;> omega), hk1.trans hHeld⟩))
  by_cases h3 : kind = 3
  · subst h3
    clear h2
    have HI : Hid (innerOf 3 lo hi ls xs = top (roundsOf lo hi * top (4 + bl))) := Lib.hid (by unfold innerOf; rw [if_neg (by decide), if_pos rfl, HL.out])
    have cR := fun W => rounds_any lo hi W hr.1 hr.2
    obtain ⟨ro, HRo⟩ : ∃ t, Hid (t = roundsOf lo hi) := ⟨_, Lib.hid rfl⟩
    obtain ⟨ea, HEa⟩ : ∃ t, Hid (t = top (4 + bl)) := ⟨_, Lib.hid rfl⟩
    have cC1 := fun W => cut_any (4 + bl) W
    rw [← HEa.out, ← HRo.out] at hLr
    rw [← HEa.out] at cC1
    rw [← HRo.out] at cR
    rw [← HEa.out, ← HRo.out] at HI
    have cC2 := fun W => cut_any (ro * ea) W
    rw [← HI.out] at cC2
    obtain ⟨re, HRe⟩ : ∃ t, Hid (t = innerOf 3 lo hi ls xs) := ⟨_, Lib.hid rfl⟩
    rw [← HRe.out] at cC2 ⊢
    have q1 : IntKind.i64.wrap (4 + bl) = 4 + bl := IntWalk.i64_in _ (by omega)
    have q2 : IntKind.i64.wrap (ro * ea) = ro * ea := IntWalk.i64_in _ (by obtain ⟨_, _, ha, hb⟩ := hLr; omega)
    clear hLr
    go_enter Try.func27, Try.ntmps27
    go_upto_region 1 with fail
    rw [← hw1]
    clear hw1
    go_upto_region 5 with fail
    clear c0
    refine wp_region_noPanic ?_
    refine Bz.wp_region_E (S := (fun w' => Keep [] w1 w')) (E := []) (by kernel_rfl) (by exact (Keep.refl _ _).drew) (fun hHeld => ?_)
    refine Bz.wpAnyE_take (i := 0) (oi := { dst := some 16, op := Go.Op.fieldAddr 28 (Go.Operand.tmp 1) 3, type := 0, pos := "bound.go:80", after := #[], guard := none }) (v := ?_) rfl (by kernel_rfl) (by kernel_rfl) (by kernel_rfl) (by kernel_rfl) (fun _ _ _ h => h) (Or.inl ⟨by rfl, ?_⟩) hHeld ?_
    rotate_left 1
    · (intro w hSw; have f0 := FB w hSw; go_simp; first | done | with_reducible rfl)
    try simp only [Act.put, List.setIfInBounds_toArray, List.set_cons_zero, List.set_cons_succ]
    refine Bz.wpAnyE_take (i := 1) (oi := { dst := some 17, op := Go.Op.load 3 (Go.Operand.tmp 16), type := 3, pos := "bound.go:80", after := #[{ on := 0, ground := Go.Ground.data }], guard := none }) (v := ?_) rfl (by kernel_rfl) (by kernel_rfl) (by kernel_rfl) (by kernel_rfl) (fun _ _ _ h => h) (Or.inl ⟨by rfl, ?_⟩) hHeld ?_
    rotate_left 1
    · (intro w hSw; have f0 := FB w hSw; go_simp; first | done | with_reducible rfl)
    try simp only [Act.put, List.setIfInBounds_toArray, List.set_cons_zero, List.set_cons_succ]
    refine Bz.wpAnyE_take (i := 2) (oi := { dst := some 18, op := Go.Op.fieldAddr 28 (Go.Operand.tmp 1) 4, type := 0, pos := "bound.go:80", after := #[], guard := none }) (v := ?_) rfl (by kernel_rfl) (by kernel_rfl) (by kernel_rfl) (by kernel_rfl) (fun _ _ _ h => h) (Or.inl ⟨by rfl, ?_⟩) hHeld ?_
    rotate_left 1
    · (intro w hSw; have f0 := FB w hSw; go_simp; first | done | with_reducible rfl)
    try simp only [Act.put, List.setIfInBounds_toArray, List.set_cons_zero, List.set_cons_succ]
    refine Bz.wpAnyE_take (i := 3) (oi := { dst := some 19, op := Go.Op.load 3 (Go.Operand.tmp 18), type := 3, pos := "bound.go:80", after := #[{ on := 2, ground := Go.Ground.data }], guard := none }) (v := ?_) rfl (by kernel_rfl) (by kernel_rfl) (by kernel_rfl) (by kernel_rfl) (fun _ _ _ h => h) (Or.inl ⟨by rfl, ?_⟩) hHeld ?_
    rotate_left 1
    · (intro w hSw; have f0 := FB w hSw; go_simp; first | done | with_reducible rfl)
    try simp only [Act.put, List.setIfInBounds_toArray, List.set_cons_zero, List.set_cons_succ]
    refine Bz.wpAnyE_take (i := 5) (oi := { dst := some 21, op := Go.Op.fieldAddr 28 (Go.Operand.tmp 1) 5, type := 0, pos := "bound.go:80", after := #[], guard := none }) (v := ?_) rfl (by kernel_rfl) (by kernel_rfl) (by kernel_rfl) (by kernel_rfl) (fun _ _ _ h => h) (Or.inl ⟨by rfl, ?_⟩) hHeld ?_
    rotate_left 1
    · (intro w hSw; have f0 := FB w hSw; go_simp; first | done | with_reducible rfl)
    try simp only [Act.put, List.setIfInBounds_toArray, List.set_cons_zero, List.set_cons_succ]
    refine Bz.wpAnyE_take (i := 6) (oi := { dst := some 22, op := Go.Op.load 25 (Go.Operand.tmp 21), type := 25, pos := "bound.go:80", after := #[{ on := 5, ground := Go.Ground.data }], guard := none }) (v := ?_) rfl (by kernel_rfl) (by kernel_rfl) (by kernel_rfl) (by kernel_rfl) (fun _ _ _ h => h) (Or.inl ⟨by rfl, ?_⟩) hHeld ?_
    rotate_left 1
    · (intro w hSw; have f0 := FB w hSw; go_simp; first | done | with_reducible rfl)
    try simp only [Act.put, List.setIfInBounds_toArray, List.set_cons_zero, List.set_cons_succ]
    refine Bz.wpAnyE_ready (rs := [4]) (by kernel_rfl) (by simp) ?_
    refine Bz.AllReadyE.cons (o := { dst := some 20, op := Go.Op.call { callee := Go.Callee.value (Go.Operand.func 28), args := #[Go.Operand.tmp 17, Go.Operand.tmp 19], argTypes := #[3, 3] }, type := 3, pos := "bound.go:80", after := #[{ on := 1, ground := Go.Ground.data }, { on := 3, ground := Go.Ground.data }], guard := none }) rfl (fun K hK => ?_) Bz.AllReadyE.nil
    go_simp
    
    refine (cR _).mono ?_
    rintro e w5 ⟨rfl, hk5⟩
    refine hK.out _ _ (by exact hHeld.trans hk5) ?_
    clear hHeld hK K; intro hHeld
    try simp only [Act.put, List.setIfInBounds_toArray, List.set_cons_zero, List.set_cons_succ]
    refine Bz.wpAnyE_ready (rs := [7]) (by kernel_rfl) (by simp) ?_
    refine Bz.AllReadyE.cons (o := { dst := some 23, op := Go.Op.call { callee := Go.Callee.value (Go.Operand.func 12), args := #[Go.Operand.tmp 22], argTypes := #[25] }, type := 3, pos := "bound.go:80", after := #[{ on := 6, ground := Go.Ground.data }, { on := 4, ground := Go.Ground.chain }], guard := none }) rfl (fun K hK => ?_) Bz.AllReadyE.nil
    go_simp
    
    refine (bL _ hHeld).mono ?_
    rintro e w5 ⟨rfl, hk5⟩
    refine hK.out _ _ (by exact hHeld.trans hk5) ?_
    clear hHeld hK K; intro hHeld
    try simp only [Act.put, List.setIfInBounds_toArray, List.set_cons_zero, List.set_cons_succ]
    refine Bz.wpAnyE_take (i := 8) (oi := { dst := some 24, op := Go.Op.binOp Go.BinOp.add 3 (Go.Operand.const (Go.Value.int Go.IntKind.i64 4)) (Go.Operand.tmp 23) 3, type := 3, pos := "bound.go:80", after := #[{ on := 7, ground := Go.Ground.data }], guard := none }) (v := ?_) rfl (by kernel_rfl) (by kernel_rfl) (by kernel_rfl) (by kernel_rfl) (fun _ _ _ h => h) (Or.inl ⟨by rfl, ?_⟩) hHeld ?_
    rotate_left 1
    · (intro w hSw; have f0 := FB w hSw; go_simp; first | done | with_reducible rfl)
    try simp only [Act.put, List.setIfInBounds_toArray, List.set_cons_zero, List.set_cons_succ]
    refine Bz.wpAnyE_ready (rs := [9]) (by kernel_rfl) (by simp) ?_
    refine Bz.AllReadyE.cons (o := { dst := some 25, op := Go.Op.call { callee := Go.Callee.value (Go.Operand.func 25), args := #[Go.Operand.tmp 24], argTypes := #[3] }, type := 3, pos := "bound.go:80", after := #[{ on := 8, ground := Go.Ground.data }, { on := 7, ground := Go.Ground.chain }], guard := none }) rfl (fun K hK => ?_) Bz.AllReadyE.nil
    go_simp
    
    refine (cC1 _).mono ?_
    rintro e w5 ⟨rfl, hk5⟩
    refine hK.out _ _ (by exact hHeld.trans hk5) ?_
    clear hHeld hK K; intro hHeld
    try simp only [Act.put, List.setIfInBounds_toArray, List.set_cons_zero, List.set_cons_succ]
    refine Bz.wpAnyE_take (i := 10) (oi := { dst := some 26, op := Go.Op.binOp Go.BinOp.mul 3 (Go.Operand.tmp 20) (Go.Operand.tmp 25) 3, type := 3, pos := "bound.go:80", after := #[{ on := 4, ground := Go.Ground.data }, { on := 9, ground := Go.Ground.data }], guard := none }) (v := ?_) rfl (by kernel_rfl) (by kernel_rfl) (by kernel_rfl) (by kernel_rfl) (fun _ _ _ h => h) (Or.inl ⟨by rfl, ?_⟩) hHeld ?_
    rotate_left 1
    · (intro w hSw; have f0 := FB w hSw; go_simp; first | done | with_reducible rfl)
    try simp only [Act.put, List.setIfInBounds_toArray, List.set_cons_zero, List.set_cons_succ]
    refine Bz.wpAnyE_ready (rs := [11]) (by kernel_rfl) (by simp) ?_
    refine Bz.AllReadyE.cons (o := { dst := some 27, op := Go.Op.call { callee := Go.Callee.value (Go.Operand.func 25), args := #[Go.Operand.tmp 26], argTypes := #[3] }, type := 3, pos := "bound.go:80", after := #[{ on := 10, ground := Go.Ground.data }, { on := 9, ground := Go.Ground.chain }], guard := none }) rfl (fun K hK => ?_) Bz.AllReadyE.nil
    go_simp
    
    refine (cC2 _).mono ?_
    rintro e w5 ⟨rfl, hk5⟩
    refine hK.out _ _ (by exact hHeld.trans hk5) ?_
    clear hHeld hK K; intro hHeld
    try simp only [Act.put, List.setIfInBounds_toArray, List.set_cons_zero, List.set_cons_succ]
    refine Bz.wpAnyE_take (i := 12) (oi := { dst := some 2, op := Go.Op.assign (Go.Operand.tmp 27), type := 3, pos := "bound.go:80", after := #[{ on := 11, ground := Go.Ground.data }, { on := 11, ground := Go.Ground.chain }, { on := 0, ground := Go.Ground.phase }, { on := 1, ground := Go.Ground.phase }, { on := 2, ground := Go.Ground.phase }, { on := 3, ground := Go.Ground.phase }, { on := 4, ground := Go.Ground.phase }, { on := 5, ground := Go.Ground.phase }, { on := 6, ground := Go.Ground.phase }, { on := 7, ground := Go.Ground.phase }, { on := 8, ground := Go.Ground.phase }, { on := 9, ground := Go.Ground.phase }, { on := 10, ground := Go.Ground.phase }, { on := 11, ground := Go.Ground.phase }], guard := none }) (v := ?_) rfl (by kernel_rfl) (by kernel_rfl) (by kernel_rfl) (by kernel_rfl) (fun _ _ _ h => h) (Or.inl ⟨by rfl, ?_⟩) hHeld ?_
    rotate_left 1
    · (intro w hSw; have f0 := FB w hSw; go_simp; first | done | with_reducible rfl)
    try simp only [Act.put, List.setIfInBounds_toArray, List.set_cons_zero, List.set_cons_succ]
    refine Bz.wpAnyE_done (by kernel_rfl) ?_ _
    refine NoPanic.normal ?_
    
    all_goals (go_wp2_with fail; go_ret; exact ⟨rfl, hk1.trans hHeld⟩)
  · have g2 : (kind == (2 : Int)) = false := by simp [h2]
    have g3 : (kind == (3 : Int)) = false := by simp [h3]
    have HI : Hid (innerOf kind lo hi ls xs = 0) := Lib.hid (by unfold innerOf; rw [if_neg h2, if_neg h3])
    clear h2 h3
    go_enter Try.func27, Try.ntmps27
    go_upto_region 1 with fail
    rw [← hw1]
    clear hw1
    go_wp2_with fail
    go_ret
    exact ⟨ret_int (by rw [HI.out]), hk1⟩
theorem esumAny {h : Nat} {w : World} {V : Value} {cs : List Int} (hx : ExL w h V cs) (n : Int) (hn : 0 ≤ n ∧ n ≤ 65537) :
    Calls Try.prog 22 #[.int .i64 n, V, .func (.func 14) #[] #[]] w (fun e w' => e = .returned (.int .i64 (tsum n cs)) ∧ Keep [] w w') := esum_any (fun w r => expr_any h w r) hx.succ n hn
theorem zero3 (W : World) : (zeroValue 3).run Try.prog W = .ok (.int .i64 0) W := by kernel_rfl
set_option maxRecDepth 100000 in
theorem stmt_any {h : Nat} (IH : BlockOk h) {w : World} {r : SRaw} (hr : I64 r.lo ∧ I64 r.hi) {k : Nat} (he : ExL w k r.E r.es) (hl : StL w h r.L r.ls) (hx : StL w h r.X r.xs) :
    Calls Try.prog 20 #[.agg (senc r)] w (fun e w' => e = .returned (.int .i64 r.c) ∧ Keep [] w w') := by
  have hI := fun W (hk : Keep [] w W) => inner_any IH (w := W) (r := r) hr he.sl (hl.keep hk) (hx.keep hk)
  have hIr := inner_range (kind := r.kind) (lo := r.lo) (hi := r.hi) hl.cs hx.cs
  have hes := he.cs
  have hE := fun W (hk : Keep [] w W) n hn => esumAny (he.keep hk) n hn
  obtain ⟨AE, cE, hE'⟩ := he.sl
  obtain ⟨AL, cL, hL⟩ := hl.sl
  obtain ⟨AX, cX, hX⟩ := hx.sl
  obtain ⟨kind, s, E, lo, hi, L, X, es, ls, xs⟩ := r
  simp only at hE' hL hX hI hE hIr hes
  subst hE' hL hX
  clear he hl hx IH
  show Calls _ _ _ _ (fun e w' => e = .returned (.int .i64 (scost kind lo hi es ls xs)) ∧ Keep [] w w')
  obtain ⟨inn, HIn⟩ : ∃ t, Hid (t = innerOf kind lo hi ls xs) := ⟨_, Lib.hid rfl⟩
  rw [← HIn.out] at hI hIr
  obtain ⟨w1, hw1⟩ : ∃ W, W = w.alloc (.cells #[.int .i64 kind, .string s, .slice AE es.length cE, .int .i64 lo, .int .i64 hi, .slice AL ls.length cL, .slice AX xs.length cX] 28) := ⟨_, rfl⟩
  have B1 : Blk w1 w.heap.size 28 (senc ⟨kind, s, .slice AE es.length cE, lo, hi, .slice AL ls.length cL, .slice AX xs.length cX, es, ls, xs⟩) := by rw [hw1]; exact Blk.new _ _ _
  have hk1 : Keep [] w w1 := by rw [hw1]; exact (Keep.refl _ _).alloc _
  have FB := fun W (hk : Keep [] w1 W) => (B1.keep hk (by simp)).cell
  have hI := fun W (hk : Keep [] w1 W) => hI W (hk1.trans hk)
  have hE := fun W (hk : Keep [] w1 W) => hE W (hk1.trans hk)
  clear hr
  cases hlk : mlook kind costs with
  | none =>
    have HC : Hid (scost kind lo hi es ls xs = 1) := Lib.hid (by unfold scost; rw [hlk])
    have HLK := Lib.hid hlk
    clear hlk
    go_enter Try.func20, Try.ntmps20
    go_upto_region 1 with fail
    rw [← hw1]
    clear hw1
    refine wp_region_noPanic ?_
    refine Bz.wp_region_E (S := (fun w' => Keep [] w1 w')) (E := []) (by kernel_rfl) (by exact (Keep.refl _ _).drew) (fun hHeld => ?_)
    refine Bz.wpAnyE_take (i := 1) (oi := { dst := some 7, op := Go.Op.fieldAddr 28 (Go.Operand.tmp 1) 0, type := 0, pos := "bound.go:87", after := #[], guard := none }) (v := ?_) rfl (by kernel_rfl) (by kernel_rfl) (by kernel_rfl) (by kernel_rfl) (fun _ _ _ h => h) (Or.inl ⟨by rfl, ?_⟩) hHeld ?_
    rotate_left 1
    · (intro w hSw; have f0 := FB w hSw; go_simp; first | done | with_reducible rfl)
    try simp only [Act.put, List.setIfInBounds_toArray, List.set_cons_zero, List.set_cons_succ]
    refine Bz.wpAnyE_take (i := 2) (oi := { dst := some 8, op := Go.Op.load 3 (Go.Operand.tmp 7), type := 3, pos := "bound.go:87", after := #[{ on := 1, ground := Go.Ground.data }], guard := none }) (v := ?_) rfl (by kernel_rfl) (by kernel_rfl) (by kernel_rfl) (by kernel_rfl) (fun _ _ _ h => h) (Or.inl ⟨by rfl, ?_⟩) hHeld ?_
    rotate_left 1
    · (intro w hSw; have f0 := FB w hSw; go_simp; first | done | with_reducible rfl)
    try simp only [Act.put, List.setIfInBounds_toArray, List.set_cons_zero, List.set_cons_succ]
    refine Bz.wpAnyE_ready (rs := [0]) (by kernel_rfl) (by simp) ?_
    refine Bz.AllReadyE.cons (o := { dst := some 6, op := Go.Op.call { callee := Go.Callee.value (Go.Operand.func 26), args := #[], argTypes := #[] }, type := 53, pos := "bound.go:87", after := #[], guard := none }) rfl (fun K hK => ?_) Bz.AllReadyE.nil
    go_simp
    
    refine (costs_any _).mono ?_
    rintro e w5 ⟨m, rfl, hM, hk5⟩
    refine hK.out _ _ (by exact hHeld.trans hk5) ?_
    clear hHeld hK K; intro hHeld
    try simp only [Act.put, List.setIfInBounds_toArray, List.set_cons_zero, List.set_cons_succ]
    refine Bz.wpAnyE_ready (rs := [3]) (by kernel_rfl) (by simp) ?_
    refine Bz.AllReadyE.cons (o := { dst := some 9, op := Go.Op.lookup 53 (Go.Operand.tmp 6) (Go.Operand.tmp 8) true, type := 52, pos := "bound.go:87", after := #[{ on := 0, ground := Go.Ground.data }, { on := 2, ground := Go.Ground.data }], guard := none }) rfl (fun K hK => ?_) Bz.AllReadyE.nil
    
    have hlo := hM.look_ok k3 Try.underlying53 zero3 kind
    rw [HLK.out] at hlo
    simp only [Option.map_none, Option.getD_none, Option.isSome_none] at hlo
    go_simp
    refine hK.out _ _ (by exact hHeld) ?_
    clear hHeld hK K; intro hHeld
    try simp only [Act.put, List.setIfInBounds_toArray, List.set_cons_zero, List.set_cons_succ]
    refine Bz.wpAnyE_take (i := 4) (oi := { dst := some 5, op := Go.Op.move (Go.Operand.tmp 9), type := 52, pos := "bound.go:87", after := #[{ on := 3, ground := Go.Ground.data }], guard := none }) (v := ?_) rfl (by kernel_rfl) (by kernel_rfl) (by kernel_rfl) (by kernel_rfl) (fun _ _ _ h => h) (Or.inl ⟨by rfl, ?_⟩) hHeld ?_
    rotate_left 1
    · (intro w hSw; have f0 := FB w hSw; go_simp; first | done | with_reducible rfl)
    try simp only [Act.put, List.setIfInBounds_toArray, List.set_cons_zero, List.set_cons_succ]
    refine Bz.wpAnyE_take (i := 5) (oi := { dst := some 10, op := Go.Op.extract (Go.Operand.tmp 5) 0, type := 3, pos := "bound.go:87", after := #[{ on := 4, ground := Go.Ground.data }], guard := none }) (v := ?_) rfl (by kernel_rfl) (by kernel_rfl) (by kernel_rfl) (by kernel_rfl) (fun _ _ _ h => h) (Or.inl ⟨by rfl, ?_⟩) hHeld ?_
    rotate_left 1
    · (intro w hSw; have f0 := FB w hSw; go_simp; first | done | with_reducible rfl)
    try simp only [Act.put, List.setIfInBounds_toArray, List.set_cons_zero, List.set_cons_succ]
    refine Bz.wpAnyE_take (i := 6) (oi := { dst := some 11, op := Go.Op.extract (Go.Operand.tmp 5) 1, type := 4, pos := "bound.go:87", after := #[{ on := 4, ground := Go.Ground.data }, { on := 7, ground := Go.Ground.gcOnly Go.Departure.lateStores }], guard := none }) (v := ?_) rfl (by kernel_rfl) (by kernel_rfl) (by kernel_rfl) (by kernel_rfl) (fun _ _ _ h => h) (Or.inl ⟨by rfl, ?_⟩) hHeld ?_
    rotate_left 1
    · (intro w hSw; have f0 := FB w hSw; go_simp; first | done | with_reducible rfl)
    try simp only [Act.put, List.setIfInBounds_toArray, List.set_cons_zero, List.set_cons_succ]
    refine Bz.wpAnyE_take (i := 7) (oi := { dst := some 3, op := Go.Op.assign (Go.Operand.tmp 10), type := 3, pos := "bound.go:87", after := #[{ on := 5, ground := Go.Ground.data }, { on := 0, ground := Go.Ground.chain }, { on := 0, ground := Go.Ground.phase }, { on := 1, ground := Go.Ground.phase }, { on := 2, ground := Go.Ground.phase }, { on := 3, ground := Go.Ground.phase }, { on := 4, ground := Go.Ground.phase }, { on := 5, ground := Go.Ground.phase }, { on := 6, ground := Go.Ground.textOnly Go.Departure.lateStores }], guard := none }) (v := ?_) rfl (by kernel_rfl) (by kernel_rfl) (by kernel_rfl) (by kernel_rfl) (fun _ _ _ h => h) (Or.inl ⟨by rfl, ?_⟩) hHeld ?_
    rotate_left 1
    · (intro w hSw; have f0 := FB w hSw; go_simp; first | done | with_reducible rfl)
    try simp only [Act.put, List.setIfInBounds_toArray, List.set_cons_zero, List.set_cons_succ]
    refine Bz.wpAnyE_take (i := 8) (oi := { dst := some 4, op := Go.Op.assign (Go.Operand.tmp 11), type := 4, pos := "bound.go:87", after := #[{ on := 6, ground := Go.Ground.data }, { on := 7, ground := Go.Ground.chain }, { on := 0, ground := Go.Ground.phase }, { on := 1, ground := Go.Ground.phase }, { on := 2, ground := Go.Ground.phase }, { on := 3, ground := Go.Ground.phase }, { on := 4, ground := Go.Ground.phase }, { on := 5, ground := Go.Ground.phase }, { on := 6, ground := Go.Ground.phase }, { on := 7, ground := Go.Ground.phase }], guard := none }) (v := ?_) rfl (by kernel_rfl) (by kernel_rfl) (by kernel_rfl) (by kernel_rfl) (fun _ _ _ h => h) (Or.inl ⟨by rfl, ?_⟩) hHeld ?_
    rotate_left 1
    · (intro w hSw; have f0 := FB w hSw; go_simp; first | done | with_reducible rfl)
    try simp only [Act.put, List.setIfInBounds_toArray, List.set_cons_zero, List.set_cons_succ]
    refine Bz.wpAnyE_done (by kernel_rfl) ?_ _
    refine NoPanic.normal ?_
    
    go_wp2_with fail
    go_ret
    exact ⟨ret_int (by rw [HC.out]), hk1.trans hHeld⟩
  | some own =>
    have hown := look_costs hlk
    have HC : Hid (scost kind lo hi es ls xs = if kind = 4 ∨ kind = 7 ∨ kind = 5 then own else if kind = 3 then top (own + inn) else top (tsum own es + inn)) := Lib.hid (by unfold scost; rw [hlk, HIn.out])
    have HLK := Lib.hid hlk
    clear hlk
    go_enter Try.func20, Try.ntmps20
    go_upto_region 1 with fail
    rw [← hw1]
    clear hw1
    refine wp_region_noPanic ?_
    refine Bz.wp_region_E (S := (fun w' => Keep [] w1 w')) (E := []) (by kernel_rfl) (by exact (Keep.refl _ _).drew) (fun hHeld => ?_)
    refine Bz.wpAnyE_take (i := 1) (oi := { dst := some 7, op := Go.Op.fieldAddr 28 (Go.Operand.tmp 1) 0, type := 0, pos := "bound.go:87", after := #[], guard := none }) (v := ?_) rfl (by kernel_rfl) (by kernel_rfl) (by kernel_rfl) (by kernel_rfl) (fun _ _ _ h => h) (Or.inl ⟨by rfl, ?_⟩) hHeld ?_
    rotate_left 1
    · (intro w hSw; have f0 := FB w hSw; go_simp; first | done | with_reducible rfl)
    try simp only [Act.put, List.setIfInBounds_toArray, List.set_cons_zero, List.set_cons_succ]
    refine Bz.wpAnyE_take (i := 2) (oi := { dst := some 8, op := Go.Op.load 3 (Go.Operand.tmp 7), type := 3, pos := "bound.go:87", after := #[{ on := 1, ground := Go.Ground.data }], guard := none }) (v := ?_) rfl (by kernel_rfl) (by kernel_rfl) (by kernel_rfl) (by kernel_rfl) (fun _ _ _ h => h) (Or.inl ⟨by rfl, ?_⟩) hHeld ?_
    rotate_left 1
    · (intro w hSw; have f0 := FB w hSw; go_simp; first | done | with_reducible rfl)
    try simp only [Act.put, List.setIfInBounds_toArray, List.set_cons_zero, List.set_cons_succ]
    refine Bz.wpAnyE_ready (rs := [0]) (by kernel_rfl) (by simp) ?_
    refine Bz.AllReadyE.cons (o := { dst := some 6, op := Go.Op.call { callee := Go.Callee.value (Go.Operand.func 26), args := #[], argTypes := #[] }, type := 53, pos := "bound.go:87", after := #[], guard := none }) rfl (fun K hK => ?_) Bz.AllReadyE.nil
    go_simp
    
    refine (costs_any _).mono ?_
    rintro e w5 ⟨m, rfl, hM, hk5⟩
    refine hK.out _ _ (by exact hHeld.trans hk5) ?_
    clear hHeld hK K; intro hHeld
    try simp only [Act.put, List.setIfInBounds_toArray, List.set_cons_zero, List.set_cons_succ]
    refine Bz.wpAnyE_ready (rs := [3]) (by kernel_rfl) (by simp) ?_
    refine Bz.AllReadyE.cons (o := { dst := some 9, op := Go.Op.lookup 53 (Go.Operand.tmp 6) (Go.Operand.tmp 8) true, type := 52, pos := "bound.go:87", after := #[{ on := 0, ground := Go.Ground.data }, { on := 2, ground := Go.Ground.data }], guard := none }) rfl (fun K hK => ?_) Bz.AllReadyE.nil
    
    have hlo := hM.look_ok k3 Try.underlying53 zero3 kind
    rw [HLK.out] at hlo
    simp only [Option.map_some, Option.getD_some, Option.isSome_some] at hlo
    go_simp
    refine hK.out _ _ (by exact hHeld) ?_
    clear hHeld hK K; intro hHeld
    try simp only [Act.put, List.setIfInBounds_toArray, List.set_cons_zero, List.set_cons_succ]
    refine Bz.wpAnyE_take (i := 4) (oi := { dst := some 5, op := Go.Op.move (Go.Operand.tmp 9), type := 52, pos := "bound.go:87", after := #[{ on := 3, ground := Go.Ground.data }], guard := none }) (v := ?_) rfl (by kernel_rfl) (by kernel_rfl) (by kernel_rfl) (by kernel_rfl) (fun _ _ _ h => h) (Or.inl ⟨by rfl, ?_⟩) hHeld ?_
    rotate_left 1
    · (intro w hSw; have f0 := FB w hSw; go_simp; first | done | with_reducible rfl)
    try simp only [Act.put, List.setIfInBounds_toArray, List.set_cons_zero, List.set_cons_succ]
    refine Bz.wpAnyE_take (i := 5) (oi := { dst := some 10, op := Go.Op.extract (Go.Operand.tmp 5) 0, type := 3, pos := "bound.go:87", after := #[{ on := 4, ground := Go.Ground.data }], guard := none }) (v := ?_) rfl (by kernel_rfl) (by kernel_rfl) (by kernel_rfl) (by kernel_rfl) (fun _ _ _ h => h) (Or.inl ⟨by rfl, ?_⟩) hHeld ?_
    rotate_left 1
    · (intro w hSw; have f0 := FB w hSw; go_simp; first | done | with_reducible rfl)
    try simp only [Act.put, List.setIfInBounds_toArray, List.set_cons_zero, List.set_cons_succ]
    refine Bz.wpAnyE_take (i := 6) (oi := { dst := some 11, op := Go.Op.extract (Go.Operand.tmp 5) 1, type := 4, pos := "bound.go:87", after := #[{ on := 4, ground := Go.Ground.data }, { on := 7, ground := Go.Ground.gcOnly Go.Departure.lateStores }], guard := none }) (v := ?_) rfl (by kernel_rfl) (by kernel_rfl) (by kernel_rfl) (by kernel_rfl) (fun _ _ _ h => h) (Or.inl ⟨by rfl, ?_⟩) hHeld ?_
    rotate_left 1
    · (intro w hSw; have f0 := FB w hSw; go_simp; first | done | with_reducible rfl)
    try simp only [Act.put, List.setIfInBounds_toArray, List.set_cons_zero, List.set_cons_succ]
    refine Bz.wpAnyE_take (i := 7) (oi := { dst := some 3, op := Go.Op.assign (Go.Operand.tmp 10), type := 3, pos := "bound.go:87", after := #[{ on := 5, ground := Go.Ground.data }, { on := 0, ground := Go.Ground.chain }, { on := 0, ground := Go.Ground.phase }, { on := 1, ground := Go.Ground.phase }, { on := 2, ground := Go.Ground.phase }, { on := 3, ground := Go.Ground.phase }, { on := 4, ground := Go.Ground.phase }, { on := 5, ground := Go.Ground.phase }, { on := 6, ground := Go.Ground.textOnly Go.Departure.lateStores }], guard := none }) (v := ?_) rfl (by kernel_rfl) (by kernel_rfl) (by kernel_rfl) (by kernel_rfl) (fun _ _ _ h => h) (Or.inl ⟨by rfl, ?_⟩) hHeld ?_
    rotate_left 1
    · (intro w hSw; have f0 := FB w hSw; go_simp; first | done | with_reducible rfl)
    try simp only [Act.put, List.setIfInBounds_toArray, List.set_cons_zero, List.set_cons_succ]
    refine Bz.wpAnyE_take (i := 8) (oi := { dst := some 4, op := Go.Op.assign (Go.Operand.tmp 11), type := 4, pos := "bound.go:87", after := #[{ on := 6, ground := Go.Ground.data }, { on := 7, ground := Go.Ground.chain }, { on := 0, ground := Go.Ground.phase }, { on := 1, ground := Go.Ground.phase }, { on := 2, ground := Go.Ground.phase }, { on := 3, ground := Go.Ground.phase }, { on := 4, ground := Go.Ground.phase }, { on := 5, ground := Go.Ground.phase }, { on := 6, ground := Go.Ground.phase }, { on := 7, ground := Go.Ground.phase }], guard := none }) (v := ?_) rfl (by kernel_rfl) (by kernel_rfl) (by kernel_rfl) (by kernel_rfl) (fun _ _ _ h => h) (Or.inl ⟨by rfl, ?_⟩) hHeld ?_
    rotate_left 1
    · (intro w hSw; have f0 := FB w hSw; go_simp; first | done | with_reducible rfl)
    try simp only [Act.put, List.setIfInBounds_toArray, List.set_cons_zero, List.set_cons_succ]
    refine Bz.wpAnyE_done (by kernel_rfl) ?_ _
    refine NoPanic.normal ?_
    
    clear hM hk5 hlo
    obtain ⟨w2, rfl⟩ : ∃ W, W = w5 := ⟨_, rfl⟩
    have FB := fun W (hk : Keep [] w2 W) => FB W (hHeld.trans hk)
    have hI := fun W (hk : Keep [] w2 W) => hI W (hHeld.trans hk)
    have hE := fun W (hk : Keep [] w2 W) => hE W (hHeld.trans hk)
    have hk2 := hk1.trans hHeld
    have f0 := FB _ (Keep.refl _ _)
    by_cases h4 : kind = 4
    · subst h4
      go_wp2_with fail
      go_ret
      exact ⟨ret_int (by rw [HC.out, if_pos (by decide)]), hk2⟩
    by_cases h7 : kind = 7
    · subst h7
      clear h4
      go_wp2_with fail
      go_ret
      exact ⟨ret_int (by rw [HC.out, if_pos (by decide)]), hk2⟩
    by_cases h5 : kind = 5
    · subst h5
      clear h4 h7
      go_wp2_with fail
      go_ret
      exact ⟨ret_int (by rw [HC.out, if_pos (by decide)]), hk2⟩
    by_cases h3 : kind = 3
    · subst h3
      clear h4 h5 h7
      have hc := fun W => cut_any (own + inn) W
      go_wp2_with (first
        | (go_at_call 27; refine (hI _ (Keep.refl _ _)).mono ?_; rintro e w6 ⟨rfl, hk6⟩)
        | (go_at_call 25; refine (hc _).mono ?_; rintro e w7 ⟨rfl, hk7⟩)
        | fail)
      go_ret
      exact ⟨ret_int (by rw [HC.out, if_neg (by decide)]; exact (if_pos trivial).symm ▸ rfl), (hk2.trans hk6).trans hk7⟩
    · have g4 : (kind == (4 : Int)) = false := by simp [h4]
      have g7 : (kind == (7 : Int)) = false := by simp [h7]
      have g5 : (kind == (5 : Int)) = false := by simp [h5]
      have g3 : (kind == (3 : Int)) = false := by simp [h3]
      have HC : Hid (scost kind lo hi es ls xs = top (tsum own es + inn)) := Lib.hid (by rw [HC.out, if_neg (by simp [h4, h5, h7]), if_neg h3])
      clear h3 h4 h5 h7
      have hrg := tsum_range (n := own) (by omega) hes
      have hE := fun W (hk : Keep [] w2 W) => hE W hk own (by omega)
      obtain ⟨te, HTe⟩ : ∃ t, Hid (t = tsum own es) := ⟨_, Lib.hid rfl⟩
      rw [← HTe.out] at hE hrg HC
      have hc := fun W => cut_any (te + inn) W
      have q1 : IntKind.i64.wrap (te + inn) = te + inn := IntWalk.i64_in _ (by omega)
      go_upto_region 8 with fail
      clear f0
      refine wp_region_noPanic ?_
      refine Bz.wp_region_E (S := (fun w' => Keep [] w2 w')) (E := []) (by kernel_rfl) (by exact (Keep.refl _ _).drew) (fun hHeld => ?_)
      refine Bz.wpAnyE_take (i := 0) (oi := { dst := some 39, op := Go.Op.move (Go.Operand.tmp 3), type := 3, pos := "bound.go:96", after := #[], guard := none }) (v := ?_) rfl (by kernel_rfl) (by kernel_rfl) (by kernel_rfl) (by kernel_rfl) (fun _ _ _ h => h) (Or.inl ⟨by rfl, ?_⟩) hHeld ?_
      rotate_left 1
      · (intro w hSw; have f0 := FB w hSw; go_simp; first | done | with_reducible rfl)
      try simp only [Act.put, List.setIfInBounds_toArray, List.set_cons_zero, List.set_cons_succ]
      refine Bz.wpAnyE_take (i := 1) (oi := { dst := some 40, op := Go.Op.fieldAddr 28 (Go.Operand.tmp 1) 2, type := 0, pos := "bound.go:96", after := #[], guard := none }) (v := ?_) rfl (by kernel_rfl) (by kernel_rfl) (by kernel_rfl) (by kernel_rfl) (fun _ _ _ h => h) (Or.inl ⟨by rfl, ?_⟩) hHeld ?_
      rotate_left 1
      · (intro w hSw; have f0 := FB w hSw; go_simp; first | done | with_reducible rfl)
      try simp only [Act.put, List.setIfInBounds_toArray, List.set_cons_zero, List.set_cons_succ]
      refine Bz.wpAnyE_take (i := 2) (oi := { dst := some 41, op := Go.Op.load 26 (Go.Operand.tmp 40), type := 26, pos := "bound.go:96", after := #[{ on := 1, ground := Go.Ground.data }], guard := none }) (v := ?_) rfl (by kernel_rfl) (by kernel_rfl) (by kernel_rfl) (by kernel_rfl) (fun _ _ _ h => h) (Or.inl ⟨by rfl, ?_⟩) hHeld ?_
      rotate_left 1
      · (intro w hSw; have f0 := FB w hSw; go_simp; first | done | with_reducible rfl)
      try simp only [Act.put, List.setIfInBounds_toArray, List.set_cons_zero, List.set_cons_succ]
      refine Bz.wpAnyE_take (i := 4) (oi := { dst := some 43, op := Go.Op.load 28 (Go.Operand.tmp 1), type := 28, pos := "bound.go:96", after := #[], guard := none }) (v := ?_) rfl (by kernel_rfl) (by kernel_rfl) (by kernel_rfl) (by kernel_rfl) (fun _ _ _ h => h) (Or.inl ⟨by rfl, ?_⟩) hHeld ?_
      rotate_left 1
      · (intro w hSw; have f0 := FB w hSw; go_simp; first | done | with_reducible rfl)
      try simp only [Act.put, List.setIfInBounds_toArray, List.set_cons_zero, List.set_cons_succ]
      refine Bz.wpAnyE_ready (rs := [3]) (by kernel_rfl) (by simp) ?_
      refine Bz.AllReadyE.cons (o := { dst := some 42, op := Go.Op.call { callee := Go.Callee.value (Go.Operand.func 22), args := #[Go.Operand.tmp 39, Go.Operand.tmp 41, Go.Operand.func 14], argTypes := #[3, 26, 37] }, type := 3, pos := "bound.go:96", after := #[{ on := 0, ground := Go.Ground.data }, { on := 2, ground := Go.Ground.data }], guard := none }) rfl (fun K hK => ?_) Bz.AllReadyE.nil
      go_simp
      
      refine (hE _ hHeld).mono ?_
      rintro e w6 ⟨rfl, hk6⟩
      refine hK.out _ _ (by exact hHeld.trans hk6) ?_
      clear hHeld hK K; intro hHeld
      try simp only [Act.put, List.setIfInBounds_toArray, List.set_cons_zero, List.set_cons_succ]
      refine Bz.wpAnyE_ready (rs := [5]) (by kernel_rfl) (by simp) ?_
      refine Bz.AllReadyE.cons (o := { dst := some 44, op := Go.Op.call { callee := Go.Callee.value (Go.Operand.func 27), args := #[Go.Operand.tmp 43], argTypes := #[28] }, type := 3, pos := "bound.go:96", after := #[{ on := 4, ground := Go.Ground.data }, { on := 3, ground := Go.Ground.chain }], guard := none }) rfl (fun K hK => ?_) Bz.AllReadyE.nil
      go_simp
      
      refine (hI _ hHeld).mono ?_
      rintro e w6 ⟨rfl, hk6⟩
      refine hK.out _ _ (by exact hHeld.trans hk6) ?_
      clear hHeld hK K; intro hHeld
      try simp only [Act.put, List.setIfInBounds_toArray, List.set_cons_zero, List.set_cons_succ]
      refine Bz.wpAnyE_take (i := 6) (oi := { dst := some 45, op := Go.Op.binOp Go.BinOp.add 3 (Go.Operand.tmp 42) (Go.Operand.tmp 44) 3, type := 3, pos := "bound.go:96", after := #[{ on := 3, ground := Go.Ground.data }, { on := 5, ground := Go.Ground.data }], guard := none }) (v := ?_) rfl (by kernel_rfl) (by kernel_rfl) (by kernel_rfl) (by kernel_rfl) (fun _ _ _ h => h) (Or.inl ⟨by rfl, ?_⟩) hHeld ?_
      rotate_left 1
      · (intro w hSw; have f0 := FB w hSw; go_simp; first | done | with_reducible rfl)
      try simp only [Act.put, List.setIfInBounds_toArray, List.set_cons_zero, List.set_cons_succ]
      refine Bz.wpAnyE_ready (rs := [7]) (by kernel_rfl) (by simp) ?_
      refine Bz.AllReadyE.cons (o := { dst := some 46, op := Go.Op.call { callee := Go.Callee.value (Go.Operand.func 25), args := #[Go.Operand.tmp 45], argTypes := #[3] }, type := 3, pos := "bound.go:96", after := #[{ on := 6, ground := Go.Ground.data }, { on := 5, ground := Go.Ground.chain }], guard := none }) rfl (fun K hK => ?_) Bz.AllReadyE.nil
      go_simp
      
      refine (hc _).mono ?_
      rintro e w6 ⟨rfl, hk6⟩
      refine hK.out _ _ (by exact hHeld.trans hk6) ?_
      clear hHeld hK K; intro hHeld
      try simp only [Act.put, List.setIfInBounds_toArray, List.set_cons_zero, List.set_cons_succ]
      refine Bz.wpAnyE_take (i := 8) (oi := { dst := some 2, op := Go.Op.assign (Go.Operand.tmp 46), type := 3, pos := "bound.go:96", after := #[{ on := 7, ground := Go.Ground.data }, { on := 7, ground := Go.Ground.chain }, { on := 0, ground := Go.Ground.phase }, { on := 1, ground := Go.Ground.phase }, { on := 2, ground := Go.Ground.phase }, { on := 3, ground := Go.Ground.phase }, { on := 4, ground := Go.Ground.phase }, { on := 5, ground := Go.Ground.phase }, { on := 6, ground := Go.Ground.phase }, { on := 7, ground := Go.Ground.phase }], guard := none }) (v := ?_) rfl (by kernel_rfl) (by kernel_rfl) (by kernel_rfl) (by kernel_rfl) (fun _ _ _ h => h) (Or.inl ⟨by rfl, ?_⟩) hHeld ?_
      rotate_left 1
      · (intro w hSw; have f0 := FB w hSw; go_simp; first | done | with_reducible rfl)
      try simp only [Act.put, List.setIfInBounds_toArray, List.set_cons_zero, List.set_cons_succ]
      refine Bz.wpAnyE_done (by kernel_rfl) ?_ _
      refine NoPanic.normal ?_
      
      all_goals (go_wp2_with fail; go_ret; exact ⟨ret_int (by rw [HC.out]), hk2.trans hHeld⟩)
end Go.Proofs.Ytjhcfecpmohgnaa
