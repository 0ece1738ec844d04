/- The law's do: its Step and its Cut. -/
import Derived.Test.YtcjbmbljmmakfaaDo
namespace Go.Proofs.Ytcjbmbljmmakfaa
open Go.RowKit Go.Bz

section
variable {w0 w : World} {t mb g : Nat} {S : NS} {R B : List Nat} {N : RN} {V C : Value} {k : Nat}
set_option maxRecDepth 100000 in
set_option maxHeartbeats 4000000 in
theorem do_step (h : BothAt w0 w t mb g S R B N V C) (hA : ActS S N k) (hk' : k ≤ 100) (hc : N.cuts.length ≤ k) (d : Deed) (hds : ∃ A n c, d.L = .slice A n c) (hw : d.w % 4 = 1) (hw0 : 0 ≤ d.w ∧ d.w ≤ 255) :
    Calls Try.prog 23 #[.pointer (some ⟨t, 0, none⟩), .pointer (some ⟨g, 0, none⟩), .agg (denc d)] w (DoPost w0 w t mb g R k) := by
  obtain ⟨dw, da, db, ds, L, l⟩ := d
  simp only at hds hw hw0
  obtain ⟨AL, nL, cL, rfl⟩ := hds
  simp only [denc]
  obtain ⟨w1, hw1⟩ : ∃ W, W = w.alloc (.cells #[.int .u8 dw, .int .i64 da, .int .i64 db, .string ds, .slice AL nL cL] 58) := ⟨_, rfl⟩
  have Bd : Blk w1 w.heap.size 58 #[.int .u8 dw, .int .i64 da, .int .i64 db, .string ds, .slice AL nL cL] := by rw [hw1]; exact Blk.new _ _ _
  have hk1 : Keep [] w w1 := by rw [hw1]; exact (Keep.refl _ _).alloc _
  have h1 := h.keep0 hk1
  have own0 : ∀ x ∈ t :: mb :: R, w0.heap.size ≤ x := fun x hx => by
    simp only [List.mem_cons] at hx
    rcases hx with rfl | rfl | hx
    · exact h.ht
    · exact h.hmb
    · exact h.hR x hx
  have c0 := Bd.cell
  have hst := step_any h1.net hA.sim.wf (by have := hA.now; omega) (fun c hc => Nat.le_trans (NS.bytes_of (hA.small _) c hc) (by decide))
  go_enter Try.func23, Try.ntmps23
  go_upto_region 1 with fail
  rw [← hw1]
  clear hw1
  go_upto_region 9 with (first
    | (go_at_call 14; refine hst.mono ?_; rintro e w2 ⟨v, outs, rfl, hC, ho, hN2, hk2⟩; obtain ⟨A4, c4, rfl, _⟩ := hC.own.sl lenc_sz)
    | fail)
  have hk2' : Keep (t :: mb :: R) w1 w2 := hk2.mono (fun x _ hx => by simp at hx ⊢; rcases hx with rfl | rfl <;> simp)
  obtain ⟨⟨AV, cV, hV⟩, AC, cC, hC'⟩ := h.rn.sl
  have hrn2 := h1.rn.out h1.net hk2'
  have hB2 := h1.blk.keep hk2' (h1.net.notIn h1.blk (by decide) (by decide))
  have hk0 : Keep [] w0 w2 := h1.k.own hk2' own0
  subst hV hC'
  have hrs := rstep_any hrn2 (Nat.le_trans hA.room (by decide)) (hA.nowr hk')
  have hA2 := hA.step
  have hcl2 : N.step.cuts.length ≤ k + 1 := by show N.cuts.length ≤ k + 1; omega
  have hout := hA.sim.out
  have hlen : outs.length ≤ 5000 := by
    have e1 := congrArg List.length ho
    rw [List.length_map, List.length_map] at e1
    have e2 := hA.sim.wf.at_len S.now
    have e3 : S.come.length ≤ (S.at_ S.now).length := List.length_filter_le _ _
    omega
  obtain ⟨N2, HN2⟩ : ∃ N2, Hid (N2 = N.step) := ⟨_, Lib.hid rfl⟩
  obtain ⟨S2, HS2⟩ : ∃ S2, Hid (S2 = S.step) := ⟨_, Lib.hid rfl⟩
  obtain ⟨O2, HO2⟩ : ∃ O, Hid (O = N.out) := ⟨_, Lib.hid rfl⟩
  rw [← HN2.out, ← HO2.out] at hrs
  rw [← HN2.out, ← HS2.out] at hA2
  rw [← HN2.out] at hcl2
  rw [← HS2.out] at hN2
  rw [← HO2.out, ← ho] at hout
  have c1 := hB2.cell
  obtain ⟨NP, Nn, Nw, Nc⟩ := N
  simp only [rcells] at c1 hrs hB2
  clear c0 hst
  go_upto_region 10 with (first
    | (go_at_call 36; refine hrs.mono ?_; rintro e w3 ⟨V', O, rfl, hrn3, hO3, hTO, hk3⟩; obtain ⟨⟨A', c', rfl⟩, _⟩ := hrn3.sl; obtain ⟨A5, c5, rfl, _⟩ := id hO3)
    | fail)
  obtain ⟨w4, hw4⟩ : ∃ W, W = w3.alloc (.cells #[.int .i64 N2.P, .int .i64 N2.now, .slice A' N2.way.length c', .slice AC Nc.length cC] 47) := ⟨_, rfl⟩
  have hka : Keep [] w3 w4 := by rw [hw4]; exact (Keep.refl _ _).alloc _
  have hBn : Blk w4 w3.heap.size 47 #[.int .i64 N2.P, .int .i64 N2.now, .slice A' N2.way.length c', .slice AC Nc.length cC] := by rw [hw4]; exact Blk.new _ _ _
  have hk4 := hk3.trans hka
  rw [← hw4]
  clear hw4 c1 hrs
  have q0 := hBn.cell
  have hB4 := hB2.keep hk4 (by simp)
  have q1 := hB4.cell
  have q2 := hB4.frozen
  have hrn4 := hrn3.keep0 hka
  have hO4 := hO3.keep0 hka
  have hC4 := hC.keep0 hk4
  obtain ⟨hb, hbk⟩ := both_put (hN2.keep0 hk4) hB4 hrn4 h.ht h.hmb h.hR h.hg (hk0.trans hk4)
  obtain ⟨gn, HGn⟩ : ∃ x, Hid (x = w3.heap.size) := ⟨_, Lib.hid rfl⟩
  rw [← HGn.out] at q0 hBn ⊢
  go_upto_region 11 with fail
  obtain ⟨w5, hw5⟩ : ∃ W, W = ((((w4.setCell ⟨g, 0, none⟩ (.int .i64 N2.P)).setCell ⟨g, 1, none⟩ (.int .i64 N2.now)).setCell ⟨g, 2, none⟩ (.slice A' N2.way.length c')).setCell ⟨g, 3, none⟩ (.slice AC Nc.length cC)) := ⟨_, rfl⟩
  rw [← hw5] at hb hbk ⊢
  clear hw5 q0 q1 q2
  have hC5 := hC4.keepTy hbk (by intro s hs ty cs hty hb'; simp at hs; subst hs; refine hb'.ne_ hB4 ?_ rfl; rcases hty with rfl | rfl <;> decide)
  have hO5 := hO4.keep hbk (fun _ x hx _ hm => by
    obtain ⟨cs, hb'⟩ := hTO x hx
    simp at hm
    subst hm
    exact (hb'.keep hka (by simp)).ne_ hB4 (by decide) rfl)
  have hal := alike_any hC5 hO5 hout.symm hlen
  go_wp2_with (first
    | (go_at_call 37; refine hal.mono ?_; rintro e w6 ⟨rfl, hk6⟩)
    | fail)
  go_ret
  refine ⟨rfl, S2, R, B, N2, _, _, hb.keep0 hk6, hA2, hcl2, fun x hx => .inl hx, ?_⟩
  have e1 : Keep (g :: t :: mb :: R) w w2 := hk1.sub.trans (hk2'.mono (fun x _ hx => List.mem_cons_of_mem _ hx))
  exact ((e1.trans hk4.sub).trans (hbk.mono (fun x _ hx => by simp at hx; simp [hx]))).trans hk6.sub
set_option maxRecDepth 100000 in
set_option maxHeartbeats 1000000 in
theorem do_cut (h : BothAt w0 w t mb g S R B N V C) (hA : ActS S N k) (hk' : k ≤ 100) (hc : N.cuts.length ≤ k) (d : Deed) (hds : ∃ A n c, d.L = .slice A n c) (hw : d.w % 4 = 2 ∨ d.w % 4 = 3) (hw0 : 0 ≤ d.w ∧ d.w ≤ 255) :
    Calls Try.prog 23 #[.pointer (some ⟨t, 0, none⟩), .pointer (some ⟨g, 0, none⟩), .agg (denc d)] w (DoPost w0 w t mb g R k) := by
  obtain ⟨dw, da, db, ds, L, l⟩ := d
  simp only at hds hw hw0
  obtain ⟨AL, nL, cL, rfl⟩ := hds
  simp only [denc]
  obtain ⟨w1, hw1⟩ : ∃ W, W = w.alloc (.cells #[.int .u8 dw, .int .i64 da, .int .i64 db, .string ds, .slice AL nL cL] 58) := ⟨_, rfl⟩
  have Bd : Blk w1 w.heap.size 58 #[.int .u8 dw, .int .i64 da, .int .i64 db, .string ds, .slice AL nL cL] := by rw [hw1]; exact Blk.new _ _ _
  have hk1 : Keep [] w w1 := by rw [hw1]; exact (Keep.refl _ _).alloc _
  have h1 := h.keep0 hk1
  have nd := h1.net.notIn Bd (by decide) (by decide)
  have own0 : ∀ x ∈ t :: mb :: R, w0.heap.size ≤ x := fun x hx => by
    simp only [List.mem_cons] at hx
    rcases hx with rfl | rfl | hx
    · exact h.ht
    · exact h.hmb
    · exact h.hR x hx
  have c0 := Bd.cell
  have w0' : (dw % 4 == 0) = false := by rw [beq_eq_false_iff_ne]; omega
  have w1' : (dw % 4 == 1) = false := by rw [beq_eq_false_iff_ne]; omega
  obtain ⟨is, his⟩ : ∃ is : Bool, (dw % 4 == 2) = is := ⟨_, rfl⟩
  have his' : (dw.tmod 4 == 2) = is := by rw [Int.tmod_eq_emod_of_nonneg hw0.1]; exact his
  clear hw
  have hcu := cut_any h1.net hA.sim.wf.par.2 da db is
  go_enter Try.func23, Try.ntmps23
  go_upto_region 1 with fail
  rw [← hw1]
  clear hw1
  go_upto_region 13 with (first
    | (go_at_call 18; refine hcu.mono ?_; rintro e w2 ⟨rfl, hN2, hk2⟩)
    | fail)
  have hk2' : Keep (t :: mb :: R) w1 w2 := hk2.mono (fun x _ hx => by simp at hx ⊢; rcases hx with rfl | rfl <;> simp)
  obtain ⟨⟨AV, cV, hV⟩, AC, cC, hC'⟩ := h.rn.sl
  have hrn2 := h1.rn.out h1.net hk2'
  have hB2 := h1.blk.keep hk2' (h1.net.notIn h1.blk (by decide) (by decide))
  have hk0 : Keep [] w0 w2 := h1.k.own hk2' own0
  have FD := fun W (hk : Keep [] w2 W) => ((Bd.keep hk2' nd).keep hk (by simp)).cell
  have FG := fun W (hk : Keep [] w2 W) => (hB2.keep hk (by simp)).cell
  subst hV hC'
  have hrs := fun W (hk : Keep [] w2 W) => rcutset_any (hrn2.keep0 hk) (by omega) da db is
  rw [hA.sim.cutErr] at hrs
  have hA2 := hA.setCut da db is
  have hcl2 : (N.setCut da db is).cuts.length ≤ k + 1 := by
    unfold RN.setCut
    split
    · have := List.length_filter_le (fun p : Int × Int => !decide (p = (da, db))) N.cuts
      simp only [List.length_append]
      split <;> simp <;> omega
    · omega
  obtain ⟨E, HE⟩ : ∃ E, Hid (E = S.cutErr da db) := ⟨_, Lib.hid rfl⟩
  obtain ⟨N2, HN2⟩ : ∃ N2, Hid (N2 = N.setCut da db is) := ⟨_, Lib.hid rfl⟩
  obtain ⟨S2, HS2⟩ : ∃ S2, Hid (S2 = S.setCut da db is) := ⟨_, Lib.hid rfl⟩
  rw [← HE.out] at hrs ⊢
  rw [← HN2.out] at hrs hA2 hcl2
  rw [← HS2.out] at hN2 hA2
  have hnw : N2.way.length = N.way.length := by rw [HN2.out]; unfold RN.setCut; split <;> rfl
  obtain ⟨NP, Nn, Nw, Nc⟩ := N
  simp only [rcells] at FG hrs hB2
  simp only at hrn2 hnw
  have HNW := Lib.hid hnw
  clear hnw c0 hcu w0' w1'
  go_cut [14, 15] (fun v8 v9 wx => ∃ (gn : Nat) (A' : Option Addr) (c' : Nat), v8 = .pointer (some ⟨gn, 0, none⟩) ∧ v9 = .int .i64 E ∧ Blk wx gn 47 (rcells N2 (.slice AV Nw.length cV) (.slice A' N2.cuts.length c')) ∧ RnAt wx N2 (.slice AV Nw.length cV) (.slice A' N2.cuts.length c') ∧ Keep [] w2 wx)
  case first =>
    refine wp_region_noPanic ?_
    refine Bz.wp_region_E (S := (fun w' => Keep [] w2 w')) (E := []) (by kernel_rfl) (by exact (Keep.refl _ _).drew) (fun hHeld => ?_)
    obtain ⟨wd, hwd⟩ : ∃ W, W = w2.drew := ⟨_, rfl⟩
    rw [← hwd] at hHeld ⊢
    clear hwd
    refine Bz.wpAnyE_take (i := 0) (oi := { dst := some 85, op := Go.Op.move (Go.Operand.tmp 1), type := 65, pos := "law.go:74", after := #[], guard := none }) (v := ?_) rfl (by kernel_rfl) (by kernel_rfl) (by kernel_rfl) (by kernel_rfl) (fun _ _ _ h => h) (Or.inl ⟨by rfl, ?_⟩) hHeld ?_
    rotate_left 1
    · (intro w hSw; have q0 := FD w hSw; have q1 := FG w hSw; go_simp; first | done | with_reducible rfl)
    try simp only [Act.put, List.setIfInBounds_toArray, List.set_cons_zero, List.set_cons_succ]
    refine Bz.wpAnyE_take (i := 1) (oi := { dst := some 86, op := Go.Op.nilCheck (Go.Operand.tmp 85), type := 0, pos := "law.go:74", after := #[{ on := 0, ground := Go.Ground.data }], guard := none }) (v := ?_) rfl (by kernel_rfl) (by kernel_rfl) (by kernel_rfl) (by kernel_rfl) (fun _ _ _ h => h) (Or.inl ⟨by rfl, ?_⟩) hHeld ?_
    rotate_left 1
    · (intro w hSw; have q0 := FD w hSw; have q1 := FG w hSw; go_simp; first | done | with_reducible rfl)
    try simp only [Act.put, List.setIfInBounds_toArray, List.set_cons_zero, List.set_cons_succ]
    refine Bz.wpAnyE_take (i := 2) (oi := { dst := some 87, op := Go.Op.load 47 (Go.Operand.tmp 86), type := 47, pos := "law.go:74", after := #[{ on := 1, ground := Go.Ground.data }], guard := none }) (v := ?_) rfl (by kernel_rfl) (by kernel_rfl) (by kernel_rfl) (by kernel_rfl) (fun _ _ _ h => h) (Or.inl ⟨by rfl, ?_⟩) hHeld ?_
    rotate_left 1
    · (intro w hSw; have q0 := FD w hSw; have q1 := FG w hSw; go_simp; first | done | with_reducible rfl)
    try simp only [Act.put, List.setIfInBounds_toArray, List.set_cons_zero, List.set_cons_succ]
    refine Bz.wpAnyE_take (i := 3) (oi := { dst := some 88, op := Go.Op.fieldAddr 58 (Go.Operand.tmp 5) 1, type := 0, pos := "law.go:74", after := #[], guard := none }) (v := ?_) rfl (by kernel_rfl) (by kernel_rfl) (by kernel_rfl) (by kernel_rfl) (fun _ _ _ h => h) (Or.inl ⟨by rfl, ?_⟩) hHeld ?_
    rotate_left 1
    · (intro w hSw; have q0 := FD w hSw; have q1 := FG w hSw; go_simp; first | done | with_reducible rfl)
    try simp only [Act.put, List.setIfInBounds_toArray, List.set_cons_zero, List.set_cons_succ]
    refine Bz.wpAnyE_take (i := 4) (oi := { dst := some 89, op := Go.Op.load 3 (Go.Operand.tmp 88), type := 3, pos := "law.go:74", after := #[{ on := 3, ground := Go.Ground.data }], guard := none }) (v := ?_) rfl (by kernel_rfl) (by kernel_rfl) (by kernel_rfl) (by kernel_rfl) (fun _ _ _ h => h) (Or.inl ⟨by rfl, ?_⟩) hHeld ?_
    rotate_left 1
    · (intro w hSw; have q0 := FD w hSw; have q1 := FG w hSw; go_simp; first | done | with_reducible rfl)
    try simp only [Act.put, List.setIfInBounds_toArray, List.set_cons_zero, List.set_cons_succ]
    refine Bz.wpAnyE_take (i := 5) (oi := { dst := some 90, op := Go.Op.fieldAddr 58 (Go.Operand.tmp 5) 2, type := 0, pos := "law.go:74", after := #[], guard := none }) (v := ?_) rfl (by kernel_rfl) (by kernel_rfl) (by kernel_rfl) (by kernel_rfl) (fun _ _ _ h => h) (Or.inl ⟨by rfl, ?_⟩) hHeld ?_
    rotate_left 1
    · (intro w hSw; have q0 := FD w hSw; have q1 := FG w hSw; go_simp; first | done | with_reducible rfl)
    try simp only [Act.put, List.setIfInBounds_toArray, List.set_cons_zero, List.set_cons_succ]
    refine Bz.wpAnyE_take (i := 6) (oi := { dst := some 91, op := Go.Op.load 3 (Go.Operand.tmp 90), type := 3, pos := "law.go:74", after := #[{ on := 5, ground := Go.Ground.data }], guard := none }) (v := ?_) rfl (by kernel_rfl) (by kernel_rfl) (by kernel_rfl) (by kernel_rfl) (fun _ _ _ h => h) (Or.inl ⟨by rfl, ?_⟩) hHeld ?_
    rotate_left 1
    · (intro w hSw; have q0 := FD w hSw; have q1 := FG w hSw; go_simp; first | done | with_reducible rfl)
    try simp only [Act.put, List.setIfInBounds_toArray, List.set_cons_zero, List.set_cons_succ]
    refine Bz.wpAnyE_take (i := 7) (oi := { dst := some 92, op := Go.Op.fieldAddr 58 (Go.Operand.tmp 5) 0, type := 0, pos := "law.go:74", after := #[], guard := none }) (v := ?_) rfl (by kernel_rfl) (by kernel_rfl) (by kernel_rfl) (by kernel_rfl) (fun _ _ _ h => h) (Or.inl ⟨by rfl, ?_⟩) hHeld ?_
    rotate_left 1
    · (intro w hSw; have q0 := FD w hSw; have q1 := FG w hSw; go_simp; first | done | with_reducible rfl)
    try simp only [Act.put, List.setIfInBounds_toArray, List.set_cons_zero, List.set_cons_succ]
    refine Bz.wpAnyE_take (i := 8) (oi := { dst := some 93, op := Go.Op.load 5 (Go.Operand.tmp 92), type := 5, pos := "law.go:74", after := #[{ on := 7, ground := Go.Ground.data }], guard := none }) (v := ?_) rfl (by kernel_rfl) (by kernel_rfl) (by kernel_rfl) (by kernel_rfl) (fun _ _ _ h => h) (Or.inl ⟨by rfl, ?_⟩) hHeld ?_
    rotate_left 1
    · (intro w hSw; have q0 := FD w hSw; have q1 := FG w hSw; go_simp; first | done | with_reducible rfl)
    try simp only [Act.put, List.setIfInBounds_toArray, List.set_cons_zero, List.set_cons_succ]
    refine Bz.wpAnyE_take (i := 9) (oi := { dst := some 94, op := Go.Op.binOp Go.BinOp.rem 5 (Go.Operand.tmp 93) (Go.Operand.const (Go.Value.int Go.IntKind.u8 4)) 5, type := 5, pos := "law.go:74", after := #[{ on := 8, ground := Go.Ground.data }], guard := none }) (v := ?_) rfl (by kernel_rfl) (by kernel_rfl) (by kernel_rfl) (by kernel_rfl) (fun _ _ _ h => h) (Or.inl ⟨by rfl, ?_⟩) hHeld ?_
    rotate_left 1
    · (intro w hSw; have q0 := FD w hSw; have q1 := FG w hSw; go_simp; first | done | with_reducible rfl)
    try simp only [Act.put, List.setIfInBounds_toArray, List.set_cons_zero, List.set_cons_succ]
    refine Bz.wpAnyE_take (i := 10) (oi := { dst := some 95, op := Go.Op.binOp Go.BinOp.eql 5 (Go.Operand.tmp 94) (Go.Operand.const (Go.Value.int Go.IntKind.u8 2)) 5, type := 4, pos := "law.go:74", after := #[{ on := 9, ground := Go.Ground.data }], guard := none }) (v := ?_) rfl (by kernel_rfl) (by kernel_rfl) (by kernel_rfl) (by kernel_rfl) (fun _ _ _ h => h) (Or.inl ⟨by rfl, ?_⟩) hHeld ?_
    rotate_left 1
    · (intro w hSw; have q0 := FD w hSw; have q1 := FG w hSw; go_simp; first | done | with_reducible rfl)
    try simp only [Act.put, List.setIfInBounds_toArray, List.set_cons_zero, List.set_cons_succ]
    refine Bz.wpAnyE_ready (rs := [11, 15]) (by kernel_rfl) (by simp) ?_
    refine Bz.AllReadyE.cons (o := { dst := some 96, op := Go.Op.call { callee := Go.Callee.value (Go.Operand.func 38), args := #[Go.Operand.tmp 87, Go.Operand.tmp 89, Go.Operand.tmp 91, Go.Operand.tmp 95], argTypes := #[47, 3, 3, 4] }, type := 89, pos := "law.go:74", after := #[{ on := 2, ground := Go.Ground.data }, { on := 4, ground := Go.Ground.data }, { on := 6, ground := Go.Ground.data }, { on := 10, ground := Go.Ground.data }], guard := none }) rfl (fun K hK => ?_) ?_
    · skip
      go_simp
      
      refine (hrs _ hHeld).mono ?_
      rintro e w6 ⟨C', rfl, hrn6, hk6⟩
      obtain ⟨_, ⟨A', c', rfl⟩⟩ := hrn6.sl
      try have hBz := hBz.keep hk6 (by simp)
      refine hK.out _ _ (by exact hHeld.trans hk6) ?_
      clear hHeld hK K; intro hHeld
      try simp only [Act.put, List.setIfInBounds_toArray, List.set_cons_zero, List.set_cons_succ]
      refine Bz.wpAnyE_take (i := 12) (oi := { dst := some 84, op := Go.Op.move (Go.Operand.tmp 96), type := 89, pos := "law.go:74", after := #[{ on := 11, ground := Go.Ground.data }], guard := none }) (v := ?_) rfl (by kernel_rfl) (by kernel_rfl) (by kernel_rfl) (by kernel_rfl) (fun _ _ _ h => h) (Or.inl ⟨by rfl, ?_⟩) hHeld ?_
      rotate_left 1
      · (intro w hSw; have q0 := FD w hSw; have q1 := FG w hSw; go_simp; first | done | with_reducible rfl)
      try simp only [Act.put, List.setIfInBounds_toArray, List.set_cons_zero, List.set_cons_succ]
      refine Bz.wpAnyE_take (i := 13) (oi := { dst := some 97, op := Go.Op.extract (Go.Operand.tmp 84) 0, type := 47, pos := "law.go:74", after := #[{ on := 12, ground := Go.Ground.data }], guard := none }) (v := ?_) rfl (by kernel_rfl) (by kernel_rfl) (by kernel_rfl) (by kernel_rfl) (fun _ _ _ h => h) (Or.inl ⟨by rfl, ?_⟩) hHeld ?_
      rotate_left 1
      · (intro w hSw; have q0 := FD w hSw; have q1 := FG w hSw; go_simp; first | done | with_reducible rfl)
      try simp only [Act.put, List.setIfInBounds_toArray, List.set_cons_zero, List.set_cons_succ]
      refine Bz.wpAnyE_take (i := 14) (oi := { dst := some 98, op := Go.Op.extract (Go.Operand.tmp 84) 1, type := 3, pos := "law.go:74", after := #[{ on := 12, ground := Go.Ground.data }, { on := 16, ground := Go.Ground.gcOnly Go.Departure.lateStores }], guard := none }) (v := ?_) rfl (by kernel_rfl) (by kernel_rfl) (by kernel_rfl) (by kernel_rfl) (fun _ _ _ h => h) (Or.inl ⟨by rfl, ?_⟩) hHeld ?_
      rotate_left 1
      · (intro w hSw; have q0 := FD w hSw; have q1 := FG w hSw; go_simp; first | done | with_reducible rfl)
      try simp only [Act.put, List.setIfInBounds_toArray, List.set_cons_zero, List.set_cons_succ]
      refine Bz.wpAnyE_ready (rs := [15]) (by kernel_rfl) (by simp) ?_
      refine Bz.AllReadyE.cons (o := { dst := some 14, op := Go.Op.alloc 47, type := 0, pos := "law.go:74", after := #[], guard := none }) rfl (fun K hK => ?_) Bz.AllReadyE.nil
      
      obtain ⟨wa, gn, hwa, hgn, hBz, hka, hza⟩ := zero_keep hHeld
      go_simp
      rw [← hwa, ← hgn]
      have hgn0 : w2.heap.size ≤ gn := by rw [hgn]; exact hHeld.size
      clear hwa hgn
      try have hrn6 := hrn6.keep0 hka
      refine hK.out _ _ (by exact hHeld.trans hka) ?_
      clear hHeld hK K; intro hHeld
      try simp only [Act.put, List.setIfInBounds_toArray, List.set_cons_zero, List.set_cons_succ]
      refine Bz.wpAnyE_ready (rs := [16]) (by kernel_rfl) (by simp) ?_
      refine Bz.AllReadyE.cons (o := { dst := none, op := Go.Op.store 47 (Go.Operand.tmp 14) (Go.Operand.tmp 97), type := 0, pos := "law.go:74", after := #[{ on := 15, ground := Go.Ground.data }, { on := 13, ground := Go.Ground.data }, { on := 11, ground := Go.Ground.chain }, { on := 0, ground := Go.Ground.phase }, { on := 1, ground := Go.Ground.phase }, { on := 2, ground := Go.Ground.phase }, { on := 3, ground := Go.Ground.phase }, { on := 4, ground := Go.Ground.phase }, { on := 5, ground := Go.Ground.phase }, { on := 6, ground := Go.Ground.phase }, { on := 7, ground := Go.Ground.phase }, { on := 8, ground := Go.Ground.phase }, { on := 9, ground := Go.Ground.phase }, { on := 10, ground := Go.Ground.phase }, { on := 11, ground := Go.Ground.phase }, { on := 12, ground := Go.Ground.phase }, { on := 13, ground := Go.Ground.phase }, { on := 14, ground := Go.Ground.textOnly Go.Departure.lateStores }, { on := 15, ground := Go.Ground.phase }], guard := none }) rfl (fun K hK => ?_) Bz.AllReadyE.nil
      
      have z0 := hBz.cell
      have z1 := hBz.frozen
      obtain ⟨hp1, hp2, hp3⟩ := put4 hBz hHeld hgn0 (.int .i64 N2.P) (.int .i64 N2.now) (.slice AV Nw.length cV) (.slice A' N2.cuts.length c')
      have hrn7 := hrn6.far hBz hp3
      go_simp
      refine hK.out _ _ (by exact hp2) ?_
      clear hHeld hK K; intro hHeld
      try simp only [Act.put, List.setIfInBounds_toArray, List.set_cons_zero, List.set_cons_succ]
      refine Bz.wpAnyE_take (i := 17) (oi := { dst := some 15, op := Go.Op.assign (Go.Operand.tmp 98), type := 3, pos := "law.go:74", after := #[{ on := 14, ground := Go.Ground.data }, { on := 16, ground := Go.Ground.chain }, { on := 0, ground := Go.Ground.phase }, { on := 1, ground := Go.Ground.phase }, { on := 2, ground := Go.Ground.phase }, { on := 3, ground := Go.Ground.phase }, { on := 4, ground := Go.Ground.phase }, { on := 5, ground := Go.Ground.phase }, { on := 6, ground := Go.Ground.phase }, { on := 7, ground := Go.Ground.phase }, { on := 8, ground := Go.Ground.phase }, { on := 9, ground := Go.Ground.phase }, { on := 10, ground := Go.Ground.phase }, { on := 11, ground := Go.Ground.phase }, { on := 12, ground := Go.Ground.phase }, { on := 13, ground := Go.Ground.phase }, { on := 14, ground := Go.Ground.phase }, { on := 15, ground := Go.Ground.phase }, { on := 16, ground := Go.Ground.phase }], guard := none }) (v := ?_) rfl (by kernel_rfl) (by kernel_rfl) (by kernel_rfl) (by kernel_rfl) (fun _ _ _ h => h) (Or.inl ⟨by rfl, ?_⟩) hHeld ?_
      rotate_left 1
      · (intro w hSw; have q0 := FD w hSw; have q1 := FG w hSw; go_simp; first | done | with_reducible rfl)
      try simp only [Act.put, List.setIfInBounds_toArray, List.set_cons_zero, List.set_cons_succ]
      refine Bz.wpAnyE_done (by kernel_rfl) ?_ _
      refine NoPanic.normal ?_
      go_wp2_with fail
      go_meet
      exact ⟨gn, A', c', rfl, rfl, hp1, hrn7, hHeld⟩
    refine Bz.AllReadyE.cons (o := { dst := some 14, op := Go.Op.alloc 47, type := 0, pos := "law.go:74", after := #[], guard := none }) rfl (fun K hK => ?_) ?_
    · skip
      
      obtain ⟨wa, gn, hwa, hgn, hBz, hka, hza⟩ := zero_keep hHeld
      go_simp
      rw [← hwa, ← hgn]
      have hgn0 : w2.heap.size ≤ gn := by rw [hgn]; exact hHeld.size
      clear hwa hgn
      try have hrn6 := hrn6.keep0 hka
      refine hK.out _ _ (by exact hHeld.trans hka) ?_
      clear hHeld hK K; intro hHeld
      try simp only [Act.put, List.setIfInBounds_toArray, List.set_cons_zero, List.set_cons_succ]
      refine Bz.wpAnyE_ready (rs := [11]) (by kernel_rfl) (by simp) ?_
      refine Bz.AllReadyE.cons (o := { dst := some 96, op := Go.Op.call { callee := Go.Callee.value (Go.Operand.func 38), args := #[Go.Operand.tmp 87, Go.Operand.tmp 89, Go.Operand.tmp 91, Go.Operand.tmp 95], argTypes := #[47, 3, 3, 4] }, type := 89, pos := "law.go:74", after := #[{ on := 2, ground := Go.Ground.data }, { on := 4, ground := Go.Ground.data }, { on := 6, ground := Go.Ground.data }, { on := 10, ground := Go.Ground.data }], guard := none }) rfl (fun K hK => ?_) Bz.AllReadyE.nil
      go_simp
      
      refine (hrs _ hHeld).mono ?_
      rintro e w6 ⟨C', rfl, hrn6, hk6⟩
      obtain ⟨_, ⟨A', c', rfl⟩⟩ := hrn6.sl
      try have hBz := hBz.keep hk6 (by simp)
      refine hK.out _ _ (by exact hHeld.trans hk6) ?_
      clear hHeld hK K; intro hHeld
      try simp only [Act.put, List.setIfInBounds_toArray, List.set_cons_zero, List.set_cons_succ]
      refine Bz.wpAnyE_take (i := 12) (oi := { dst := some 84, op := Go.Op.move (Go.Operand.tmp 96), type := 89, pos := "law.go:74", after := #[{ on := 11, ground := Go.Ground.data }], guard := none }) (v := ?_) rfl (by kernel_rfl) (by kernel_rfl) (by kernel_rfl) (by kernel_rfl) (fun _ _ _ h => h) (Or.inl ⟨by rfl, ?_⟩) hHeld ?_
      rotate_left 1
      · (intro w hSw; have q0 := FD w hSw; have q1 := FG w hSw; go_simp; first | done | with_reducible rfl)
      try simp only [Act.put, List.setIfInBounds_toArray, List.set_cons_zero, List.set_cons_succ]
      refine Bz.wpAnyE_take (i := 13) (oi := { dst := some 97, op := Go.Op.extract (Go.Operand.tmp 84) 0, type := 47, pos := "law.go:74", after := #[{ on := 12, ground := Go.Ground.data }], guard := none }) (v := ?_) rfl (by kernel_rfl) (by kernel_rfl) (by kernel_rfl) (by kernel_rfl) (fun _ _ _ h => h) (Or.inl ⟨by rfl, ?_⟩) hHeld ?_
      rotate_left 1
      · (intro w hSw; have q0 := FD w hSw; have q1 := FG w hSw; go_simp; first | done | with_reducible rfl)
      try simp only [Act.put, List.setIfInBounds_toArray, List.set_cons_zero, List.set_cons_succ]
      refine Bz.wpAnyE_take (i := 14) (oi := { dst := some 98, op := Go.Op.extract (Go.Operand.tmp 84) 1, type := 3, pos := "law.go:74", after := #[{ on := 12, ground := Go.Ground.data }, { on := 16, ground := Go.Ground.gcOnly Go.Departure.lateStores }], guard := none }) (v := ?_) rfl (by kernel_rfl) (by kernel_rfl) (by kernel_rfl) (by kernel_rfl) (fun _ _ _ h => h) (Or.inl ⟨by rfl, ?_⟩) hHeld ?_
      rotate_left 1
      · (intro w hSw; have q0 := FD w hSw; have q1 := FG w hSw; go_simp; first | done | with_reducible rfl)
      try simp only [Act.put, List.setIfInBounds_toArray, List.set_cons_zero, List.set_cons_succ]
      refine Bz.wpAnyE_ready (rs := [16]) (by kernel_rfl) (by simp) ?_
      refine Bz.AllReadyE.cons (o := { dst := none, op := Go.Op.store 47 (Go.Operand.tmp 14) (Go.Operand.tmp 97), type := 0, pos := "law.go:74", after := #[{ on := 15, ground := Go.Ground.data }, { on := 13, ground := Go.Ground.data }, { on := 11, ground := Go.Ground.chain }, { on := 0, ground := Go.Ground.phase }, { on := 1, ground := Go.Ground.phase }, { on := 2, ground := Go.Ground.phase }, { on := 3, ground := Go.Ground.phase }, { on := 4, ground := Go.Ground.phase }, { on := 5, ground := Go.Ground.phase }, { on := 6, ground := Go.Ground.phase }, { on := 7, ground := Go.Ground.phase }, { on := 8, ground := Go.Ground.phase }, { on := 9, ground := Go.Ground.phase }, { on := 10, ground := Go.Ground.phase }, { on := 11, ground := Go.Ground.phase }, { on := 12, ground := Go.Ground.phase }, { on := 13, ground := Go.Ground.phase }, { on := 14, ground := Go.Ground.textOnly Go.Departure.lateStores }, { on := 15, ground := Go.Ground.phase }], guard := none }) rfl (fun K hK => ?_) Bz.AllReadyE.nil
      
      have z0 := hBz.cell
      have z1 := hBz.frozen
      obtain ⟨hp1, hp2, hp3⟩ := put4 hBz hHeld hgn0 (.int .i64 N2.P) (.int .i64 N2.now) (.slice AV Nw.length cV) (.slice A' N2.cuts.length c')
      have hrn7 := hrn6.far hBz hp3
      go_simp
      refine hK.out _ _ (by exact hp2) ?_
      clear hHeld hK K; intro hHeld
      try simp only [Act.put, List.setIfInBounds_toArray, List.set_cons_zero, List.set_cons_succ]
      refine Bz.wpAnyE_take (i := 17) (oi := { dst := some 15, op := Go.Op.assign (Go.Operand.tmp 98), type := 3, pos := "law.go:74", after := #[{ on := 14, ground := Go.Ground.data }, { on := 16, ground := Go.Ground.chain }, { on := 0, ground := Go.Ground.phase }, { on := 1, ground := Go.Ground.phase }, { on := 2, ground := Go.Ground.phase }, { on := 3, ground := Go.Ground.phase }, { on := 4, ground := Go.Ground.phase }, { on := 5, ground := Go.Ground.phase }, { on := 6, ground := Go.Ground.phase }, { on := 7, ground := Go.Ground.phase }, { on := 8, ground := Go.Ground.phase }, { on := 9, ground := Go.Ground.phase }, { on := 10, ground := Go.Ground.phase }, { on := 11, ground := Go.Ground.phase }, { on := 12, ground := Go.Ground.phase }, { on := 13, ground := Go.Ground.phase }, { on := 14, ground := Go.Ground.phase }, { on := 15, ground := Go.Ground.phase }, { on := 16, ground := Go.Ground.phase }], guard := none }) (v := ?_) rfl (by kernel_rfl) (by kernel_rfl) (by kernel_rfl) (by kernel_rfl) (fun _ _ _ h => h) (Or.inl ⟨by rfl, ?_⟩) hHeld ?_
      rotate_left 1
      · (intro w hSw; have q0 := FD w hSw; have q1 := FG w hSw; go_simp; first | done | with_reducible rfl)
      try simp only [Act.put, List.setIfInBounds_toArray, List.set_cons_zero, List.set_cons_succ]
      refine Bz.wpAnyE_done (by kernel_rfl) ?_ _
      refine NoPanic.normal ?_
      go_wp2_with fail
      go_meet
      exact ⟨gn, A', c', rfl, rfl, hp1, hrn7, hHeld⟩
    exact Bz.AllReadyE.nil
  case rest =>
    obtain ⟨gn, A', c', rfl, rfl, hBn, hrn3, hk3⟩ := hcut
    have q0 := hBn.cell
    have hB3 := hB2.keep hk3 (by simp)
    have q1 := hB3.cell
    have q2 := hB3.frozen
    obtain ⟨hb, hbk⟩ := both_put (hN2.keep0 hk3) hB3 hrn3 h.ht h.hmb h.hR h.hg (hk0.trans hk3)
    clear FD FG hrs
    go_wp2_with fail
    go_ret
    refine ⟨rfl, S2, R, B, N2, _, _, hb, hA2, hcl2, fun x hx => .inl hx, ?_⟩
    have e1 : Keep (g :: t :: mb :: R) w w2 := hk1.sub.trans (hk2'.mono (fun x _ hx => List.mem_cons_of_mem _ hx))
    exact (e1.trans hk3.sub).trans (hbk.mono (fun x _ hx => by simp at hx; simp [hx]))
theorem do_any (h : BothAt w0 w t mb g S R B N V C) (hA : ActS S N k) (hk' : k ≤ 100) (hc : N.cuts.length ≤ k) (d : Deed) (hd : RdV w0 1 ienc d.L d.l) (hds : SomeOr d.L) (hs : d.s.size ≤ 100) (hw0 : 0 ≤ d.w ∧ d.w ≤ 255) (hl : d.l.length ≤ 20) :
    Calls Try.prog 23 #[.pointer (some ⟨t, 0, none⟩), .pointer (some ⟨g, 0, none⟩), .agg (denc d)] w (DoPost w0 w t mb g R k) := by
  have hsl : ∃ A n c, d.L = .slice A n c := by
    obtain ⟨A, c, h1, _⟩ := hd
    exact ⟨A, _, c, h1⟩
  have h4 : d.w % 4 = 0 ∨ d.w % 4 = 1 ∨ d.w % 4 = 2 ∨ d.w % 4 = 3 := by omega
  rcases h4 with h4 | h4 | h4
  · exact do_send h hA hk' hc d hd hds hs h4 hw0 hl
  · exact do_step h hA hk' hc d hsl h4 hw0
  · exact do_cut h hA hk' hc d hsl h4 hw0
end
end Go.Proofs.Ytcjbmbljmmakfaa
