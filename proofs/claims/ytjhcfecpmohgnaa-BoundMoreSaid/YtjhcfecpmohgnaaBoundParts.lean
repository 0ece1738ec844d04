/- BoundParts walked. -/
import Derived.Test.YtjhcfecpmohgnaaSubs
namespace Go.Proofs.Ytjhcfecpmohgnaa
open Go.RowKit Go.Bz

theorem size25 (W : World) : (sizeOf (Try.prog.elem 25)).run Try.prog W = .ok 7 W := by kernel_rfl
theorem slice_h (W : World) (A : Option Addr) (n cap k : Nat) (hk : k ≤ cap) : (Instr.slice 25 (.slice A n cap) none (some (.int .i64 k)) none).run Try.prog W = .ok (sliced A 0 k cap 7) W := by
  rw [run_slice_h (P := Try.prog) W 25 A n cap (by kernel_rfl) .i64 k (by omega) (by omega), size25]
  simp
theorem slice_l (W : World) (A : Option Addr) (n cap k : Nat) (hk : k ≤ n) : (Instr.slice 25 (.slice A n cap) (some (.int .i64 k)) none none).run Try.prog W = .ok (sliced A k n cap 7) W := by
  rw [run_slice_l (P := Try.prog) W 25 A n cap (by kernel_rfl) .i64 k (by omega) (by omega), size25]
  simp
theorem bcost_join (a b : List Int) (hb : Cs a) (hb' : Cs b) : bcost (a ++ b) = min (bcost a + bcost b) 65537 := by
  have h1 := total_nonneg hb
  have h2 := total_nonneg hb'
  unfold bcost tsum
  rw [total_append]
  unfold top
  split <;> split <;> split <;> omega
set_option maxRecDepth 100000 in
theorem boundParts_any {h : Nat} {w : World} {A : Option Addr} {cap : Nat} {us : List Int} (hx : StL w h (.slice A us.length cap) us) (hnz : SomeOr (.slice A us.length cap)) (hsz : us.length * 112 ≤ 140737488351232)
    (c : Int) (hc : I64 c) : Calls Try.prog 5 #[.slice A us.length cap, .int .i64 c] w (fun e w' => e = .returned (.bool true) ∧ Keep [] w w') := by
  have fA := few_any hx
  go_enter Try.func5, Try.ntmps5
  go_upto_region 3 with (first
    | (go_at_call 11; refine fA.mono ?_; rintro e w2 ⟨⟨b, rfl⟩, hk2⟩; cases b)
    | (go_at_call 10; refine (known_any _).mono ?_; rintro e wk ⟨rfl, hkk⟩)
    | fail)
  · go_wp2_with fail
    go_ret
    exact ⟨rfl, hk2.trans hkk⟩
  · go_upto_region 4 with fail
    obtain ⟨K, hK, hKl⟩ : ∃ K : Nat, wrap64 ((IntKind.u64.wrap c).tmod ((us.length : Int) + 1)) = K ∧ K ≤ us.length := by
      have h0 : 0 ≤ IntKind.u64.wrap c := by rw [IntKind.wrap_u64]; omega
      have h1 := Int.emod_nonneg (IntKind.u64.wrap c) (b := (us.length : Int) + 1) (by omega)
      have h2 := Int.emod_lt_of_pos (IntKind.u64.wrap c) (b := (us.length : Int) + 1) (by omega)
      rw [Int.tmod_eq_emod_of_nonneg h0]
      refine ⟨((IntKind.u64.wrap c) % ((us.length : Int) + 1)).toNat, ?_, by omega⟩
      unfold wrap64
      omega
    rw [hK]
    clear hK hc fA
    obtain ⟨h', rs, rfl, hR, hO⟩ := hx.raw
    rw [List.length_map] at hKl hsz hnz hR ⊢
    have hlc : rs.length ≤ cap := by
      obtain ⟨_, _, hv, h1, _⟩ := id hR
      cases hv
      exact h1
    have hcs := hx.cs
    have hs1 := fun W => slice_h W A rs.length cap K (by omega)
    have hs2 := fun W => slice_l W A rs.length cap K hKl
    have R1 := RdV.part hR (i := 0) (j := K) (Nat.zero_le _) hKl (by decide)
    have R2 := RdV.part hR (i := K) (j := rs.length) hKl (Nat.le_refl _) (by decide)
    have N1 := hnz.part (i := 0) (j := K) (s := 7) (Nat.zero_le _) hKl
    have N2 := hnz.part (i := K) (j := rs.length) (s := 7) hKl (Nat.le_refl _)
    rw [List.drop_zero] at R1
    rw [List.take_of_length_le (Nat.le_refl _)] at R2
    obtain ⟨V1, HV1⟩ : ∃ V, Hid (V = sliced A 0 K cap 7) := ⟨_, Lib.hid rfl⟩
    obtain ⟨V2, HV2⟩ : ∃ V, Hid (V = sliced A K rs.length cap 7) := ⟨_, Lib.hid rfl⟩
    rw [← HV1.out] at hs1 R1 N1
    rw [← HV2.out] at hs2 R2 N2
    have O1 : ∀ x ∈ rs.take K, SOk w h' x := fun x hx => hO x (List.mem_of_mem_take hx)
    have O2 : ∀ x ∈ rs.drop K, SOk w h' x := fun x hx => hO x (List.mem_of_mem_drop hx)
    have b1 := fun W (hk : Keep [] w W) => block_any ((StL.of R1 O1).keep hk)
    have b2 := fun W (hk : Keep [] w W) => block_any ((StL.of R2 O2).keep hk)
    have b0 := fun W (hk : Keep [] w W) => block_any (hx.keep hk)
    have c1 : Cs ((rs.take K).map SRaw.c) := (StL.of R1 O1).cs
    have c2 : Cs ((rs.drop K).map SRaw.c) := (StL.of R2 O2).cs
    have j0 := bcost_join _ _ c1 c2
    have j1 := bcost_join _ _ c2 c1
    rw [← List.map_append, List.take_append_drop] at j0
    have r1 := bcost_range c1
    have r2 := bcost_range c2
    rw [j0, List.length_map] at b0
    clear j0 c1 c2 hcs hx
    have hl12 : (rs.drop K).length + (rs.take K).length = rs.length := by rw [List.length_drop, List.length_take]; omega
    obtain ⟨l1, HL1⟩ : ∃ l, Hid (l = rs.take K) := ⟨_, Lib.hid rfl⟩
    obtain ⟨l2, HL2⟩ : ∃ l, Hid (l = rs.drop K) := ⟨_, Lib.hid rfl⟩
    rw [← HL1.out] at R1 O1 b1 b0 j1 r1 hl12
    rw [← HL2.out] at R2 O2 b2 b0 j1 r2 hl12
    obtain ⟨x, HX⟩ : ∃ t, Hid (t = bcost (l1.map SRaw.c)) := ⟨_, Lib.hid rfl⟩
    obtain ⟨y, HY⟩ : ∃ t, Hid (t = bcost (l2.map SRaw.c)) := ⟨_, Lib.hid rfl⟩
    rw [← HX.out] at b1 b0 j1 r1
    rw [← HY.out] at b2 b0 j1 r2
    have HJ := Lib.hid j1
    clear j1 HX HY HL1 HL2 HV1 HV2 hR hO hlc hKl
    clear hnz
    have S2 := fun W (hk : Keep [] w2 W) => hk2.trans hk
    refine wp_region_noPanic ?_
    refine Bz.wp_region_E (S := (fun w' => Keep [] w2 w')) (E := []) (by kernel_rfl) (by exact (Keep.refl _ _).drew) (fun hHeld => ?_)
    refine Bz.wpAnyE_take (i := 0) (oi := { dst := some 22, op := Go.Op.move (Go.Operand.tmp 0), type := 25, pos := "law.go:151", after := #[], guard := none }) (v := ?_) rfl (by kernel_rfl) (by kernel_rfl) (by kernel_rfl) (by kernel_rfl) (fun _ _ _ h => h) (Or.inl ⟨by rfl, ?_⟩) hHeld ?_
    rotate_left 1
    · (intro w hSw; skip; go_simp; first | done | with_reducible rfl)
    try simp only [Act.put, List.setIfInBounds_toArray, List.set_cons_zero, List.set_cons_succ]
    refine Bz.wpAnyE_take (i := 1) (oi := { dst := some 23, op := Go.Op.move (Go.Operand.tmp 5), type := 3, pos := "law.go:151", after := #[], guard := none }) (v := ?_) rfl (by kernel_rfl) (by kernel_rfl) (by kernel_rfl) (by kernel_rfl) (fun _ _ _ h => h) (Or.inl ⟨by rfl, ?_⟩) hHeld ?_
    rotate_left 1
    · (intro w hSw; skip; go_simp; first | done | with_reducible rfl)
    try simp only [Act.put, List.setIfInBounds_toArray, List.set_cons_zero, List.set_cons_succ]
    refine Bz.wpAnyE_take (i := 2) (oi := { dst := some 24, op := Go.Op.slice 25 (Go.Operand.tmp 22) none (some (Go.Operand.tmp 23)) none, type := 25, pos := "law.go:151", after := #[{ on := 0, ground := Go.Ground.data }, { on := 1, ground := Go.Ground.data }], guard := none }) (v := ?_) rfl (by kernel_rfl) (by kernel_rfl) (by kernel_rfl) (by kernel_rfl) (fun _ _ _ h => h) (Or.inl ⟨by rfl, ?_⟩) hHeld ?_
    rotate_left 1
    · (intro w hSw; skip; go_simp; first | done | with_reducible rfl)
    try simp only [Act.put, List.setIfInBounds_toArray, List.set_cons_zero, List.set_cons_succ]
    refine Bz.wpAnyE_take (i := 4) (oi := { dst := some 26, op := Go.Op.move (Go.Operand.tmp 0), type := 25, pos := "law.go:151", after := #[], guard := none }) (v := ?_) rfl (by kernel_rfl) (by kernel_rfl) (by kernel_rfl) (by kernel_rfl) (fun _ _ _ h => h) (Or.inl ⟨by rfl, ?_⟩) hHeld ?_
    rotate_left 1
    · (intro w hSw; skip; go_simp; first | done | with_reducible rfl)
    try simp only [Act.put, List.setIfInBounds_toArray, List.set_cons_zero, List.set_cons_succ]
    refine Bz.wpAnyE_take (i := 5) (oi := { dst := some 27, op := Go.Op.move (Go.Operand.tmp 5), type := 3, pos := "law.go:151", after := #[], guard := none }) (v := ?_) rfl (by kernel_rfl) (by kernel_rfl) (by kernel_rfl) (by kernel_rfl) (fun _ _ _ h => h) (Or.inl ⟨by rfl, ?_⟩) hHeld ?_
    rotate_left 1
    · (intro w hSw; skip; go_simp; first | done | with_reducible rfl)
    try simp only [Act.put, List.setIfInBounds_toArray, List.set_cons_zero, List.set_cons_succ]
    refine Bz.wpAnyE_take (i := 6) (oi := { dst := some 28, op := Go.Op.slice 25 (Go.Operand.tmp 26) (some (Go.Operand.tmp 27)) none none, type := 25, pos := "law.go:151", after := #[{ on := 4, ground := Go.Ground.data }, { on := 5, ground := Go.Ground.data }], guard := none }) (v := ?_) rfl (by kernel_rfl) (by kernel_rfl) (by kernel_rfl) (by kernel_rfl) (fun _ _ _ h => h) (Or.inl ⟨by rfl, ?_⟩) hHeld ?_
    rotate_left 1
    · (intro w hSw; skip; go_simp; first | done | with_reducible rfl)
    try simp only [Act.put, List.setIfInBounds_toArray, List.set_cons_zero, List.set_cons_succ]
    refine Bz.wpAnyE_ready (rs := [3]) (by kernel_rfl) (by simp) ?_
    refine Bz.AllReadyE.cons (o := { dst := some 25, op := Go.Op.call { callee := Go.Callee.value (Go.Operand.func 12), args := #[Go.Operand.tmp 24], argTypes := #[25] }, type := 3, pos := "law.go:151", after := #[{ on := 2, ground := Go.Ground.data }], guard := none }) rfl (fun K hK => ?_) Bz.AllReadyE.nil
    go_simp
    
    refine (b1 _ (S2 _ hHeld)).mono ?_
    rintro e w5 ⟨rfl, hk5⟩
    refine hK.out _ _ (by exact hHeld.trans hk5) ?_
    clear hHeld hK K; intro hHeld
    try simp only [Act.put, List.setIfInBounds_toArray, List.set_cons_zero, List.set_cons_succ]
    refine Bz.wpAnyE_ready (rs := [7]) (by kernel_rfl) (by simp) ?_
    refine Bz.AllReadyE.cons (o := { dst := some 29, op := Go.Op.call { callee := Go.Callee.value (Go.Operand.func 12), args := #[Go.Operand.tmp 28], argTypes := #[25] }, type := 3, pos := "law.go:151", after := #[{ on := 6, ground := Go.Ground.data }, { on := 3, ground := Go.Ground.chain }], guard := none }) rfl (fun K hK => ?_) Bz.AllReadyE.nil
    go_simp
    
    refine (b2 _ (S2 _ hHeld)).mono ?_
    rintro e w5 ⟨rfl, hk5⟩
    refine hK.out _ _ (by exact hHeld.trans hk5) ?_
    clear hHeld hK K; intro hHeld
    try simp only [Act.put, List.setIfInBounds_toArray, List.set_cons_zero, List.set_cons_succ]
    refine Bz.wpAnyE_take (i := 8) (oi := { dst := some 6, op := Go.Op.assign (Go.Operand.tmp 25), type := 3, pos := "law.go:151", after := #[{ on := 3, ground := Go.Ground.data }, { on := 7, ground := Go.Ground.chain }, { on := 0, ground := Go.Ground.phase }, { on := 1, ground := Go.Ground.phase }, { on := 2, ground := Go.Ground.phase }, { on := 3, ground := Go.Ground.phase }, { on := 4, ground := Go.Ground.textOnly Go.Departure.lateStores }, { on := 5, ground := Go.Ground.textOnly Go.Departure.lateStores }, { on := 6, ground := Go.Ground.textOnly Go.Departure.lateStoresUnsure }, { on := 7, ground := Go.Ground.textOnly Go.Departure.lateStoresUnsure }], guard := none }) (v := ?_) rfl (by kernel_rfl) (by kernel_rfl) (by kernel_rfl) (by kernel_rfl) (fun _ _ _ h => h) (Or.inl ⟨by rfl, ?_⟩) hHeld ?_
    rotate_left 1
    · (intro w hSw; skip; go_simp; first | done | with_reducible rfl)
    try simp only [Act.put, List.setIfInBounds_toArray, List.set_cons_zero, List.set_cons_succ]
    refine Bz.wpAnyE_take (i := 9) (oi := { dst := some 7, op := Go.Op.assign (Go.Operand.tmp 29), type := 3, pos := "law.go:151", after := #[{ on := 7, ground := Go.Ground.data }, { on := 8, ground := Go.Ground.chain }, { on := 0, ground := Go.Ground.phase }, { on := 1, ground := Go.Ground.phase }, { on := 2, ground := Go.Ground.phase }, { on := 3, ground := Go.Ground.phase }, { on := 4, ground := Go.Ground.phase }, { on := 5, ground := Go.Ground.phase }, { on := 6, ground := Go.Ground.phase }, { on := 7, ground := Go.Ground.phase }, { on := 8, ground := Go.Ground.phase }], guard := none }) (v := ?_) rfl (by kernel_rfl) (by kernel_rfl) (by kernel_rfl) (by kernel_rfl) (fun _ _ _ h => h) (Or.inl ⟨by rfl, ?_⟩) hHeld ?_
    rotate_left 1
    · (intro w hSw; skip; go_simp; first | done | with_reducible rfl)
    try simp only [Act.put, List.setIfInBounds_toArray, List.set_cons_zero, List.set_cons_succ]
    refine Bz.wpAnyE_done (by kernel_rfl) ?_ _
    refine NoPanic.normal ?_
    
    all_goals
      clear hk5
      have k5 := S2 _ hHeld
      clear hHeld
      go_upto_region 5 with fail
      have M1 : l1.length ≤ rs.length := by omega
      have M2 : l2.length ≤ rs.length := by omega
      refine wp_region_noPanic ?_
      refine Bz.wp_region_E (S := (fun w' => Keep [] w5 w')) (E := []) (by kernel_rfl) (by exact (Keep.refl _ _).drew) (fun hHeld => ?_)
      obtain ⟨wd, hwd⟩ : ∃ W, W = w5.drew := ⟨_, rfl⟩
      have hz0 : w5.heap.size ≤ wd.heap.size := by rw [hwd]; exact hHeld.size
      rw [← hwd] at hHeld ⊢
      clear hwd
      refine Bz.wpAnyE_take (i := 1) (oi := { dst := some 31, op := Go.Op.move (Go.Operand.tmp 0), type := 25, pos := "law.go:152", after := #[], guard := none }) (v := ?_) rfl (by kernel_rfl) (by kernel_rfl) (by kernel_rfl) (by kernel_rfl) (fun _ _ _ h => h) (Or.inl ⟨by rfl, ?_⟩) hHeld ?_
      rotate_left 1
      · (intro w hSw; skip; go_simp; first | done | with_reducible rfl)
      try simp only [Act.put, List.setIfInBounds_toArray, List.set_cons_zero, List.set_cons_succ]
      refine Bz.wpAnyE_take (i := 2) (oi := { dst := some 32, op := Go.Op.move (Go.Operand.tmp 5), type := 3, pos := "law.go:152", after := #[], guard := none }) (v := ?_) rfl (by kernel_rfl) (by kernel_rfl) (by kernel_rfl) (by kernel_rfl) (fun _ _ _ h => h) (Or.inl ⟨by rfl, ?_⟩) hHeld ?_
      rotate_left 1
      · (intro w hSw; skip; go_simp; first | done | with_reducible rfl)
      try simp only [Act.put, List.setIfInBounds_toArray, List.set_cons_zero, List.set_cons_succ]
      refine Bz.wpAnyE_take (i := 3) (oi := { dst := some 33, op := Go.Op.slice 25 (Go.Operand.tmp 31) (some (Go.Operand.tmp 32)) none none, type := 25, pos := "law.go:152", after := #[{ on := 1, ground := Go.Ground.data }, { on := 2, ground := Go.Ground.data }], guard := none }) (v := ?_) rfl (by kernel_rfl) (by kernel_rfl) (by kernel_rfl) (by kernel_rfl) (fun _ _ _ h => h) (Or.inl ⟨by rfl, ?_⟩) hHeld ?_
      rotate_left 1
      · (intro w hSw; skip; go_simp; first | done | with_reducible rfl)
      try simp only [Act.put, List.setIfInBounds_toArray, List.set_cons_zero, List.set_cons_succ]
      refine Bz.wpAnyE_take (i := 5) (oi := { dst := some 35, op := Go.Op.move (Go.Operand.tmp 0), type := 25, pos := "law.go:152", after := #[], guard := none }) (v := ?_) rfl (by kernel_rfl) (by kernel_rfl) (by kernel_rfl) (by kernel_rfl) (fun _ _ _ h => h) (Or.inl ⟨by rfl, ?_⟩) hHeld ?_
      rotate_left 1
      · (intro w hSw; skip; go_simp; first | done | with_reducible rfl)
      try simp only [Act.put, List.setIfInBounds_toArray, List.set_cons_zero, List.set_cons_succ]
      refine Bz.wpAnyE_take (i := 6) (oi := { dst := some 36, op := Go.Op.move (Go.Operand.tmp 5), type := 3, pos := "law.go:152", after := #[], guard := none }) (v := ?_) rfl (by kernel_rfl) (by kernel_rfl) (by kernel_rfl) (by kernel_rfl) (fun _ _ _ h => h) (Or.inl ⟨by rfl, ?_⟩) hHeld ?_
      rotate_left 1
      · (intro w hSw; skip; go_simp; first | done | with_reducible rfl)
      try simp only [Act.put, List.setIfInBounds_toArray, List.set_cons_zero, List.set_cons_succ]
      refine Bz.wpAnyE_take (i := 7) (oi := { dst := some 37, op := Go.Op.slice 25 (Go.Operand.tmp 35) none (some (Go.Operand.tmp 36)) none, type := 25, pos := "law.go:152", after := #[{ on := 5, ground := Go.Ground.data }, { on := 6, ground := Go.Ground.data }], guard := none }) (v := ?_) rfl (by kernel_rfl) (by kernel_rfl) (by kernel_rfl) (by kernel_rfl) (fun _ _ _ h => h) (Or.inl ⟨by rfl, ?_⟩) hHeld ?_
      rotate_left 1
      · (intro w hSw; skip; go_simp; first | done | with_reducible rfl)
      try simp only [Act.put, List.setIfInBounds_toArray, List.set_cons_zero, List.set_cons_succ]
      refine Bz.wpAnyE_ready (rs := [0]) (by kernel_rfl) (by simp) ?_
      refine Bz.AllReadyE.cons (o := { dst := some 30, op := Go.Op.buildSlice 25 0 #[], type := 25, pos := "law.go:152", after := #[], guard := none }) rfl (fun K hK => ?_) Bz.AllReadyE.nil
      
      go_simp
      have hO1 := Own.none_ (base := w5.heap.size) wd hz0 28 7 senc
      refine hK.out _ _ (by exact hHeld.alloc _) ?_
      clear hHeld hK K; intro hHeld
      try simp only [Act.put, List.setIfInBounds_toArray, List.set_cons_zero, List.set_cons_succ]
      refine Bz.wpAnyE_ready (rs := [4]) (by kernel_rfl) (by simp) ?_
      refine Bz.AllReadyE.cons (o := { dst := some 34, op := Go.Op.call { callee := Go.Callee.builtin Go.Builtin.append, args := #[Go.Operand.tmp 30, Go.Operand.tmp 33], argTypes := #[25, 25] }, type := 25, pos := "law.go:152", after := #[{ on := 0, ground := Go.Ground.data }, { on := 3, ground := Go.Ground.data }], guard := none }) rfl (fun K hK => ?_) Bz.AllReadyE.nil
      
      refine oper_append_m2 _ _ 25 rfl app25 rfl hO1 rfl (R2.keep0 (k5.trans hHeld)) N2 senc_sz (fun x hx => (O2 x hx).one) (by simp; omega) (by unfold maxLen; simp; omega) hHeld.size ?_
      intro v6 w6 hO2 hk6
      simp only [List.nil_append] at hO2
      refine hK.out _ _ (by exact hHeld.andThen hk6 (fun g hg => .inr (hO1.lt g hg).1)) ?_
      clear hHeld hK K; intro hHeld
      try simp only [Act.put, List.setIfInBounds_toArray, List.set_cons_zero, List.set_cons_succ]
      refine Bz.wpAnyE_ready (rs := [8]) (by kernel_rfl) (by simp) ?_
      refine Bz.AllReadyE.cons (o := { dst := some 38, op := Go.Op.call { callee := Go.Callee.builtin Go.Builtin.append, args := #[Go.Operand.tmp 34, Go.Operand.tmp 37], argTypes := #[25, 25] }, type := 25, pos := "law.go:152", after := #[{ on := 4, ground := Go.Ground.data }, { on := 7, ground := Go.Ground.data }, { on := 4, ground := Go.Ground.chain }], guard := none }) rfl (fun K hK => ?_) Bz.AllReadyE.nil
      
      refine oper_append_m2 _ _ 25 rfl app25 rfl hO2 rfl (R1.keep0 (k5.trans hHeld)) N1 senc_sz (fun x hx => (O1 x hx).one) (by omega) (by unfold maxLen; omega) hHeld.size ?_
      intro v7 w7 hO3 hk7
      refine hK.out _ _ (by exact hHeld.andThen hk7 (fun g hg => .inr (hO2.lt g hg).1)) ?_
      clear hHeld hK K; intro hHeld
      try simp only [Act.put, List.setIfInBounds_toArray, List.set_cons_zero, List.set_cons_succ]
      refine Bz.wpAnyE_take (i := 9) (oi := { dst := some 8, op := Go.Op.assign (Go.Operand.tmp 38), type := 25, pos := "law.go:152", after := #[{ on := 8, ground := Go.Ground.data }, { on := 8, ground := Go.Ground.chain }, { on := 0, ground := Go.Ground.phase }, { on := 1, ground := Go.Ground.phase }, { on := 2, ground := Go.Ground.phase }, { on := 3, ground := Go.Ground.phase }, { on := 4, ground := Go.Ground.phase }, { on := 5, ground := Go.Ground.phase }, { on := 6, ground := Go.Ground.phase }, { on := 7, ground := Go.Ground.phase }, { on := 8, ground := Go.Ground.phase }], guard := none }) (v := ?_) rfl (by kernel_rfl) (by kernel_rfl) (by kernel_rfl) (by kernel_rfl) (fun _ _ _ h => h) (Or.inl ⟨by rfl, ?_⟩) hHeld ?_
      rotate_left 1
      · (intro w hSw; skip; go_simp; first | done | with_reducible rfl)
      try simp only [Act.put, List.setIfInBounds_toArray, List.set_cons_zero, List.set_cons_succ]
      refine Bz.wpAnyE_done (by kernel_rfl) ?_ _
      refine NoPanic.normal ?_
      
      have k7 := k5.trans hHeld
      have hT := StL.of (hO3.sl senc_sz).rd (fun x hx => by
        rcases List.mem_append.1 hx with h | h
        · exact (O2 x h).keep k7
        · exact (O1 x h).keep k7)
      have b3 := fun W (hk : Keep [] w7 W) => block_any (hT.keep hk)
      rw [List.map_append, HJ.out, Int.add_comm y] at b3
      have q1 : IntKind.i64.wrap (x + y) = x + y := IntWalk.i64_in _ (by omega)
      clear hT hO3 hO2 hO1 hk6 hk7 hHeld hs1 hs2 b1 b2 R1 R2 O1 O2 N1 N2 HJ hz0
      have mk : True := trivial
      go_wp2_with (first
        | (go_at_call 10; refine (known_any _).mono ?_; rintro e w8 ⟨rfl, hk8⟩)
        | (go_at_call 12; clear mk; refine (b0 _ (k7.trans hk8)).mono ?_; rintro e w9 ⟨rfl, hk9⟩)
        | (go_at_call 12; refine (b3 _ (hk8.trans hk9)).mono ?_; rintro e wa ⟨rfl, hka⟩)
        | fail)
      go_ret
      exact ⟨rfl, ((k7.trans hk8).trans hk9).trans hka⟩
end Go.Proofs.Ytjhcfecpmohgnaa
