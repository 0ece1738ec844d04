/- counts, Few and FewExpr walked: they answer, whatever. -/
import Derived.Test.YtjhcfecpmohgnaaFew
namespace Go.Proofs.Ytjhcfecpmohgnaa
open Go.RowKit Go.Bz

theorem count12 {h : Nat} {w : World} {V : Value} {cs : List Int} (hx : ExL w h V cs) : Calls Try.prog 21 #[V, .int .i64 12, .int .i64 300] w (fun e w' => (∃ m : Int, e = .returned (.int .i64 m)) ∧ Keep [] w w') :=
  count_ok 12 (Nat.le_refl _) h w V cs hx
def CountsOk (d : Nat) : Prop := ∀ (h : Nat) (w : World) (V : Value) (cs : List Int), StL w h V cs → Calls Try.prog 18 #[V, .int .i64 d, .int .i64 300] w (fun e w' => (∃ m : Int, e = .returned (.int .i64 m)) ∧ Keep [] w w')
set_option maxRecDepth 100000 in
theorem counts_ok : ∀ d, d ≤ 12 → CountsOk d := by
  intro d
  induction d with
  | zero =>
    intro _ h w V cs hx
    obtain ⟨A, cap, rfl⟩ := hx.sl
    by_cases h0 : 0 < cs.length
    · go_enter Try.func18, Try.ntmps18
      go_wp2_with fail
      go_ret
      exact ⟨⟨_, rfl⟩, Keep.refl _ _⟩
    · have h1 : cs.length = 0 := by omega
      rw [h1]
      clear h0 h1
      go_enter Try.func18, Try.ntmps18
      go_wp2_with fail
      go_loopg [7, 8] 0 (fun m v i wr => m = 0 ∧ v = .int .i64 0 ∧ i = .int .i64 0 ∧ wr = w)
      case atStart => exact ⟨rfl, rfl, rfl, rfl⟩
      case round =>
        obtain ⟨rfl, rfl, rfl, rfl⟩ := hrel
        go_wp2_with fail
        go_ret
        exact ⟨⟨_, rfl⟩, Keep.refl _ _⟩
  | succ d ih =>
    intro hd h w V cs hx
    have ih := ih (by omega)
    match h, hx with
    | h + 1, hx =>
      obtain ⟨rs, hR, hT, rfl⟩ := hx
      obtain ⟨A, cap, rfl, hc1, hc2, hc3⟩ := id hR
      unfold maxLen at hc2
      have q1 : IntKind.i64.wrap (((d + 1 : Nat) : Int) - 1) = d := by rw [IntWalk.i64_in _ (by omega)]; first | done | omega
      have q2 : decide ((0 : Int) < ((d + 1 : Nat) : Int)) = true := by simp; try omega
      have q3 : (((d + 1 : Nat) : Int) == 0) = false := by simp; omega
      obtain ⟨D, HD⟩ : ∃ D : Int, Hid (D = ((d + 1 : Nat) : Int)) := ⟨_, Lib.hid rfl⟩
      rw [← HD.out] at q1 q2 q3 ⊢
      have hd12 : (d : Int) ≤ 12 := by omega
      go_enter Try.func18, Try.ntmps18
      go_wp2_with fail
      go_loopg [7, 8] rs.length (fun m v i wr => ∃ (k : Nat) (x : Int), i = .int .i64 k ∧ m + k = rs.length ∧ v = .int .i64 x ∧ Keep [] w wr)
      case atStart => exact ⟨0, _, rfl, rfl, rfl, Keep.refl _ _⟩
      case round =>
        obtain ⟨k, x, rfl, hk, rfl, hK⟩ := hrel
        by_cases hlt : k < rs.length
        · by_cases h3 : x < 300
          · obtain ⟨r, hr⟩ : ∃ r, rs[k]? = some r := ⟨_, List.getElem?_eq_getElem hlt⟩
            obtain ⟨ab, ao, cp, hv, hcl⟩ := sAt hR hr
            cases hv
            obtain ⟨hI, ⟨ke, hE1⟩, hL1, hX1⟩ := hT r (List.mem_of_getElem? hr)
            obtain ⟨AE, cE, hE⟩ := hE1.sl
            obtain ⟨AL, cL, hL⟩ := hL1.sl
            obtain ⟨AX, cX, hX⟩ := hX1.sl
            have cE1 := fun W (hk : Keep [] w W) => count12 (hE1.keep hk)
            have cL1 := fun W (hk : Keep [] w W) => ih h W _ _ (hL1.keep hk)
            have cX1 := fun W (hk : Keep [] w W) => ih h W _ _ (hX1.keep hk)
            obtain ⟨kind, s, E, lo, hi, L, X, es, ls, xs⟩ := r
            simp only at hE hL hX cE1 cL1 cX1 hcl
            subst hE hL hX
            clear hE1 hL1 hX1 hr hI hc3 hR hT
            go_upto_region 7 with fail
            refine wp_region_noPanic ?_
            refine Bz.wp_region_E (S := (fun w' => Keep [] w w')) (E := []) (by kernel_rfl) (by exact hK.drew) (fun hHeld => ?_)
            refine Bz.wpAnyE_take (i := 0) (oi := { dst := some 33, op := Go.Op.move (Go.Operand.tmp 7), type := 3, pos := "law.go:43", after := #[], guard := none }) (v := ?_) rfl (by kernel_rfl) (by kernel_rfl) (by kernel_rfl) (by kernel_rfl) (fun _ _ _ h => h) (Or.inl ⟨by rfl, ?_⟩) hHeld ?_
            rotate_left 1
            · (intro w hSw; obtain ⟨c0, c1, c2, c3, c4, c5, c6⟩ := hcl w hSw; go_simp; first | done | with_reducible rfl)
            try simp only [Act.put, List.setIfInBounds_toArray, List.set_cons_zero, List.set_cons_succ]
            refine Bz.wpAnyE_take (i := 1) (oi := { dst := some 34, op := Go.Op.move (Go.Operand.tmp 0), type := 25, pos := "law.go:43", after := #[], guard := none }) (v := ?_) rfl (by kernel_rfl) (by kernel_rfl) (by kernel_rfl) (by kernel_rfl) (fun _ _ _ h => h) (Or.inl ⟨by rfl, ?_⟩) hHeld ?_
            rotate_left 1
            · (intro w hSw; obtain ⟨c0, c1, c2, c3, c4, c5, c6⟩ := hcl w hSw; go_simp; first | done | with_reducible rfl)
            try simp only [Act.put, List.setIfInBounds_toArray, List.set_cons_zero, List.set_cons_succ]
            refine Bz.wpAnyE_take (i := 2) (oi := { dst := some 35, op := Go.Op.move (Go.Operand.tmp 8), type := 3, pos := "law.go:43", after := #[], guard := none }) (v := ?_) rfl (by kernel_rfl) (by kernel_rfl) (by kernel_rfl) (by kernel_rfl) (fun _ _ _ h => h) (Or.inl ⟨by rfl, ?_⟩) hHeld ?_
            rotate_left 1
            · (intro w hSw; obtain ⟨c0, c1, c2, c3, c4, c5, c6⟩ := hcl w hSw; go_simp; first | done | with_reducible rfl)
            try simp only [Act.put, List.setIfInBounds_toArray, List.set_cons_zero, List.set_cons_succ]
            refine Bz.wpAnyE_take (i := 3) (oi := { dst := some 36, op := Go.Op.indexAddr 25 (Go.Operand.tmp 34) (Go.Operand.tmp 35), type := 0, pos := "law.go:43", after := #[{ on := 1, ground := Go.Ground.data }, { on := 2, ground := Go.Ground.data }], guard := none }) (v := ?_) rfl (by kernel_rfl) (by kernel_rfl) (by kernel_rfl) (by kernel_rfl) (fun _ _ _ h => h) (Or.inl ⟨by rfl, ?_⟩) hHeld ?_
            rotate_left 1
            · (intro w hSw; obtain ⟨c0, c1, c2, c3, c4, c5, c6⟩ := hcl w hSw; go_simp; first | done | with_reducible rfl)
            try simp only [Act.put, List.setIfInBounds_toArray, List.set_cons_zero, List.set_cons_succ]
            refine Bz.wpAnyE_take (i := 4) (oi := { dst := some 37, op := Go.Op.fieldAddr 28 (Go.Operand.tmp 36) 2, type := 0, pos := "law.go:43", after := #[{ on := 3, ground := Go.Ground.data }], guard := none }) (v := ?_) rfl (by kernel_rfl) (by kernel_rfl) (by kernel_rfl) (by kernel_rfl) (fun _ _ _ h => h) (Or.inl ⟨by rfl, ?_⟩) hHeld ?_
            rotate_left 1
            · (intro w hSw; obtain ⟨c0, c1, c2, c3, c4, c5, c6⟩ := hcl w hSw; go_simp; first | done | with_reducible rfl)
            try simp only [Act.put, List.setIfInBounds_toArray, List.set_cons_zero, List.set_cons_succ]
            refine Bz.wpAnyE_take (i := 5) (oi := { dst := some 38, op := Go.Op.load 26 (Go.Operand.tmp 37), type := 26, pos := "law.go:43", after := #[{ on := 4, ground := Go.Ground.data }], guard := none }) (v := ?_) rfl (by kernel_rfl) (by kernel_rfl) (by kernel_rfl) (by kernel_rfl) (fun _ _ _ h => h) (Or.inl ⟨by rfl, ?_⟩) hHeld ?_
            rotate_left 1
            · (intro w hSw; obtain ⟨c0, c1, c2, c3, c4, c5, c6⟩ := hcl w hSw; go_simp; first | done | with_reducible rfl)
            try simp only [Act.put, List.setIfInBounds_toArray, List.set_cons_zero, List.set_cons_succ]
            refine Bz.wpAnyE_take (i := 6) (oi := { dst := some 39, op := Go.Op.move (Go.Operand.tmp 2), type := 3, pos := "law.go:43", after := #[], guard := none }) (v := ?_) rfl (by kernel_rfl) (by kernel_rfl) (by kernel_rfl) (by kernel_rfl) (fun _ _ _ h => h) (Or.inl ⟨by rfl, ?_⟩) hHeld ?_
            rotate_left 1
            · (intro w hSw; obtain ⟨c0, c1, c2, c3, c4, c5, c6⟩ := hcl w hSw; go_simp; first | done | with_reducible rfl)
            try simp only [Act.put, List.setIfInBounds_toArray, List.set_cons_zero, List.set_cons_succ]
            refine Bz.wpAnyE_take (i := 9) (oi := { dst := some 42, op := Go.Op.move (Go.Operand.tmp 0), type := 25, pos := "law.go:43", after := #[], guard := none }) (v := ?_) rfl (by kernel_rfl) (by kernel_rfl) (by kernel_rfl) (by kernel_rfl) (fun _ _ _ h => h) (Or.inl ⟨by rfl, ?_⟩) hHeld ?_
            rotate_left 1
            · (intro w hSw; obtain ⟨c0, c1, c2, c3, c4, c5, c6⟩ := hcl w hSw; go_simp; first | done | with_reducible rfl)
            try simp only [Act.put, List.setIfInBounds_toArray, List.set_cons_zero, List.set_cons_succ]
            refine Bz.wpAnyE_take (i := 10) (oi := { dst := some 43, op := Go.Op.move (Go.Operand.tmp 8), type := 3, pos := "law.go:43", after := #[], guard := none }) (v := ?_) rfl (by kernel_rfl) (by kernel_rfl) (by kernel_rfl) (by kernel_rfl) (fun _ _ _ h => h) (Or.inl ⟨by rfl, ?_⟩) hHeld ?_
            rotate_left 1
            · (intro w hSw; obtain ⟨c0, c1, c2, c3, c4, c5, c6⟩ := hcl w hSw; go_simp; first | done | with_reducible rfl)
            try simp only [Act.put, List.setIfInBounds_toArray, List.set_cons_zero, List.set_cons_succ]
            refine Bz.wpAnyE_take (i := 11) (oi := { dst := some 44, op := Go.Op.indexAddr 25 (Go.Operand.tmp 42) (Go.Operand.tmp 43), type := 0, pos := "law.go:43", after := #[{ on := 9, ground := Go.Ground.data }, { on := 10, ground := Go.Ground.data }], guard := none }) (v := ?_) rfl (by kernel_rfl) (by kernel_rfl) (by kernel_rfl) (by kernel_rfl) (fun _ _ _ h => h) (Or.inl ⟨by rfl, ?_⟩) hHeld ?_
            rotate_left 1
            · (intro w hSw; obtain ⟨c0, c1, c2, c3, c4, c5, c6⟩ := hcl w hSw; go_simp; first | done | with_reducible rfl)
            try simp only [Act.put, List.setIfInBounds_toArray, List.set_cons_zero, List.set_cons_succ]
            refine Bz.wpAnyE_take (i := 12) (oi := { dst := some 45, op := Go.Op.fieldAddr 28 (Go.Operand.tmp 44) 5, type := 0, pos := "law.go:43", after := #[{ on := 11, ground := Go.Ground.data }], guard := none }) (v := ?_) rfl (by kernel_rfl) (by kernel_rfl) (by kernel_rfl) (by kernel_rfl) (fun _ _ _ h => h) (Or.inl ⟨by rfl, ?_⟩) hHeld ?_
            rotate_left 1
            · (intro w hSw; obtain ⟨c0, c1, c2, c3, c4, c5, c6⟩ := hcl w hSw; go_simp; first | done | with_reducible rfl)
            try simp only [Act.put, List.setIfInBounds_toArray, List.set_cons_zero, List.set_cons_succ]
            refine Bz.wpAnyE_take (i := 13) (oi := { dst := some 46, op := Go.Op.load 25 (Go.Operand.tmp 45), type := 25, pos := "law.go:43", after := #[{ on := 12, ground := Go.Ground.data }], guard := none }) (v := ?_) rfl (by kernel_rfl) (by kernel_rfl) (by kernel_rfl) (by kernel_rfl) (fun _ _ _ h => h) (Or.inl ⟨by rfl, ?_⟩) hHeld ?_
            rotate_left 1
            · (intro w hSw; obtain ⟨c0, c1, c2, c3, c4, c5, c6⟩ := hcl w hSw; go_simp; first | done | with_reducible rfl)
            try simp only [Act.put, List.setIfInBounds_toArray, List.set_cons_zero, List.set_cons_succ]
            refine Bz.wpAnyE_take (i := 14) (oi := { dst := some 47, op := Go.Op.move (Go.Operand.tmp 1), type := 3, pos := "law.go:43", after := #[], guard := none }) (v := ?_) rfl (by kernel_rfl) (by kernel_rfl) (by kernel_rfl) (by kernel_rfl) (fun _ _ _ h => h) (Or.inl ⟨by rfl, ?_⟩) hHeld ?_
            rotate_left 1
            · (intro w hSw; obtain ⟨c0, c1, c2, c3, c4, c5, c6⟩ := hcl w hSw; go_simp; first | done | with_reducible rfl)
            try simp only [Act.put, List.setIfInBounds_toArray, List.set_cons_zero, List.set_cons_succ]
            refine Bz.wpAnyE_take (i := 15) (oi := { dst := some 48, op := Go.Op.binOp Go.BinOp.sub 3 (Go.Operand.tmp 47) (Go.Operand.const (Go.Value.int Go.IntKind.i64 1)) 3, type := 3, pos := "law.go:43", after := #[{ on := 14, ground := Go.Ground.data }], guard := none }) (v := ?_) rfl (by kernel_rfl) (by kernel_rfl) (by kernel_rfl) (by kernel_rfl) (fun _ _ _ h => h) (Or.inl ⟨by rfl, ?_⟩) hHeld ?_
            rotate_left 1
            · (intro w hSw; obtain ⟨c0, c1, c2, c3, c4, c5, c6⟩ := hcl w hSw; go_simp; first | done | with_reducible rfl)
            try simp only [Act.put, List.setIfInBounds_toArray, List.set_cons_zero, List.set_cons_succ]
            refine Bz.wpAnyE_take (i := 16) (oi := { dst := some 49, op := Go.Op.move (Go.Operand.tmp 2), type := 3, pos := "law.go:43", after := #[], guard := none }) (v := ?_) rfl (by kernel_rfl) (by kernel_rfl) (by kernel_rfl) (by kernel_rfl) (fun _ _ _ h => h) (Or.inl ⟨by rfl, ?_⟩) hHeld ?_
            rotate_left 1
            · (intro w hSw; obtain ⟨c0, c1, c2, c3, c4, c5, c6⟩ := hcl w hSw; go_simp; first | done | with_reducible rfl)
            try simp only [Act.put, List.setIfInBounds_toArray, List.set_cons_zero, List.set_cons_succ]
            refine Bz.wpAnyE_take (i := 19) (oi := { dst := some 52, op := Go.Op.move (Go.Operand.tmp 0), type := 25, pos := "law.go:43", after := #[], guard := none }) (v := ?_) rfl (by kernel_rfl) (by kernel_rfl) (by kernel_rfl) (by kernel_rfl) (fun _ _ _ h => h) (Or.inl ⟨by rfl, ?_⟩) hHeld ?_
            rotate_left 1
            · (intro w hSw; obtain ⟨c0, c1, c2, c3, c4, c5, c6⟩ := hcl w hSw; go_simp; first | done | with_reducible rfl)
            try simp only [Act.put, List.setIfInBounds_toArray, List.set_cons_zero, List.set_cons_succ]
            refine Bz.wpAnyE_take (i := 20) (oi := { dst := some 53, op := Go.Op.move (Go.Operand.tmp 8), type := 3, pos := "law.go:43", after := #[], guard := none }) (v := ?_) rfl (by kernel_rfl) (by kernel_rfl) (by kernel_rfl) (by kernel_rfl) (fun _ _ _ h => h) (Or.inl ⟨by rfl, ?_⟩) hHeld ?_
            rotate_left 1
            · (intro w hSw; obtain ⟨c0, c1, c2, c3, c4, c5, c6⟩ := hcl w hSw; go_simp; first | done | with_reducible rfl)
            try simp only [Act.put, List.setIfInBounds_toArray, List.set_cons_zero, List.set_cons_succ]
            refine Bz.wpAnyE_take (i := 21) (oi := { dst := some 54, op := Go.Op.indexAddr 25 (Go.Operand.tmp 52) (Go.Operand.tmp 53), type := 0, pos := "law.go:43", after := #[{ on := 19, ground := Go.Ground.data }, { on := 20, ground := Go.Ground.data }], guard := none }) (v := ?_) rfl (by kernel_rfl) (by kernel_rfl) (by kernel_rfl) (by kernel_rfl) (fun _ _ _ h => h) (Or.inl ⟨by rfl, ?_⟩) hHeld ?_
            rotate_left 1
            · (intro w hSw; obtain ⟨c0, c1, c2, c3, c4, c5, c6⟩ := hcl w hSw; go_simp; first | done | with_reducible rfl)
            try simp only [Act.put, List.setIfInBounds_toArray, List.set_cons_zero, List.set_cons_succ]
            refine Bz.wpAnyE_take (i := 22) (oi := { dst := some 55, op := Go.Op.fieldAddr 28 (Go.Operand.tmp 54) 6, type := 0, pos := "law.go:43", after := #[{ on := 21, ground := Go.Ground.data }], guard := none }) (v := ?_) rfl (by kernel_rfl) (by kernel_rfl) (by kernel_rfl) (by kernel_rfl) (fun _ _ _ h => h) (Or.inl ⟨by rfl, ?_⟩) hHeld ?_
            rotate_left 1
            · (intro w hSw; obtain ⟨c0, c1, c2, c3, c4, c5, c6⟩ := hcl w hSw; go_simp; first | done | with_reducible rfl)
            try simp only [Act.put, List.setIfInBounds_toArray, List.set_cons_zero, List.set_cons_succ]
            refine Bz.wpAnyE_take (i := 23) (oi := { dst := some 56, op := Go.Op.load 25 (Go.Operand.tmp 55), type := 25, pos := "law.go:43", after := #[{ on := 22, ground := Go.Ground.data }], guard := none }) (v := ?_) rfl (by kernel_rfl) (by kernel_rfl) (by kernel_rfl) (by kernel_rfl) (fun _ _ _ h => h) (Or.inl ⟨by rfl, ?_⟩) hHeld ?_
            rotate_left 1
            · (intro w hSw; obtain ⟨c0, c1, c2, c3, c4, c5, c6⟩ := hcl w hSw; go_simp; first | done | with_reducible rfl)
            try simp only [Act.put, List.setIfInBounds_toArray, List.set_cons_zero, List.set_cons_succ]
            refine Bz.wpAnyE_take (i := 24) (oi := { dst := some 57, op := Go.Op.move (Go.Operand.tmp 1), type := 3, pos := "law.go:43", after := #[], guard := none }) (v := ?_) rfl (by kernel_rfl) (by kernel_rfl) (by kernel_rfl) (by kernel_rfl) (fun _ _ _ h => h) (Or.inl ⟨by rfl, ?_⟩) hHeld ?_
            rotate_left 1
            · (intro w hSw; obtain ⟨c0, c1, c2, c3, c4, c5, c6⟩ := hcl w hSw; go_simp; first | done | with_reducible rfl)
            try simp only [Act.put, List.setIfInBounds_toArray, List.set_cons_zero, List.set_cons_succ]
            refine Bz.wpAnyE_take (i := 25) (oi := { dst := some 58, op := Go.Op.binOp Go.BinOp.sub 3 (Go.Operand.tmp 57) (Go.Operand.const (Go.Value.int Go.IntKind.i64 1)) 3, type := 3, pos := "law.go:43", after := #[{ on := 24, ground := Go.Ground.data }], guard := none }) (v := ?_) rfl (by kernel_rfl) (by kernel_rfl) (by kernel_rfl) (by kernel_rfl) (fun _ _ _ h => h) (Or.inl ⟨by rfl, ?_⟩) hHeld ?_
            rotate_left 1
            · (intro w hSw; obtain ⟨c0, c1, c2, c3, c4, c5, c6⟩ := hcl w hSw; go_simp; first | done | with_reducible rfl)
            try simp only [Act.put, List.setIfInBounds_toArray, List.set_cons_zero, List.set_cons_succ]
            refine Bz.wpAnyE_take (i := 26) (oi := { dst := some 59, op := Go.Op.move (Go.Operand.tmp 2), type := 3, pos := "law.go:43", after := #[], guard := none }) (v := ?_) rfl (by kernel_rfl) (by kernel_rfl) (by kernel_rfl) (by kernel_rfl) (fun _ _ _ h => h) (Or.inl ⟨by rfl, ?_⟩) hHeld ?_
            rotate_left 1
            · (intro w hSw; obtain ⟨c0, c1, c2, c3, c4, c5, c6⟩ := hcl w hSw; go_simp; first | done | with_reducible rfl)
            try simp only [Act.put, List.setIfInBounds_toArray, List.set_cons_zero, List.set_cons_succ]
            refine Bz.wpAnyE_ready (rs := [7]) (by kernel_rfl) (by simp) ?_
            refine Bz.AllReadyE.cons (o := { dst := some 40, op := Go.Op.call { callee := Go.Callee.value (Go.Operand.func 21), args := #[Go.Operand.tmp 38, Go.Operand.const (Go.Value.int Go.IntKind.i64 12), Go.Operand.tmp 39], argTypes := #[26, 3, 3] }, type := 3, pos := "law.go:43", after := #[{ on := 5, ground := Go.Ground.data }, { on := 6, ground := Go.Ground.data }], guard := none }) rfl (fun K hK => ?_) Bz.AllReadyE.nil
            go_simp
            
            refine (cE1 _ hHeld).mono ?_
            rintro e w5 ⟨⟨m, rfl⟩, hk5⟩
            refine hK.out _ _ (by exact hHeld.trans hk5) ?_
            clear hHeld hK K; intro hHeld
            try simp only [Act.put, List.setIfInBounds_toArray, List.set_cons_zero, List.set_cons_succ]
            refine Bz.wpAnyE_take (i := 8) (oi := { dst := some 41, op := Go.Op.binOp Go.BinOp.add 3 (Go.Operand.tmp 33) (Go.Operand.tmp 40) 3, type := 3, pos := "law.go:43", after := #[{ on := 0, ground := Go.Ground.data }, { on := 7, ground := Go.Ground.data }], guard := none }) (v := ?_) rfl (by kernel_rfl) (by kernel_rfl) (by kernel_rfl) (by kernel_rfl) (fun _ _ _ h => h) (Or.inl ⟨by rfl, ?_⟩) hHeld ?_
            rotate_left 1
            · (intro w hSw; obtain ⟨c0, c1, c2, c3, c4, c5, c6⟩ := hcl w hSw; go_simp; first | done | with_reducible rfl)
            try simp only [Act.put, List.setIfInBounds_toArray, List.set_cons_zero, List.set_cons_succ]
            refine Bz.wpAnyE_ready (rs := [17]) (by kernel_rfl) (by simp) ?_
            refine Bz.AllReadyE.cons (o := { dst := some 50, op := Go.Op.call { callee := Go.Callee.value (Go.Operand.func 18), args := #[Go.Operand.tmp 46, Go.Operand.tmp 48, Go.Operand.tmp 49], argTypes := #[25, 3, 3] }, type := 3, pos := "law.go:43", after := #[{ on := 13, ground := Go.Ground.data }, { on := 15, ground := Go.Ground.data }, { on := 16, ground := Go.Ground.data }, { on := 7, ground := Go.Ground.chain }], guard := none }) rfl (fun K hK => ?_) Bz.AllReadyE.nil
            go_simp
            
            refine (cL1 _ hHeld).mono ?_
            rintro e w5 ⟨⟨m, rfl⟩, hk5⟩
            refine hK.out _ _ (by exact hHeld.trans hk5) ?_
            clear hHeld hK K; intro hHeld
            try simp only [Act.put, List.setIfInBounds_toArray, List.set_cons_zero, List.set_cons_succ]
            refine Bz.wpAnyE_take (i := 18) (oi := { dst := some 51, op := Go.Op.binOp Go.BinOp.add 3 (Go.Operand.tmp 41) (Go.Operand.tmp 50) 3, type := 3, pos := "law.go:43", after := #[{ on := 8, ground := Go.Ground.data }, { on := 17, ground := Go.Ground.data }], guard := none }) (v := ?_) rfl (by kernel_rfl) (by kernel_rfl) (by kernel_rfl) (by kernel_rfl) (fun _ _ _ h => h) (Or.inl ⟨by rfl, ?_⟩) hHeld ?_
            rotate_left 1
            · (intro w hSw; obtain ⟨c0, c1, c2, c3, c4, c5, c6⟩ := hcl w hSw; go_simp; first | done | with_reducible rfl)
            try simp only [Act.put, List.setIfInBounds_toArray, List.set_cons_zero, List.set_cons_succ]
            refine Bz.wpAnyE_ready (rs := [27]) (by kernel_rfl) (by simp) ?_
            refine Bz.AllReadyE.cons (o := { dst := some 60, op := Go.Op.call { callee := Go.Callee.value (Go.Operand.func 18), args := #[Go.Operand.tmp 56, Go.Operand.tmp 58, Go.Operand.tmp 59], argTypes := #[25, 3, 3] }, type := 3, pos := "law.go:43", after := #[{ on := 23, ground := Go.Ground.data }, { on := 25, ground := Go.Ground.data }, { on := 26, ground := Go.Ground.data }, { on := 17, ground := Go.Ground.chain }], guard := none }) rfl (fun K hK => ?_) Bz.AllReadyE.nil
            go_simp
            
            refine (cX1 _ hHeld).mono ?_
            rintro e w5 ⟨⟨m, rfl⟩, hk5⟩
            refine hK.out _ _ (by exact hHeld.trans hk5) ?_
            clear hHeld hK K; intro hHeld
            try simp only [Act.put, List.setIfInBounds_toArray, List.set_cons_zero, List.set_cons_succ]
            refine Bz.wpAnyE_take (i := 28) (oi := { dst := some 61, op := Go.Op.binOp Go.BinOp.add 3 (Go.Operand.tmp 51) (Go.Operand.tmp 60) 3, type := 3, pos := "law.go:43", after := #[{ on := 18, ground := Go.Ground.data }, { on := 27, ground := Go.Ground.data }], guard := none }) (v := ?_) rfl (by kernel_rfl) (by kernel_rfl) (by kernel_rfl) (by kernel_rfl) (fun _ _ _ h => h) (Or.inl ⟨by rfl, ?_⟩) hHeld ?_
            rotate_left 1
            · (intro w hSw; obtain ⟨c0, c1, c2, c3, c4, c5, c6⟩ := hcl w hSw; go_simp; first | done | with_reducible rfl)
            try simp only [Act.put, List.setIfInBounds_toArray, List.set_cons_zero, List.set_cons_succ]
            refine Bz.wpAnyE_take (i := 29) (oi := { dst := some 7, op := Go.Op.assign (Go.Operand.tmp 61), type := 3, pos := "law.go:43", after := #[{ on := 28, ground := Go.Ground.data }, { on := 27, ground := Go.Ground.chain }, { on := 0, ground := Go.Ground.phase }, { on := 1, ground := Go.Ground.phase }, { on := 2, ground := Go.Ground.phase }, { on := 3, ground := Go.Ground.phase }, { on := 4, ground := Go.Ground.phase }, { on := 5, ground := Go.Ground.phase }, { on := 6, ground := Go.Ground.phase }, { on := 7, ground := Go.Ground.phase }, { on := 8, ground := Go.Ground.phase }, { on := 9, ground := Go.Ground.phase }, { on := 10, ground := Go.Ground.phase }, { on := 11, ground := Go.Ground.phase }, { on := 12, ground := Go.Ground.phase }, { on := 13, ground := Go.Ground.phase }, { on := 14, ground := Go.Ground.phase }, { on := 15, ground := Go.Ground.phase }, { on := 16, ground := Go.Ground.phase }, { on := 17, ground := Go.Ground.phase }, { on := 18, ground := Go.Ground.phase }, { on := 19, ground := Go.Ground.phase }, { on := 20, ground := Go.Ground.phase }, { on := 21, ground := Go.Ground.phase }, { on := 22, ground := Go.Ground.phase }, { on := 23, ground := Go.Ground.phase }, { on := 24, ground := Go.Ground.phase }, { on := 25, ground := Go.Ground.phase }, { on := 26, ground := Go.Ground.phase }, { on := 27, ground := Go.Ground.phase }, { on := 28, ground := Go.Ground.phase }], guard := none }) (v := ?_) rfl (by kernel_rfl) (by kernel_rfl) (by kernel_rfl) (by kernel_rfl) (fun _ _ _ h => h) (Or.inl ⟨by rfl, ?_⟩) hHeld ?_
            rotate_left 1
            · (intro w hSw; obtain ⟨c0, c1, c2, c3, c4, c5, c6⟩ := hcl w hSw; go_simp; first | done | with_reducible rfl)
            try simp only [Act.put, List.setIfInBounds_toArray, List.set_cons_zero, List.set_cons_succ]
            refine Bz.wpAnyE_done (by kernel_rfl) ?_ _
            refine NoPanic.normal ?_
            
            all_goals
              go_wp2_with fail
              go_roundg (rs.length - (k + 1))
              case measure => omega
              case rel => exact ⟨k + 1, _, by go_num, by omega, rfl, hHeld⟩
          · have h3' : decide (x < 300) = false := by simp; omega
            clear h3
            go_wp2_with fail
            go_ret
            exact ⟨⟨_, rfl⟩, hK⟩
        · go_wp2_with fail
          go_ret
          exact ⟨⟨_, rfl⟩, hK⟩
theorem few_any {h : Nat} {w : World} {V : Value} {cs : List Int} (hx : StL w h V cs) : Calls Try.prog 11 #[V] w (fun e w' => (∃ b, e = .returned (.bool b)) ∧ Keep [] w w') := by
  have hc : Calls Try.prog 18 #[V, .int .i64 12, .int .i64 300] w (fun e w' => (∃ m : Int, e = .returned (.int .i64 m)) ∧ Keep [] w w') := counts_ok 12 (Nat.le_refl _) h w V cs hx
  obtain ⟨A, cap, rfl⟩ := hx.sl
  clear hx
  go_enter Try.func11, Try.ntmps11
  go_wp2_with (first | (go_at_call 18; refine hc.mono ?_; rintro e w5 ⟨⟨m, rfl⟩, hk5⟩) | fail)
  go_ret
  exact ⟨⟨_, rfl⟩, hk5⟩
theorem fewExpr_any {h : Nat} {w : World} {r : ERaw} (hx : ExL w h r.L r.ds) : Calls Try.prog 13 #[.agg (eenc r)] w (fun e w' => (∃ b, e = .returned (.bool b)) ∧ Keep [] w w') := by
  obtain ⟨A, cap, hL⟩ := hx.sl
  obtain ⟨op, n, s, L, ds⟩ := r
  simp only at hL hx
  subst hL
  obtain ⟨w1, hw1⟩ : ∃ W, W = (w.alloc (.cells #[.int .i64 op, .int .i64 n, .string s, .slice A ds.length cap] 35)).alloc (.cells #[.int .i64 op, .int .i64 n, .string s, .slice A ds.length cap] 35) := ⟨_, rfl⟩
  have hk1 : Keep [] w w1 := by rw [hw1]; exact ((Keep.refl _ _).alloc _).alloc _
  have b1 : Blk w1 (w.heap.size + 1) 35 (eenc ⟨op, n, s, .slice A ds.length cap, ds⟩) := by rw [hw1]; exact Blk.new_ (by simp)
  have hc := count12 (ExL.one b1 (hx.keep hk1))
  clear b1 hx
  go_enter Try.func13, Try.ntmps13
  go_wp2_with (first | (go_at_call 21; rw [← hw1]; refine hc.mono ?_; rintro e w5 ⟨⟨m, rfl⟩, hk5⟩) | fail)
  go_ret
  exact ⟨⟨_, rfl⟩, hk1.trans hk5⟩
end Go.Proofs.Ytjhcfecpmohgnaa
