/- The document's Part, Height, Final, Undone walked. -/
import Derived.Test.YtbkchniomhdieaaRefLine
namespace Go.Proofs.Ytbkchniomhdieaa
open Go.RowKit Go.Bz

theorem common_more : ∀ (a b : List D8) (k : Nat) (x : D8), k ≤ common a b → a[k]? = some x → b[k]? = some x → k + 1 ≤ common a b
  | [], b, k, x, _, h, _ => by simp at h
  | y :: r, [], k, x, _, _, h => by simp at h
  | y :: r, z :: s, 0, x, _, h, h' => by
    simp at h h'; subst h; subst h'
    simp [common]
  | y :: r, z :: s, k + 1, x, h, h1, h2 => by
    unfold common at h ⊢
    split at h
    · rename_i e
      rw [if_pos e]
      have := common_more r s k x (by omega) (by simpa using h1) (by simpa using h2)
      omega
    · omega
theorem common_no (a b : List D8) (k : Nat) (h : k ≤ common a b) (hn : ∀ x, a[k]? = some x → b[k]? ≠ some x) : common a b = k := by
  rcases Nat.lt_or_ge k (common a b) with hlt | hge
  · exfalso
    have h1 := common_take a b (k + 1) (by omega)
    have hl := common_le a b
    obtain ⟨x, hx⟩ : ∃ x, a[k]? = some x := ⟨_, List.getElem?_eq_getElem (by omega)⟩
    refine hn x hx ?_
    have e1 : (a.take (k + 1))[k]? = a[k]? := by rw [List.getElem?_take, if_pos (by omega)]
    have e2 : (b.take (k + 1))[k]? = b[k]? := by rw [List.getElem?_take, if_pos (by omega)]
    rw [← e2, ← h1, e1, hx]
  · omega
set_option maxHeartbeats 4000000 in
theorem part_any {w : World} {v v' : Value} {a b : List D8} (hs : Sl w 28 8 dcells v a) (hs' : Sl w 28 8 dcells v' b) (ha : a.length ≤ 5000) (hb : b.length ≤ 5000) :
    Calls Try.prog 35 #[v, v'] w (fun e w' => e = .returned (.int .i64 ((common a b : Int) - 1)) ∧ Keep [] w w') := by
  obtain ⟨A, cap, rfl, hc1, hc2, hc3⟩ := hs
  obtain ⟨A', cap', rfl, hd1, hd2, hd3⟩ := hs'
  go_enter Try.func35, Try.ntmps35
  go_wp2_with fail
  go_loopg [5] a.length (fun m i wr => ∃ k : Nat, i = .int .i64 k ∧ m + k = a.length ∧ Hid (k ≤ common a b) ∧ Keep [] w wr)
  case atStart => exact ⟨0, rfl, by simp, Lib.hid (Nat.zero_le _), Keep.refl _ _⟩
  case round =>
    obtain ⟨k, rfl, hk, HC, hK⟩ := hrel
    by_cases h1 : k < a.length
    · by_cases h2 : k < b.length
      · obtain ⟨g, o, rfl, hsl⟩ := hc3 (by intro e; rw [e] at h1; simp at h1)
        obtain ⟨g', o', rfl, hsl'⟩ := hd3 (by intro e; rw [e] at h2; simp at h2)
        obtain ⟨x, hx⟩ : ∃ x, a[k]? = some x := ⟨_, List.getElem?_eq_getElem h1⟩
        obtain ⟨y, hy⟩ : ∃ y, b[k]? = some y := ⟨_, List.getElem?_eq_getElem h2⟩
        have r1 := (hsl.keep hK (by simp)).drew.at8 hx
        have r2 := (hsl'.keep hK (by simp)).drew.at8 hy
        have HX := Lib.hid (And.intro hx hy)
        have heq := fun W => run_eqD8 (P := Try.prog) W dt28 9998 x y
        have HK := Lib.hid hk
        clear hk hx hy hsl hsl' hc3 hd3
        by_cases hxy : x = y
        · rw [decide_eq_true hxy] at heq
          have HE := Lib.hid hxy
          clear hxy
          go_wp2_with fail
          refine wp_region_noPanic ?_
          refine Bz.wp_region_E (S := (fun w' => At8 w' g (o + k * 8) x ∧ At8 w' g' (o' + k * 8) y)) (E := []) (by kernel_rfl) (by exact ⟨r1, r2⟩) (fun hHeld => ?_)
          refine Bz.wpAnyE_take (i := 0) (oi := { dst := some 6, op := Go.Op.move (Go.Operand.tmp 5), type := 3, pos := "ref.go:51", after := #[], guard := none }) (v := ?_) rfl (by kernel_rfl) (by kernel_rfl) (by kernel_rfl) (by kernel_rfl) (fun _ _ _ h => h) (Or.inl ⟨by rfl, ?_⟩) hHeld ?_
          rotate_left 1
          · (intro w hSw; simp only [At8] at hSw; go_simp; first | done | with_reducible rfl)
          try simp only [Act.put, List.setIfInBounds_toArray, List.set_cons_zero, List.set_cons_succ]
          refine Bz.wpAnyE_take (i := 1) (oi := { dst := some 7, op := Go.Op.move (Go.Operand.tmp 0), type := 47, pos := "ref.go:51", after := #[], guard := none }) (v := ?_) rfl (by kernel_rfl) (by kernel_rfl) (by kernel_rfl) (by kernel_rfl) (fun _ _ _ h => h) (Or.inl ⟨by rfl, ?_⟩) hHeld ?_
          rotate_left 1
          · (intro w hSw; simp only [At8] at hSw; go_simp; first | done | with_reducible rfl)
          try simp only [Act.put, List.setIfInBounds_toArray, List.set_cons_zero, List.set_cons_succ]
          refine Bz.wpAnyE_take (i := 2) (oi := { dst := some 8, op := Go.Op.call { callee := Go.Callee.builtin Go.Builtin.len, args := #[Go.Operand.tmp 7], argTypes := #[47] }, type := 3, pos := "ref.go:51", after := #[{ on := 1, ground := Go.Ground.data }], guard := none }) (v := ?_) rfl (by kernel_rfl) (by kernel_rfl) (by kernel_rfl) (by kernel_rfl) (fun _ _ _ h => h) (Or.inl ⟨by rfl, ?_⟩) hHeld ?_
          rotate_left 1
          · (intro w hSw; simp only [At8] at hSw; go_simp; first | done | with_reducible rfl)
          try simp only [Act.put, List.setIfInBounds_toArray, List.set_cons_zero, List.set_cons_succ]
          refine Bz.wpAnyE_take (i := 3) (oi := { dst := some 9, op := Go.Op.binOp Go.BinOp.lss 3 (Go.Operand.tmp 6) (Go.Operand.tmp 8) 3, type := 4, pos := "ref.go:51", after := #[{ on := 0, ground := Go.Ground.data }, { on := 2, ground := Go.Ground.data }], guard := none }) (v := ?_) rfl (by kernel_rfl) (by kernel_rfl) (by kernel_rfl) (by kernel_rfl) (fun _ _ _ h => h) (Or.inl ⟨by rfl, ?_⟩) hHeld ?_
          rotate_left 1
          · (intro w hSw; simp only [At8] at hSw; go_simp; first | done | with_reducible rfl)
          try simp only [Act.put, List.setIfInBounds_toArray, List.set_cons_zero, List.set_cons_succ]
          refine Bz.wpAnyE_take (i := 4) (oi := { dst := some 10, op := Go.Op.move (Go.Operand.tmp 9), type := 4, pos := "ref.go:51", after := #[{ on := 3, ground := Go.Ground.data }], guard := none }) (v := ?_) rfl (by kernel_rfl) (by kernel_rfl) (by kernel_rfl) (by kernel_rfl) (fun _ _ _ h => h) (Or.inl ⟨by rfl, ?_⟩) hHeld ?_
          rotate_left 1
          · (intro w hSw; simp only [At8] at hSw; go_simp; first | done | with_reducible rfl)
          try simp only [Act.put, List.setIfInBounds_toArray, List.set_cons_zero, List.set_cons_succ]
          refine Bz.wpAnyE_take (i := 5) (oi := { dst := some 11, op := Go.Op.move (Go.Operand.tmp 5), type := 3, pos := "ref.go:51", after := #[{ on := 4, ground := Go.Ground.guard }], guard := some (4, true) }) (v := ?_) rfl (by kernel_rfl) (by kernel_rfl) (by kernel_rfl) (by kernel_rfl) (fun _ _ _ h => h) (Or.inl ⟨by rfl, ?_⟩) hHeld ?_
          rotate_left 1
          · (intro w hSw; simp only [At8] at hSw; go_simp; first | done | with_reducible rfl)
          try simp only [Act.put, List.setIfInBounds_toArray, List.set_cons_zero, List.set_cons_succ]
          refine Bz.wpAnyE_take (i := 6) (oi := { dst := some 12, op := Go.Op.move (Go.Operand.tmp 1), type := 47, pos := "ref.go:51", after := #[{ on := 4, ground := Go.Ground.guard }], guard := some (4, true) }) (v := ?_) rfl (by kernel_rfl) (by kernel_rfl) (by kernel_rfl) (by kernel_rfl) (fun _ _ _ h => h) (Or.inl ⟨by rfl, ?_⟩) hHeld ?_
          rotate_left 1
          · (intro w hSw; simp only [At8] at hSw; go_simp; first | done | with_reducible rfl)
          try simp only [Act.put, List.setIfInBounds_toArray, List.set_cons_zero, List.set_cons_succ]
          refine Bz.wpAnyE_take (i := 7) (oi := { dst := some 13, op := Go.Op.call { callee := Go.Callee.builtin Go.Builtin.len, args := #[Go.Operand.tmp 12], argTypes := #[47] }, type := 3, pos := "ref.go:51", after := #[{ on := 6, ground := Go.Ground.data }, { on := 4, ground := Go.Ground.guard }], guard := some (4, true) }) (v := ?_) rfl (by kernel_rfl) (by kernel_rfl) (by kernel_rfl) (by kernel_rfl) (fun _ _ _ h => h) (Or.inl ⟨by rfl, ?_⟩) hHeld ?_
          rotate_left 1
          · (intro w hSw; simp only [At8] at hSw; go_simp; first | done | with_reducible rfl)
          try simp only [Act.put, List.setIfInBounds_toArray, List.set_cons_zero, List.set_cons_succ]
          refine Bz.wpAnyE_take (i := 8) (oi := { dst := some 14, op := Go.Op.binOp Go.BinOp.lss 3 (Go.Operand.tmp 11) (Go.Operand.tmp 13) 3, type := 4, pos := "ref.go:51", after := #[{ on := 5, ground := Go.Ground.data }, { on := 7, ground := Go.Ground.data }, { on := 4, ground := Go.Ground.guard }], guard := some (4, true) }) (v := ?_) rfl (by kernel_rfl) (by kernel_rfl) (by kernel_rfl) (by kernel_rfl) (fun _ _ _ h => h) (Or.inl ⟨by rfl, ?_⟩) hHeld ?_
          rotate_left 1
          · (intro w hSw; simp only [At8] at hSw; go_simp; first | done | with_reducible rfl)
          try simp only [Act.put, List.setIfInBounds_toArray, List.set_cons_zero, List.set_cons_succ]
          refine Bz.wpAnyE_take (i := 9) (oi := { dst := some 15, op := Go.Op.pick (Go.Operand.tmp 10) (Go.Operand.tmp 14) (Go.Operand.const (Go.Value.bool false)), type := 4, pos := "ref.go:51", after := #[{ on := 4, ground := Go.Ground.data }, { on := 8, ground := Go.Ground.data }], guard := none }) (v := ?_) rfl (by kernel_rfl) (by kernel_rfl) (by kernel_rfl) (by kernel_rfl) (fun _ _ _ h => h) (Or.inl ⟨by rfl, ?_⟩) hHeld ?_
          rotate_left 1
          · (intro w hSw; simp only [At8] at hSw; go_simp; first | done | with_reducible rfl)
          try simp only [Act.put, List.setIfInBounds_toArray, List.set_cons_zero, List.set_cons_succ]
          refine Bz.wpAnyE_take (i := 10) (oi := { dst := some 16, op := Go.Op.move (Go.Operand.tmp 15), type := 4, pos := "ref.go:51", after := #[{ on := 9, ground := Go.Ground.data }, { on := 4, ground := Go.Ground.chain }], guard := none }) (v := ?_) rfl (by kernel_rfl) (by kernel_rfl) (by kernel_rfl) (by kernel_rfl) (fun _ _ _ h => h) (Or.inl ⟨by rfl, ?_⟩) hHeld ?_
          rotate_left 1
          · (intro w hSw; simp only [At8] at hSw; go_simp; first | done | with_reducible rfl)
          try simp only [Act.put, List.setIfInBounds_toArray, List.set_cons_zero, List.set_cons_succ]
          refine Bz.wpAnyE_take (i := 11) (oi := { dst := some 17, op := Go.Op.move (Go.Operand.tmp 0), type := 47, pos := "ref.go:51", after := #[{ on := 10, ground := Go.Ground.guard }], guard := some (10, true) }) (v := ?_) rfl (by kernel_rfl) (by kernel_rfl) (by kernel_rfl) (by kernel_rfl) (fun _ _ _ h => h) (Or.inl ⟨by rfl, ?_⟩) hHeld ?_
          rotate_left 1
          · (intro w hSw; simp only [At8] at hSw; go_simp; first | done | with_reducible rfl)
          try simp only [Act.put, List.setIfInBounds_toArray, List.set_cons_zero, List.set_cons_succ]
          refine Bz.wpAnyE_take (i := 12) (oi := { dst := some 18, op := Go.Op.move (Go.Operand.tmp 5), type := 3, pos := "ref.go:51", after := #[{ on := 10, ground := Go.Ground.guard }], guard := some (10, true) }) (v := ?_) rfl (by kernel_rfl) (by kernel_rfl) (by kernel_rfl) (by kernel_rfl) (fun _ _ _ h => h) (Or.inl ⟨by rfl, ?_⟩) hHeld ?_
          rotate_left 1
          · (intro w hSw; simp only [At8] at hSw; go_simp; first | done | with_reducible rfl)
          try simp only [Act.put, List.setIfInBounds_toArray, List.set_cons_zero, List.set_cons_succ]
          refine Bz.wpAnyE_take (i := 13) (oi := { dst := some 19, op := Go.Op.indexAddr 47 (Go.Operand.tmp 17) (Go.Operand.tmp 18), type := 0, pos := "ref.go:51", after := #[{ on := 11, ground := Go.Ground.data }, { on := 12, ground := Go.Ground.data }, { on := 10, ground := Go.Ground.guard }], guard := some (10, true) }) (v := ?_) rfl (by kernel_rfl) (by kernel_rfl) (by kernel_rfl) (by kernel_rfl) (fun _ _ _ h => h) (Or.inl ⟨by rfl, ?_⟩) hHeld ?_
          rotate_left 1
          · (intro w hSw; simp only [At8] at hSw; go_simp; first | done | with_reducible rfl)
          try simp only [Act.put, List.setIfInBounds_toArray, List.set_cons_zero, List.set_cons_succ]
          refine Bz.wpAnyE_take (i := 14) (oi := { dst := some 20, op := Go.Op.load 28 (Go.Operand.tmp 19), type := 28, pos := "ref.go:51", after := #[{ on := 13, ground := Go.Ground.data }, { on := 10, ground := Go.Ground.guard }], guard := some (10, true) }) (v := ?_) rfl (by kernel_rfl) (by kernel_rfl) (by kernel_rfl) (by kernel_rfl) (fun _ _ _ h => h) (Or.inl ⟨by rfl, ?_⟩) hHeld ?_
          rotate_left 1
          · (intro w hSw; simp only [At8] at hSw; go_simp; first | done | with_reducible rfl)
          try simp only [Act.put, List.setIfInBounds_toArray, List.set_cons_zero, List.set_cons_succ]
          refine Bz.wpAnyE_take (i := 15) (oi := { dst := some 21, op := Go.Op.move (Go.Operand.tmp 1), type := 47, pos := "ref.go:51", after := #[{ on := 10, ground := Go.Ground.guard }], guard := some (10, true) }) (v := ?_) rfl (by kernel_rfl) (by kernel_rfl) (by kernel_rfl) (by kernel_rfl) (fun _ _ _ h => h) (Or.inl ⟨by rfl, ?_⟩) hHeld ?_
          rotate_left 1
          · (intro w hSw; simp only [At8] at hSw; go_simp; first | done | with_reducible rfl)
          try simp only [Act.put, List.setIfInBounds_toArray, List.set_cons_zero, List.set_cons_succ]
          refine Bz.wpAnyE_take (i := 16) (oi := { dst := some 22, op := Go.Op.move (Go.Operand.tmp 5), type := 3, pos := "ref.go:51", after := #[{ on := 10, ground := Go.Ground.guard }], guard := some (10, true) }) (v := ?_) rfl (by kernel_rfl) (by kernel_rfl) (by kernel_rfl) (by kernel_rfl) (fun _ _ _ h => h) (Or.inl ⟨by rfl, ?_⟩) hHeld ?_
          rotate_left 1
          · (intro w hSw; simp only [At8] at hSw; go_simp; first | done | with_reducible rfl)
          try simp only [Act.put, List.setIfInBounds_toArray, List.set_cons_zero, List.set_cons_succ]
          refine Bz.wpAnyE_take (i := 17) (oi := { dst := some 23, op := Go.Op.indexAddr 47 (Go.Operand.tmp 21) (Go.Operand.tmp 22), type := 0, pos := "ref.go:51", after := #[{ on := 15, ground := Go.Ground.data }, { on := 16, ground := Go.Ground.data }, { on := 10, ground := Go.Ground.guard }], guard := some (10, true) }) (v := ?_) rfl (by kernel_rfl) (by kernel_rfl) (by kernel_rfl) (by kernel_rfl) (fun _ _ _ h => h) (Or.inl ⟨by rfl, ?_⟩) hHeld ?_
          rotate_left 1
          · (intro w hSw; simp only [At8] at hSw; go_simp; first | done | with_reducible rfl)
          try simp only [Act.put, List.setIfInBounds_toArray, List.set_cons_zero, List.set_cons_succ]
          refine Bz.wpAnyE_take (i := 18) (oi := { dst := some 24, op := Go.Op.load 28 (Go.Operand.tmp 23), type := 28, pos := "ref.go:51", after := #[{ on := 17, ground := Go.Ground.data }, { on := 10, ground := Go.Ground.guard }], guard := some (10, true) }) (v := ?_) rfl (by kernel_rfl) (by kernel_rfl) (by kernel_rfl) (by kernel_rfl) (fun _ _ _ h => h) (Or.inl ⟨by rfl, ?_⟩) hHeld ?_
          rotate_left 1
          · (intro w hSw; simp only [At8] at hSw; go_simp; first | done | with_reducible rfl)
          try simp only [Act.put, List.setIfInBounds_toArray, List.set_cons_zero, List.set_cons_succ]
          refine Bz.wpAnyE_take (i := 19) (oi := { dst := some 25, op := Go.Op.binOp Go.BinOp.eql 28 (Go.Operand.tmp 20) (Go.Operand.tmp 24) 28, type := 4, pos := "ref.go:51", after := #[{ on := 14, ground := Go.Ground.data }, { on := 18, ground := Go.Ground.data }, { on := 10, ground := Go.Ground.guard }], guard := some (10, true) }) (v := ?_) rfl (by kernel_rfl) (by kernel_rfl) (by kernel_rfl) (by kernel_rfl) (fun _ _ _ h => h) (Or.inl ⟨by rfl, ?_⟩) hHeld ?_
          rotate_left 1
          · (intro w hSw; simp only [At8] at hSw; go_simp; first | done | with_reducible rfl)
          try simp only [Act.put, List.setIfInBounds_toArray, List.set_cons_zero, List.set_cons_succ]
          refine Bz.wpAnyE_take (i := 20) (oi := { dst := some 26, op := Go.Op.pick (Go.Operand.tmp 16) (Go.Operand.tmp 25) (Go.Operand.const (Go.Value.bool false)), type := 4, pos := "ref.go:51", after := #[{ on := 10, ground := Go.Ground.data }, { on := 19, ground := Go.Ground.data }], guard := none }) (v := ?_) rfl (by kernel_rfl) (by kernel_rfl) (by kernel_rfl) (by kernel_rfl) (fun _ _ _ h => h) (Or.inl ⟨by rfl, ?_⟩) hHeld ?_
          rotate_left 1
          · (intro w hSw; simp only [At8] at hSw; go_simp; first | done | with_reducible rfl)
          try simp only [Act.put, List.setIfInBounds_toArray, List.set_cons_zero, List.set_cons_succ]
          refine Bz.wpAnyE_done (by kernel_rfl) ?_ _
          refine NoPanic.normal ?_
          
          clear hHeld
          go_wp2_with fail
          have hk := HK.out
          go_roundg (a.length - (k + 1))
          case measure => omega
          case rel => exact ⟨k + 1, by go_num, by omega, Lib.hid (common_more a b k x HC.out HX.out.1 (by rw [HX.out.2, HE.out])), hK.drew⟩
        · rw [decide_eq_false hxy] at heq
          have HE := Lib.hid hxy
          clear hxy
          go_wp2_with fail
          refine wp_region_noPanic ?_
          refine Bz.wp_region_E (S := (fun w' => At8 w' g (o + k * 8) x ∧ At8 w' g' (o' + k * 8) y)) (E := []) (by kernel_rfl) (by exact ⟨r1, r2⟩) (fun hHeld => ?_)
          refine Bz.wpAnyE_take (i := 0) (oi := { dst := some 6, op := Go.Op.move (Go.Operand.tmp 5), type := 3, pos := "ref.go:51", after := #[], guard := none }) (v := ?_) rfl (by kernel_rfl) (by kernel_rfl) (by kernel_rfl) (by kernel_rfl) (fun _ _ _ h => h) (Or.inl ⟨by rfl, ?_⟩) hHeld ?_
          rotate_left 1
          · (intro w hSw; simp only [At8] at hSw; go_simp; first | done | with_reducible rfl)
          try simp only [Act.put, List.setIfInBounds_toArray, List.set_cons_zero, List.set_cons_succ]
          refine Bz.wpAnyE_take (i := 1) (oi := { dst := some 7, op := Go.Op.move (Go.Operand.tmp 0), type := 47, pos := "ref.go:51", after := #[], guard := none }) (v := ?_) rfl (by kernel_rfl) (by kernel_rfl) (by kernel_rfl) (by kernel_rfl) (fun _ _ _ h => h) (Or.inl ⟨by rfl, ?_⟩) hHeld ?_
          rotate_left 1
          · (intro w hSw; simp only [At8] at hSw; go_simp; first | done | with_reducible rfl)
          try simp only [Act.put, List.setIfInBounds_toArray, List.set_cons_zero, List.set_cons_succ]
          refine Bz.wpAnyE_take (i := 2) (oi := { dst := some 8, op := Go.Op.call { callee := Go.Callee.builtin Go.Builtin.len, args := #[Go.Operand.tmp 7], argTypes := #[47] }, type := 3, pos := "ref.go:51", after := #[{ on := 1, ground := Go.Ground.data }], guard := none }) (v := ?_) rfl (by kernel_rfl) (by kernel_rfl) (by kernel_rfl) (by kernel_rfl) (fun _ _ _ h => h) (Or.inl ⟨by rfl, ?_⟩) hHeld ?_
          rotate_left 1
          · (intro w hSw; simp only [At8] at hSw; go_simp; first | done | with_reducible rfl)
          try simp only [Act.put, List.setIfInBounds_toArray, List.set_cons_zero, List.set_cons_succ]
          refine Bz.wpAnyE_take (i := 3) (oi := { dst := some 9, op := Go.Op.binOp Go.BinOp.lss 3 (Go.Operand.tmp 6) (Go.Operand.tmp 8) 3, type := 4, pos := "ref.go:51", after := #[{ on := 0, ground := Go.Ground.data }, { on := 2, ground := Go.Ground.data }], guard := none }) (v := ?_) rfl (by kernel_rfl) (by kernel_rfl) (by kernel_rfl) (by kernel_rfl) (fun _ _ _ h => h) (Or.inl ⟨by rfl, ?_⟩) hHeld ?_
          rotate_left 1
          · (intro w hSw; simp only [At8] at hSw; go_simp; first | done | with_reducible rfl)
          try simp only [Act.put, List.setIfInBounds_toArray, List.set_cons_zero, List.set_cons_succ]
          refine Bz.wpAnyE_take (i := 4) (oi := { dst := some 10, op := Go.Op.move (Go.Operand.tmp 9), type := 4, pos := "ref.go:51", after := #[{ on := 3, ground := Go.Ground.data }], guard := none }) (v := ?_) rfl (by kernel_rfl) (by kernel_rfl) (by kernel_rfl) (by kernel_rfl) (fun _ _ _ h => h) (Or.inl ⟨by rfl, ?_⟩) hHeld ?_
          rotate_left 1
          · (intro w hSw; simp only [At8] at hSw; go_simp; first | done | with_reducible rfl)
          try simp only [Act.put, List.setIfInBounds_toArray, List.set_cons_zero, List.set_cons_succ]
          refine Bz.wpAnyE_take (i := 5) (oi := { dst := some 11, op := Go.Op.move (Go.Operand.tmp 5), type := 3, pos := "ref.go:51", after := #[{ on := 4, ground := Go.Ground.guard }], guard := some (4, true) }) (v := ?_) rfl (by kernel_rfl) (by kernel_rfl) (by kernel_rfl) (by kernel_rfl) (fun _ _ _ h => h) (Or.inl ⟨by rfl, ?_⟩) hHeld ?_
          rotate_left 1
          · (intro w hSw; simp only [At8] at hSw; go_simp; first | done | with_reducible rfl)
          try simp only [Act.put, List.setIfInBounds_toArray, List.set_cons_zero, List.set_cons_succ]
          refine Bz.wpAnyE_take (i := 6) (oi := { dst := some 12, op := Go.Op.move (Go.Operand.tmp 1), type := 47, pos := "ref.go:51", after := #[{ on := 4, ground := Go.Ground.guard }], guard := some (4, true) }) (v := ?_) rfl (by kernel_rfl) (by kernel_rfl) (by kernel_rfl) (by kernel_rfl) (fun _ _ _ h => h) (Or.inl ⟨by rfl, ?_⟩) hHeld ?_
          rotate_left 1
          · (intro w hSw; simp only [At8] at hSw; go_simp; first | done | with_reducible rfl)
          try simp only [Act.put, List.setIfInBounds_toArray, List.set_cons_zero, List.set_cons_succ]
          refine Bz.wpAnyE_take (i := 7) (oi := { dst := some 13, op := Go.Op.call { callee := Go.Callee.builtin Go.Builtin.len, args := #[Go.Operand.tmp 12], argTypes := #[47] }, type := 3, pos := "ref.go:51", after := #[{ on := 6, ground := Go.Ground.data }, { on := 4, ground := Go.Ground.guard }], guard := some (4, true) }) (v := ?_) rfl (by kernel_rfl) (by kernel_rfl) (by kernel_rfl) (by kernel_rfl) (fun _ _ _ h => h) (Or.inl ⟨by rfl, ?_⟩) hHeld ?_
          rotate_left 1
          · (intro w hSw; simp only [At8] at hSw; go_simp; first | done | with_reducible rfl)
          try simp only [Act.put, List.setIfInBounds_toArray, List.set_cons_zero, List.set_cons_succ]
          refine Bz.wpAnyE_take (i := 8) (oi := { dst := some 14, op := Go.Op.binOp Go.BinOp.lss 3 (Go.Operand.tmp 11) (Go.Operand.tmp 13) 3, type := 4, pos := "ref.go:51", after := #[{ on := 5, ground := Go.Ground.data }, { on := 7, ground := Go.Ground.data }, { on := 4, ground := Go.Ground.guard }], guard := some (4, true) }) (v := ?_) rfl (by kernel_rfl) (by kernel_rfl) (by kernel_rfl) (by kernel_rfl) (fun _ _ _ h => h) (Or.inl ⟨by rfl, ?_⟩) hHeld ?_
          rotate_left 1
          · (intro w hSw; simp only [At8] at hSw; go_simp; first | done | with_reducible rfl)
          try simp only [Act.put, List.setIfInBounds_toArray, List.set_cons_zero, List.set_cons_succ]
          refine Bz.wpAnyE_take (i := 9) (oi := { dst := some 15, op := Go.Op.pick (Go.Operand.tmp 10) (Go.Operand.tmp 14) (Go.Operand.const (Go.Value.bool false)), type := 4, pos := "ref.go:51", after := #[{ on := 4, ground := Go.Ground.data }, { on := 8, ground := Go.Ground.data }], guard := none }) (v := ?_) rfl (by kernel_rfl) (by kernel_rfl) (by kernel_rfl) (by kernel_rfl) (fun _ _ _ h => h) (Or.inl ⟨by rfl, ?_⟩) hHeld ?_
          rotate_left 1
          · (intro w hSw; simp only [At8] at hSw; go_simp; first | done | with_reducible rfl)
          try simp only [Act.put, List.setIfInBounds_toArray, List.set_cons_zero, List.set_cons_succ]
          refine Bz.wpAnyE_take (i := 10) (oi := { dst := some 16, op := Go.Op.move (Go.Operand.tmp 15), type := 4, pos := "ref.go:51", after := #[{ on := 9, ground := Go.Ground.data }, { on := 4, ground := Go.Ground.chain }], guard := none }) (v := ?_) rfl (by kernel_rfl) (by kernel_rfl) (by kernel_rfl) (by kernel_rfl) (fun _ _ _ h => h) (Or.inl ⟨by rfl, ?_⟩) hHeld ?_
          rotate_left 1
          · (intro w hSw; simp only [At8] at hSw; go_simp; first | done | with_reducible rfl)
          try simp only [Act.put, List.setIfInBounds_toArray, List.set_cons_zero, List.set_cons_succ]
          refine Bz.wpAnyE_take (i := 11) (oi := { dst := some 17, op := Go.Op.move (Go.Operand.tmp 0), type := 47, pos := "ref.go:51", after := #[{ on := 10, ground := Go.Ground.guard }], guard := some (10, true) }) (v := ?_) rfl (by kernel_rfl) (by kernel_rfl) (by kernel_rfl) (by kernel_rfl) (fun _ _ _ h => h) (Or.inl ⟨by rfl, ?_⟩) hHeld ?_
          rotate_left 1
          · (intro w hSw; simp only [At8] at hSw; go_simp; first | done | with_reducible rfl)
          try simp only [Act.put, List.setIfInBounds_toArray, List.set_cons_zero, List.set_cons_succ]
          refine Bz.wpAnyE_take (i := 12) (oi := { dst := some 18, op := Go.Op.move (Go.Operand.tmp 5), type := 3, pos := "ref.go:51", after := #[{ on := 10, ground := Go.Ground.guard }], guard := some (10, true) }) (v := ?_) rfl (by kernel_rfl) (by kernel_rfl) (by kernel_rfl) (by kernel_rfl) (fun _ _ _ h => h) (Or.inl ⟨by rfl, ?_⟩) hHeld ?_
          rotate_left 1
          · (intro w hSw; simp only [At8] at hSw; go_simp; first | done | with_reducible rfl)
          try simp only [Act.put, List.setIfInBounds_toArray, List.set_cons_zero, List.set_cons_succ]
          refine Bz.wpAnyE_take (i := 13) (oi := { dst := some 19, op := Go.Op.indexAddr 47 (Go.Operand.tmp 17) (Go.Operand.tmp 18), type := 0, pos := "ref.go:51", after := #[{ on := 11, ground := Go.Ground.data }, { on := 12, ground := Go.Ground.data }, { on := 10, ground := Go.Ground.guard }], guard := some (10, true) }) (v := ?_) rfl (by kernel_rfl) (by kernel_rfl) (by kernel_rfl) (by kernel_rfl) (fun _ _ _ h => h) (Or.inl ⟨by rfl, ?_⟩) hHeld ?_
          rotate_left 1
          · (intro w hSw; simp only [At8] at hSw; go_simp; first | done | with_reducible rfl)
          try simp only [Act.put, List.setIfInBounds_toArray, List.set_cons_zero, List.set_cons_succ]
          refine Bz.wpAnyE_take (i := 14) (oi := { dst := some 20, op := Go.Op.load 28 (Go.Operand.tmp 19), type := 28, pos := "ref.go:51", after := #[{ on := 13, ground := Go.Ground.data }, { on := 10, ground := Go.Ground.guard }], guard := some (10, true) }) (v := ?_) rfl (by kernel_rfl) (by kernel_rfl) (by kernel_rfl) (by kernel_rfl) (fun _ _ _ h => h) (Or.inl ⟨by rfl, ?_⟩) hHeld ?_
          rotate_left 1
          · (intro w hSw; simp only [At8] at hSw; go_simp; first | done | with_reducible rfl)
          try simp only [Act.put, List.setIfInBounds_toArray, List.set_cons_zero, List.set_cons_succ]
          refine Bz.wpAnyE_take (i := 15) (oi := { dst := some 21, op := Go.Op.move (Go.Operand.tmp 1), type := 47, pos := "ref.go:51", after := #[{ on := 10, ground := Go.Ground.guard }], guard := some (10, true) }) (v := ?_) rfl (by kernel_rfl) (by kernel_rfl) (by kernel_rfl) (by kernel_rfl) (fun _ _ _ h => h) (Or.inl ⟨by rfl, ?_⟩) hHeld ?_
          rotate_left 1
          · (intro w hSw; simp only [At8] at hSw; go_simp; first | done | with_reducible rfl)
          try simp only [Act.put, List.setIfInBounds_toArray, List.set_cons_zero, List.set_cons_succ]
          refine Bz.wpAnyE_take (i := 16) (oi := { dst := some 22, op := Go.Op.move (Go.Operand.tmp 5), type := 3, pos := "ref.go:51", after := #[{ on := 10, ground := Go.Ground.guard }], guard := some (10, true) }) (v := ?_) rfl (by kernel_rfl) (by kernel_rfl) (by kernel_rfl) (by kernel_rfl) (fun _ _ _ h => h) (Or.inl ⟨by rfl, ?_⟩) hHeld ?_
          rotate_left 1
          · (intro w hSw; simp only [At8] at hSw; go_simp; first | done | with_reducible rfl)
          try simp only [Act.put, List.setIfInBounds_toArray, List.set_cons_zero, List.set_cons_succ]
          refine Bz.wpAnyE_take (i := 17) (oi := { dst := some 23, op := Go.Op.indexAddr 47 (Go.Operand.tmp 21) (Go.Operand.tmp 22), type := 0, pos := "ref.go:51", after := #[{ on := 15, ground := Go.Ground.data }, { on := 16, ground := Go.Ground.data }, { on := 10, ground := Go.Ground.guard }], guard := some (10, true) }) (v := ?_) rfl (by kernel_rfl) (by kernel_rfl) (by kernel_rfl) (by kernel_rfl) (fun _ _ _ h => h) (Or.inl ⟨by rfl, ?_⟩) hHeld ?_
          rotate_left 1
          · (intro w hSw; simp only [At8] at hSw; go_simp; first | done | with_reducible rfl)
          try simp only [Act.put, List.setIfInBounds_toArray, List.set_cons_zero, List.set_cons_succ]
          refine Bz.wpAnyE_take (i := 18) (oi := { dst := some 24, op := Go.Op.load 28 (Go.Operand.tmp 23), type := 28, pos := "ref.go:51", after := #[{ on := 17, ground := Go.Ground.data }, { on := 10, ground := Go.Ground.guard }], guard := some (10, true) }) (v := ?_) rfl (by kernel_rfl) (by kernel_rfl) (by kernel_rfl) (by kernel_rfl) (fun _ _ _ h => h) (Or.inl ⟨by rfl, ?_⟩) hHeld ?_
          rotate_left 1
          · (intro w hSw; simp only [At8] at hSw; go_simp; first | done | with_reducible rfl)
          try simp only [Act.put, List.setIfInBounds_toArray, List.set_cons_zero, List.set_cons_succ]
          refine Bz.wpAnyE_take (i := 19) (oi := { dst := some 25, op := Go.Op.binOp Go.BinOp.eql 28 (Go.Operand.tmp 20) (Go.Operand.tmp 24) 28, type := 4, pos := "ref.go:51", after := #[{ on := 14, ground := Go.Ground.data }, { on := 18, ground := Go.Ground.data }, { on := 10, ground := Go.Ground.guard }], guard := some (10, true) }) (v := ?_) rfl (by kernel_rfl) (by kernel_rfl) (by kernel_rfl) (by kernel_rfl) (fun _ _ _ h => h) (Or.inl ⟨by rfl, ?_⟩) hHeld ?_
          rotate_left 1
          · (intro w hSw; simp only [At8] at hSw; go_simp; first | done | with_reducible rfl)
          try simp only [Act.put, List.setIfInBounds_toArray, List.set_cons_zero, List.set_cons_succ]
          refine Bz.wpAnyE_take (i := 20) (oi := { dst := some 26, op := Go.Op.pick (Go.Operand.tmp 16) (Go.Operand.tmp 25) (Go.Operand.const (Go.Value.bool false)), type := 4, pos := "ref.go:51", after := #[{ on := 10, ground := Go.Ground.data }, { on := 19, ground := Go.Ground.data }], guard := none }) (v := ?_) rfl (by kernel_rfl) (by kernel_rfl) (by kernel_rfl) (by kernel_rfl) (fun _ _ _ h => h) (Or.inl ⟨by rfl, ?_⟩) hHeld ?_
          rotate_left 1
          · (intro w hSw; simp only [At8] at hSw; go_simp; first | done | with_reducible rfl)
          try simp only [Act.put, List.setIfInBounds_toArray, List.set_cons_zero, List.set_cons_succ]
          refine Bz.wpAnyE_done (by kernel_rfl) ?_ _
          refine NoPanic.normal ?_
          
          clear hHeld
          go_wp2_with fail
          go_ret
          rw [common_no a b k HC.out (fun z hz => by rw [HX.out.1] at hz; cases hz; rw [HX.out.2]; intro e; exact HE.out (Option.some.inj e).symm)]
          exact ⟨rfl, hK.drew⟩
      · have HK := Lib.hid hk
        have h2 : ¬ (k : Int) < (b.length : Int) := by omega
        clear hk hc3 hd3
        go_wp2_with fail
        refine wp_region_noPanic ?_
        refine Bz.wp_region_E (S := (fun _ => True)) (E := []) (by kernel_rfl) (by trivial) (fun hHeld => ?_)
        refine Bz.wpAnyE_take (i := 0) (oi := { dst := some 6, op := Go.Op.move (Go.Operand.tmp 5), type := 3, pos := "ref.go:51", after := #[], guard := none }) (v := ?_) rfl (by kernel_rfl) (by kernel_rfl) (by kernel_rfl) (by kernel_rfl) (fun _ _ _ h => h) (Or.inl ⟨by rfl, ?_⟩) hHeld ?_
        rotate_left 1
        · (intro w hSw; (try dsimp only at hSw); go_simp; first | done | with_reducible rfl)
        try simp only [Act.put, List.setIfInBounds_toArray, List.set_cons_zero, List.set_cons_succ]
        refine Bz.wpAnyE_take (i := 1) (oi := { dst := some 7, op := Go.Op.move (Go.Operand.tmp 0), type := 47, pos := "ref.go:51", after := #[], guard := none }) (v := ?_) rfl (by kernel_rfl) (by kernel_rfl) (by kernel_rfl) (by kernel_rfl) (fun _ _ _ h => h) (Or.inl ⟨by rfl, ?_⟩) hHeld ?_
        rotate_left 1
        · (intro w hSw; (try dsimp only at hSw); go_simp; first | done | with_reducible rfl)
        try simp only [Act.put, List.setIfInBounds_toArray, List.set_cons_zero, List.set_cons_succ]
        refine Bz.wpAnyE_take (i := 2) (oi := { dst := some 8, op := Go.Op.call { callee := Go.Callee.builtin Go.Builtin.len, args := #[Go.Operand.tmp 7], argTypes := #[47] }, type := 3, pos := "ref.go:51", after := #[{ on := 1, ground := Go.Ground.data }], guard := none }) (v := ?_) rfl (by kernel_rfl) (by kernel_rfl) (by kernel_rfl) (by kernel_rfl) (fun _ _ _ h => h) (Or.inl ⟨by rfl, ?_⟩) hHeld ?_
        rotate_left 1
        · (intro w hSw; (try dsimp only at hSw); go_simp; first | done | with_reducible rfl)
        try simp only [Act.put, List.setIfInBounds_toArray, List.set_cons_zero, List.set_cons_succ]
        refine Bz.wpAnyE_take (i := 3) (oi := { dst := some 9, op := Go.Op.binOp Go.BinOp.lss 3 (Go.Operand.tmp 6) (Go.Operand.tmp 8) 3, type := 4, pos := "ref.go:51", after := #[{ on := 0, ground := Go.Ground.data }, { on := 2, ground := Go.Ground.data }], guard := none }) (v := ?_) rfl (by kernel_rfl) (by kernel_rfl) (by kernel_rfl) (by kernel_rfl) (fun _ _ _ h => h) (Or.inl ⟨by rfl, ?_⟩) hHeld ?_
        rotate_left 1
        · (intro w hSw; (try dsimp only at hSw); go_simp; first | done | with_reducible rfl)
        try simp only [Act.put, List.setIfInBounds_toArray, List.set_cons_zero, List.set_cons_succ]
        refine Bz.wpAnyE_take (i := 4) (oi := { dst := some 10, op := Go.Op.move (Go.Operand.tmp 9), type := 4, pos := "ref.go:51", after := #[{ on := 3, ground := Go.Ground.data }], guard := none }) (v := ?_) rfl (by kernel_rfl) (by kernel_rfl) (by kernel_rfl) (by kernel_rfl) (fun _ _ _ h => h) (Or.inl ⟨by rfl, ?_⟩) hHeld ?_
        rotate_left 1
        · (intro w hSw; (try dsimp only at hSw); go_simp; first | done | with_reducible rfl)
        try simp only [Act.put, List.setIfInBounds_toArray, List.set_cons_zero, List.set_cons_succ]
        refine Bz.wpAnyE_take (i := 5) (oi := { dst := some 11, op := Go.Op.move (Go.Operand.tmp 5), type := 3, pos := "ref.go:51", after := #[{ on := 4, ground := Go.Ground.guard }], guard := some (4, true) }) (v := ?_) rfl (by kernel_rfl) (by kernel_rfl) (by kernel_rfl) (by kernel_rfl) (fun _ _ _ h => h) (Or.inl ⟨by rfl, ?_⟩) hHeld ?_
        rotate_left 1
        · (intro w hSw; (try dsimp only at hSw); go_simp; first | done | with_reducible rfl)
        try simp only [Act.put, List.setIfInBounds_toArray, List.set_cons_zero, List.set_cons_succ]
        refine Bz.wpAnyE_take (i := 6) (oi := { dst := some 12, op := Go.Op.move (Go.Operand.tmp 1), type := 47, pos := "ref.go:51", after := #[{ on := 4, ground := Go.Ground.guard }], guard := some (4, true) }) (v := ?_) rfl (by kernel_rfl) (by kernel_rfl) (by kernel_rfl) (by kernel_rfl) (fun _ _ _ h => h) (Or.inl ⟨by rfl, ?_⟩) hHeld ?_
        rotate_left 1
        · (intro w hSw; (try dsimp only at hSw); go_simp; first | done | with_reducible rfl)
        try simp only [Act.put, List.setIfInBounds_toArray, List.set_cons_zero, List.set_cons_succ]
        refine Bz.wpAnyE_take (i := 7) (oi := { dst := some 13, op := Go.Op.call { callee := Go.Callee.builtin Go.Builtin.len, args := #[Go.Operand.tmp 12], argTypes := #[47] }, type := 3, pos := "ref.go:51", after := #[{ on := 6, ground := Go.Ground.data }, { on := 4, ground := Go.Ground.guard }], guard := some (4, true) }) (v := ?_) rfl (by kernel_rfl) (by kernel_rfl) (by kernel_rfl) (by kernel_rfl) (fun _ _ _ h => h) (Or.inl ⟨by rfl, ?_⟩) hHeld ?_
        rotate_left 1
        · (intro w hSw; (try dsimp only at hSw); go_simp; first | done | with_reducible rfl)
        try simp only [Act.put, List.setIfInBounds_toArray, List.set_cons_zero, List.set_cons_succ]
        refine Bz.wpAnyE_take (i := 8) (oi := { dst := some 14, op := Go.Op.binOp Go.BinOp.lss 3 (Go.Operand.tmp 11) (Go.Operand.tmp 13) 3, type := 4, pos := "ref.go:51", after := #[{ on := 5, ground := Go.Ground.data }, { on := 7, ground := Go.Ground.data }, { on := 4, ground := Go.Ground.guard }], guard := some (4, true) }) (v := ?_) rfl (by kernel_rfl) (by kernel_rfl) (by kernel_rfl) (by kernel_rfl) (fun _ _ _ h => h) (Or.inl ⟨by rfl, ?_⟩) hHeld ?_
        rotate_left 1
        · (intro w hSw; (try dsimp only at hSw); go_simp; first | done | with_reducible rfl)
        try simp only [Act.put, List.setIfInBounds_toArray, List.set_cons_zero, List.set_cons_succ]
        refine Bz.wpAnyE_take (i := 9) (oi := { dst := some 15, op := Go.Op.pick (Go.Operand.tmp 10) (Go.Operand.tmp 14) (Go.Operand.const (Go.Value.bool false)), type := 4, pos := "ref.go:51", after := #[{ on := 4, ground := Go.Ground.data }, { on := 8, ground := Go.Ground.data }], guard := none }) (v := ?_) rfl (by kernel_rfl) (by kernel_rfl) (by kernel_rfl) (by kernel_rfl) (fun _ _ _ h => h) (Or.inl ⟨by rfl, ?_⟩) hHeld ?_
        rotate_left 1
        · (intro w hSw; (try dsimp only at hSw); go_simp; first | done | with_reducible rfl)
        try simp only [Act.put, List.setIfInBounds_toArray, List.set_cons_zero, List.set_cons_succ]
        refine Bz.wpAnyE_take (i := 10) (oi := { dst := some 16, op := Go.Op.move (Go.Operand.tmp 15), type := 4, pos := "ref.go:51", after := #[{ on := 9, ground := Go.Ground.data }, { on := 4, ground := Go.Ground.chain }], guard := none }) (v := ?_) rfl (by kernel_rfl) (by kernel_rfl) (by kernel_rfl) (by kernel_rfl) (fun _ _ _ h => h) (Or.inl ⟨by rfl, ?_⟩) hHeld ?_
        rotate_left 1
        · (intro w hSw; (try dsimp only at hSw); go_simp; first | done | with_reducible rfl)
        try simp only [Act.put, List.setIfInBounds_toArray, List.set_cons_zero, List.set_cons_succ]
        refine Bz.wpAnyE_take (i := 11) (oi := { dst := some 17, op := Go.Op.move (Go.Operand.tmp 0), type := 47, pos := "ref.go:51", after := #[{ on := 10, ground := Go.Ground.guard }], guard := some (10, true) }) (v := undef) rfl (by kernel_rfl) (by kernel_rfl) (by kernel_rfl) (by kernel_rfl) (fun _ _ _ h => h) (Or.inr ⟨by rfl, rfl⟩) hHeld ?_
        try simp only [Act.put, List.setIfInBounds_toArray, List.set_cons_zero, List.set_cons_succ]
        refine Bz.wpAnyE_take (i := 12) (oi := { dst := some 18, op := Go.Op.move (Go.Operand.tmp 5), type := 3, pos := "ref.go:51", after := #[{ on := 10, ground := Go.Ground.guard }], guard := some (10, true) }) (v := undef) rfl (by kernel_rfl) (by kernel_rfl) (by kernel_rfl) (by kernel_rfl) (fun _ _ _ h => h) (Or.inr ⟨by rfl, rfl⟩) hHeld ?_
        try simp only [Act.put, List.setIfInBounds_toArray, List.set_cons_zero, List.set_cons_succ]
        refine Bz.wpAnyE_take (i := 13) (oi := { dst := some 19, op := Go.Op.indexAddr 47 (Go.Operand.tmp 17) (Go.Operand.tmp 18), type := 0, pos := "ref.go:51", after := #[{ on := 11, ground := Go.Ground.data }, { on := 12, ground := Go.Ground.data }, { on := 10, ground := Go.Ground.guard }], guard := some (10, true) }) (v := undef) rfl (by kernel_rfl) (by kernel_rfl) (by kernel_rfl) (by kernel_rfl) (fun _ _ _ h => h) (Or.inr ⟨by rfl, rfl⟩) hHeld ?_
        try simp only [Act.put, List.setIfInBounds_toArray, List.set_cons_zero, List.set_cons_succ]
        refine Bz.wpAnyE_take (i := 14) (oi := { dst := some 20, op := Go.Op.load 28 (Go.Operand.tmp 19), type := 28, pos := "ref.go:51", after := #[{ on := 13, ground := Go.Ground.data }, { on := 10, ground := Go.Ground.guard }], guard := some (10, true) }) (v := undef) rfl (by kernel_rfl) (by kernel_rfl) (by kernel_rfl) (by kernel_rfl) (fun _ _ _ h => h) (Or.inr ⟨by rfl, rfl⟩) hHeld ?_
        try simp only [Act.put, List.setIfInBounds_toArray, List.set_cons_zero, List.set_cons_succ]
        refine Bz.wpAnyE_take (i := 15) (oi := { dst := some 21, op := Go.Op.move (Go.Operand.tmp 1), type := 47, pos := "ref.go:51", after := #[{ on := 10, ground := Go.Ground.guard }], guard := some (10, true) }) (v := undef) rfl (by kernel_rfl) (by kernel_rfl) (by kernel_rfl) (by kernel_rfl) (fun _ _ _ h => h) (Or.inr ⟨by rfl, rfl⟩) hHeld ?_
        try simp only [Act.put, List.setIfInBounds_toArray, List.set_cons_zero, List.set_cons_succ]
        refine Bz.wpAnyE_take (i := 16) (oi := { dst := some 22, op := Go.Op.move (Go.Operand.tmp 5), type := 3, pos := "ref.go:51", after := #[{ on := 10, ground := Go.Ground.guard }], guard := some (10, true) }) (v := undef) rfl (by kernel_rfl) (by kernel_rfl) (by kernel_rfl) (by kernel_rfl) (fun _ _ _ h => h) (Or.inr ⟨by rfl, rfl⟩) hHeld ?_
        try simp only [Act.put, List.setIfInBounds_toArray, List.set_cons_zero, List.set_cons_succ]
        refine Bz.wpAnyE_take (i := 17) (oi := { dst := some 23, op := Go.Op.indexAddr 47 (Go.Operand.tmp 21) (Go.Operand.tmp 22), type := 0, pos := "ref.go:51", after := #[{ on := 15, ground := Go.Ground.data }, { on := 16, ground := Go.Ground.data }, { on := 10, ground := Go.Ground.guard }], guard := some (10, true) }) (v := undef) rfl (by kernel_rfl) (by kernel_rfl) (by kernel_rfl) (by kernel_rfl) (fun _ _ _ h => h) (Or.inr ⟨by rfl, rfl⟩) hHeld ?_
        try simp only [Act.put, List.setIfInBounds_toArray, List.set_cons_zero, List.set_cons_succ]
        refine Bz.wpAnyE_take (i := 18) (oi := { dst := some 24, op := Go.Op.load 28 (Go.Operand.tmp 23), type := 28, pos := "ref.go:51", after := #[{ on := 17, ground := Go.Ground.data }, { on := 10, ground := Go.Ground.guard }], guard := some (10, true) }) (v := undef) rfl (by kernel_rfl) (by kernel_rfl) (by kernel_rfl) (by kernel_rfl) (fun _ _ _ h => h) (Or.inr ⟨by rfl, rfl⟩) hHeld ?_
        try simp only [Act.put, List.setIfInBounds_toArray, List.set_cons_zero, List.set_cons_succ]
        refine Bz.wpAnyE_take (i := 19) (oi := { dst := some 25, op := Go.Op.binOp Go.BinOp.eql 28 (Go.Operand.tmp 20) (Go.Operand.tmp 24) 28, type := 4, pos := "ref.go:51", after := #[{ on := 14, ground := Go.Ground.data }, { on := 18, ground := Go.Ground.data }, { on := 10, ground := Go.Ground.guard }], guard := some (10, true) }) (v := undef) rfl (by kernel_rfl) (by kernel_rfl) (by kernel_rfl) (by kernel_rfl) (fun _ _ _ h => h) (Or.inr ⟨by rfl, rfl⟩) hHeld ?_
        try simp only [Act.put, List.setIfInBounds_toArray, List.set_cons_zero, List.set_cons_succ]
        refine Bz.wpAnyE_take (i := 20) (oi := { dst := some 26, op := Go.Op.pick (Go.Operand.tmp 16) (Go.Operand.tmp 25) (Go.Operand.const (Go.Value.bool false)), type := 4, pos := "ref.go:51", after := #[{ on := 10, ground := Go.Ground.data }, { on := 19, ground := Go.Ground.data }], guard := none }) (v := ?_) rfl (by kernel_rfl) (by kernel_rfl) (by kernel_rfl) (by kernel_rfl) (fun _ _ _ h => h) (Or.inl ⟨by rfl, ?_⟩) hHeld ?_
        rotate_left 1
        · (intro w hSw; (try dsimp only at hSw); go_simp; first | done | with_reducible rfl)
        try simp only [Act.put, List.setIfInBounds_toArray, List.set_cons_zero, List.set_cons_succ]
        refine Bz.wpAnyE_done (by kernel_rfl) ?_ _
        refine NoPanic.normal ?_
        
        clear hHeld
        go_wp2_with fail
        go_ret
        rw [common_no a b k HC.out (fun z _ => by rw [List.getElem?_eq_none (by omega)]; simp)]
        exact ⟨rfl, hK.drew⟩
    · have HK := Lib.hid hk
      have hka : k ≤ a.length := by omega
      clear hk hc3 hd3
      go_wp2_with fail
      refine wp_region_noPanic ?_
      refine Bz.wp_region_E (S := (fun _ => True)) (E := []) (by kernel_rfl) (by trivial) (fun hHeld => ?_)
      refine Bz.wpAnyE_take (i := 0) (oi := { dst := some 6, op := Go.Op.move (Go.Operand.tmp 5), type := 3, pos := "ref.go:51", after := #[], guard := none }) (v := ?_) rfl (by kernel_rfl) (by kernel_rfl) (by kernel_rfl) (by kernel_rfl) (fun _ _ _ h => h) (Or.inl ⟨by rfl, ?_⟩) hHeld ?_
      rotate_left 1
      · (intro w hSw; (try dsimp only at hSw); go_simp; first | done | with_reducible rfl)
      try simp only [Act.put, List.setIfInBounds_toArray, List.set_cons_zero, List.set_cons_succ]
      refine Bz.wpAnyE_take (i := 1) (oi := { dst := some 7, op := Go.Op.move (Go.Operand.tmp 0), type := 47, pos := "ref.go:51", after := #[], guard := none }) (v := ?_) rfl (by kernel_rfl) (by kernel_rfl) (by kernel_rfl) (by kernel_rfl) (fun _ _ _ h => h) (Or.inl ⟨by rfl, ?_⟩) hHeld ?_
      rotate_left 1
      · (intro w hSw; (try dsimp only at hSw); go_simp; first | done | with_reducible rfl)
      try simp only [Act.put, List.setIfInBounds_toArray, List.set_cons_zero, List.set_cons_succ]
      refine Bz.wpAnyE_take (i := 2) (oi := { dst := some 8, op := Go.Op.call { callee := Go.Callee.builtin Go.Builtin.len, args := #[Go.Operand.tmp 7], argTypes := #[47] }, type := 3, pos := "ref.go:51", after := #[{ on := 1, ground := Go.Ground.data }], guard := none }) (v := ?_) rfl (by kernel_rfl) (by kernel_rfl) (by kernel_rfl) (by kernel_rfl) (fun _ _ _ h => h) (Or.inl ⟨by rfl, ?_⟩) hHeld ?_
      rotate_left 1
      · (intro w hSw; (try dsimp only at hSw); go_simp; first | done | with_reducible rfl)
      try simp only [Act.put, List.setIfInBounds_toArray, List.set_cons_zero, List.set_cons_succ]
      refine Bz.wpAnyE_take (i := 3) (oi := { dst := some 9, op := Go.Op.binOp Go.BinOp.lss 3 (Go.Operand.tmp 6) (Go.Operand.tmp 8) 3, type := 4, pos := "ref.go:51", after := #[{ on := 0, ground := Go.Ground.data }, { on := 2, ground := Go.Ground.data }], guard := none }) (v := ?_) rfl (by kernel_rfl) (by kernel_rfl) (by kernel_rfl) (by kernel_rfl) (fun _ _ _ h => h) (Or.inl ⟨by rfl, ?_⟩) hHeld ?_
      rotate_left 1
      · (intro w hSw; (try dsimp only at hSw); go_simp; first | done | with_reducible rfl)
      try simp only [Act.put, List.setIfInBounds_toArray, List.set_cons_zero, List.set_cons_succ]
      refine Bz.wpAnyE_take (i := 4) (oi := { dst := some 10, op := Go.Op.move (Go.Operand.tmp 9), type := 4, pos := "ref.go:51", after := #[{ on := 3, ground := Go.Ground.data }], guard := none }) (v := ?_) rfl (by kernel_rfl) (by kernel_rfl) (by kernel_rfl) (by kernel_rfl) (fun _ _ _ h => h) (Or.inl ⟨by rfl, ?_⟩) hHeld ?_
      rotate_left 1
      · (intro w hSw; (try dsimp only at hSw); go_simp; first | done | with_reducible rfl)
      try simp only [Act.put, List.setIfInBounds_toArray, List.set_cons_zero, List.set_cons_succ]
      refine Bz.wpAnyE_take (i := 5) (oi := { dst := some 11, op := Go.Op.move (Go.Operand.tmp 5), type := 3, pos := "ref.go:51", after := #[{ on := 4, ground := Go.Ground.guard }], guard := some (4, true) }) (v := undef) rfl (by kernel_rfl) (by kernel_rfl) (by kernel_rfl) (by kernel_rfl) (fun _ _ _ h => h) (Or.inr ⟨by rfl, rfl⟩) hHeld ?_
      try simp only [Act.put, List.setIfInBounds_toArray, List.set_cons_zero, List.set_cons_succ]
      refine Bz.wpAnyE_take (i := 6) (oi := { dst := some 12, op := Go.Op.move (Go.Operand.tmp 1), type := 47, pos := "ref.go:51", after := #[{ on := 4, ground := Go.Ground.guard }], guard := some (4, true) }) (v := undef) rfl (by kernel_rfl) (by kernel_rfl) (by kernel_rfl) (by kernel_rfl) (fun _ _ _ h => h) (Or.inr ⟨by rfl, rfl⟩) hHeld ?_
      try simp only [Act.put, List.setIfInBounds_toArray, List.set_cons_zero, List.set_cons_succ]
      refine Bz.wpAnyE_take (i := 7) (oi := { dst := some 13, op := Go.Op.call { callee := Go.Callee.builtin Go.Builtin.len, args := #[Go.Operand.tmp 12], argTypes := #[47] }, type := 3, pos := "ref.go:51", after := #[{ on := 6, ground := Go.Ground.data }, { on := 4, ground := Go.Ground.guard }], guard := some (4, true) }) (v := undef) rfl (by kernel_rfl) (by kernel_rfl) (by kernel_rfl) (by kernel_rfl) (fun _ _ _ h => h) (Or.inr ⟨by rfl, rfl⟩) hHeld ?_
      try simp only [Act.put, List.setIfInBounds_toArray, List.set_cons_zero, List.set_cons_succ]
      refine Bz.wpAnyE_take (i := 8) (oi := { dst := some 14, op := Go.Op.binOp Go.BinOp.lss 3 (Go.Operand.tmp 11) (Go.Operand.tmp 13) 3, type := 4, pos := "ref.go:51", after := #[{ on := 5, ground := Go.Ground.data }, { on := 7, ground := Go.Ground.data }, { on := 4, ground := Go.Ground.guard }], guard := some (4, true) }) (v := undef) rfl (by kernel_rfl) (by kernel_rfl) (by kernel_rfl) (by kernel_rfl) (fun _ _ _ h => h) (Or.inr ⟨by rfl, rfl⟩) hHeld ?_
      try simp only [Act.put, List.setIfInBounds_toArray, List.set_cons_zero, List.set_cons_succ]
      refine Bz.wpAnyE_take (i := 9) (oi := { dst := some 15, op := Go.Op.pick (Go.Operand.tmp 10) (Go.Operand.tmp 14) (Go.Operand.const (Go.Value.bool false)), type := 4, pos := "ref.go:51", after := #[{ on := 4, ground := Go.Ground.data }, { on := 8, ground := Go.Ground.data }], guard := none }) (v := ?_) rfl (by kernel_rfl) (by kernel_rfl) (by kernel_rfl) (by kernel_rfl) (fun _ _ _ h => h) (Or.inl ⟨by rfl, ?_⟩) hHeld ?_
      rotate_left 1
      · (intro w hSw; (try dsimp only at hSw); go_simp; first | done | with_reducible rfl)
      try simp only [Act.put, List.setIfInBounds_toArray, List.set_cons_zero, List.set_cons_succ]
      refine Bz.wpAnyE_take (i := 10) (oi := { dst := some 16, op := Go.Op.move (Go.Operand.tmp 15), type := 4, pos := "ref.go:51", after := #[{ on := 9, ground := Go.Ground.data }, { on := 4, ground := Go.Ground.chain }], guard := none }) (v := ?_) rfl (by kernel_rfl) (by kernel_rfl) (by kernel_rfl) (by kernel_rfl) (fun _ _ _ h => h) (Or.inl ⟨by rfl, ?_⟩) hHeld ?_
      rotate_left 1
      · (intro w hSw; (try dsimp only at hSw); go_simp; first | done | with_reducible rfl)
      try simp only [Act.put, List.setIfInBounds_toArray, List.set_cons_zero, List.set_cons_succ]
      refine Bz.wpAnyE_take (i := 11) (oi := { dst := some 17, op := Go.Op.move (Go.Operand.tmp 0), type := 47, pos := "ref.go:51", after := #[{ on := 10, ground := Go.Ground.guard }], guard := some (10, true) }) (v := undef) rfl (by kernel_rfl) (by kernel_rfl) (by kernel_rfl) (by kernel_rfl) (fun _ _ _ h => h) (Or.inr ⟨by rfl, rfl⟩) hHeld ?_
      try simp only [Act.put, List.setIfInBounds_toArray, List.set_cons_zero, List.set_cons_succ]
      refine Bz.wpAnyE_take (i := 12) (oi := { dst := some 18, op := Go.Op.move (Go.Operand.tmp 5), type := 3, pos := "ref.go:51", after := #[{ on := 10, ground := Go.Ground.guard }], guard := some (10, true) }) (v := undef) rfl (by kernel_rfl) (by kernel_rfl) (by kernel_rfl) (by kernel_rfl) (fun _ _ _ h => h) (Or.inr ⟨by rfl, rfl⟩) hHeld ?_
      try simp only [Act.put, List.setIfInBounds_toArray, List.set_cons_zero, List.set_cons_succ]
      refine Bz.wpAnyE_take (i := 13) (oi := { dst := some 19, op := Go.Op.indexAddr 47 (Go.Operand.tmp 17) (Go.Operand.tmp 18), type := 0, pos := "ref.go:51", after := #[{ on := 11, ground := Go.Ground.data }, { on := 12, ground := Go.Ground.data }, { on := 10, ground := Go.Ground.guard }], guard := some (10, true) }) (v := undef) rfl (by kernel_rfl) (by kernel_rfl) (by kernel_rfl) (by kernel_rfl) (fun _ _ _ h => h) (Or.inr ⟨by rfl, rfl⟩) hHeld ?_
      try simp only [Act.put, List.setIfInBounds_toArray, List.set_cons_zero, List.set_cons_succ]
      refine Bz.wpAnyE_take (i := 14) (oi := { dst := some 20, op := Go.Op.load 28 (Go.Operand.tmp 19), type := 28, pos := "ref.go:51", after := #[{ on := 13, ground := Go.Ground.data }, { on := 10, ground := Go.Ground.guard }], guard := some (10, true) }) (v := undef) rfl (by kernel_rfl) (by kernel_rfl) (by kernel_rfl) (by kernel_rfl) (fun _ _ _ h => h) (Or.inr ⟨by rfl, rfl⟩) hHeld ?_
      try simp only [Act.put, List.setIfInBounds_toArray, List.set_cons_zero, List.set_cons_succ]
      refine Bz.wpAnyE_take (i := 15) (oi := { dst := some 21, op := Go.Op.move (Go.Operand.tmp 1), type := 47, pos := "ref.go:51", after := #[{ on := 10, ground := Go.Ground.guard }], guard := some (10, true) }) (v := undef) rfl (by kernel_rfl) (by kernel_rfl) (by kernel_rfl) (by kernel_rfl) (fun _ _ _ h => h) (Or.inr ⟨by rfl, rfl⟩) hHeld ?_
      try simp only [Act.put, List.setIfInBounds_toArray, List.set_cons_zero, List.set_cons_succ]
      refine Bz.wpAnyE_take (i := 16) (oi := { dst := some 22, op := Go.Op.move (Go.Operand.tmp 5), type := 3, pos := "ref.go:51", after := #[{ on := 10, ground := Go.Ground.guard }], guard := some (10, true) }) (v := undef) rfl (by kernel_rfl) (by kernel_rfl) (by kernel_rfl) (by kernel_rfl) (fun _ _ _ h => h) (Or.inr ⟨by rfl, rfl⟩) hHeld ?_
      try simp only [Act.put, List.setIfInBounds_toArray, List.set_cons_zero, List.set_cons_succ]
      refine Bz.wpAnyE_take (i := 17) (oi := { dst := some 23, op := Go.Op.indexAddr 47 (Go.Operand.tmp 21) (Go.Operand.tmp 22), type := 0, pos := "ref.go:51", after := #[{ on := 15, ground := Go.Ground.data }, { on := 16, ground := Go.Ground.data }, { on := 10, ground := Go.Ground.guard }], guard := some (10, true) }) (v := undef) rfl (by kernel_rfl) (by kernel_rfl) (by kernel_rfl) (by kernel_rfl) (fun _ _ _ h => h) (Or.inr ⟨by rfl, rfl⟩) hHeld ?_
      try simp only [Act.put, List.setIfInBounds_toArray, List.set_cons_zero, List.set_cons_succ]
      refine Bz.wpAnyE_take (i := 18) (oi := { dst := some 24, op := Go.Op.load 28 (Go.Operand.tmp 23), type := 28, pos := "ref.go:51", after := #[{ on := 17, ground := Go.Ground.data }, { on := 10, ground := Go.Ground.guard }], guard := some (10, true) }) (v := undef) rfl (by kernel_rfl) (by kernel_rfl) (by kernel_rfl) (by kernel_rfl) (fun _ _ _ h => h) (Or.inr ⟨by rfl, rfl⟩) hHeld ?_
      try simp only [Act.put, List.setIfInBounds_toArray, List.set_cons_zero, List.set_cons_succ]
      refine Bz.wpAnyE_take (i := 19) (oi := { dst := some 25, op := Go.Op.binOp Go.BinOp.eql 28 (Go.Operand.tmp 20) (Go.Operand.tmp 24) 28, type := 4, pos := "ref.go:51", after := #[{ on := 14, ground := Go.Ground.data }, { on := 18, ground := Go.Ground.data }, { on := 10, ground := Go.Ground.guard }], guard := some (10, true) }) (v := undef) rfl (by kernel_rfl) (by kernel_rfl) (by kernel_rfl) (by kernel_rfl) (fun _ _ _ h => h) (Or.inr ⟨by rfl, rfl⟩) hHeld ?_
      try simp only [Act.put, List.setIfInBounds_toArray, List.set_cons_zero, List.set_cons_succ]
      refine Bz.wpAnyE_take (i := 20) (oi := { dst := some 26, op := Go.Op.pick (Go.Operand.tmp 16) (Go.Operand.tmp 25) (Go.Operand.const (Go.Value.bool false)), type := 4, pos := "ref.go:51", after := #[{ on := 10, ground := Go.Ground.data }, { on := 19, ground := Go.Ground.data }], guard := none }) (v := ?_) rfl (by kernel_rfl) (by kernel_rfl) (by kernel_rfl) (by kernel_rfl) (fun _ _ _ h => h) (Or.inl ⟨by rfl, ?_⟩) hHeld ?_
      rotate_left 1
      · (intro w hSw; (try dsimp only at hSw); go_simp; first | done | with_reducible rfl)
      try simp only [Act.put, List.setIfInBounds_toArray, List.set_cons_zero, List.set_cons_succ]
      refine Bz.wpAnyE_done (by kernel_rfl) ?_ _
      refine NoPanic.normal ?_
      
      clear hHeld
      go_wp2_with fail
      go_ret
      rw [common_no a b k HC.out (fun z hz => by rw [List.getElem?_eq_none (by omega)] at hz; cases hz)]
      exact ⟨rfl, hK.drew⟩
theorem FT.lines_len {T : FT} (h : T.WF) (x : D8) : (T.lines x).length ≤ 4096 ∧ ((T.lines x).length : Int) - 1 = T.height x := by
  unfold FT.lines FT.height
  split
  · rename_i hx
    have := h.line_lt hx
    have := h.nonneg hx
    rw [T.line_len] at *
    omega
  · simp
theorem rheight_any {T : FT} (h : T.WF) (hh : T.Hd) (x : D8) {w : World} {V : Value} (hs : Sl w 57 16 renc V T.ref) :
    Calls Try.prog 25 #[rtv V T.rt, dv x] w (fun e w' => e = .returned (.int .i64 (T.height x)) ∧ Keep [] w w') := by
  have hK := ((Keep.refl [] w).alloc (.cells (rcells V T.rt) 42)).alloc (.cells (dcells x) 28)
  obtain ⟨hl, hH⟩ := FT.lines_len h x
  go_enter Try.func25, Try.ntmps25
  go_wp2_with (first | (go_at_call 26; refine (rline_any h hh x (hs.keep0 hK)).mono ?_; rintro e w1 ⟨v1, rfl, hO, hk1⟩; have hK := hK.trans hk1; obtain ⟨A, cap, rfl, hc1, hc2, hc3⟩ := hO.sl dsz))
  go_ret
  exact ⟨by rw [← hH]; rfl, hK⟩
end Go.Proofs.Ytbkchniomhdieaa
