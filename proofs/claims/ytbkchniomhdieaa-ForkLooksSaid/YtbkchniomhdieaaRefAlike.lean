/- The document's Alike walked. -/
import Derived.Test.YtbkchniomhdieaaAlikeLaw
namespace Go.Proofs.Ytbkchniomhdieaa
open Go.RowKit Go.Bz

theorem FT.WF.find_ok {U : FT} (h : U.WF) (hh : U.Hd) (p : D8 × D8) :
    (∃ (k : Nat) (y : D8), findIn p.1 U.ref = k ∧ 1 ≤ k ∧ U.ref[k]? = some (p.1, y) ∧ U.okAt p = decide (y = p.2)) ∨ (∃ n : Int, findIn p.1 U.ref = n ∧ n < 1 ∧ U.okAt p = false) := by
  cases hi : U.is p.1 with
  | false => exact .inr ⟨-1, FT.ref_not hi, by decide, by unfold FT.okAt; simp [hi]⟩
  | true =>
    obtain ⟨k, h1, h2, h3⟩ := h.ref_is hh hi
    by_cases hf : p.1 = U.first
    · exact .inr ⟨k, h1, by have := h3.2 hf; omega, by unfold FT.okAt; simp [hf]⟩
    · exact .inl ⟨k, _, h1, by have : k ≠ 0 := fun e => hf (h3.1 e); omega, h2, by unfold FT.okAt; simp [hi, hf]⟩
theorem FT.Hd.ref0 {T : FT} (h : T.Hd) : T.ref[0]? = some (T.first, d0) := by
  obtain ⟨r, hr⟩ := h.cons
  unfold FT.ref; rw [hr]; rfl
set_option maxHeartbeats 8000000 in
theorem ralike_any {T U : FT} (h : T.WF) (h' : U.WF) (hh : T.Hd) (hh' : U.Hd) {w : World} {V V' : Value} (hs : Sl w 57 16 renc V T.ref) (hs' : Sl w 57 16 renc V' U.ref) :
    Calls Try.prog 31 #[rtv V T.rt, rtv V' U.rt] w (fun e w' => e = .returned (.bool (T.alike U)) ∧ Keep [] w w') := by
  have hT0 : T.rt.l[0]? = some (T.first, d0) := hh.ref0
  have hU0 : U.rt.l[0]? = some (U.first, d0) := hh'.ref0
  have hs : Sl w 57 16 renc V T.rt.l := hs
  have hs' : Sl w 57 16 renc V' U.rt.l := hs'
  have hlT : T.rt.l.length = T.bl.length := T.ref_len
  have hlU : U.rt.l.length = U.bl.length := U.ref_len
  have hsz := h.size
  have hsz' := h'.size
  have hRl : T.rt.l.length ≤ 5000 := by omega
  have hRl' : U.rt.l.length ≤ 5000 := by omega
  obtain ⟨g, o, cap, rfl, hcap, hsl⟩ := hs.at_ hT0
  obtain ⟨g', o', cap', rfl, hcap', hsl'⟩ := hs'.at_ hU0
  obtain ⟨w0, hw0⟩ : ∃ W, W = (w.alloc (.cells (rcells (.slice (some ⟨g, o, none⟩) T.rt.l.length cap) T.rt) 42)).alloc (.cells (rcells (.slice (some ⟨g', o', none⟩) U.rt.l.length cap') U.rt) 42) := ⟨_, rfl⟩
  have B0 : Blk w0 w.heap.size 42 (rcells (.slice (some ⟨g, o, none⟩) T.rt.l.length cap) T.rt) := by rw [hw0]; exact (Blk.new _ _ _).alloc _
  have B1 : Blk w0 (w.heap.size + 1) 42 (rcells (.slice (some ⟨g', o', none⟩) U.rt.l.length cap') U.rt) := by rw [hw0]; exact Blk.new_ (by simp)
  have hKw : Keep [] w w0 := by rw [hw0]; exact ((Keep.refl _ _).alloc _).alloc _
  have F0 := fun W (hk : Keep [] w0 W) => (B0.keep hk (by simp)).cell
  have F1 := fun W (hk : Keep [] w0 W) => (B1.keep hk (by simp)).cell
  have F2 : ∀ W, Keep [] w0 W → At8 W g o T.first := fun W hk => by have := ((hsl.keep (hKw.trans hk) (by simp)).at16 hT0).1; simpa using this
  have F3 : ∀ W, Keep [] w0 W → At8 W g' o' U.first := fun W hk => by have := ((hsl'.keep (hKw.trans hk) (by simp)).at16 hU0).1; simpa using this
  unfold At8 at F2 F3
  have n1 : 0 < T.rt.l.length := (List.getElem?_eq_some_iff.1 hT0).1
  have n2 : 0 < U.rt.l.length := (List.getElem?_eq_some_iff.1 hU0).1
  have q2 := fun W => run_eqD8 (P := Try.prog) W dt28 9998 T.rt.tip U.rt.tip
  have q4 := fun W => run_eqD8 (P := Try.prog) W dt28 9998 T.first U.first
  by_cases e1 : T.rt.depth = U.rt.depth
  · have q1 : (T.rt.depth != U.rt.depth) = false := by simp [e1]
    by_cases e2 : T.rt.tip = U.rt.tip
    · rw [decide_eq_true e2] at q2
      by_cases e3 : T.rt.l.length = U.rt.l.length
      · have q3 : ((T.rt.l.length : Int) != (U.rt.l.length : Int)) = false := by simp [e3]
        by_cases e4 : T.first = U.first
        · rw [decide_eq_true e4] at q4
          have HR : Hid (T.alike U = (T.rt.l.drop 1).all U.okAt) := Lib.hid (by
            unfold FT.alike
            have a1 : T.depth = U.depth := e1
            have a2 : T.tip = U.tip := e2
            have a3 : T.bl.length = U.bl.length := by omega
            rw [decide_eq_true a1, decide_eq_true a2, decide_eq_true a3, decide_eq_true e4]; rfl)
          have HE := Lib.hid (And.intro e3 hlT)
          clear e1 e2 e3 e4 hlT hlU
          go_enter Try.func31, Try.ntmps31
          go_wp2_with fail
          rw [← hw0]
          refine wp_region_noPanic ?_
          refine Bz.wp_region_E (S := (fun w' => Keep [] w0 w')) (E := []) (by kernel_rfl) (by exact (Keep.refl _ _).drew) (fun hHeld => ?_)
          refine Bz.wpAnyE_take (i := 0) (oi := { dst := some 7, op := Go.Op.fieldAddr 42 (Go.Operand.tmp 2) 0, type := 0, pos := "ref.go:113", after := #[], guard := none }) (v := ?_) rfl (by kernel_rfl) (by kernel_rfl) (by kernel_rfl) (by kernel_rfl) (fun _ _ _ h => h) (Or.inl ⟨by rfl, ?_⟩) hHeld ?_
          rotate_left 1
          · (intro w hSw; have f0 := F0 w hSw; have f1 := F1 w hSw; have f2 := F2 w hSw; have f3 := F3 w hSw; go_simp; first | done | with_reducible rfl)
          try simp only [Act.put, List.setIfInBounds_toArray, List.set_cons_zero, List.set_cons_succ]
          refine Bz.wpAnyE_take (i := 1) (oi := { dst := some 8, op := Go.Op.load 3 (Go.Operand.tmp 7), type := 3, pos := "ref.go:113", after := #[{ on := 0, ground := Go.Ground.data }], guard := none }) (v := ?_) rfl (by kernel_rfl) (by kernel_rfl) (by kernel_rfl) (by kernel_rfl) (fun _ _ _ h => h) (Or.inl ⟨by rfl, ?_⟩) hHeld ?_
          rotate_left 1
          · (intro w hSw; have f0 := F0 w hSw; have f1 := F1 w hSw; have f2 := F2 w hSw; have f3 := F3 w hSw; go_simp; first | done | with_reducible rfl)
          try simp only [Act.put, List.setIfInBounds_toArray, List.set_cons_zero, List.set_cons_succ]
          refine Bz.wpAnyE_take (i := 2) (oi := { dst := some 9, op := Go.Op.fieldAddr 42 (Go.Operand.tmp 3) 0, type := 0, pos := "ref.go:113", after := #[], guard := none }) (v := ?_) rfl (by kernel_rfl) (by kernel_rfl) (by kernel_rfl) (by kernel_rfl) (fun _ _ _ h => h) (Or.inl ⟨by rfl, ?_⟩) hHeld ?_
          rotate_left 1
          · (intro w hSw; have f0 := F0 w hSw; have f1 := F1 w hSw; have f2 := F2 w hSw; have f3 := F3 w hSw; go_simp; first | done | with_reducible rfl)
          try simp only [Act.put, List.setIfInBounds_toArray, List.set_cons_zero, List.set_cons_succ]
          refine Bz.wpAnyE_take (i := 3) (oi := { dst := some 10, op := Go.Op.load 3 (Go.Operand.tmp 9), type := 3, pos := "ref.go:113", after := #[{ on := 2, ground := Go.Ground.data }], guard := none }) (v := ?_) rfl (by kernel_rfl) (by kernel_rfl) (by kernel_rfl) (by kernel_rfl) (fun _ _ _ h => h) (Or.inl ⟨by rfl, ?_⟩) hHeld ?_
          rotate_left 1
          · (intro w hSw; have f0 := F0 w hSw; have f1 := F1 w hSw; have f2 := F2 w hSw; have f3 := F3 w hSw; go_simp; first | done | with_reducible rfl)
          try simp only [Act.put, List.setIfInBounds_toArray, List.set_cons_zero, List.set_cons_succ]
          refine Bz.wpAnyE_take (i := 4) (oi := { dst := some 11, op := Go.Op.binOp Go.BinOp.neq 3 (Go.Operand.tmp 8) (Go.Operand.tmp 10) 3, type := 4, pos := "ref.go:113", after := #[{ on := 1, ground := Go.Ground.data }, { on := 3, ground := Go.Ground.data }], guard := none }) (v := ?_) rfl (by kernel_rfl) (by kernel_rfl) (by kernel_rfl) (by kernel_rfl) (fun _ _ _ h => h) (Or.inl ⟨by rfl, ?_⟩) hHeld ?_
          rotate_left 1
          · (intro w hSw; have f0 := F0 w hSw; have f1 := F1 w hSw; have f2 := F2 w hSw; have f3 := F3 w hSw; go_simp; first | done | with_reducible rfl)
          try simp only [Act.put, List.setIfInBounds_toArray, List.set_cons_zero, List.set_cons_succ]
          refine Bz.wpAnyE_take (i := 5) (oi := { dst := some 12, op := Go.Op.move (Go.Operand.tmp 11), type := 4, pos := "ref.go:113", after := #[{ on := 4, ground := Go.Ground.data }], guard := none }) (v := ?_) rfl (by kernel_rfl) (by kernel_rfl) (by kernel_rfl) (by kernel_rfl) (fun _ _ _ h => h) (Or.inl ⟨by rfl, ?_⟩) hHeld ?_
          rotate_left 1
          · (intro w hSw; have f0 := F0 w hSw; have f1 := F1 w hSw; have f2 := F2 w hSw; have f3 := F3 w hSw; go_simp; first | done | with_reducible rfl)
          try simp only [Act.put, List.setIfInBounds_toArray, List.set_cons_zero, List.set_cons_succ]
          refine Bz.wpAnyE_take (i := 6) (oi := { dst := some 13, op := Go.Op.fieldAddr 42 (Go.Operand.tmp 2) 2, type := 0, pos := "ref.go:113", after := #[{ on := 5, ground := Go.Ground.guard }], guard := some (5, false) }) (v := ?_) rfl (by kernel_rfl) (by kernel_rfl) (by kernel_rfl) (by kernel_rfl) (fun _ _ _ h => h) (Or.inl ⟨by rfl, ?_⟩) hHeld ?_
          rotate_left 1
          · (intro w hSw; have f0 := F0 w hSw; have f1 := F1 w hSw; have f2 := F2 w hSw; have f3 := F3 w hSw; go_simp; first | done | with_reducible rfl)
          try simp only [Act.put, List.setIfInBounds_toArray, List.set_cons_zero, List.set_cons_succ]
          refine Bz.wpAnyE_take (i := 7) (oi := { dst := some 14, op := Go.Op.load 28 (Go.Operand.tmp 13), type := 28, pos := "ref.go:113", after := #[{ on := 6, ground := Go.Ground.data }, { on := 5, ground := Go.Ground.guard }], guard := some (5, false) }) (v := ?_) rfl (by kernel_rfl) (by kernel_rfl) (by kernel_rfl) (by kernel_rfl) (fun _ _ _ h => h) (Or.inl ⟨by rfl, ?_⟩) hHeld ?_
          rotate_left 1
          · (intro w hSw; have f0 := F0 w hSw; have f1 := F1 w hSw; have f2 := F2 w hSw; have f3 := F3 w hSw; go_simp; first | done | with_reducible rfl)
          try simp only [Act.put, List.setIfInBounds_toArray, List.set_cons_zero, List.set_cons_succ]
          refine Bz.wpAnyE_take (i := 8) (oi := { dst := some 15, op := Go.Op.fieldAddr 42 (Go.Operand.tmp 3) 2, type := 0, pos := "ref.go:113", after := #[{ on := 5, ground := Go.Ground.guard }], guard := some (5, false) }) (v := ?_) rfl (by kernel_rfl) (by kernel_rfl) (by kernel_rfl) (by kernel_rfl) (fun _ _ _ h => h) (Or.inl ⟨by rfl, ?_⟩) hHeld ?_
          rotate_left 1
          · (intro w hSw; have f0 := F0 w hSw; have f1 := F1 w hSw; have f2 := F2 w hSw; have f3 := F3 w hSw; go_simp; first | done | with_reducible rfl)
          try simp only [Act.put, List.setIfInBounds_toArray, List.set_cons_zero, List.set_cons_succ]
          refine Bz.wpAnyE_take (i := 9) (oi := { dst := some 16, op := Go.Op.load 28 (Go.Operand.tmp 15), type := 28, pos := "ref.go:113", after := #[{ on := 8, ground := Go.Ground.data }, { on := 5, ground := Go.Ground.guard }], guard := some (5, false) }) (v := ?_) rfl (by kernel_rfl) (by kernel_rfl) (by kernel_rfl) (by kernel_rfl) (fun _ _ _ h => h) (Or.inl ⟨by rfl, ?_⟩) hHeld ?_
          rotate_left 1
          · (intro w hSw; have f0 := F0 w hSw; have f1 := F1 w hSw; have f2 := F2 w hSw; have f3 := F3 w hSw; go_simp; first | done | with_reducible rfl)
          try simp only [Act.put, List.setIfInBounds_toArray, List.set_cons_zero, List.set_cons_succ]
          refine Bz.wpAnyE_take (i := 10) (oi := { dst := some 17, op := Go.Op.binOp Go.BinOp.neq 28 (Go.Operand.tmp 14) (Go.Operand.tmp 16) 28, type := 4, pos := "ref.go:113", after := #[{ on := 7, ground := Go.Ground.data }, { on := 9, ground := Go.Ground.data }, { on := 5, ground := Go.Ground.guard }], guard := some (5, false) }) (v := ?_) rfl (by kernel_rfl) (by kernel_rfl) (by kernel_rfl) (by kernel_rfl) (fun _ _ _ h => h) (Or.inl ⟨by rfl, ?_⟩) hHeld ?_
          rotate_left 1
          · (intro w hSw; have f0 := F0 w hSw; have f1 := F1 w hSw; have f2 := F2 w hSw; have f3 := F3 w hSw; go_simp; first | done | with_reducible rfl)
          try simp only [Act.put, List.setIfInBounds_toArray, List.set_cons_zero, List.set_cons_succ]
          refine Bz.wpAnyE_take (i := 11) (oi := { dst := some 18, op := Go.Op.pick (Go.Operand.tmp 12) (Go.Operand.const (Go.Value.bool true)) (Go.Operand.tmp 17), type := 4, pos := "ref.go:113", after := #[{ on := 5, ground := Go.Ground.data }, { on := 10, ground := Go.Ground.data }], guard := none }) (v := ?_) rfl (by kernel_rfl) (by kernel_rfl) (by kernel_rfl) (by kernel_rfl) (fun _ _ _ h => h) (Or.inl ⟨by rfl, ?_⟩) hHeld ?_
          rotate_left 1
          · (intro w hSw; have f0 := F0 w hSw; have f1 := F1 w hSw; have f2 := F2 w hSw; have f3 := F3 w hSw; go_simp; first | done | with_reducible rfl)
          try simp only [Act.put, List.setIfInBounds_toArray, List.set_cons_zero, List.set_cons_succ]
          refine Bz.wpAnyE_take (i := 12) (oi := { dst := some 19, op := Go.Op.move (Go.Operand.tmp 18), type := 4, pos := "ref.go:113", after := #[{ on := 11, ground := Go.Ground.data }, { on := 5, ground := Go.Ground.chain }], guard := none }) (v := ?_) rfl (by kernel_rfl) (by kernel_rfl) (by kernel_rfl) (by kernel_rfl) (fun _ _ _ h => h) (Or.inl ⟨by rfl, ?_⟩) hHeld ?_
          rotate_left 1
          · (intro w hSw; have f0 := F0 w hSw; have f1 := F1 w hSw; have f2 := F2 w hSw; have f3 := F3 w hSw; go_simp; first | done | with_reducible rfl)
          try simp only [Act.put, List.setIfInBounds_toArray, List.set_cons_zero, List.set_cons_succ]
          refine Bz.wpAnyE_take (i := 13) (oi := { dst := some 20, op := Go.Op.fieldAddr 42 (Go.Operand.tmp 2) 1, type := 0, pos := "ref.go:113", after := #[{ on := 12, ground := Go.Ground.guard }], guard := some (12, false) }) (v := ?_) rfl (by kernel_rfl) (by kernel_rfl) (by kernel_rfl) (by kernel_rfl) (fun _ _ _ h => h) (Or.inl ⟨by rfl, ?_⟩) hHeld ?_
          rotate_left 1
          · (intro w hSw; have f0 := F0 w hSw; have f1 := F1 w hSw; have f2 := F2 w hSw; have f3 := F3 w hSw; go_simp; first | done | with_reducible rfl)
          try simp only [Act.put, List.setIfInBounds_toArray, List.set_cons_zero, List.set_cons_succ]
          refine Bz.wpAnyE_take (i := 14) (oi := { dst := some 21, op := Go.Op.load 40 (Go.Operand.tmp 20), type := 40, pos := "ref.go:113", after := #[{ on := 13, ground := Go.Ground.data }, { on := 12, ground := Go.Ground.guard }], guard := some (12, false) }) (v := ?_) rfl (by kernel_rfl) (by kernel_rfl) (by kernel_rfl) (by kernel_rfl) (fun _ _ _ h => h) (Or.inl ⟨by rfl, ?_⟩) hHeld ?_
          rotate_left 1
          · (intro w hSw; have f0 := F0 w hSw; have f1 := F1 w hSw; have f2 := F2 w hSw; have f3 := F3 w hSw; go_simp; first | done | with_reducible rfl)
          try simp only [Act.put, List.setIfInBounds_toArray, List.set_cons_zero, List.set_cons_succ]
          refine Bz.wpAnyE_take (i := 15) (oi := { dst := some 22, op := Go.Op.call { callee := Go.Callee.builtin Go.Builtin.len, args := #[Go.Operand.tmp 21], argTypes := #[40] }, type := 3, pos := "ref.go:113", after := #[{ on := 14, ground := Go.Ground.data }, { on := 12, ground := Go.Ground.guard }], guard := some (12, false) }) (v := ?_) rfl (by kernel_rfl) (by kernel_rfl) (by kernel_rfl) (by kernel_rfl) (fun _ _ _ h => h) (Or.inl ⟨by rfl, ?_⟩) hHeld ?_
          rotate_left 1
          · (intro w hSw; have f0 := F0 w hSw; have f1 := F1 w hSw; have f2 := F2 w hSw; have f3 := F3 w hSw; go_simp; first | done | with_reducible rfl)
          try simp only [Act.put, List.setIfInBounds_toArray, List.set_cons_zero, List.set_cons_succ]
          refine Bz.wpAnyE_take (i := 16) (oi := { dst := some 23, op := Go.Op.fieldAddr 42 (Go.Operand.tmp 3) 1, type := 0, pos := "ref.go:113", after := #[{ on := 12, ground := Go.Ground.guard }], guard := some (12, false) }) (v := ?_) rfl (by kernel_rfl) (by kernel_rfl) (by kernel_rfl) (by kernel_rfl) (fun _ _ _ h => h) (Or.inl ⟨by rfl, ?_⟩) hHeld ?_
          rotate_left 1
          · (intro w hSw; have f0 := F0 w hSw; have f1 := F1 w hSw; have f2 := F2 w hSw; have f3 := F3 w hSw; go_simp; first | done | with_reducible rfl)
          try simp only [Act.put, List.setIfInBounds_toArray, List.set_cons_zero, List.set_cons_succ]
          refine Bz.wpAnyE_take (i := 17) (oi := { dst := some 24, op := Go.Op.load 40 (Go.Operand.tmp 23), type := 40, pos := "ref.go:113", after := #[{ on := 16, ground := Go.Ground.data }, { on := 12, ground := Go.Ground.guard }], guard := some (12, false) }) (v := ?_) rfl (by kernel_rfl) (by kernel_rfl) (by kernel_rfl) (by kernel_rfl) (fun _ _ _ h => h) (Or.inl ⟨by rfl, ?_⟩) hHeld ?_
          rotate_left 1
          · (intro w hSw; have f0 := F0 w hSw; have f1 := F1 w hSw; have f2 := F2 w hSw; have f3 := F3 w hSw; go_simp; first | done | with_reducible rfl)
          try simp only [Act.put, List.setIfInBounds_toArray, List.set_cons_zero, List.set_cons_succ]
          refine Bz.wpAnyE_take (i := 18) (oi := { dst := some 25, op := Go.Op.call { callee := Go.Callee.builtin Go.Builtin.len, args := #[Go.Operand.tmp 24], argTypes := #[40] }, type := 3, pos := "ref.go:113", after := #[{ on := 17, ground := Go.Ground.data }, { on := 12, ground := Go.Ground.guard }], guard := some (12, false) }) (v := ?_) rfl (by kernel_rfl) (by kernel_rfl) (by kernel_rfl) (by kernel_rfl) (fun _ _ _ h => h) (Or.inl ⟨by rfl, ?_⟩) hHeld ?_
          rotate_left 1
          · (intro w hSw; have f0 := F0 w hSw; have f1 := F1 w hSw; have f2 := F2 w hSw; have f3 := F3 w hSw; go_simp; first | done | with_reducible rfl)
          try simp only [Act.put, List.setIfInBounds_toArray, List.set_cons_zero, List.set_cons_succ]
          refine Bz.wpAnyE_take (i := 19) (oi := { dst := some 26, op := Go.Op.binOp Go.BinOp.neq 3 (Go.Operand.tmp 22) (Go.Operand.tmp 25) 3, type := 4, pos := "ref.go:113", after := #[{ on := 15, ground := Go.Ground.data }, { on := 18, ground := Go.Ground.data }, { on := 12, ground := Go.Ground.guard }], guard := some (12, false) }) (v := ?_) rfl (by kernel_rfl) (by kernel_rfl) (by kernel_rfl) (by kernel_rfl) (fun _ _ _ h => h) (Or.inl ⟨by rfl, ?_⟩) hHeld ?_
          rotate_left 1
          · (intro w hSw; have f0 := F0 w hSw; have f1 := F1 w hSw; have f2 := F2 w hSw; have f3 := F3 w hSw; go_simp; first | done | with_reducible rfl)
          try simp only [Act.put, List.setIfInBounds_toArray, List.set_cons_zero, List.set_cons_succ]
          refine Bz.wpAnyE_take (i := 20) (oi := { dst := some 27, op := Go.Op.pick (Go.Operand.tmp 19) (Go.Operand.const (Go.Value.bool true)) (Go.Operand.tmp 26), type := 4, pos := "ref.go:113", after := #[{ on := 12, ground := Go.Ground.data }, { on := 19, ground := Go.Ground.data }], guard := none }) (v := ?_) rfl (by kernel_rfl) (by kernel_rfl) (by kernel_rfl) (by kernel_rfl) (fun _ _ _ h => h) (Or.inl ⟨by rfl, ?_⟩) hHeld ?_
          rotate_left 1
          · (intro w hSw; have f0 := F0 w hSw; have f1 := F1 w hSw; have f2 := F2 w hSw; have f3 := F3 w hSw; go_simp; first | done | with_reducible rfl)
          try simp only [Act.put, List.setIfInBounds_toArray, List.set_cons_zero, List.set_cons_succ]
          refine Bz.wpAnyE_take (i := 21) (oi := { dst := some 28, op := Go.Op.move (Go.Operand.tmp 27), type := 4, pos := "ref.go:113", after := #[{ on := 20, ground := Go.Ground.data }, { on := 12, ground := Go.Ground.chain }], guard := none }) (v := ?_) rfl (by kernel_rfl) (by kernel_rfl) (by kernel_rfl) (by kernel_rfl) (fun _ _ _ h => h) (Or.inl ⟨by rfl, ?_⟩) hHeld ?_
          rotate_left 1
          · (intro w hSw; have f0 := F0 w hSw; have f1 := F1 w hSw; have f2 := F2 w hSw; have f3 := F3 w hSw; go_simp; first | done | with_reducible rfl)
          try simp only [Act.put, List.setIfInBounds_toArray, List.set_cons_zero, List.set_cons_succ]
          refine Bz.wpAnyE_take (i := 22) (oi := { dst := some 29, op := Go.Op.fieldAddr 42 (Go.Operand.tmp 2) 1, type := 0, pos := "ref.go:113", after := #[{ on := 21, ground := Go.Ground.guard }], guard := some (21, false) }) (v := ?_) rfl (by kernel_rfl) (by kernel_rfl) (by kernel_rfl) (by kernel_rfl) (fun _ _ _ h => h) (Or.inl ⟨by rfl, ?_⟩) hHeld ?_
          rotate_left 1
          · (intro w hSw; have f0 := F0 w hSw; have f1 := F1 w hSw; have f2 := F2 w hSw; have f3 := F3 w hSw; go_simp; first | done | with_reducible rfl)
          try simp only [Act.put, List.setIfInBounds_toArray, List.set_cons_zero, List.set_cons_succ]
          refine Bz.wpAnyE_take (i := 23) (oi := { dst := some 30, op := Go.Op.load 40 (Go.Operand.tmp 29), type := 40, pos := "ref.go:113", after := #[{ on := 22, ground := Go.Ground.data }, { on := 21, ground := Go.Ground.guard }], guard := some (21, false) }) (v := ?_) rfl (by kernel_rfl) (by kernel_rfl) (by kernel_rfl) (by kernel_rfl) (fun _ _ _ h => h) (Or.inl ⟨by rfl, ?_⟩) hHeld ?_
          rotate_left 1
          · (intro w hSw; have f0 := F0 w hSw; have f1 := F1 w hSw; have f2 := F2 w hSw; have f3 := F3 w hSw; go_simp; first | done | with_reducible rfl)
          try simp only [Act.put, List.setIfInBounds_toArray, List.set_cons_zero, List.set_cons_succ]
          refine Bz.wpAnyE_take (i := 24) (oi := { dst := some 31, op := Go.Op.indexAddr 40 (Go.Operand.tmp 30) (Go.Operand.const (Go.Value.int Go.IntKind.i64 0)), type := 0, pos := "ref.go:113", after := #[{ on := 23, ground := Go.Ground.data }, { on := 21, ground := Go.Ground.guard }], guard := some (21, false) }) (v := ?_) rfl (by kernel_rfl) (by kernel_rfl) (by kernel_rfl) (by kernel_rfl) (fun _ _ _ h => h) (Or.inl ⟨by rfl, ?_⟩) hHeld ?_
          rotate_left 1
          · (intro w hSw; have f0 := F0 w hSw; have f1 := F1 w hSw; have f2 := F2 w hSw; have f3 := F3 w hSw; go_simp; first | done | with_reducible rfl)
          try simp only [Act.put, List.setIfInBounds_toArray, List.set_cons_zero, List.set_cons_succ]
          refine Bz.wpAnyE_take (i := 25) (oi := { dst := some 32, op := Go.Op.fieldAddr 57 (Go.Operand.tmp 31) 0, type := 0, pos := "ref.go:113", after := #[{ on := 24, ground := Go.Ground.data }, { on := 21, ground := Go.Ground.guard }], guard := some (21, false) }) (v := ?_) rfl (by kernel_rfl) (by kernel_rfl) (by kernel_rfl) (by kernel_rfl) (fun _ _ _ h => h) (Or.inl ⟨by rfl, ?_⟩) hHeld ?_
          rotate_left 1
          · (intro w hSw; have f0 := F0 w hSw; have f1 := F1 w hSw; have f2 := F2 w hSw; have f3 := F3 w hSw; go_simp; first | done | with_reducible rfl)
          try simp only [Act.put, List.setIfInBounds_toArray, List.set_cons_zero, List.set_cons_succ]
          refine Bz.wpAnyE_take (i := 26) (oi := { dst := some 33, op := Go.Op.load 28 (Go.Operand.tmp 32), type := 28, pos := "ref.go:113", after := #[{ on := 25, ground := Go.Ground.data }, { on := 21, ground := Go.Ground.guard }], guard := some (21, false) }) (v := ?_) rfl (by kernel_rfl) (by kernel_rfl) (by kernel_rfl) (by kernel_rfl) (fun _ _ _ h => h) (Or.inl ⟨by rfl, ?_⟩) hHeld ?_
          rotate_left 1
          · (intro w hSw; have f0 := F0 w hSw; have f1 := F1 w hSw; have f2 := F2 w hSw; have f3 := F3 w hSw; go_simp; first | done | with_reducible rfl)
          try simp only [Act.put, List.setIfInBounds_toArray, List.set_cons_zero, List.set_cons_succ]
          refine Bz.wpAnyE_take (i := 27) (oi := { dst := some 34, op := Go.Op.fieldAddr 42 (Go.Operand.tmp 3) 1, type := 0, pos := "ref.go:113", after := #[{ on := 21, ground := Go.Ground.guard }], guard := some (21, false) }) (v := ?_) rfl (by kernel_rfl) (by kernel_rfl) (by kernel_rfl) (by kernel_rfl) (fun _ _ _ h => h) (Or.inl ⟨by rfl, ?_⟩) hHeld ?_
          rotate_left 1
          · (intro w hSw; have f0 := F0 w hSw; have f1 := F1 w hSw; have f2 := F2 w hSw; have f3 := F3 w hSw; go_simp; first | done | with_reducible rfl)
          try simp only [Act.put, List.setIfInBounds_toArray, List.set_cons_zero, List.set_cons_succ]
          refine Bz.wpAnyE_take (i := 28) (oi := { dst := some 35, op := Go.Op.load 40 (Go.Operand.tmp 34), type := 40, pos := "ref.go:113", after := #[{ on := 27, ground := Go.Ground.data }, { on := 21, ground := Go.Ground.guard }], guard := some (21, false) }) (v := ?_) rfl (by kernel_rfl) (by kernel_rfl) (by kernel_rfl) (by kernel_rfl) (fun _ _ _ h => h) (Or.inl ⟨by rfl, ?_⟩) hHeld ?_
          rotate_left 1
          · (intro w hSw; have f0 := F0 w hSw; have f1 := F1 w hSw; have f2 := F2 w hSw; have f3 := F3 w hSw; go_simp; first | done | with_reducible rfl)
          try simp only [Act.put, List.setIfInBounds_toArray, List.set_cons_zero, List.set_cons_succ]
          refine Bz.wpAnyE_take (i := 29) (oi := { dst := some 36, op := Go.Op.indexAddr 40 (Go.Operand.tmp 35) (Go.Operand.const (Go.Value.int Go.IntKind.i64 0)), type := 0, pos := "ref.go:113", after := #[{ on := 28, ground := Go.Ground.data }, { on := 21, ground := Go.Ground.guard }], guard := some (21, false) }) (v := ?_) rfl (by kernel_rfl) (by kernel_rfl) (by kernel_rfl) (by kernel_rfl) (fun _ _ _ h => h) (Or.inl ⟨by rfl, ?_⟩) hHeld ?_
          rotate_left 1
          · (intro w hSw; have f0 := F0 w hSw; have f1 := F1 w hSw; have f2 := F2 w hSw; have f3 := F3 w hSw; go_simp; first | done | with_reducible rfl)
          try simp only [Act.put, List.setIfInBounds_toArray, List.set_cons_zero, List.set_cons_succ]
          refine Bz.wpAnyE_take (i := 30) (oi := { dst := some 37, op := Go.Op.fieldAddr 57 (Go.Operand.tmp 36) 0, type := 0, pos := "ref.go:113", after := #[{ on := 29, ground := Go.Ground.data }, { on := 21, ground := Go.Ground.guard }], guard := some (21, false) }) (v := ?_) rfl (by kernel_rfl) (by kernel_rfl) (by kernel_rfl) (by kernel_rfl) (fun _ _ _ h => h) (Or.inl ⟨by rfl, ?_⟩) hHeld ?_
          rotate_left 1
          · (intro w hSw; have f0 := F0 w hSw; have f1 := F1 w hSw; have f2 := F2 w hSw; have f3 := F3 w hSw; go_simp; first | done | with_reducible rfl)
          try simp only [Act.put, List.setIfInBounds_toArray, List.set_cons_zero, List.set_cons_succ]
          refine Bz.wpAnyE_take (i := 31) (oi := { dst := some 38, op := Go.Op.load 28 (Go.Operand.tmp 37), type := 28, pos := "ref.go:113", after := #[{ on := 30, ground := Go.Ground.data }, { on := 21, ground := Go.Ground.guard }], guard := some (21, false) }) (v := ?_) rfl (by kernel_rfl) (by kernel_rfl) (by kernel_rfl) (by kernel_rfl) (fun _ _ _ h => h) (Or.inl ⟨by rfl, ?_⟩) hHeld ?_
          rotate_left 1
          · (intro w hSw; have f0 := F0 w hSw; have f1 := F1 w hSw; have f2 := F2 w hSw; have f3 := F3 w hSw; go_simp; first | done | with_reducible rfl)
          try simp only [Act.put, List.setIfInBounds_toArray, List.set_cons_zero, List.set_cons_succ]
          refine Bz.wpAnyE_take (i := 32) (oi := { dst := some 39, op := Go.Op.binOp Go.BinOp.neq 28 (Go.Operand.tmp 33) (Go.Operand.tmp 38) 28, type := 4, pos := "ref.go:113", after := #[{ on := 26, ground := Go.Ground.data }, { on := 31, ground := Go.Ground.data }, { on := 21, ground := Go.Ground.guard }], guard := some (21, false) }) (v := ?_) rfl (by kernel_rfl) (by kernel_rfl) (by kernel_rfl) (by kernel_rfl) (fun _ _ _ h => h) (Or.inl ⟨by rfl, ?_⟩) hHeld ?_
          rotate_left 1
          · (intro w hSw; have f0 := F0 w hSw; have f1 := F1 w hSw; have f2 := F2 w hSw; have f3 := F3 w hSw; go_simp; first | done | with_reducible rfl)
          try simp only [Act.put, List.setIfInBounds_toArray, List.set_cons_zero, List.set_cons_succ]
          refine Bz.wpAnyE_take (i := 33) (oi := { dst := some 40, op := Go.Op.pick (Go.Operand.tmp 28) (Go.Operand.const (Go.Value.bool true)) (Go.Operand.tmp 39), type := 4, pos := "ref.go:113", after := #[{ on := 21, ground := Go.Ground.data }, { on := 32, ground := Go.Ground.data }], guard := none }) (v := ?_) rfl (by kernel_rfl) (by kernel_rfl) (by kernel_rfl) (by kernel_rfl) (fun _ _ _ h => h) (Or.inl ⟨by rfl, ?_⟩) hHeld ?_
          rotate_left 1
          · (intro w hSw; have f0 := F0 w hSw; have f1 := F1 w hSw; have f2 := F2 w hSw; have f3 := F3 w hSw; go_simp; first | done | with_reducible rfl)
          try simp only [Act.put, List.setIfInBounds_toArray, List.set_cons_zero, List.set_cons_succ]
          refine Bz.wpAnyE_done (by kernel_rfl) ?_ _
          refine NoPanic.normal ?_
          
          clear hHeld
          go_wp2_with fail
          go_loopg [5] (T.rt.l.length - 1) (fun m i wr => ∃ k : Nat, i = .int .i64 k ∧ m + k = T.rt.l.length ∧ 1 ≤ k ∧ Hid ((T.rt.l.drop 1).all U.okAt = (T.rt.l.drop k).all U.okAt) ∧ Keep [] w0 wr)
          case atStart => exact ⟨1, rfl, by omega, by omega, Lib.hid rfl, (Keep.refl _ _).drew⟩
          case round =>
            obtain ⟨k, rfl, hk, hk1, HA, hK'⟩ := hrel
            have f0 := F0 _ hK'
            by_cases hlt : k < T.rt.l.length
            · obtain ⟨p, hp⟩ : ∃ p, T.rt.l[k]? = some p := ⟨_, List.getElem?_eq_getElem hlt⟩
              have hdk : T.rt.l.drop k = p :: T.rt.l.drop (k + 1) := by
                rw [← List.getElem_cons_drop hlt, (List.getElem?_eq_some_iff.1 hp).2]
              have HD : Hid ((T.rt.l.drop k).all U.okAt = (U.okAt p && (T.rt.l.drop (k + 1)).all U.okAt)) := Lib.hid (by rw [hdk]; rfl)
              have F4 : ∀ W, Keep [] wr W → At8 W g (o + k * 16) p.1 ∧ At8 W g (o + k * 16 + 8) p.2 := fun W hk => (hsl.keep (hKw.trans (hK'.trans hk)) (by simp)).at16 hp
              unfold At8 at F4
              have G0 := fun W (hk : Keep [] wr W) => F0 W (hK'.trans hk)
              have G1 := fun W (hk : Keep [] wr W) => F1 W (hK'.trans hk)
              have hfo := h'.find_ok hh' p
              have HK := Lib.hid hk
              clear hdk hk
              go_wp2_with fail
              obtain ⟨n, HN⟩ : ∃ n : Int, Hid (n = findIn p.1 U.rt.l) := ⟨_, Lib.hid rfl⟩
              refine wp_region_noPanic ?_
              refine Bz.wp_region_E (S := (fun w' => Keep [] wr w')) (E := []) (by kernel_rfl) (by exact (Keep.refl _ _).drew) (fun hHeld => ?_)
              refine Bz.wpAnyE_take (i := 0) (oi := { dst := some 48, op := Go.Op.load 42 (Go.Operand.tmp 3), type := 42, pos := "ref.go:117", after := #[], guard := none }) (v := ?_) rfl (by kernel_rfl) (by kernel_rfl) (by kernel_rfl) (by kernel_rfl) (fun _ _ _ h => h) (Or.inl ⟨by rfl, ?_⟩) hHeld ?_
              rotate_left 1
              · (intro w hSw; have f0 := G0 w hSw; have f1 := G1 w hSw; have f4 := (F4 w hSw).1; go_simp; first | done | with_reducible rfl)
              try simp only [Act.put, List.setIfInBounds_toArray, List.set_cons_zero, List.set_cons_succ]
              refine Bz.wpAnyE_take (i := 1) (oi := { dst := some 49, op := Go.Op.fieldAddr 42 (Go.Operand.tmp 2) 1, type := 0, pos := "ref.go:117", after := #[], guard := none }) (v := ?_) rfl (by kernel_rfl) (by kernel_rfl) (by kernel_rfl) (by kernel_rfl) (fun _ _ _ h => h) (Or.inl ⟨by rfl, ?_⟩) hHeld ?_
              rotate_left 1
              · (intro w hSw; have f0 := G0 w hSw; have f1 := G1 w hSw; have f4 := (F4 w hSw).1; go_simp; first | done | with_reducible rfl)
              try simp only [Act.put, List.setIfInBounds_toArray, List.set_cons_zero, List.set_cons_succ]
              refine Bz.wpAnyE_take (i := 2) (oi := { dst := some 50, op := Go.Op.load 40 (Go.Operand.tmp 49), type := 40, pos := "ref.go:117", after := #[{ on := 1, ground := Go.Ground.data }], guard := none }) (v := ?_) rfl (by kernel_rfl) (by kernel_rfl) (by kernel_rfl) (by kernel_rfl) (fun _ _ _ h => h) (Or.inl ⟨by rfl, ?_⟩) hHeld ?_
              rotate_left 1
              · (intro w hSw; have f0 := G0 w hSw; have f1 := G1 w hSw; have f4 := (F4 w hSw).1; go_simp; first | done | with_reducible rfl)
              try simp only [Act.put, List.setIfInBounds_toArray, List.set_cons_zero, List.set_cons_succ]
              refine Bz.wpAnyE_take (i := 3) (oi := { dst := some 51, op := Go.Op.move (Go.Operand.tmp 5), type := 3, pos := "ref.go:117", after := #[], guard := none }) (v := ?_) rfl (by kernel_rfl) (by kernel_rfl) (by kernel_rfl) (by kernel_rfl) (fun _ _ _ h => h) (Or.inl ⟨by rfl, ?_⟩) hHeld ?_
              rotate_left 1
              · (intro w hSw; have f0 := G0 w hSw; have f1 := G1 w hSw; have f4 := (F4 w hSw).1; go_simp; first | done | with_reducible rfl)
              try simp only [Act.put, List.setIfInBounds_toArray, List.set_cons_zero, List.set_cons_succ]
              refine Bz.wpAnyE_take (i := 4) (oi := { dst := some 52, op := Go.Op.indexAddr 40 (Go.Operand.tmp 50) (Go.Operand.tmp 51), type := 0, pos := "ref.go:117", after := #[{ on := 2, ground := Go.Ground.data }, { on := 3, ground := Go.Ground.data }], guard := none }) (v := ?_) rfl (by kernel_rfl) (by kernel_rfl) (by kernel_rfl) (by kernel_rfl) (fun _ _ _ h => h) (Or.inl ⟨by rfl, ?_⟩) hHeld ?_
              rotate_left 1
              · (intro w hSw; have f0 := G0 w hSw; have f1 := G1 w hSw; have f4 := (F4 w hSw).1; go_simp; first | done | with_reducible rfl)
              try simp only [Act.put, List.setIfInBounds_toArray, List.set_cons_zero, List.set_cons_succ]
              refine Bz.wpAnyE_take (i := 5) (oi := { dst := some 53, op := Go.Op.fieldAddr 57 (Go.Operand.tmp 52) 0, type := 0, pos := "ref.go:117", after := #[{ on := 4, ground := Go.Ground.data }], guard := none }) (v := ?_) rfl (by kernel_rfl) (by kernel_rfl) (by kernel_rfl) (by kernel_rfl) (fun _ _ _ h => h) (Or.inl ⟨by rfl, ?_⟩) hHeld ?_
              rotate_left 1
              · (intro w hSw; have f0 := G0 w hSw; have f1 := G1 w hSw; have f4 := (F4 w hSw).1; go_simp; first | done | with_reducible rfl)
              try simp only [Act.put, List.setIfInBounds_toArray, List.set_cons_zero, List.set_cons_succ]
              refine Bz.wpAnyE_take (i := 6) (oi := { dst := some 54, op := Go.Op.load 28 (Go.Operand.tmp 53), type := 28, pos := "ref.go:117", after := #[{ on := 5, ground := Go.Ground.data }], guard := none }) (v := ?_) rfl (by kernel_rfl) (by kernel_rfl) (by kernel_rfl) (by kernel_rfl) (fun _ _ _ h => h) (Or.inl ⟨by rfl, ?_⟩) hHeld ?_
              rotate_left 1
              · (intro w hSw; have f0 := G0 w hSw; have f1 := G1 w hSw; have f4 := (F4 w hSw).1; go_simp; first | done | with_reducible rfl)
              try simp only [Act.put, List.setIfInBounds_toArray, List.set_cons_zero, List.set_cons_succ]
              refine Bz.wpAnyE_ready (rs := [7]) (by kernel_rfl) (by simp) ?_
              refine Bz.AllReadyE.cons (o := { dst := some 55, op := Go.Op.call { callee := Go.Callee.value (Go.Operand.func 24), args := #[Go.Operand.tmp 48, Go.Operand.tmp 54], argTypes := #[42, 28] }, type := 3, pos := "ref.go:117", after := #[{ on := 0, ground := Go.Ground.data }, { on := 6, ground := Go.Ground.data }], guard := none }) rfl (fun K hK => ?_) Bz.AllReadyE.nil
              go_simp
              
              refine (find_any (hs'.keep0 (hKw.trans (hK'.trans hHeld))) p.1 hRl').mono ?_
              rw [← HN.out]
              rintro e w5 ⟨rfl, hk5⟩
              refine hK.out _ _ (by exact hHeld.trans hk5) ?_
              clear hHeld hK K; intro hHeld
              try simp only [Act.put, List.setIfInBounds_toArray, List.set_cons_zero, List.set_cons_succ]
              refine Bz.wpAnyE_take (i := 8) (oi := { dst := some 6, op := Go.Op.assign (Go.Operand.tmp 55), type := 3, pos := "ref.go:117", after := #[{ on := 7, ground := Go.Ground.data }, { on := 7, ground := Go.Ground.chain }, { on := 0, ground := Go.Ground.phase }, { on := 1, ground := Go.Ground.phase }, { on := 2, ground := Go.Ground.phase }, { on := 3, ground := Go.Ground.phase }, { on := 4, ground := Go.Ground.phase }, { on := 5, ground := Go.Ground.phase }, { on := 6, ground := Go.Ground.phase }, { on := 7, ground := Go.Ground.phase }], guard := none }) (v := ?_) rfl (by kernel_rfl) (by kernel_rfl) (by kernel_rfl) (by kernel_rfl) (fun _ _ _ h => h) (Or.inl ⟨by rfl, ?_⟩) hHeld ?_
              rotate_left 1
              · (intro w hSw; have f0 := G0 w hSw; have f1 := G1 w hSw; have f4 := (F4 w hSw).1; go_simp; first | done | with_reducible rfl)
              try simp only [Act.put, List.setIfInBounds_toArray, List.set_cons_zero, List.set_cons_succ]
              refine Bz.wpAnyE_done (by kernel_rfl) ?_ _
              refine NoPanic.normal ?_
              
              obtain ⟨w5', hw5⟩ : ∃ W, W = w5 := ⟨_, rfl⟩
              rw [← hw5]
              have hK5 : Keep [] wr w5' := by rw [hw5]; exact hHeld
              have H0 := fun W (hk : Keep [] w5' W) => G0 W (hK5.trans hk)
              have H1 := fun W (hk : Keep [] w5' W) => G1 W (hK5.trans hk)
              have H4 := fun W (hk : Keep [] w5' W) => (F4 W (hK5.trans hk)).2
              clear hHeld hw5
              rcases hfo with ⟨j, y, hj, hj1, hjy, hok⟩ | ⟨n', hn', hn1', hok⟩
              · have hnj : n = (j : Int) := by rw [HN.out]; exact hj
                subst hnj
                have hjl : j < U.rt.l.length := (List.getElem?_eq_some_iff.1 hjy).1
                have H5 : ∀ W, Keep [] w5' W → At8 W g' (o' + j * 16 + 8) y := fun W hk => ((hsl'.keep (hKw.trans (hK'.trans (hK5.trans hk))) (by simp)).at16 hjy).2
                unfold At8 at H5
                have q5 := fun W => run_eqD8 (P := Try.prog) W dt28 9998 y p.2
                have hj1' : decide ((j : Int) < 1) = false := by simp; omega
                have hj2' : ¬ j = 0 := by omega
                have hj3' : (j : Int) ≠ 0 := by omega
                by_cases hy : y = p.2
                · rw [decide_eq_true hy] at q5 hok
                  have HO := Lib.hid hok
                  clear hok hy hj
                  go_wp2_with fail
                  refine wp_region_noPanic ?_
                  refine Bz.wp_region_E (S := (fun w' => Keep [] w5' w')) (E := []) (by kernel_rfl) (by exact (Keep.refl _ _).drew) (fun hHeld => ?_)
                  refine Bz.wpAnyE_take (i := 0) (oi := { dst := some 56, op := Go.Op.move (Go.Operand.tmp 6), type := 3, pos := "ref.go:118", after := #[], guard := none }) (v := ?_) rfl (by kernel_rfl) (by kernel_rfl) (by kernel_rfl) (by kernel_rfl) (fun _ _ _ h => h) (Or.inl ⟨by rfl, ?_⟩) hHeld ?_
                  rotate_left 1
                  · (intro w hSw; have f0 := H0 w hSw; have f1 := H1 w hSw; have f4 := H4 w hSw; have f5 := H5 w hSw; go_simp; first | done | with_reducible rfl)
                  try simp only [Act.put, List.setIfInBounds_toArray, List.set_cons_zero, List.set_cons_succ]
                  refine Bz.wpAnyE_take (i := 1) (oi := { dst := some 57, op := Go.Op.binOp Go.BinOp.lss 3 (Go.Operand.tmp 56) (Go.Operand.const (Go.Value.int Go.IntKind.i64 1)) 3, type := 4, pos := "ref.go:118", after := #[{ on := 0, ground := Go.Ground.data }], guard := none }) (v := ?_) rfl (by kernel_rfl) (by kernel_rfl) (by kernel_rfl) (by kernel_rfl) (fun _ _ _ h => h) (Or.inl ⟨by rfl, ?_⟩) hHeld ?_
                  rotate_left 1
                  · (intro w hSw; have f0 := H0 w hSw; have f1 := H1 w hSw; have f4 := H4 w hSw; have f5 := H5 w hSw; go_simp; first | done | with_reducible rfl)
                  try simp only [Act.put, List.setIfInBounds_toArray, List.set_cons_zero, List.set_cons_succ]
                  refine Bz.wpAnyE_take (i := 2) (oi := { dst := some 58, op := Go.Op.move (Go.Operand.tmp 57), type := 4, pos := "ref.go:118", after := #[{ on := 1, ground := Go.Ground.data }], guard := none }) (v := ?_) rfl (by kernel_rfl) (by kernel_rfl) (by kernel_rfl) (by kernel_rfl) (fun _ _ _ h => h) (Or.inl ⟨by rfl, ?_⟩) hHeld ?_
                  rotate_left 1
                  · (intro w hSw; have f0 := H0 w hSw; have f1 := H1 w hSw; have f4 := H4 w hSw; have f5 := H5 w hSw; go_simp; first | done | with_reducible rfl)
                  try simp only [Act.put, List.setIfInBounds_toArray, List.set_cons_zero, List.set_cons_succ]
                  refine Bz.wpAnyE_take (i := 3) (oi := { dst := some 59, op := Go.Op.fieldAddr 42 (Go.Operand.tmp 3) 1, type := 0, pos := "ref.go:118", after := #[{ on := 2, ground := Go.Ground.guard }], guard := some (2, false) }) (v := ?_) rfl (by kernel_rfl) (by kernel_rfl) (by kernel_rfl) (by kernel_rfl) (fun _ _ _ h => h) (Or.inl ⟨by rfl, ?_⟩) hHeld ?_
                  rotate_left 1
                  · (intro w hSw; have f0 := H0 w hSw; have f1 := H1 w hSw; have f4 := H4 w hSw; have f5 := H5 w hSw; go_simp; first | done | with_reducible rfl)
                  try simp only [Act.put, List.setIfInBounds_toArray, List.set_cons_zero, List.set_cons_succ]
                  refine Bz.wpAnyE_take (i := 4) (oi := { dst := some 60, op := Go.Op.load 40 (Go.Operand.tmp 59), type := 40, pos := "ref.go:118", after := #[{ on := 3, ground := Go.Ground.data }, { on := 2, ground := Go.Ground.guard }], guard := some (2, false) }) (v := ?_) rfl (by kernel_rfl) (by kernel_rfl) (by kernel_rfl) (by kernel_rfl) (fun _ _ _ h => h) (Or.inl ⟨by rfl, ?_⟩) hHeld ?_
                  rotate_left 1
                  · (intro w hSw; have f0 := H0 w hSw; have f1 := H1 w hSw; have f4 := H4 w hSw; have f5 := H5 w hSw; go_simp; first | done | with_reducible rfl)
                  try simp only [Act.put, List.setIfInBounds_toArray, List.set_cons_zero, List.set_cons_succ]
                  refine Bz.wpAnyE_take (i := 5) (oi := { dst := some 61, op := Go.Op.move (Go.Operand.tmp 6), type := 3, pos := "ref.go:118", after := #[{ on := 2, ground := Go.Ground.guard }], guard := some (2, false) }) (v := ?_) rfl (by kernel_rfl) (by kernel_rfl) (by kernel_rfl) (by kernel_rfl) (fun _ _ _ h => h) (Or.inl ⟨by rfl, ?_⟩) hHeld ?_
                  rotate_left 1
                  · (intro w hSw; have f0 := H0 w hSw; have f1 := H1 w hSw; have f4 := H4 w hSw; have f5 := H5 w hSw; go_simp; first | done | with_reducible rfl)
                  try simp only [Act.put, List.setIfInBounds_toArray, List.set_cons_zero, List.set_cons_succ]
                  refine Bz.wpAnyE_take (i := 6) (oi := { dst := some 62, op := Go.Op.indexAddr 40 (Go.Operand.tmp 60) (Go.Operand.tmp 61), type := 0, pos := "ref.go:118", after := #[{ on := 4, ground := Go.Ground.data }, { on := 5, ground := Go.Ground.data }, { on := 2, ground := Go.Ground.guard }], guard := some (2, false) }) (v := ?_) rfl (by kernel_rfl) (by kernel_rfl) (by kernel_rfl) (by kernel_rfl) (fun _ _ _ h => h) (Or.inl ⟨by rfl, ?_⟩) hHeld ?_
                  rotate_left 1
                  · (intro w hSw; have f0 := H0 w hSw; have f1 := H1 w hSw; have f4 := H4 w hSw; have f5 := H5 w hSw; go_simp; first | done | with_reducible rfl)
                  try simp only [Act.put, List.setIfInBounds_toArray, List.set_cons_zero, List.set_cons_succ]
                  refine Bz.wpAnyE_take (i := 7) (oi := { dst := some 63, op := Go.Op.fieldAddr 57 (Go.Operand.tmp 62) 1, type := 0, pos := "ref.go:118", after := #[{ on := 6, ground := Go.Ground.data }, { on := 2, ground := Go.Ground.guard }], guard := some (2, false) }) (v := ?_) rfl (by kernel_rfl) (by kernel_rfl) (by kernel_rfl) (by kernel_rfl) (fun _ _ _ h => h) (Or.inl ⟨by rfl, ?_⟩) hHeld ?_
                  rotate_left 1
                  · (intro w hSw; have f0 := H0 w hSw; have f1 := H1 w hSw; have f4 := H4 w hSw; have f5 := H5 w hSw; go_simp; first | done | with_reducible rfl)
                  try simp only [Act.put, List.setIfInBounds_toArray, List.set_cons_zero, List.set_cons_succ]
                  refine Bz.wpAnyE_take (i := 8) (oi := { dst := some 64, op := Go.Op.load 28 (Go.Operand.tmp 63), type := 28, pos := "ref.go:118", after := #[{ on := 7, ground := Go.Ground.data }, { on := 2, ground := Go.Ground.guard }], guard := some (2, false) }) (v := ?_) rfl (by kernel_rfl) (by kernel_rfl) (by kernel_rfl) (by kernel_rfl) (fun _ _ _ h => h) (Or.inl ⟨by rfl, ?_⟩) hHeld ?_
                  rotate_left 1
                  · (intro w hSw; have f0 := H0 w hSw; have f1 := H1 w hSw; have f4 := H4 w hSw; have f5 := H5 w hSw; go_simp; first | done | with_reducible rfl)
                  try simp only [Act.put, List.setIfInBounds_toArray, List.set_cons_zero, List.set_cons_succ]
                  refine Bz.wpAnyE_take (i := 9) (oi := { dst := some 65, op := Go.Op.fieldAddr 42 (Go.Operand.tmp 2) 1, type := 0, pos := "ref.go:118", after := #[{ on := 2, ground := Go.Ground.guard }], guard := some (2, false) }) (v := ?_) rfl (by kernel_rfl) (by kernel_rfl) (by kernel_rfl) (by kernel_rfl) (fun _ _ _ h => h) (Or.inl ⟨by rfl, ?_⟩) hHeld ?_
                  rotate_left 1
                  · (intro w hSw; have f0 := H0 w hSw; have f1 := H1 w hSw; have f4 := H4 w hSw; have f5 := H5 w hSw; go_simp; first | done | with_reducible rfl)
                  try simp only [Act.put, List.setIfInBounds_toArray, List.set_cons_zero, List.set_cons_succ]
                  refine Bz.wpAnyE_take (i := 10) (oi := { dst := some 66, op := Go.Op.load 40 (Go.Operand.tmp 65), type := 40, pos := "ref.go:118", after := #[{ on := 9, ground := Go.Ground.data }, { on := 2, ground := Go.Ground.guard }], guard := some (2, false) }) (v := ?_) rfl (by kernel_rfl) (by kernel_rfl) (by kernel_rfl) (by kernel_rfl) (fun _ _ _ h => h) (Or.inl ⟨by rfl, ?_⟩) hHeld ?_
                  rotate_left 1
                  · (intro w hSw; have f0 := H0 w hSw; have f1 := H1 w hSw; have f4 := H4 w hSw; have f5 := H5 w hSw; go_simp; first | done | with_reducible rfl)
                  try simp only [Act.put, List.setIfInBounds_toArray, List.set_cons_zero, List.set_cons_succ]
                  refine Bz.wpAnyE_take (i := 11) (oi := { dst := some 67, op := Go.Op.move (Go.Operand.tmp 5), type := 3, pos := "ref.go:118", after := #[{ on := 2, ground := Go.Ground.guard }], guard := some (2, false) }) (v := ?_) rfl (by kernel_rfl) (by kernel_rfl) (by kernel_rfl) (by kernel_rfl) (fun _ _ _ h => h) (Or.inl ⟨by rfl, ?_⟩) hHeld ?_
                  rotate_left 1
                  · (intro w hSw; have f0 := H0 w hSw; have f1 := H1 w hSw; have f4 := H4 w hSw; have f5 := H5 w hSw; go_simp; first | done | with_reducible rfl)
                  try simp only [Act.put, List.setIfInBounds_toArray, List.set_cons_zero, List.set_cons_succ]
                  refine Bz.wpAnyE_take (i := 12) (oi := { dst := some 68, op := Go.Op.indexAddr 40 (Go.Operand.tmp 66) (Go.Operand.tmp 67), type := 0, pos := "ref.go:118", after := #[{ on := 10, ground := Go.Ground.data }, { on := 11, ground := Go.Ground.data }, { on := 2, ground := Go.Ground.guard }], guard := some (2, false) }) (v := ?_) rfl (by kernel_rfl) (by kernel_rfl) (by kernel_rfl) (by kernel_rfl) (fun _ _ _ h => h) (Or.inl ⟨by rfl, ?_⟩) hHeld ?_
                  rotate_left 1
                  · (intro w hSw; have f0 := H0 w hSw; have f1 := H1 w hSw; have f4 := H4 w hSw; have f5 := H5 w hSw; go_simp; first | done | with_reducible rfl)
                  try simp only [Act.put, List.setIfInBounds_toArray, List.set_cons_zero, List.set_cons_succ]
                  refine Bz.wpAnyE_take (i := 13) (oi := { dst := some 69, op := Go.Op.fieldAddr 57 (Go.Operand.tmp 68) 1, type := 0, pos := "ref.go:118", after := #[{ on := 12, ground := Go.Ground.data }, { on := 2, ground := Go.Ground.guard }], guard := some (2, false) }) (v := ?_) rfl (by kernel_rfl) (by kernel_rfl) (by kernel_rfl) (by kernel_rfl) (fun _ _ _ h => h) (Or.inl ⟨by rfl, ?_⟩) hHeld ?_
                  rotate_left 1
                  · (intro w hSw; have f0 := H0 w hSw; have f1 := H1 w hSw; have f4 := H4 w hSw; have f5 := H5 w hSw; go_simp; first | done | with_reducible rfl)
                  try simp only [Act.put, List.setIfInBounds_toArray, List.set_cons_zero, List.set_cons_succ]
                  refine Bz.wpAnyE_take (i := 14) (oi := { dst := some 70, op := Go.Op.load 28 (Go.Operand.tmp 69), type := 28, pos := "ref.go:118", after := #[{ on := 13, ground := Go.Ground.data }, { on := 2, ground := Go.Ground.guard }], guard := some (2, false) }) (v := ?_) rfl (by kernel_rfl) (by kernel_rfl) (by kernel_rfl) (by kernel_rfl) (fun _ _ _ h => h) (Or.inl ⟨by rfl, ?_⟩) hHeld ?_
                  rotate_left 1
                  · (intro w hSw; have f0 := H0 w hSw; have f1 := H1 w hSw; have f4 := H4 w hSw; have f5 := H5 w hSw; go_simp; first | done | with_reducible rfl)
                  try simp only [Act.put, List.setIfInBounds_toArray, List.set_cons_zero, List.set_cons_succ]
                  refine Bz.wpAnyE_take (i := 15) (oi := { dst := some 71, op := Go.Op.binOp Go.BinOp.neq 28 (Go.Operand.tmp 64) (Go.Operand.tmp 70) 28, type := 4, pos := "ref.go:118", after := #[{ on := 8, ground := Go.Ground.data }, { on := 14, ground := Go.Ground.data }, { on := 2, ground := Go.Ground.guard }], guard := some (2, false) }) (v := ?_) rfl (by kernel_rfl) (by kernel_rfl) (by kernel_rfl) (by kernel_rfl) (fun _ _ _ h => h) (Or.inl ⟨by rfl, ?_⟩) hHeld ?_
                  rotate_left 1
                  · (intro w hSw; have f0 := H0 w hSw; have f1 := H1 w hSw; have f4 := H4 w hSw; have f5 := H5 w hSw; go_simp; first | done | with_reducible rfl)
                  try simp only [Act.put, List.setIfInBounds_toArray, List.set_cons_zero, List.set_cons_succ]
                  refine Bz.wpAnyE_take (i := 16) (oi := { dst := some 72, op := Go.Op.pick (Go.Operand.tmp 58) (Go.Operand.const (Go.Value.bool true)) (Go.Operand.tmp 71), type := 4, pos := "ref.go:118", after := #[{ on := 2, ground := Go.Ground.data }, { on := 15, ground := Go.Ground.data }], guard := none }) (v := ?_) rfl (by kernel_rfl) (by kernel_rfl) (by kernel_rfl) (by kernel_rfl) (fun _ _ _ h => h) (Or.inl ⟨by rfl, ?_⟩) hHeld ?_
                  rotate_left 1
                  · (intro w hSw; have f0 := H0 w hSw; have f1 := H1 w hSw; have f4 := H4 w hSw; have f5 := H5 w hSw; go_simp; first | done | with_reducible rfl)
                  try simp only [Act.put, List.setIfInBounds_toArray, List.set_cons_zero, List.set_cons_succ]
                  refine Bz.wpAnyE_done (by kernel_rfl) ?_ _
                  refine NoPanic.normal ?_
                  
                  clear hHeld
                  go_wp2_with fail
                  have hk := HK.out
                  go_roundg (T.rt.l.length - (k + 1))
                  case measure => omega
                  case rel => exact ⟨k + 1, by go_num, by omega, by omega, Lib.hid (by rw [HA.out, HD.out, HO.out]; rfl), hK'.trans hK5.drew⟩
                · rw [decide_eq_false hy] at q5 hok
                  have HO := Lib.hid hok
                  clear hok hy hj
                  go_wp2_with fail
                  refine wp_region_noPanic ?_
                  refine Bz.wp_region_E (S := (fun w' => Keep [] w5' w')) (E := []) (by kernel_rfl) (by exact (Keep.refl _ _).drew) (fun hHeld => ?_)
                  refine Bz.wpAnyE_take (i := 0) (oi := { dst := some 56, op := Go.Op.move (Go.Operand.tmp 6), type := 3, pos := "ref.go:118", after := #[], guard := none }) (v := ?_) rfl (by kernel_rfl) (by kernel_rfl) (by kernel_rfl) (by kernel_rfl) (fun _ _ _ h => h) (Or.inl ⟨by rfl, ?_⟩) hHeld ?_
                  rotate_left 1
                  · (intro w hSw; have f0 := H0 w hSw; have f1 := H1 w hSw; have f4 := H4 w hSw; have f5 := H5 w hSw; go_simp; first | done | with_reducible rfl)
                  try simp only [Act.put, List.setIfInBounds_toArray, List.set_cons_zero, List.set_cons_succ]
                  refine Bz.wpAnyE_take (i := 1) (oi := { dst := some 57, op := Go.Op.binOp Go.BinOp.lss 3 (Go.Operand.tmp 56) (Go.Operand.const (Go.Value.int Go.IntKind.i64 1)) 3, type := 4, pos := "ref.go:118", after := #[{ on := 0, ground := Go.Ground.data }], guard := none }) (v := ?_) rfl (by kernel_rfl) (by kernel_rfl) (by kernel_rfl) (by kernel_rfl) (fun _ _ _ h => h) (Or.inl ⟨by rfl, ?_⟩) hHeld ?_
                  rotate_left 1
                  · (intro w hSw; have f0 := H0 w hSw; have f1 := H1 w hSw; have f4 := H4 w hSw; have f5 := H5 w hSw; go_simp; first | done | with_reducible rfl)
                  try simp only [Act.put, List.setIfInBounds_toArray, List.set_cons_zero, List.set_cons_succ]
                  refine Bz.wpAnyE_take (i := 2) (oi := { dst := some 58, op := Go.Op.move (Go.Operand.tmp 57), type := 4, pos := "ref.go:118", after := #[{ on := 1, ground := Go.Ground.data }], guard := none }) (v := ?_) rfl (by kernel_rfl) (by kernel_rfl) (by kernel_rfl) (by kernel_rfl) (fun _ _ _ h => h) (Or.inl ⟨by rfl, ?_⟩) hHeld ?_
                  rotate_left 1
                  · (intro w hSw; have f0 := H0 w hSw; have f1 := H1 w hSw; have f4 := H4 w hSw; have f5 := H5 w hSw; go_simp; first | done | with_reducible rfl)
                  try simp only [Act.put, List.setIfInBounds_toArray, List.set_cons_zero, List.set_cons_succ]
                  refine Bz.wpAnyE_take (i := 3) (oi := { dst := some 59, op := Go.Op.fieldAddr 42 (Go.Operand.tmp 3) 1, type := 0, pos := "ref.go:118", after := #[{ on := 2, ground := Go.Ground.guard }], guard := some (2, false) }) (v := ?_) rfl (by kernel_rfl) (by kernel_rfl) (by kernel_rfl) (by kernel_rfl) (fun _ _ _ h => h) (Or.inl ⟨by rfl, ?_⟩) hHeld ?_
                  rotate_left 1
                  · (intro w hSw; have f0 := H0 w hSw; have f1 := H1 w hSw; have f4 := H4 w hSw; have f5 := H5 w hSw; go_simp; first | done | with_reducible rfl)
                  try simp only [Act.put, List.setIfInBounds_toArray, List.set_cons_zero, List.set_cons_succ]
                  refine Bz.wpAnyE_take (i := 4) (oi := { dst := some 60, op := Go.Op.load 40 (Go.Operand.tmp 59), type := 40, pos := "ref.go:118", after := #[{ on := 3, ground := Go.Ground.data }, { on := 2, ground := Go.Ground.guard }], guard := some (2, false) }) (v := ?_) rfl (by kernel_rfl) (by kernel_rfl) (by kernel_rfl) (by kernel_rfl) (fun _ _ _ h => h) (Or.inl ⟨by rfl, ?_⟩) hHeld ?_
                  rotate_left 1
                  · (intro w hSw; have f0 := H0 w hSw; have f1 := H1 w hSw; have f4 := H4 w hSw; have f5 := H5 w hSw; go_simp; first | done | with_reducible rfl)
                  try simp only [Act.put, List.setIfInBounds_toArray, List.set_cons_zero, List.set_cons_succ]
                  refine Bz.wpAnyE_take (i := 5) (oi := { dst := some 61, op := Go.Op.move (Go.Operand.tmp 6), type := 3, pos := "ref.go:118", after := #[{ on := 2, ground := Go.Ground.guard }], guard := some (2, false) }) (v := ?_) rfl (by kernel_rfl) (by kernel_rfl) (by kernel_rfl) (by kernel_rfl) (fun _ _ _ h => h) (Or.inl ⟨by rfl, ?_⟩) hHeld ?_
                  rotate_left 1
                  · (intro w hSw; have f0 := H0 w hSw; have f1 := H1 w hSw; have f4 := H4 w hSw; have f5 := H5 w hSw; go_simp; first | done | with_reducible rfl)
                  try simp only [Act.put, List.setIfInBounds_toArray, List.set_cons_zero, List.set_cons_succ]
                  refine Bz.wpAnyE_take (i := 6) (oi := { dst := some 62, op := Go.Op.indexAddr 40 (Go.Operand.tmp 60) (Go.Operand.tmp 61), type := 0, pos := "ref.go:118", after := #[{ on := 4, ground := Go.Ground.data }, { on := 5, ground := Go.Ground.data }, { on := 2, ground := Go.Ground.guard }], guard := some (2, false) }) (v := ?_) rfl (by kernel_rfl) (by kernel_rfl) (by kernel_rfl) (by kernel_rfl) (fun _ _ _ h => h) (Or.inl ⟨by rfl, ?_⟩) hHeld ?_
                  rotate_left 1
                  · (intro w hSw; have f0 := H0 w hSw; have f1 := H1 w hSw; have f4 := H4 w hSw; have f5 := H5 w hSw; go_simp; first | done | with_reducible rfl)
                  try simp only [Act.put, List.setIfInBounds_toArray, List.set_cons_zero, List.set_cons_succ]
                  refine Bz.wpAnyE_take (i := 7) (oi := { dst := some 63, op := Go.Op.fieldAddr 57 (Go.Operand.tmp 62) 1, type := 0, pos := "ref.go:118", after := #[{ on := 6, ground := Go.Ground.data }, { on := 2, ground := Go.Ground.guard }], guard := some (2, false) }) (v := ?_) rfl (by kernel_rfl) (by kernel_rfl) (by kernel_rfl) (by kernel_rfl) (fun _ _ _ h => h) (Or.inl ⟨by rfl, ?_⟩) hHeld ?_
                  rotate_left 1
                  · (intro w hSw; have f0 := H0 w hSw; have f1 := H1 w hSw; have f4 := H4 w hSw; have f5 := H5 w hSw; go_simp; first | done | with_reducible rfl)
                  try simp only [Act.put, List.setIfInBounds_toArray, List.set_cons_zero, List.set_cons_succ]
                  refine Bz.wpAnyE_take (i := 8) (oi := { dst := some 64, op := Go.Op.load 28 (Go.Operand.tmp 63), type := 28, pos := "ref.go:118", after := #[{ on := 7, ground := Go.Ground.data }, { on := 2, ground := Go.Ground.guard }], guard := some (2, false) }) (v := ?_) rfl (by kernel_rfl) (by kernel_rfl) (by kernel_rfl) (by kernel_rfl) (fun _ _ _ h => h) (Or.inl ⟨by rfl, ?_⟩) hHeld ?_
                  rotate_left 1
                  · (intro w hSw; have f0 := H0 w hSw; have f1 := H1 w hSw; have f4 := H4 w hSw; have f5 := H5 w hSw; go_simp; first | done | with_reducible rfl)
                  try simp only [Act.put, List.setIfInBounds_toArray, List.set_cons_zero, List.set_cons_succ]
                  refine Bz.wpAnyE_take (i := 9) (oi := { dst := some 65, op := Go.Op.fieldAddr 42 (Go.Operand.tmp 2) 1, type := 0, pos := "ref.go:118", after := #[{ on := 2, ground := Go.Ground.guard }], guard := some (2, false) }) (v := ?_) rfl (by kernel_rfl) (by kernel_rfl) (by kernel_rfl) (by kernel_rfl) (fun _ _ _ h => h) (Or.inl ⟨by rfl, ?_⟩) hHeld ?_
                  rotate_left 1
                  · (intro w hSw; have f0 := H0 w hSw; have f1 := H1 w hSw; have f4 := H4 w hSw; have f5 := H5 w hSw; go_simp; first | done | with_reducible rfl)
                  try simp only [Act.put, List.setIfInBounds_toArray, List.set_cons_zero, List.set_cons_succ]
                  refine Bz.wpAnyE_take (i := 10) (oi := { dst := some 66, op := Go.Op.load 40 (Go.Operand.tmp 65), type := 40, pos := "ref.go:118", after := #[{ on := 9, ground := Go.Ground.data }, { on := 2, ground := Go.Ground.guard }], guard := some (2, false) }) (v := ?_) rfl (by kernel_rfl) (by kernel_rfl) (by kernel_rfl) (by kernel_rfl) (fun _ _ _ h => h) (Or.inl ⟨by rfl, ?_⟩) hHeld ?_
                  rotate_left 1
                  · (intro w hSw; have f0 := H0 w hSw; have f1 := H1 w hSw; have f4 := H4 w hSw; have f5 := H5 w hSw; go_simp; first | done | with_reducible rfl)
                  try simp only [Act.put, List.setIfInBounds_toArray, List.set_cons_zero, List.set_cons_succ]
                  refine Bz.wpAnyE_take (i := 11) (oi := { dst := some 67, op := Go.Op.move (Go.Operand.tmp 5), type := 3, pos := "ref.go:118", after := #[{ on := 2, ground := Go.Ground.guard }], guard := some (2, false) }) (v := ?_) rfl (by kernel_rfl) (by kernel_rfl) (by kernel_rfl) (by kernel_rfl) (fun _ _ _ h => h) (Or.inl ⟨by rfl, ?_⟩) hHeld ?_
                  rotate_left 1
                  · (intro w hSw; have f0 := H0 w hSw; have f1 := H1 w hSw; have f4 := H4 w hSw; have f5 := H5 w hSw; go_simp; first | done | with_reducible rfl)
                  try simp only [Act.put, List.setIfInBounds_toArray, List.set_cons_zero, List.set_cons_succ]
                  refine Bz.wpAnyE_take (i := 12) (oi := { dst := some 68, op := Go.Op.indexAddr 40 (Go.Operand.tmp 66) (Go.Operand.tmp 67), type := 0, pos := "ref.go:118", after := #[{ on := 10, ground := Go.Ground.data }, { on := 11, ground := Go.Ground.data }, { on := 2, ground := Go.Ground.guard }], guard := some (2, false) }) (v := ?_) rfl (by kernel_rfl) (by kernel_rfl) (by kernel_rfl) (by kernel_rfl) (fun _ _ _ h => h) (Or.inl ⟨by rfl, ?_⟩) hHeld ?_
                  rotate_left 1
                  · (intro w hSw; have f0 := H0 w hSw; have f1 := H1 w hSw; have f4 := H4 w hSw; have f5 := H5 w hSw; go_simp; first | done | with_reducible rfl)
                  try simp only [Act.put, List.setIfInBounds_toArray, List.set_cons_zero, List.set_cons_succ]
                  refine Bz.wpAnyE_take (i := 13) (oi := { dst := some 69, op := Go.Op.fieldAddr 57 (Go.Operand.tmp 68) 1, type := 0, pos := "ref.go:118", after := #[{ on := 12, ground := Go.Ground.data }, { on := 2, ground := Go.Ground.guard }], guard := some (2, false) }) (v := ?_) rfl (by kernel_rfl) (by kernel_rfl) (by kernel_rfl) (by kernel_rfl) (fun _ _ _ h => h) (Or.inl ⟨by rfl, ?_⟩) hHeld ?_
                  rotate_left 1
                  · (intro w hSw; have f0 := H0 w hSw; have f1 := H1 w hSw; have f4 := H4 w hSw; have f5 := H5 w hSw; go_simp; first | done | with_reducible rfl)
                  try simp only [Act.put, List.setIfInBounds_toArray, List.set_cons_zero, List.set_cons_succ]
                  refine Bz.wpAnyE_take (i := 14) (oi := { dst := some 70, op := Go.Op.load 28 (Go.Operand.tmp 69), type := 28, pos := "ref.go:118", after := #[{ on := 13, ground := Go.Ground.data }, { on := 2, ground := Go.Ground.guard }], guard := some (2, false) }) (v := ?_) rfl (by kernel_rfl) (by kernel_rfl) (by kernel_rfl) (by kernel_rfl) (fun _ _ _ h => h) (Or.inl ⟨by rfl, ?_⟩) hHeld ?_
                  rotate_left 1
                  · (intro w hSw; have f0 := H0 w hSw; have f1 := H1 w hSw; have f4 := H4 w hSw; have f5 := H5 w hSw; go_simp; first | done | with_reducible rfl)
                  try simp only [Act.put, List.setIfInBounds_toArray, List.set_cons_zero, List.set_cons_succ]
                  refine Bz.wpAnyE_take (i := 15) (oi := { dst := some 71, op := Go.Op.binOp Go.BinOp.neq 28 (Go.Operand.tmp 64) (Go.Operand.tmp 70) 28, type := 4, pos := "ref.go:118", after := #[{ on := 8, ground := Go.Ground.data }, { on := 14, ground := Go.Ground.data }, { on := 2, ground := Go.Ground.guard }], guard := some (2, false) }) (v := ?_) rfl (by kernel_rfl) (by kernel_rfl) (by kernel_rfl) (by kernel_rfl) (fun _ _ _ h => h) (Or.inl ⟨by rfl, ?_⟩) hHeld ?_
                  rotate_left 1
                  · (intro w hSw; have f0 := H0 w hSw; have f1 := H1 w hSw; have f4 := H4 w hSw; have f5 := H5 w hSw; go_simp; first | done | with_reducible rfl)
                  try simp only [Act.put, List.setIfInBounds_toArray, List.set_cons_zero, List.set_cons_succ]
                  refine Bz.wpAnyE_take (i := 16) (oi := { dst := some 72, op := Go.Op.pick (Go.Operand.tmp 58) (Go.Operand.const (Go.Value.bool true)) (Go.Operand.tmp 71), type := 4, pos := "ref.go:118", after := #[{ on := 2, ground := Go.Ground.data }, { on := 15, ground := Go.Ground.data }], guard := none }) (v := ?_) rfl (by kernel_rfl) (by kernel_rfl) (by kernel_rfl) (by kernel_rfl) (fun _ _ _ h => h) (Or.inl ⟨by rfl, ?_⟩) hHeld ?_
                  rotate_left 1
                  · (intro w hSw; have f0 := H0 w hSw; have f1 := H1 w hSw; have f4 := H4 w hSw; have f5 := H5 w hSw; go_simp; first | done | with_reducible rfl)
                  try simp only [Act.put, List.setIfInBounds_toArray, List.set_cons_zero, List.set_cons_succ]
                  refine Bz.wpAnyE_done (by kernel_rfl) ?_ _
                  refine NoPanic.normal ?_
                  
                  clear hHeld
                  go_wp2_with fail
                  go_ret
                  exact ⟨by rw [HR.out, HA.out, HD.out, HO.out]; rfl, hKw.trans (hK'.trans hK5.drew)⟩
              · have hnj : n = n' := by rw [HN.out]; exact hn'
                subst hnj
                have HO := Lib.hid hok
                clear hok hn'
                go_wp2_with fail
                refine wp_region_noPanic ?_
                refine Bz.wp_region_E (S := (fun w' => Keep [] w5' w')) (E := []) (by kernel_rfl) (by exact (Keep.refl _ _).drew) (fun hHeld => ?_)
                refine Bz.wpAnyE_take (i := 0) (oi := { dst := some 56, op := Go.Op.move (Go.Operand.tmp 6), type := 3, pos := "ref.go:118", after := #[], guard := none }) (v := ?_) rfl (by kernel_rfl) (by kernel_rfl) (by kernel_rfl) (by kernel_rfl) (fun _ _ _ h => h) (Or.inl ⟨by rfl, ?_⟩) hHeld ?_
                rotate_left 1
                · (intro w hSw; skip; go_simp; first | done | with_reducible rfl)
                try simp only [Act.put, List.setIfInBounds_toArray, List.set_cons_zero, List.set_cons_succ]
                refine Bz.wpAnyE_take (i := 1) (oi := { dst := some 57, op := Go.Op.binOp Go.BinOp.lss 3 (Go.Operand.tmp 56) (Go.Operand.const (Go.Value.int Go.IntKind.i64 1)) 3, type := 4, pos := "ref.go:118", after := #[{ on := 0, ground := Go.Ground.data }], guard := none }) (v := ?_) rfl (by kernel_rfl) (by kernel_rfl) (by kernel_rfl) (by kernel_rfl) (fun _ _ _ h => h) (Or.inl ⟨by rfl, ?_⟩) hHeld ?_
                rotate_left 1
                · (intro w hSw; skip; go_simp; first | done | with_reducible rfl)
                try simp only [Act.put, List.setIfInBounds_toArray, List.set_cons_zero, List.set_cons_succ]
                refine Bz.wpAnyE_take (i := 2) (oi := { dst := some 58, op := Go.Op.move (Go.Operand.tmp 57), type := 4, pos := "ref.go:118", after := #[{ on := 1, ground := Go.Ground.data }], guard := none }) (v := ?_) rfl (by kernel_rfl) (by kernel_rfl) (by kernel_rfl) (by kernel_rfl) (fun _ _ _ h => h) (Or.inl ⟨by rfl, ?_⟩) hHeld ?_
                rotate_left 1
                · (intro w hSw; skip; go_simp; first | done | with_reducible rfl)
                try simp only [Act.put, List.setIfInBounds_toArray, List.set_cons_zero, List.set_cons_succ]
                refine Bz.wpAnyE_take (i := 3) (oi := { dst := some 59, op := Go.Op.fieldAddr 42 (Go.Operand.tmp 3) 1, type := 0, pos := "ref.go:118", after := #[{ on := 2, ground := Go.Ground.guard }], guard := some (2, false) }) (v := undef) rfl (by kernel_rfl) (by kernel_rfl) (by kernel_rfl) (by kernel_rfl) (fun _ _ _ h => h) (Or.inr ⟨by rfl, rfl⟩) hHeld ?_
                try simp only [Act.put, List.setIfInBounds_toArray, List.set_cons_zero, List.set_cons_succ]
                refine Bz.wpAnyE_take (i := 4) (oi := { dst := some 60, op := Go.Op.load 40 (Go.Operand.tmp 59), type := 40, pos := "ref.go:118", after := #[{ on := 3, ground := Go.Ground.data }, { on := 2, ground := Go.Ground.guard }], guard := some (2, false) }) (v := undef) rfl (by kernel_rfl) (by kernel_rfl) (by kernel_rfl) (by kernel_rfl) (fun _ _ _ h => h) (Or.inr ⟨by rfl, rfl⟩) hHeld ?_
                try simp only [Act.put, List.setIfInBounds_toArray, List.set_cons_zero, List.set_cons_succ]
                refine Bz.wpAnyE_take (i := 5) (oi := { dst := some 61, op := Go.Op.move (Go.Operand.tmp 6), type := 3, pos := "ref.go:118", after := #[{ on := 2, ground := Go.Ground.guard }], guard := some (2, false) }) (v := undef) rfl (by kernel_rfl) (by kernel_rfl) (by kernel_rfl) (by kernel_rfl) (fun _ _ _ h => h) (Or.inr ⟨by rfl, rfl⟩) hHeld ?_
                try simp only [Act.put, List.setIfInBounds_toArray, List.set_cons_zero, List.set_cons_succ]
                refine Bz.wpAnyE_take (i := 6) (oi := { dst := some 62, op := Go.Op.indexAddr 40 (Go.Operand.tmp 60) (Go.Operand.tmp 61), type := 0, pos := "ref.go:118", after := #[{ on := 4, ground := Go.Ground.data }, { on := 5, ground := Go.Ground.data }, { on := 2, ground := Go.Ground.guard }], guard := some (2, false) }) (v := undef) rfl (by kernel_rfl) (by kernel_rfl) (by kernel_rfl) (by kernel_rfl) (fun _ _ _ h => h) (Or.inr ⟨by rfl, rfl⟩) hHeld ?_
                try simp only [Act.put, List.setIfInBounds_toArray, List.set_cons_zero, List.set_cons_succ]
                refine Bz.wpAnyE_take (i := 7) (oi := { dst := some 63, op := Go.Op.fieldAddr 57 (Go.Operand.tmp 62) 1, type := 0, pos := "ref.go:118", after := #[{ on := 6, ground := Go.Ground.data }, { on := 2, ground := Go.Ground.guard }], guard := some (2, false) }) (v := undef) rfl (by kernel_rfl) (by kernel_rfl) (by kernel_rfl) (by kernel_rfl) (fun _ _ _ h => h) (Or.inr ⟨by rfl, rfl⟩) hHeld ?_
                try simp only [Act.put, List.setIfInBounds_toArray, List.set_cons_zero, List.set_cons_succ]
                refine Bz.wpAnyE_take (i := 8) (oi := { dst := some 64, op := Go.Op.load 28 (Go.Operand.tmp 63), type := 28, pos := "ref.go:118", after := #[{ on := 7, ground := Go.Ground.data }, { on := 2, ground := Go.Ground.guard }], guard := some (2, false) }) (v := undef) rfl (by kernel_rfl) (by kernel_rfl) (by kernel_rfl) (by kernel_rfl) (fun _ _ _ h => h) (Or.inr ⟨by rfl, rfl⟩) hHeld ?_
                try simp only [Act.put, List.setIfInBounds_toArray, List.set_cons_zero, List.set_cons_succ]
                refine Bz.wpAnyE_take (i := 9) (oi := { dst := some 65, op := Go.Op.fieldAddr 42 (Go.Operand.tmp 2) 1, type := 0, pos := "ref.go:118", after := #[{ on := 2, ground := Go.Ground.guard }], guard := some (2, false) }) (v := undef) rfl (by kernel_rfl) (by kernel_rfl) (by kernel_rfl) (by kernel_rfl) (fun _ _ _ h => h) (Or.inr ⟨by rfl, rfl⟩) hHeld ?_
                try simp only [Act.put, List.setIfInBounds_toArray, List.set_cons_zero, List.set_cons_succ]
                refine Bz.wpAnyE_take (i := 10) (oi := { dst := some 66, op := Go.Op.load 40 (Go.Operand.tmp 65), type := 40, pos := "ref.go:118", after := #[{ on := 9, ground := Go.Ground.data }, { on := 2, ground := Go.Ground.guard }], guard := some (2, false) }) (v := undef) rfl (by kernel_rfl) (by kernel_rfl) (by kernel_rfl) (by kernel_rfl) (fun _ _ _ h => h) (Or.inr ⟨by rfl, rfl⟩) hHeld ?_
                try simp only [Act.put, List.setIfInBounds_toArray, List.set_cons_zero, List.set_cons_succ]
                refine Bz.wpAnyE_take (i := 11) (oi := { dst := some 67, op := Go.Op.move (Go.Operand.tmp 5), type := 3, pos := "ref.go:118", after := #[{ on := 2, ground := Go.Ground.guard }], guard := some (2, false) }) (v := undef) rfl (by kernel_rfl) (by kernel_rfl) (by kernel_rfl) (by kernel_rfl) (fun _ _ _ h => h) (Or.inr ⟨by rfl, rfl⟩) hHeld ?_
                try simp only [Act.put, List.setIfInBounds_toArray, List.set_cons_zero, List.set_cons_succ]
                refine Bz.wpAnyE_take (i := 12) (oi := { dst := some 68, op := Go.Op.indexAddr 40 (Go.Operand.tmp 66) (Go.Operand.tmp 67), type := 0, pos := "ref.go:118", after := #[{ on := 10, ground := Go.Ground.data }, { on := 11, ground := Go.Ground.data }, { on := 2, ground := Go.Ground.guard }], guard := some (2, false) }) (v := undef) rfl (by kernel_rfl) (by kernel_rfl) (by kernel_rfl) (by kernel_rfl) (fun _ _ _ h => h) (Or.inr ⟨by rfl, rfl⟩) hHeld ?_
                try simp only [Act.put, List.setIfInBounds_toArray, List.set_cons_zero, List.set_cons_succ]
                refine Bz.wpAnyE_take (i := 13) (oi := { dst := some 69, op := Go.Op.fieldAddr 57 (Go.Operand.tmp 68) 1, type := 0, pos := "ref.go:118", after := #[{ on := 12, ground := Go.Ground.data }, { on := 2, ground := Go.Ground.guard }], guard := some (2, false) }) (v := undef) rfl (by kernel_rfl) (by kernel_rfl) (by kernel_rfl) (by kernel_rfl) (fun _ _ _ h => h) (Or.inr ⟨by rfl, rfl⟩) hHeld ?_
                try simp only [Act.put, List.setIfInBounds_toArray, List.set_cons_zero, List.set_cons_succ]
                refine Bz.wpAnyE_take (i := 14) (oi := { dst := some 70, op := Go.Op.load 28 (Go.Operand.tmp 69), type := 28, pos := "ref.go:118", after := #[{ on := 13, ground := Go.Ground.data }, { on := 2, ground := Go.Ground.guard }], guard := some (2, false) }) (v := undef) rfl (by kernel_rfl) (by kernel_rfl) (by kernel_rfl) (by kernel_rfl) (fun _ _ _ h => h) (Or.inr ⟨by rfl, rfl⟩) hHeld ?_
                try simp only [Act.put, List.setIfInBounds_toArray, List.set_cons_zero, List.set_cons_succ]
                refine Bz.wpAnyE_take (i := 15) (oi := { dst := some 71, op := Go.Op.binOp Go.BinOp.neq 28 (Go.Operand.tmp 64) (Go.Operand.tmp 70) 28, type := 4, pos := "ref.go:118", after := #[{ on := 8, ground := Go.Ground.data }, { on := 14, ground := Go.Ground.data }, { on := 2, ground := Go.Ground.guard }], guard := some (2, false) }) (v := undef) rfl (by kernel_rfl) (by kernel_rfl) (by kernel_rfl) (by kernel_rfl) (fun _ _ _ h => h) (Or.inr ⟨by rfl, rfl⟩) hHeld ?_
                try simp only [Act.put, List.setIfInBounds_toArray, List.set_cons_zero, List.set_cons_succ]
                refine Bz.wpAnyE_take (i := 16) (oi := { dst := some 72, op := Go.Op.pick (Go.Operand.tmp 58) (Go.Operand.const (Go.Value.bool true)) (Go.Operand.tmp 71), type := 4, pos := "ref.go:118", after := #[{ on := 2, ground := Go.Ground.data }, { on := 15, ground := Go.Ground.data }], guard := none }) (v := ?_) rfl (by kernel_rfl) (by kernel_rfl) (by kernel_rfl) (by kernel_rfl) (fun _ _ _ h => h) (Or.inl ⟨by rfl, ?_⟩) hHeld ?_
                rotate_left 1
                · (intro w hSw; skip; go_simp; first | done | with_reducible rfl)
                try simp only [Act.put, List.setIfInBounds_toArray, List.set_cons_zero, List.set_cons_succ]
                refine Bz.wpAnyE_done (by kernel_rfl) ?_ _
                refine NoPanic.normal ?_
                
                clear hHeld
                go_wp2_with fail
                go_ret
                exact ⟨by rw [HR.out, HA.out, HD.out, HO.out]; rfl, hKw.trans (hK'.trans hK5.drew)⟩
            · have hdk : T.rt.l.drop k = [] := List.drop_eq_nil_of_le (by omega)
              have HD : Hid ((T.rt.l.drop k).all U.okAt = true) := Lib.hid (by rw [hdk]; rfl)
              clear hdk
              go_wp2_with fail
              go_ret
              exact ⟨by rw [HR.out, HA.out, HD.out]; rfl, hKw.trans hK'⟩
        · rw [decide_eq_false e4] at q4
          have HR : Hid (T.alike U = false) := Lib.hid (by
            unfold FT.alike
            simp [e4])
          clear e1 e2 e3 e4 hlT hlU
          go_enter Try.func31, Try.ntmps31
          go_wp2_with fail
          rw [← hw0]
          refine wp_region_noPanic ?_
          refine Bz.wp_region_E (S := (fun w' => Keep [] w0 w')) (E := []) (by kernel_rfl) (by exact (Keep.refl _ _).drew) (fun hHeld => ?_)
          refine Bz.wpAnyE_take (i := 0) (oi := { dst := some 7, op := Go.Op.fieldAddr 42 (Go.Operand.tmp 2) 0, type := 0, pos := "ref.go:113", after := #[], guard := none }) (v := ?_) rfl (by kernel_rfl) (by kernel_rfl) (by kernel_rfl) (by kernel_rfl) (fun _ _ _ h => h) (Or.inl ⟨by rfl, ?_⟩) hHeld ?_
          rotate_left 1
          · (intro w hSw; have f0 := F0 w hSw; have f1 := F1 w hSw; have f2 := F2 w hSw; have f3 := F3 w hSw; go_simp; first | done | with_reducible rfl)
          try simp only [Act.put, List.setIfInBounds_toArray, List.set_cons_zero, List.set_cons_succ]
          refine Bz.wpAnyE_take (i := 1) (oi := { dst := some 8, op := Go.Op.load 3 (Go.Operand.tmp 7), type := 3, pos := "ref.go:113", after := #[{ on := 0, ground := Go.Ground.data }], guard := none }) (v := ?_) rfl (by kernel_rfl) (by kernel_rfl) (by kernel_rfl) (by kernel_rfl) (fun _ _ _ h => h) (Or.inl ⟨by rfl, ?_⟩) hHeld ?_
          rotate_left 1
          · (intro w hSw; have f0 := F0 w hSw; have f1 := F1 w hSw; have f2 := F2 w hSw; have f3 := F3 w hSw; go_simp; first | done | with_reducible rfl)
          try simp only [Act.put, List.setIfInBounds_toArray, List.set_cons_zero, List.set_cons_succ]
          refine Bz.wpAnyE_take (i := 2) (oi := { dst := some 9, op := Go.Op.fieldAddr 42 (Go.Operand.tmp 3) 0, type := 0, pos := "ref.go:113", after := #[], guard := none }) (v := ?_) rfl (by kernel_rfl) (by kernel_rfl) (by kernel_rfl) (by kernel_rfl) (fun _ _ _ h => h) (Or.inl ⟨by rfl, ?_⟩) hHeld ?_
          rotate_left 1
          · (intro w hSw; have f0 := F0 w hSw; have f1 := F1 w hSw; have f2 := F2 w hSw; have f3 := F3 w hSw; go_simp; first | done | with_reducible rfl)
          try simp only [Act.put, List.setIfInBounds_toArray, List.set_cons_zero, List.set_cons_succ]
          refine Bz.wpAnyE_take (i := 3) (oi := { dst := some 10, op := Go.Op.load 3 (Go.Operand.tmp 9), type := 3, pos := "ref.go:113", after := #[{ on := 2, ground := Go.Ground.data }], guard := none }) (v := ?_) rfl (by kernel_rfl) (by kernel_rfl) (by kernel_rfl) (by kernel_rfl) (fun _ _ _ h => h) (Or.inl ⟨by rfl, ?_⟩) hHeld ?_
          rotate_left 1
          · (intro w hSw; have f0 := F0 w hSw; have f1 := F1 w hSw; have f2 := F2 w hSw; have f3 := F3 w hSw; go_simp; first | done | with_reducible rfl)
          try simp only [Act.put, List.setIfInBounds_toArray, List.set_cons_zero, List.set_cons_succ]
          refine Bz.wpAnyE_take (i := 4) (oi := { dst := some 11, op := Go.Op.binOp Go.BinOp.neq 3 (Go.Operand.tmp 8) (Go.Operand.tmp 10) 3, type := 4, pos := "ref.go:113", after := #[{ on := 1, ground := Go.Ground.data }, { on := 3, ground := Go.Ground.data }], guard := none }) (v := ?_) rfl (by kernel_rfl) (by kernel_rfl) (by kernel_rfl) (by kernel_rfl) (fun _ _ _ h => h) (Or.inl ⟨by rfl, ?_⟩) hHeld ?_
          rotate_left 1
          · (intro w hSw; have f0 := F0 w hSw; have f1 := F1 w hSw; have f2 := F2 w hSw; have f3 := F3 w hSw; go_simp; first | done | with_reducible rfl)
          try simp only [Act.put, List.setIfInBounds_toArray, List.set_cons_zero, List.set_cons_succ]
          refine Bz.wpAnyE_take (i := 5) (oi := { dst := some 12, op := Go.Op.move (Go.Operand.tmp 11), type := 4, pos := "ref.go:113", after := #[{ on := 4, ground := Go.Ground.data }], guard := none }) (v := ?_) rfl (by kernel_rfl) (by kernel_rfl) (by kernel_rfl) (by kernel_rfl) (fun _ _ _ h => h) (Or.inl ⟨by rfl, ?_⟩) hHeld ?_
          rotate_left 1
          · (intro w hSw; have f0 := F0 w hSw; have f1 := F1 w hSw; have f2 := F2 w hSw; have f3 := F3 w hSw; go_simp; first | done | with_reducible rfl)
          try simp only [Act.put, List.setIfInBounds_toArray, List.set_cons_zero, List.set_cons_succ]
          refine Bz.wpAnyE_take (i := 6) (oi := { dst := some 13, op := Go.Op.fieldAddr 42 (Go.Operand.tmp 2) 2, type := 0, pos := "ref.go:113", after := #[{ on := 5, ground := Go.Ground.guard }], guard := some (5, false) }) (v := ?_) rfl (by kernel_rfl) (by kernel_rfl) (by kernel_rfl) (by kernel_rfl) (fun _ _ _ h => h) (Or.inl ⟨by rfl, ?_⟩) hHeld ?_
          rotate_left 1
          · (intro w hSw; have f0 := F0 w hSw; have f1 := F1 w hSw; have f2 := F2 w hSw; have f3 := F3 w hSw; go_simp; first | done | with_reducible rfl)
          try simp only [Act.put, List.setIfInBounds_toArray, List.set_cons_zero, List.set_cons_succ]
          refine Bz.wpAnyE_take (i := 7) (oi := { dst := some 14, op := Go.Op.load 28 (Go.Operand.tmp 13), type := 28, pos := "ref.go:113", after := #[{ on := 6, ground := Go.Ground.data }, { on := 5, ground := Go.Ground.guard }], guard := some (5, false) }) (v := ?_) rfl (by kernel_rfl) (by kernel_rfl) (by kernel_rfl) (by kernel_rfl) (fun _ _ _ h => h) (Or.inl ⟨by rfl, ?_⟩) hHeld ?_
          rotate_left 1
          · (intro w hSw; have f0 := F0 w hSw; have f1 := F1 w hSw; have f2 := F2 w hSw; have f3 := F3 w hSw; go_simp; first | done | with_reducible rfl)
          try simp only [Act.put, List.setIfInBounds_toArray, List.set_cons_zero, List.set_cons_succ]
          refine Bz.wpAnyE_take (i := 8) (oi := { dst := some 15, op := Go.Op.fieldAddr 42 (Go.Operand.tmp 3) 2, type := 0, pos := "ref.go:113", after := #[{ on := 5, ground := Go.Ground.guard }], guard := some (5, false) }) (v := ?_) rfl (by kernel_rfl) (by kernel_rfl) (by kernel_rfl) (by kernel_rfl) (fun _ _ _ h => h) (Or.inl ⟨by rfl, ?_⟩) hHeld ?_
          rotate_left 1
          · (intro w hSw; have f0 := F0 w hSw; have f1 := F1 w hSw; have f2 := F2 w hSw; have f3 := F3 w hSw; go_simp; first | done | with_reducible rfl)
          try simp only [Act.put, List.setIfInBounds_toArray, List.set_cons_zero, List.set_cons_succ]
          refine Bz.wpAnyE_take (i := 9) (oi := { dst := some 16, op := Go.Op.load 28 (Go.Operand.tmp 15), type := 28, pos := "ref.go:113", after := #[{ on := 8, ground := Go.Ground.data }, { on := 5, ground := Go.Ground.guard }], guard := some (5, false) }) (v := ?_) rfl (by kernel_rfl) (by kernel_rfl) (by kernel_rfl) (by kernel_rfl) (fun _ _ _ h => h) (Or.inl ⟨by rfl, ?_⟩) hHeld ?_
          rotate_left 1
          · (intro w hSw; have f0 := F0 w hSw; have f1 := F1 w hSw; have f2 := F2 w hSw; have f3 := F3 w hSw; go_simp; first | done | with_reducible rfl)
          try simp only [Act.put, List.setIfInBounds_toArray, List.set_cons_zero, List.set_cons_succ]
          refine Bz.wpAnyE_take (i := 10) (oi := { dst := some 17, op := Go.Op.binOp Go.BinOp.neq 28 (Go.Operand.tmp 14) (Go.Operand.tmp 16) 28, type := 4, pos := "ref.go:113", after := #[{ on := 7, ground := Go.Ground.data }, { on := 9, ground := Go.Ground.data }, { on := 5, ground := Go.Ground.guard }], guard := some (5, false) }) (v := ?_) rfl (by kernel_rfl) (by kernel_rfl) (by kernel_rfl) (by kernel_rfl) (fun _ _ _ h => h) (Or.inl ⟨by rfl, ?_⟩) hHeld ?_
          rotate_left 1
          · (intro w hSw; have f0 := F0 w hSw; have f1 := F1 w hSw; have f2 := F2 w hSw; have f3 := F3 w hSw; go_simp; first | done | with_reducible rfl)
          try simp only [Act.put, List.setIfInBounds_toArray, List.set_cons_zero, List.set_cons_succ]
          refine Bz.wpAnyE_take (i := 11) (oi := { dst := some 18, op := Go.Op.pick (Go.Operand.tmp 12) (Go.Operand.const (Go.Value.bool true)) (Go.Operand.tmp 17), type := 4, pos := "ref.go:113", after := #[{ on := 5, ground := Go.Ground.data }, { on := 10, ground := Go.Ground.data }], guard := none }) (v := ?_) rfl (by kernel_rfl) (by kernel_rfl) (by kernel_rfl) (by kernel_rfl) (fun _ _ _ h => h) (Or.inl ⟨by rfl, ?_⟩) hHeld ?_
          rotate_left 1
          · (intro w hSw; have f0 := F0 w hSw; have f1 := F1 w hSw; have f2 := F2 w hSw; have f3 := F3 w hSw; go_simp; first | done | with_reducible rfl)
          try simp only [Act.put, List.setIfInBounds_toArray, List.set_cons_zero, List.set_cons_succ]
          refine Bz.wpAnyE_take (i := 12) (oi := { dst := some 19, op := Go.Op.move (Go.Operand.tmp 18), type := 4, pos := "ref.go:113", after := #[{ on := 11, ground := Go.Ground.data }, { on := 5, ground := Go.Ground.chain }], guard := none }) (v := ?_) rfl (by kernel_rfl) (by kernel_rfl) (by kernel_rfl) (by kernel_rfl) (fun _ _ _ h => h) (Or.inl ⟨by rfl, ?_⟩) hHeld ?_
          rotate_left 1
          · (intro w hSw; have f0 := F0 w hSw; have f1 := F1 w hSw; have f2 := F2 w hSw; have f3 := F3 w hSw; go_simp; first | done | with_reducible rfl)
          try simp only [Act.put, List.setIfInBounds_toArray, List.set_cons_zero, List.set_cons_succ]
          refine Bz.wpAnyE_take (i := 13) (oi := { dst := some 20, op := Go.Op.fieldAddr 42 (Go.Operand.tmp 2) 1, type := 0, pos := "ref.go:113", after := #[{ on := 12, ground := Go.Ground.guard }], guard := some (12, false) }) (v := ?_) rfl (by kernel_rfl) (by kernel_rfl) (by kernel_rfl) (by kernel_rfl) (fun _ _ _ h => h) (Or.inl ⟨by rfl, ?_⟩) hHeld ?_
          rotate_left 1
          · (intro w hSw; have f0 := F0 w hSw; have f1 := F1 w hSw; have f2 := F2 w hSw; have f3 := F3 w hSw; go_simp; first | done | with_reducible rfl)
          try simp only [Act.put, List.setIfInBounds_toArray, List.set_cons_zero, List.set_cons_succ]
          refine Bz.wpAnyE_take (i := 14) (oi := { dst := some 21, op := Go.Op.load 40 (Go.Operand.tmp 20), type := 40, pos := "ref.go:113", after := #[{ on := 13, ground := Go.Ground.data }, { on := 12, ground := Go.Ground.guard }], guard := some (12, false) }) (v := ?_) rfl (by kernel_rfl) (by kernel_rfl) (by kernel_rfl) (by kernel_rfl) (fun _ _ _ h => h) (Or.inl ⟨by rfl, ?_⟩) hHeld ?_
          rotate_left 1
          · (intro w hSw; have f0 := F0 w hSw; have f1 := F1 w hSw; have f2 := F2 w hSw; have f3 := F3 w hSw; go_simp; first | done | with_reducible rfl)
          try simp only [Act.put, List.setIfInBounds_toArray, List.set_cons_zero, List.set_cons_succ]
          refine Bz.wpAnyE_take (i := 15) (oi := { dst := some 22, op := Go.Op.call { callee := Go.Callee.builtin Go.Builtin.len, args := #[Go.Operand.tmp 21], argTypes := #[40] }, type := 3, pos := "ref.go:113", after := #[{ on := 14, ground := Go.Ground.data }, { on := 12, ground := Go.Ground.guard }], guard := some (12, false) }) (v := ?_) rfl (by kernel_rfl) (by kernel_rfl) (by kernel_rfl) (by kernel_rfl) (fun _ _ _ h => h) (Or.inl ⟨by rfl, ?_⟩) hHeld ?_
          rotate_left 1
          · (intro w hSw; have f0 := F0 w hSw; have f1 := F1 w hSw; have f2 := F2 w hSw; have f3 := F3 w hSw; go_simp; first | done | with_reducible rfl)
          try simp only [Act.put, List.setIfInBounds_toArray, List.set_cons_zero, List.set_cons_succ]
          refine Bz.wpAnyE_take (i := 16) (oi := { dst := some 23, op := Go.Op.fieldAddr 42 (Go.Operand.tmp 3) 1, type := 0, pos := "ref.go:113", after := #[{ on := 12, ground := Go.Ground.guard }], guard := some (12, false) }) (v := ?_) rfl (by kernel_rfl) (by kernel_rfl) (by kernel_rfl) (by kernel_rfl) (fun _ _ _ h => h) (Or.inl ⟨by rfl, ?_⟩) hHeld ?_
          rotate_left 1
          · (intro w hSw; have f0 := F0 w hSw; have f1 := F1 w hSw; have f2 := F2 w hSw; have f3 := F3 w hSw; go_simp; first | done | with_reducible rfl)
          try simp only [Act.put, List.setIfInBounds_toArray, List.set_cons_zero, List.set_cons_succ]
          refine Bz.wpAnyE_take (i := 17) (oi := { dst := some 24, op := Go.Op.load 40 (Go.Operand.tmp 23), type := 40, pos := "ref.go:113", after := #[{ on := 16, ground := Go.Ground.data }, { on := 12, ground := Go.Ground.guard }], guard := some (12, false) }) (v := ?_) rfl (by kernel_rfl) (by kernel_rfl) (by kernel_rfl) (by kernel_rfl) (fun _ _ _ h => h) (Or.inl ⟨by rfl, ?_⟩) hHeld ?_
          rotate_left 1
          · (intro w hSw; have f0 := F0 w hSw; have f1 := F1 w hSw; have f2 := F2 w hSw; have f3 := F3 w hSw; go_simp; first | done | with_reducible rfl)
          try simp only [Act.put, List.setIfInBounds_toArray, List.set_cons_zero, List.set_cons_succ]
          refine Bz.wpAnyE_take (i := 18) (oi := { dst := some 25, op := Go.Op.call { callee := Go.Callee.builtin Go.Builtin.len, args := #[Go.Operand.tmp 24], argTypes := #[40] }, type := 3, pos := "ref.go:113", after := #[{ on := 17, ground := Go.Ground.data }, { on := 12, ground := Go.Ground.guard }], guard := some (12, false) }) (v := ?_) rfl (by kernel_rfl) (by kernel_rfl) (by kernel_rfl) (by kernel_rfl) (fun _ _ _ h => h) (Or.inl ⟨by rfl, ?_⟩) hHeld ?_
          rotate_left 1
          · (intro w hSw; have f0 := F0 w hSw; have f1 := F1 w hSw; have f2 := F2 w hSw; have f3 := F3 w hSw; go_simp; first | done | with_reducible rfl)
          try simp only [Act.put, List.setIfInBounds_toArray, List.set_cons_zero, List.set_cons_succ]
          refine Bz.wpAnyE_take (i := 19) (oi := { dst := some 26, op := Go.Op.binOp Go.BinOp.neq 3 (Go.Operand.tmp 22) (Go.Operand.tmp 25) 3, type := 4, pos := "ref.go:113", after := #[{ on := 15, ground := Go.Ground.data }, { on := 18, ground := Go.Ground.data }, { on := 12, ground := Go.Ground.guard }], guard := some (12, false) }) (v := ?_) rfl (by kernel_rfl) (by kernel_rfl) (by kernel_rfl) (by kernel_rfl) (fun _ _ _ h => h) (Or.inl ⟨by rfl, ?_⟩) hHeld ?_
          rotate_left 1
          · (intro w hSw; have f0 := F0 w hSw; have f1 := F1 w hSw; have f2 := F2 w hSw; have f3 := F3 w hSw; go_simp; first | done | with_reducible rfl)
          try simp only [Act.put, List.setIfInBounds_toArray, List.set_cons_zero, List.set_cons_succ]
          refine Bz.wpAnyE_take (i := 20) (oi := { dst := some 27, op := Go.Op.pick (Go.Operand.tmp 19) (Go.Operand.const (Go.Value.bool true)) (Go.Operand.tmp 26), type := 4, pos := "ref.go:113", after := #[{ on := 12, ground := Go.Ground.data }, { on := 19, ground := Go.Ground.data }], guard := none }) (v := ?_) rfl (by kernel_rfl) (by kernel_rfl) (by kernel_rfl) (by kernel_rfl) (fun _ _ _ h => h) (Or.inl ⟨by rfl, ?_⟩) hHeld ?_
          rotate_left 1
          · (intro w hSw; have f0 := F0 w hSw; have f1 := F1 w hSw; have f2 := F2 w hSw; have f3 := F3 w hSw; go_simp; first | done | with_reducible rfl)
          try simp only [Act.put, List.setIfInBounds_toArray, List.set_cons_zero, List.set_cons_succ]
          refine Bz.wpAnyE_take (i := 21) (oi := { dst := some 28, op := Go.Op.move (Go.Operand.tmp 27), type := 4, pos := "ref.go:113", after := #[{ on := 20, ground := Go.Ground.data }, { on := 12, ground := Go.Ground.chain }], guard := none }) (v := ?_) rfl (by kernel_rfl) (by kernel_rfl) (by kernel_rfl) (by kernel_rfl) (fun _ _ _ h => h) (Or.inl ⟨by rfl, ?_⟩) hHeld ?_
          rotate_left 1
          · (intro w hSw; have f0 := F0 w hSw; have f1 := F1 w hSw; have f2 := F2 w hSw; have f3 := F3 w hSw; go_simp; first | done | with_reducible rfl)
          try simp only [Act.put, List.setIfInBounds_toArray, List.set_cons_zero, List.set_cons_succ]
          refine Bz.wpAnyE_take (i := 22) (oi := { dst := some 29, op := Go.Op.fieldAddr 42 (Go.Operand.tmp 2) 1, type := 0, pos := "ref.go:113", after := #[{ on := 21, ground := Go.Ground.guard }], guard := some (21, false) }) (v := ?_) rfl (by kernel_rfl) (by kernel_rfl) (by kernel_rfl) (by kernel_rfl) (fun _ _ _ h => h) (Or.inl ⟨by rfl, ?_⟩) hHeld ?_
          rotate_left 1
          · (intro w hSw; have f0 := F0 w hSw; have f1 := F1 w hSw; have f2 := F2 w hSw; have f3 := F3 w hSw; go_simp; first | done | with_reducible rfl)
          try simp only [Act.put, List.setIfInBounds_toArray, List.set_cons_zero, List.set_cons_succ]
          refine Bz.wpAnyE_take (i := 23) (oi := { dst := some 30, op := Go.Op.load 40 (Go.Operand.tmp 29), type := 40, pos := "ref.go:113", after := #[{ on := 22, ground := Go.Ground.data }, { on := 21, ground := Go.Ground.guard }], guard := some (21, false) }) (v := ?_) rfl (by kernel_rfl) (by kernel_rfl) (by kernel_rfl) (by kernel_rfl) (fun _ _ _ h => h) (Or.inl ⟨by rfl, ?_⟩) hHeld ?_
          rotate_left 1
          · (intro w hSw; have f0 := F0 w hSw; have f1 := F1 w hSw; have f2 := F2 w hSw; have f3 := F3 w hSw; go_simp; first | done | with_reducible rfl)
          try simp only [Act.put, List.setIfInBounds_toArray, List.set_cons_zero, List.set_cons_succ]
          refine Bz.wpAnyE_take (i := 24) (oi := { dst := some 31, op := Go.Op.indexAddr 40 (Go.Operand.tmp 30) (Go.Operand.const (Go.Value.int Go.IntKind.i64 0)), type := 0, pos := "ref.go:113", after := #[{ on := 23, ground := Go.Ground.data }, { on := 21, ground := Go.Ground.guard }], guard := some (21, false) }) (v := ?_) rfl (by kernel_rfl) (by kernel_rfl) (by kernel_rfl) (by kernel_rfl) (fun _ _ _ h => h) (Or.inl ⟨by rfl, ?_⟩) hHeld ?_
          rotate_left 1
          · (intro w hSw; have f0 := F0 w hSw; have f1 := F1 w hSw; have f2 := F2 w hSw; have f3 := F3 w hSw; go_simp; first | done | with_reducible rfl)
          try simp only [Act.put, List.setIfInBounds_toArray, List.set_cons_zero, List.set_cons_succ]
          refine Bz.wpAnyE_take (i := 25) (oi := { dst := some 32, op := Go.Op.fieldAddr 57 (Go.Operand.tmp 31) 0, type := 0, pos := "ref.go:113", after := #[{ on := 24, ground := Go.Ground.data }, { on := 21, ground := Go.Ground.guard }], guard := some (21, false) }) (v := ?_) rfl (by kernel_rfl) (by kernel_rfl) (by kernel_rfl) (by kernel_rfl) (fun _ _ _ h => h) (Or.inl ⟨by rfl, ?_⟩) hHeld ?_
          rotate_left 1
          · (intro w hSw; have f0 := F0 w hSw; have f1 := F1 w hSw; have f2 := F2 w hSw; have f3 := F3 w hSw; go_simp; first | done | with_reducible rfl)
          try simp only [Act.put, List.setIfInBounds_toArray, List.set_cons_zero, List.set_cons_succ]
          refine Bz.wpAnyE_take (i := 26) (oi := { dst := some 33, op := Go.Op.load 28 (Go.Operand.tmp 32), type := 28, pos := "ref.go:113", after := #[{ on := 25, ground := Go.Ground.data }, { on := 21, ground := Go.Ground.guard }], guard := some (21, false) }) (v := ?_) rfl (by kernel_rfl) (by kernel_rfl) (by kernel_rfl) (by kernel_rfl) (fun _ _ _ h => h) (Or.inl ⟨by rfl, ?_⟩) hHeld ?_
          rotate_left 1
          · (intro w hSw; have f0 := F0 w hSw; have f1 := F1 w hSw; have f2 := F2 w hSw; have f3 := F3 w hSw; go_simp; first | done | with_reducible rfl)
          try simp only [Act.put, List.setIfInBounds_toArray, List.set_cons_zero, List.set_cons_succ]
          refine Bz.wpAnyE_take (i := 27) (oi := { dst := some 34, op := Go.Op.fieldAddr 42 (Go.Operand.tmp 3) 1, type := 0, pos := "ref.go:113", after := #[{ on := 21, ground := Go.Ground.guard }], guard := some (21, false) }) (v := ?_) rfl (by kernel_rfl) (by kernel_rfl) (by kernel_rfl) (by kernel_rfl) (fun _ _ _ h => h) (Or.inl ⟨by rfl, ?_⟩) hHeld ?_
          rotate_left 1
          · (intro w hSw; have f0 := F0 w hSw; have f1 := F1 w hSw; have f2 := F2 w hSw; have f3 := F3 w hSw; go_simp; first | done | with_reducible rfl)
          try simp only [Act.put, List.setIfInBounds_toArray, List.set_cons_zero, List.set_cons_succ]
          refine Bz.wpAnyE_take (i := 28) (oi := { dst := some 35, op := Go.Op.load 40 (Go.Operand.tmp 34), type := 40, pos := "ref.go:113", after := #[{ on := 27, ground := Go.Ground.data }, { on := 21, ground := Go.Ground.guard }], guard := some (21, false) }) (v := ?_) rfl (by kernel_rfl) (by kernel_rfl) (by kernel_rfl) (by kernel_rfl) (fun _ _ _ h => h) (Or.inl ⟨by rfl, ?_⟩) hHeld ?_
          rotate_left 1
          · (intro w hSw; have f0 := F0 w hSw; have f1 := F1 w hSw; have f2 := F2 w hSw; have f3 := F3 w hSw; go_simp; first | done | with_reducible rfl)
          try simp only [Act.put, List.setIfInBounds_toArray, List.set_cons_zero, List.set_cons_succ]
          refine Bz.wpAnyE_take (i := 29) (oi := { dst := some 36, op := Go.Op.indexAddr 40 (Go.Operand.tmp 35) (Go.Operand.const (Go.Value.int Go.IntKind.i64 0)), type := 0, pos := "ref.go:113", after := #[{ on := 28, ground := Go.Ground.data }, { on := 21, ground := Go.Ground.guard }], guard := some (21, false) }) (v := ?_) rfl (by kernel_rfl) (by kernel_rfl) (by kernel_rfl) (by kernel_rfl) (fun _ _ _ h => h) (Or.inl ⟨by rfl, ?_⟩) hHeld ?_
          rotate_left 1
          · (intro w hSw; have f0 := F0 w hSw; have f1 := F1 w hSw; have f2 := F2 w hSw; have f3 := F3 w hSw; go_simp; first | done | with_reducible rfl)
          try simp only [Act.put, List.setIfInBounds_toArray, List.set_cons_zero, List.set_cons_succ]
          refine Bz.wpAnyE_take (i := 30) (oi := { dst := some 37, op := Go.Op.fieldAddr 57 (Go.Operand.tmp 36) 0, type := 0, pos := "ref.go:113", after := #[{ on := 29, ground := Go.Ground.data }, { on := 21, ground := Go.Ground.guard }], guard := some (21, false) }) (v := ?_) rfl (by kernel_rfl) (by kernel_rfl) (by kernel_rfl) (by kernel_rfl) (fun _ _ _ h => h) (Or.inl ⟨by rfl, ?_⟩) hHeld ?_
          rotate_left 1
          · (intro w hSw; have f0 := F0 w hSw; have f1 := F1 w hSw; have f2 := F2 w hSw; have f3 := F3 w hSw; go_simp; first | done | with_reducible rfl)
          try simp only [Act.put, List.setIfInBounds_toArray, List.set_cons_zero, List.set_cons_succ]
          refine Bz.wpAnyE_take (i := 31) (oi := { dst := some 38, op := Go.Op.load 28 (Go.Operand.tmp 37), type := 28, pos := "ref.go:113", after := #[{ on := 30, ground := Go.Ground.data }, { on := 21, ground := Go.Ground.guard }], guard := some (21, false) }) (v := ?_) rfl (by kernel_rfl) (by kernel_rfl) (by kernel_rfl) (by kernel_rfl) (fun _ _ _ h => h) (Or.inl ⟨by rfl, ?_⟩) hHeld ?_
          rotate_left 1
          · (intro w hSw; have f0 := F0 w hSw; have f1 := F1 w hSw; have f2 := F2 w hSw; have f3 := F3 w hSw; go_simp; first | done | with_reducible rfl)
          try simp only [Act.put, List.setIfInBounds_toArray, List.set_cons_zero, List.set_cons_succ]
          refine Bz.wpAnyE_take (i := 32) (oi := { dst := some 39, op := Go.Op.binOp Go.BinOp.neq 28 (Go.Operand.tmp 33) (Go.Operand.tmp 38) 28, type := 4, pos := "ref.go:113", after := #[{ on := 26, ground := Go.Ground.data }, { on := 31, ground := Go.Ground.data }, { on := 21, ground := Go.Ground.guard }], guard := some (21, false) }) (v := ?_) rfl (by kernel_rfl) (by kernel_rfl) (by kernel_rfl) (by kernel_rfl) (fun _ _ _ h => h) (Or.inl ⟨by rfl, ?_⟩) hHeld ?_
          rotate_left 1
          · (intro w hSw; have f0 := F0 w hSw; have f1 := F1 w hSw; have f2 := F2 w hSw; have f3 := F3 w hSw; go_simp; first | done | with_reducible rfl)
          try simp only [Act.put, List.setIfInBounds_toArray, List.set_cons_zero, List.set_cons_succ]
          refine Bz.wpAnyE_take (i := 33) (oi := { dst := some 40, op := Go.Op.pick (Go.Operand.tmp 28) (Go.Operand.const (Go.Value.bool true)) (Go.Operand.tmp 39), type := 4, pos := "ref.go:113", after := #[{ on := 21, ground := Go.Ground.data }, { on := 32, ground := Go.Ground.data }], guard := none }) (v := ?_) rfl (by kernel_rfl) (by kernel_rfl) (by kernel_rfl) (by kernel_rfl) (fun _ _ _ h => h) (Or.inl ⟨by rfl, ?_⟩) hHeld ?_
          rotate_left 1
          · (intro w hSw; have f0 := F0 w hSw; have f1 := F1 w hSw; have f2 := F2 w hSw; have f3 := F3 w hSw; go_simp; first | done | with_reducible rfl)
          try simp only [Act.put, List.setIfInBounds_toArray, List.set_cons_zero, List.set_cons_succ]
          refine Bz.wpAnyE_done (by kernel_rfl) ?_ _
          refine NoPanic.normal ?_
          
          clear hHeld
          go_wp2_with fail
          go_ret
          exact ⟨by rw [HR.out]; rfl, hKw.drew⟩
      · have q3 : ((T.rt.l.length : Int) != (U.rt.l.length : Int)) = true := by simp; omega
        have HR : Hid (T.alike U = false) := Lib.hid (by
          unfold FT.alike
          have a : ¬ T.bl.length = U.bl.length := by omega
          simp [a])
        clear e1 e2 e3 hlT hlU
        go_enter Try.func31, Try.ntmps31
        go_wp2_with fail
        rw [← hw0]
        refine wp_region_noPanic ?_
        refine Bz.wp_region_E (S := (fun w' => Keep [] w0 w')) (E := []) (by kernel_rfl) (by exact (Keep.refl _ _).drew) (fun hHeld => ?_)
        refine Bz.wpAnyE_take (i := 0) (oi := { dst := some 7, op := Go.Op.fieldAddr 42 (Go.Operand.tmp 2) 0, type := 0, pos := "ref.go:113", after := #[], guard := none }) (v := ?_) rfl (by kernel_rfl) (by kernel_rfl) (by kernel_rfl) (by kernel_rfl) (fun _ _ _ h => h) (Or.inl ⟨by rfl, ?_⟩) hHeld ?_
        rotate_left 1
        · (intro w hSw; have f0 := F0 w hSw; have f1 := F1 w hSw; have f2 := F2 w hSw; have f3 := F3 w hSw; go_simp; first | done | with_reducible rfl)
        try simp only [Act.put, List.setIfInBounds_toArray, List.set_cons_zero, List.set_cons_succ]
        refine Bz.wpAnyE_take (i := 1) (oi := { dst := some 8, op := Go.Op.load 3 (Go.Operand.tmp 7), type := 3, pos := "ref.go:113", after := #[{ on := 0, ground := Go.Ground.data }], guard := none }) (v := ?_) rfl (by kernel_rfl) (by kernel_rfl) (by kernel_rfl) (by kernel_rfl) (fun _ _ _ h => h) (Or.inl ⟨by rfl, ?_⟩) hHeld ?_
        rotate_left 1
        · (intro w hSw; have f0 := F0 w hSw; have f1 := F1 w hSw; have f2 := F2 w hSw; have f3 := F3 w hSw; go_simp; first | done | with_reducible rfl)
        try simp only [Act.put, List.setIfInBounds_toArray, List.set_cons_zero, List.set_cons_succ]
        refine Bz.wpAnyE_take (i := 2) (oi := { dst := some 9, op := Go.Op.fieldAddr 42 (Go.Operand.tmp 3) 0, type := 0, pos := "ref.go:113", after := #[], guard := none }) (v := ?_) rfl (by kernel_rfl) (by kernel_rfl) (by kernel_rfl) (by kernel_rfl) (fun _ _ _ h => h) (Or.inl ⟨by rfl, ?_⟩) hHeld ?_
        rotate_left 1
        · (intro w hSw; have f0 := F0 w hSw; have f1 := F1 w hSw; have f2 := F2 w hSw; have f3 := F3 w hSw; go_simp; first | done | with_reducible rfl)
        try simp only [Act.put, List.setIfInBounds_toArray, List.set_cons_zero, List.set_cons_succ]
        refine Bz.wpAnyE_take (i := 3) (oi := { dst := some 10, op := Go.Op.load 3 (Go.Operand.tmp 9), type := 3, pos := "ref.go:113", after := #[{ on := 2, ground := Go.Ground.data }], guard := none }) (v := ?_) rfl (by kernel_rfl) (by kernel_rfl) (by kernel_rfl) (by kernel_rfl) (fun _ _ _ h => h) (Or.inl ⟨by rfl, ?_⟩) hHeld ?_
        rotate_left 1
        · (intro w hSw; have f0 := F0 w hSw; have f1 := F1 w hSw; have f2 := F2 w hSw; have f3 := F3 w hSw; go_simp; first | done | with_reducible rfl)
        try simp only [Act.put, List.setIfInBounds_toArray, List.set_cons_zero, List.set_cons_succ]
        refine Bz.wpAnyE_take (i := 4) (oi := { dst := some 11, op := Go.Op.binOp Go.BinOp.neq 3 (Go.Operand.tmp 8) (Go.Operand.tmp 10) 3, type := 4, pos := "ref.go:113", after := #[{ on := 1, ground := Go.Ground.data }, { on := 3, ground := Go.Ground.data }], guard := none }) (v := ?_) rfl (by kernel_rfl) (by kernel_rfl) (by kernel_rfl) (by kernel_rfl) (fun _ _ _ h => h) (Or.inl ⟨by rfl, ?_⟩) hHeld ?_
        rotate_left 1
        · (intro w hSw; have f0 := F0 w hSw; have f1 := F1 w hSw; have f2 := F2 w hSw; have f3 := F3 w hSw; go_simp; first | done | with_reducible rfl)
        try simp only [Act.put, List.setIfInBounds_toArray, List.set_cons_zero, List.set_cons_succ]
        refine Bz.wpAnyE_take (i := 5) (oi := { dst := some 12, op := Go.Op.move (Go.Operand.tmp 11), type := 4, pos := "ref.go:113", after := #[{ on := 4, ground := Go.Ground.data }], guard := none }) (v := ?_) rfl (by kernel_rfl) (by kernel_rfl) (by kernel_rfl) (by kernel_rfl) (fun _ _ _ h => h) (Or.inl ⟨by rfl, ?_⟩) hHeld ?_
        rotate_left 1
        · (intro w hSw; have f0 := F0 w hSw; have f1 := F1 w hSw; have f2 := F2 w hSw; have f3 := F3 w hSw; go_simp; first | done | with_reducible rfl)
        try simp only [Act.put, List.setIfInBounds_toArray, List.set_cons_zero, List.set_cons_succ]
        refine Bz.wpAnyE_take (i := 6) (oi := { dst := some 13, op := Go.Op.fieldAddr 42 (Go.Operand.tmp 2) 2, type := 0, pos := "ref.go:113", after := #[{ on := 5, ground := Go.Ground.guard }], guard := some (5, false) }) (v := ?_) rfl (by kernel_rfl) (by kernel_rfl) (by kernel_rfl) (by kernel_rfl) (fun _ _ _ h => h) (Or.inl ⟨by rfl, ?_⟩) hHeld ?_
        rotate_left 1
        · (intro w hSw; have f0 := F0 w hSw; have f1 := F1 w hSw; have f2 := F2 w hSw; have f3 := F3 w hSw; go_simp; first | done | with_reducible rfl)
        try simp only [Act.put, List.setIfInBounds_toArray, List.set_cons_zero, List.set_cons_succ]
        refine Bz.wpAnyE_take (i := 7) (oi := { dst := some 14, op := Go.Op.load 28 (Go.Operand.tmp 13), type := 28, pos := "ref.go:113", after := #[{ on := 6, ground := Go.Ground.data }, { on := 5, ground := Go.Ground.guard }], guard := some (5, false) }) (v := ?_) rfl (by kernel_rfl) (by kernel_rfl) (by kernel_rfl) (by kernel_rfl) (fun _ _ _ h => h) (Or.inl ⟨by rfl, ?_⟩) hHeld ?_
        rotate_left 1
        · (intro w hSw; have f0 := F0 w hSw; have f1 := F1 w hSw; have f2 := F2 w hSw; have f3 := F3 w hSw; go_simp; first | done | with_reducible rfl)
        try simp only [Act.put, List.setIfInBounds_toArray, List.set_cons_zero, List.set_cons_succ]
        refine Bz.wpAnyE_take (i := 8) (oi := { dst := some 15, op := Go.Op.fieldAddr 42 (Go.Operand.tmp 3) 2, type := 0, pos := "ref.go:113", after := #[{ on := 5, ground := Go.Ground.guard }], guard := some (5, false) }) (v := ?_) rfl (by kernel_rfl) (by kernel_rfl) (by kernel_rfl) (by kernel_rfl) (fun _ _ _ h => h) (Or.inl ⟨by rfl, ?_⟩) hHeld ?_
        rotate_left 1
        · (intro w hSw; have f0 := F0 w hSw; have f1 := F1 w hSw; have f2 := F2 w hSw; have f3 := F3 w hSw; go_simp; first | done | with_reducible rfl)
        try simp only [Act.put, List.setIfInBounds_toArray, List.set_cons_zero, List.set_cons_succ]
        refine Bz.wpAnyE_take (i := 9) (oi := { dst := some 16, op := Go.Op.load 28 (Go.Operand.tmp 15), type := 28, pos := "ref.go:113", after := #[{ on := 8, ground := Go.Ground.data }, { on := 5, ground := Go.Ground.guard }], guard := some (5, false) }) (v := ?_) rfl (by kernel_rfl) (by kernel_rfl) (by kernel_rfl) (by kernel_rfl) (fun _ _ _ h => h) (Or.inl ⟨by rfl, ?_⟩) hHeld ?_
        rotate_left 1
        · (intro w hSw; have f0 := F0 w hSw; have f1 := F1 w hSw; have f2 := F2 w hSw; have f3 := F3 w hSw; go_simp; first | done | with_reducible rfl)
        try simp only [Act.put, List.setIfInBounds_toArray, List.set_cons_zero, List.set_cons_succ]
        refine Bz.wpAnyE_take (i := 10) (oi := { dst := some 17, op := Go.Op.binOp Go.BinOp.neq 28 (Go.Operand.tmp 14) (Go.Operand.tmp 16) 28, type := 4, pos := "ref.go:113", after := #[{ on := 7, ground := Go.Ground.data }, { on := 9, ground := Go.Ground.data }, { on := 5, ground := Go.Ground.guard }], guard := some (5, false) }) (v := ?_) rfl (by kernel_rfl) (by kernel_rfl) (by kernel_rfl) (by kernel_rfl) (fun _ _ _ h => h) (Or.inl ⟨by rfl, ?_⟩) hHeld ?_
        rotate_left 1
        · (intro w hSw; have f0 := F0 w hSw; have f1 := F1 w hSw; have f2 := F2 w hSw; have f3 := F3 w hSw; go_simp; first | done | with_reducible rfl)
        try simp only [Act.put, List.setIfInBounds_toArray, List.set_cons_zero, List.set_cons_succ]
        refine Bz.wpAnyE_take (i := 11) (oi := { dst := some 18, op := Go.Op.pick (Go.Operand.tmp 12) (Go.Operand.const (Go.Value.bool true)) (Go.Operand.tmp 17), type := 4, pos := "ref.go:113", after := #[{ on := 5, ground := Go.Ground.data }, { on := 10, ground := Go.Ground.data }], guard := none }) (v := ?_) rfl (by kernel_rfl) (by kernel_rfl) (by kernel_rfl) (by kernel_rfl) (fun _ _ _ h => h) (Or.inl ⟨by rfl, ?_⟩) hHeld ?_
        rotate_left 1
        · (intro w hSw; have f0 := F0 w hSw; have f1 := F1 w hSw; have f2 := F2 w hSw; have f3 := F3 w hSw; go_simp; first | done | with_reducible rfl)
        try simp only [Act.put, List.setIfInBounds_toArray, List.set_cons_zero, List.set_cons_succ]
        refine Bz.wpAnyE_take (i := 12) (oi := { dst := some 19, op := Go.Op.move (Go.Operand.tmp 18), type := 4, pos := "ref.go:113", after := #[{ on := 11, ground := Go.Ground.data }, { on := 5, ground := Go.Ground.chain }], guard := none }) (v := ?_) rfl (by kernel_rfl) (by kernel_rfl) (by kernel_rfl) (by kernel_rfl) (fun _ _ _ h => h) (Or.inl ⟨by rfl, ?_⟩) hHeld ?_
        rotate_left 1
        · (intro w hSw; have f0 := F0 w hSw; have f1 := F1 w hSw; have f2 := F2 w hSw; have f3 := F3 w hSw; go_simp; first | done | with_reducible rfl)
        try simp only [Act.put, List.setIfInBounds_toArray, List.set_cons_zero, List.set_cons_succ]
        refine Bz.wpAnyE_take (i := 13) (oi := { dst := some 20, op := Go.Op.fieldAddr 42 (Go.Operand.tmp 2) 1, type := 0, pos := "ref.go:113", after := #[{ on := 12, ground := Go.Ground.guard }], guard := some (12, false) }) (v := ?_) rfl (by kernel_rfl) (by kernel_rfl) (by kernel_rfl) (by kernel_rfl) (fun _ _ _ h => h) (Or.inl ⟨by rfl, ?_⟩) hHeld ?_
        rotate_left 1
        · (intro w hSw; have f0 := F0 w hSw; have f1 := F1 w hSw; have f2 := F2 w hSw; have f3 := F3 w hSw; go_simp; first | done | with_reducible rfl)
        try simp only [Act.put, List.setIfInBounds_toArray, List.set_cons_zero, List.set_cons_succ]
        refine Bz.wpAnyE_take (i := 14) (oi := { dst := some 21, op := Go.Op.load 40 (Go.Operand.tmp 20), type := 40, pos := "ref.go:113", after := #[{ on := 13, ground := Go.Ground.data }, { on := 12, ground := Go.Ground.guard }], guard := some (12, false) }) (v := ?_) rfl (by kernel_rfl) (by kernel_rfl) (by kernel_rfl) (by kernel_rfl) (fun _ _ _ h => h) (Or.inl ⟨by rfl, ?_⟩) hHeld ?_
        rotate_left 1
        · (intro w hSw; have f0 := F0 w hSw; have f1 := F1 w hSw; have f2 := F2 w hSw; have f3 := F3 w hSw; go_simp; first | done | with_reducible rfl)
        try simp only [Act.put, List.setIfInBounds_toArray, List.set_cons_zero, List.set_cons_succ]
        refine Bz.wpAnyE_take (i := 15) (oi := { dst := some 22, op := Go.Op.call { callee := Go.Callee.builtin Go.Builtin.len, args := #[Go.Operand.tmp 21], argTypes := #[40] }, type := 3, pos := "ref.go:113", after := #[{ on := 14, ground := Go.Ground.data }, { on := 12, ground := Go.Ground.guard }], guard := some (12, false) }) (v := ?_) rfl (by kernel_rfl) (by kernel_rfl) (by kernel_rfl) (by kernel_rfl) (fun _ _ _ h => h) (Or.inl ⟨by rfl, ?_⟩) hHeld ?_
        rotate_left 1
        · (intro w hSw; have f0 := F0 w hSw; have f1 := F1 w hSw; have f2 := F2 w hSw; have f3 := F3 w hSw; go_simp; first | done | with_reducible rfl)
        try simp only [Act.put, List.setIfInBounds_toArray, List.set_cons_zero, List.set_cons_succ]
        refine Bz.wpAnyE_take (i := 16) (oi := { dst := some 23, op := Go.Op.fieldAddr 42 (Go.Operand.tmp 3) 1, type := 0, pos := "ref.go:113", after := #[{ on := 12, ground := Go.Ground.guard }], guard := some (12, false) }) (v := ?_) rfl (by kernel_rfl) (by kernel_rfl) (by kernel_rfl) (by kernel_rfl) (fun _ _ _ h => h) (Or.inl ⟨by rfl, ?_⟩) hHeld ?_
        rotate_left 1
        · (intro w hSw; have f0 := F0 w hSw; have f1 := F1 w hSw; have f2 := F2 w hSw; have f3 := F3 w hSw; go_simp; first | done | with_reducible rfl)
        try simp only [Act.put, List.setIfInBounds_toArray, List.set_cons_zero, List.set_cons_succ]
        refine Bz.wpAnyE_take (i := 17) (oi := { dst := some 24, op := Go.Op.load 40 (Go.Operand.tmp 23), type := 40, pos := "ref.go:113", after := #[{ on := 16, ground := Go.Ground.data }, { on := 12, ground := Go.Ground.guard }], guard := some (12, false) }) (v := ?_) rfl (by kernel_rfl) (by kernel_rfl) (by kernel_rfl) (by kernel_rfl) (fun _ _ _ h => h) (Or.inl ⟨by rfl, ?_⟩) hHeld ?_
        rotate_left 1
        · (intro w hSw; have f0 := F0 w hSw; have f1 := F1 w hSw; have f2 := F2 w hSw; have f3 := F3 w hSw; go_simp; first | done | with_reducible rfl)
        try simp only [Act.put, List.setIfInBounds_toArray, List.set_cons_zero, List.set_cons_succ]
        refine Bz.wpAnyE_take (i := 18) (oi := { dst := some 25, op := Go.Op.call { callee := Go.Callee.builtin Go.Builtin.len, args := #[Go.Operand.tmp 24], argTypes := #[40] }, type := 3, pos := "ref.go:113", after := #[{ on := 17, ground := Go.Ground.data }, { on := 12, ground := Go.Ground.guard }], guard := some (12, false) }) (v := ?_) rfl (by kernel_rfl) (by kernel_rfl) (by kernel_rfl) (by kernel_rfl) (fun _ _ _ h => h) (Or.inl ⟨by rfl, ?_⟩) hHeld ?_
        rotate_left 1
        · (intro w hSw; have f0 := F0 w hSw; have f1 := F1 w hSw; have f2 := F2 w hSw; have f3 := F3 w hSw; go_simp; first | done | with_reducible rfl)
        try simp only [Act.put, List.setIfInBounds_toArray, List.set_cons_zero, List.set_cons_succ]
        refine Bz.wpAnyE_take (i := 19) (oi := { dst := some 26, op := Go.Op.binOp Go.BinOp.neq 3 (Go.Operand.tmp 22) (Go.Operand.tmp 25) 3, type := 4, pos := "ref.go:113", after := #[{ on := 15, ground := Go.Ground.data }, { on := 18, ground := Go.Ground.data }, { on := 12, ground := Go.Ground.guard }], guard := some (12, false) }) (v := ?_) rfl (by kernel_rfl) (by kernel_rfl) (by kernel_rfl) (by kernel_rfl) (fun _ _ _ h => h) (Or.inl ⟨by rfl, ?_⟩) hHeld ?_
        rotate_left 1
        · (intro w hSw; have f0 := F0 w hSw; have f1 := F1 w hSw; have f2 := F2 w hSw; have f3 := F3 w hSw; go_simp; first | done | with_reducible rfl)
        try simp only [Act.put, List.setIfInBounds_toArray, List.set_cons_zero, List.set_cons_succ]
        refine Bz.wpAnyE_take (i := 20) (oi := { dst := some 27, op := Go.Op.pick (Go.Operand.tmp 19) (Go.Operand.const (Go.Value.bool true)) (Go.Operand.tmp 26), type := 4, pos := "ref.go:113", after := #[{ on := 12, ground := Go.Ground.data }, { on := 19, ground := Go.Ground.data }], guard := none }) (v := ?_) rfl (by kernel_rfl) (by kernel_rfl) (by kernel_rfl) (by kernel_rfl) (fun _ _ _ h => h) (Or.inl ⟨by rfl, ?_⟩) hHeld ?_
        rotate_left 1
        · (intro w hSw; have f0 := F0 w hSw; have f1 := F1 w hSw; have f2 := F2 w hSw; have f3 := F3 w hSw; go_simp; first | done | with_reducible rfl)
        try simp only [Act.put, List.setIfInBounds_toArray, List.set_cons_zero, List.set_cons_succ]
        refine Bz.wpAnyE_take (i := 21) (oi := { dst := some 28, op := Go.Op.move (Go.Operand.tmp 27), type := 4, pos := "ref.go:113", after := #[{ on := 20, ground := Go.Ground.data }, { on := 12, ground := Go.Ground.chain }], guard := none }) (v := ?_) rfl (by kernel_rfl) (by kernel_rfl) (by kernel_rfl) (by kernel_rfl) (fun _ _ _ h => h) (Or.inl ⟨by rfl, ?_⟩) hHeld ?_
        rotate_left 1
        · (intro w hSw; have f0 := F0 w hSw; have f1 := F1 w hSw; have f2 := F2 w hSw; have f3 := F3 w hSw; go_simp; first | done | with_reducible rfl)
        try simp only [Act.put, List.setIfInBounds_toArray, List.set_cons_zero, List.set_cons_succ]
        refine Bz.wpAnyE_take (i := 22) (oi := { dst := some 29, op := Go.Op.fieldAddr 42 (Go.Operand.tmp 2) 1, type := 0, pos := "ref.go:113", after := #[{ on := 21, ground := Go.Ground.guard }], guard := some (21, false) }) (v := undef) rfl (by kernel_rfl) (by kernel_rfl) (by kernel_rfl) (by kernel_rfl) (fun _ _ _ h => h) (Or.inr ⟨by rfl, rfl⟩) hHeld ?_
        try simp only [Act.put, List.setIfInBounds_toArray, List.set_cons_zero, List.set_cons_succ]
        refine Bz.wpAnyE_take (i := 23) (oi := { dst := some 30, op := Go.Op.load 40 (Go.Operand.tmp 29), type := 40, pos := "ref.go:113", after := #[{ on := 22, ground := Go.Ground.data }, { on := 21, ground := Go.Ground.guard }], guard := some (21, false) }) (v := undef) rfl (by kernel_rfl) (by kernel_rfl) (by kernel_rfl) (by kernel_rfl) (fun _ _ _ h => h) (Or.inr ⟨by rfl, rfl⟩) hHeld ?_
        try simp only [Act.put, List.setIfInBounds_toArray, List.set_cons_zero, List.set_cons_succ]
        refine Bz.wpAnyE_take (i := 24) (oi := { dst := some 31, op := Go.Op.indexAddr 40 (Go.Operand.tmp 30) (Go.Operand.const (Go.Value.int Go.IntKind.i64 0)), type := 0, pos := "ref.go:113", after := #[{ on := 23, ground := Go.Ground.data }, { on := 21, ground := Go.Ground.guard }], guard := some (21, false) }) (v := undef) rfl (by kernel_rfl) (by kernel_rfl) (by kernel_rfl) (by kernel_rfl) (fun _ _ _ h => h) (Or.inr ⟨by rfl, rfl⟩) hHeld ?_
        try simp only [Act.put, List.setIfInBounds_toArray, List.set_cons_zero, List.set_cons_succ]
        refine Bz.wpAnyE_take (i := 25) (oi := { dst := some 32, op := Go.Op.fieldAddr 57 (Go.Operand.tmp 31) 0, type := 0, pos := "ref.go:113", after := #[{ on := 24, ground := Go.Ground.data }, { on := 21, ground := Go.Ground.guard }], guard := some (21, false) }) (v := undef) rfl (by kernel_rfl) (by kernel_rfl) (by kernel_rfl) (by kernel_rfl) (fun _ _ _ h => h) (Or.inr ⟨by rfl, rfl⟩) hHeld ?_
        try simp only [Act.put, List.setIfInBounds_toArray, List.set_cons_zero, List.set_cons_succ]
        refine Bz.wpAnyE_take (i := 26) (oi := { dst := some 33, op := Go.Op.load 28 (Go.Operand.tmp 32), type := 28, pos := "ref.go:113", after := #[{ on := 25, ground := Go.Ground.data }, { on := 21, ground := Go.Ground.guard }], guard := some (21, false) }) (v := undef) rfl (by kernel_rfl) (by kernel_rfl) (by kernel_rfl) (by kernel_rfl) (fun _ _ _ h => h) (Or.inr ⟨by rfl, rfl⟩) hHeld ?_
        try simp only [Act.put, List.setIfInBounds_toArray, List.set_cons_zero, List.set_cons_succ]
        refine Bz.wpAnyE_take (i := 27) (oi := { dst := some 34, op := Go.Op.fieldAddr 42 (Go.Operand.tmp 3) 1, type := 0, pos := "ref.go:113", after := #[{ on := 21, ground := Go.Ground.guard }], guard := some (21, false) }) (v := undef) rfl (by kernel_rfl) (by kernel_rfl) (by kernel_rfl) (by kernel_rfl) (fun _ _ _ h => h) (Or.inr ⟨by rfl, rfl⟩) hHeld ?_
        try simp only [Act.put, List.setIfInBounds_toArray, List.set_cons_zero, List.set_cons_succ]
        refine Bz.wpAnyE_take (i := 28) (oi := { dst := some 35, op := Go.Op.load 40 (Go.Operand.tmp 34), type := 40, pos := "ref.go:113", after := #[{ on := 27, ground := Go.Ground.data }, { on := 21, ground := Go.Ground.guard }], guard := some (21, false) }) (v := undef) rfl (by kernel_rfl) (by kernel_rfl) (by kernel_rfl) (by kernel_rfl) (fun _ _ _ h => h) (Or.inr ⟨by rfl, rfl⟩) hHeld ?_
        try simp only [Act.put, List.setIfInBounds_toArray, List.set_cons_zero, List.set_cons_succ]
        refine Bz.wpAnyE_take (i := 29) (oi := { dst := some 36, op := Go.Op.indexAddr 40 (Go.Operand.tmp 35) (Go.Operand.const (Go.Value.int Go.IntKind.i64 0)), type := 0, pos := "ref.go:113", after := #[{ on := 28, ground := Go.Ground.data }, { on := 21, ground := Go.Ground.guard }], guard := some (21, false) }) (v := undef) rfl (by kernel_rfl) (by kernel_rfl) (by kernel_rfl) (by kernel_rfl) (fun _ _ _ h => h) (Or.inr ⟨by rfl, rfl⟩) hHeld ?_
        try simp only [Act.put, List.setIfInBounds_toArray, List.set_cons_zero, List.set_cons_succ]
        refine Bz.wpAnyE_take (i := 30) (oi := { dst := some 37, op := Go.Op.fieldAddr 57 (Go.Operand.tmp 36) 0, type := 0, pos := "ref.go:113", after := #[{ on := 29, ground := Go.Ground.data }, { on := 21, ground := Go.Ground.guard }], guard := some (21, false) }) (v := undef) rfl (by kernel_rfl) (by kernel_rfl) (by kernel_rfl) (by kernel_rfl) (fun _ _ _ h => h) (Or.inr ⟨by rfl, rfl⟩) hHeld ?_
        try simp only [Act.put, List.setIfInBounds_toArray, List.set_cons_zero, List.set_cons_succ]
        refine Bz.wpAnyE_take (i := 31) (oi := { dst := some 38, op := Go.Op.load 28 (Go.Operand.tmp 37), type := 28, pos := "ref.go:113", after := #[{ on := 30, ground := Go.Ground.data }, { on := 21, ground := Go.Ground.guard }], guard := some (21, false) }) (v := undef) rfl (by kernel_rfl) (by kernel_rfl) (by kernel_rfl) (by kernel_rfl) (fun _ _ _ h => h) (Or.inr ⟨by rfl, rfl⟩) hHeld ?_
        try simp only [Act.put, List.setIfInBounds_toArray, List.set_cons_zero, List.set_cons_succ]
        refine Bz.wpAnyE_take (i := 32) (oi := { dst := some 39, op := Go.Op.binOp Go.BinOp.neq 28 (Go.Operand.tmp 33) (Go.Operand.tmp 38) 28, type := 4, pos := "ref.go:113", after := #[{ on := 26, ground := Go.Ground.data }, { on := 31, ground := Go.Ground.data }, { on := 21, ground := Go.Ground.guard }], guard := some (21, false) }) (v := undef) rfl (by kernel_rfl) (by kernel_rfl) (by kernel_rfl) (by kernel_rfl) (fun _ _ _ h => h) (Or.inr ⟨by rfl, rfl⟩) hHeld ?_
        try simp only [Act.put, List.setIfInBounds_toArray, List.set_cons_zero, List.set_cons_succ]
        refine Bz.wpAnyE_take (i := 33) (oi := { dst := some 40, op := Go.Op.pick (Go.Operand.tmp 28) (Go.Operand.const (Go.Value.bool true)) (Go.Operand.tmp 39), type := 4, pos := "ref.go:113", after := #[{ on := 21, ground := Go.Ground.data }, { on := 32, ground := Go.Ground.data }], guard := none }) (v := ?_) rfl (by kernel_rfl) (by kernel_rfl) (by kernel_rfl) (by kernel_rfl) (fun _ _ _ h => h) (Or.inl ⟨by rfl, ?_⟩) hHeld ?_
        rotate_left 1
        · (intro w hSw; have f0 := F0 w hSw; have f1 := F1 w hSw; have f2 := F2 w hSw; have f3 := F3 w hSw; go_simp; first | done | with_reducible rfl)
        try simp only [Act.put, List.setIfInBounds_toArray, List.set_cons_zero, List.set_cons_succ]
        refine Bz.wpAnyE_done (by kernel_rfl) ?_ _
        refine NoPanic.normal ?_
        
        clear hHeld
        go_wp2_with fail
        go_ret
        exact ⟨by rw [HR.out]; rfl, hKw.drew⟩
    · rw [decide_eq_false e2] at q2
      have HR : Hid (T.alike U = false) := Lib.hid (by
        unfold FT.alike
        have a : ¬ T.tip = U.tip := e2; simp [a])
      clear e1 e2 hlT hlU
      go_enter Try.func31, Try.ntmps31
      go_wp2_with fail
      rw [← hw0]
      refine wp_region_noPanic ?_
      refine Bz.wp_region_E (S := (fun w' => Keep [] w0 w')) (E := []) (by kernel_rfl) (by exact (Keep.refl _ _).drew) (fun hHeld => ?_)
      refine Bz.wpAnyE_take (i := 0) (oi := { dst := some 7, op := Go.Op.fieldAddr 42 (Go.Operand.tmp 2) 0, type := 0, pos := "ref.go:113", after := #[], guard := none }) (v := ?_) rfl (by kernel_rfl) (by kernel_rfl) (by kernel_rfl) (by kernel_rfl) (fun _ _ _ h => h) (Or.inl ⟨by rfl, ?_⟩) hHeld ?_
      rotate_left 1
      · (intro w hSw; have f0 := F0 w hSw; have f1 := F1 w hSw; have f2 := F2 w hSw; have f3 := F3 w hSw; go_simp; first | done | with_reducible rfl)
      try simp only [Act.put, List.setIfInBounds_toArray, List.set_cons_zero, List.set_cons_succ]
      refine Bz.wpAnyE_take (i := 1) (oi := { dst := some 8, op := Go.Op.load 3 (Go.Operand.tmp 7), type := 3, pos := "ref.go:113", after := #[{ on := 0, ground := Go.Ground.data }], guard := none }) (v := ?_) rfl (by kernel_rfl) (by kernel_rfl) (by kernel_rfl) (by kernel_rfl) (fun _ _ _ h => h) (Or.inl ⟨by rfl, ?_⟩) hHeld ?_
      rotate_left 1
      · (intro w hSw; have f0 := F0 w hSw; have f1 := F1 w hSw; have f2 := F2 w hSw; have f3 := F3 w hSw; go_simp; first | done | with_reducible rfl)
      try simp only [Act.put, List.setIfInBounds_toArray, List.set_cons_zero, List.set_cons_succ]
      refine Bz.wpAnyE_take (i := 2) (oi := { dst := some 9, op := Go.Op.fieldAddr 42 (Go.Operand.tmp 3) 0, type := 0, pos := "ref.go:113", after := #[], guard := none }) (v := ?_) rfl (by kernel_rfl) (by kernel_rfl) (by kernel_rfl) (by kernel_rfl) (fun _ _ _ h => h) (Or.inl ⟨by rfl, ?_⟩) hHeld ?_
      rotate_left 1
      · (intro w hSw; have f0 := F0 w hSw; have f1 := F1 w hSw; have f2 := F2 w hSw; have f3 := F3 w hSw; go_simp; first | done | with_reducible rfl)
      try simp only [Act.put, List.setIfInBounds_toArray, List.set_cons_zero, List.set_cons_succ]
      refine Bz.wpAnyE_take (i := 3) (oi := { dst := some 10, op := Go.Op.load 3 (Go.Operand.tmp 9), type := 3, pos := "ref.go:113", after := #[{ on := 2, ground := Go.Ground.data }], guard := none }) (v := ?_) rfl (by kernel_rfl) (by kernel_rfl) (by kernel_rfl) (by kernel_rfl) (fun _ _ _ h => h) (Or.inl ⟨by rfl, ?_⟩) hHeld ?_
      rotate_left 1
      · (intro w hSw; have f0 := F0 w hSw; have f1 := F1 w hSw; have f2 := F2 w hSw; have f3 := F3 w hSw; go_simp; first | done | with_reducible rfl)
      try simp only [Act.put, List.setIfInBounds_toArray, List.set_cons_zero, List.set_cons_succ]
      refine Bz.wpAnyE_take (i := 4) (oi := { dst := some 11, op := Go.Op.binOp Go.BinOp.neq 3 (Go.Operand.tmp 8) (Go.Operand.tmp 10) 3, type := 4, pos := "ref.go:113", after := #[{ on := 1, ground := Go.Ground.data }, { on := 3, ground := Go.Ground.data }], guard := none }) (v := ?_) rfl (by kernel_rfl) (by kernel_rfl) (by kernel_rfl) (by kernel_rfl) (fun _ _ _ h => h) (Or.inl ⟨by rfl, ?_⟩) hHeld ?_
      rotate_left 1
      · (intro w hSw; have f0 := F0 w hSw; have f1 := F1 w hSw; have f2 := F2 w hSw; have f3 := F3 w hSw; go_simp; first | done | with_reducible rfl)
      try simp only [Act.put, List.setIfInBounds_toArray, List.set_cons_zero, List.set_cons_succ]
      refine Bz.wpAnyE_take (i := 5) (oi := { dst := some 12, op := Go.Op.move (Go.Operand.tmp 11), type := 4, pos := "ref.go:113", after := #[{ on := 4, ground := Go.Ground.data }], guard := none }) (v := ?_) rfl (by kernel_rfl) (by kernel_rfl) (by kernel_rfl) (by kernel_rfl) (fun _ _ _ h => h) (Or.inl ⟨by rfl, ?_⟩) hHeld ?_
      rotate_left 1
      · (intro w hSw; have f0 := F0 w hSw; have f1 := F1 w hSw; have f2 := F2 w hSw; have f3 := F3 w hSw; go_simp; first | done | with_reducible rfl)
      try simp only [Act.put, List.setIfInBounds_toArray, List.set_cons_zero, List.set_cons_succ]
      refine Bz.wpAnyE_take (i := 6) (oi := { dst := some 13, op := Go.Op.fieldAddr 42 (Go.Operand.tmp 2) 2, type := 0, pos := "ref.go:113", after := #[{ on := 5, ground := Go.Ground.guard }], guard := some (5, false) }) (v := ?_) rfl (by kernel_rfl) (by kernel_rfl) (by kernel_rfl) (by kernel_rfl) (fun _ _ _ h => h) (Or.inl ⟨by rfl, ?_⟩) hHeld ?_
      rotate_left 1
      · (intro w hSw; have f0 := F0 w hSw; have f1 := F1 w hSw; have f2 := F2 w hSw; have f3 := F3 w hSw; go_simp; first | done | with_reducible rfl)
      try simp only [Act.put, List.setIfInBounds_toArray, List.set_cons_zero, List.set_cons_succ]
      refine Bz.wpAnyE_take (i := 7) (oi := { dst := some 14, op := Go.Op.load 28 (Go.Operand.tmp 13), type := 28, pos := "ref.go:113", after := #[{ on := 6, ground := Go.Ground.data }, { on := 5, ground := Go.Ground.guard }], guard := some (5, false) }) (v := ?_) rfl (by kernel_rfl) (by kernel_rfl) (by kernel_rfl) (by kernel_rfl) (fun _ _ _ h => h) (Or.inl ⟨by rfl, ?_⟩) hHeld ?_
      rotate_left 1
      · (intro w hSw; have f0 := F0 w hSw; have f1 := F1 w hSw; have f2 := F2 w hSw; have f3 := F3 w hSw; go_simp; first | done | with_reducible rfl)
      try simp only [Act.put, List.setIfInBounds_toArray, List.set_cons_zero, List.set_cons_succ]
      refine Bz.wpAnyE_take (i := 8) (oi := { dst := some 15, op := Go.Op.fieldAddr 42 (Go.Operand.tmp 3) 2, type := 0, pos := "ref.go:113", after := #[{ on := 5, ground := Go.Ground.guard }], guard := some (5, false) }) (v := ?_) rfl (by kernel_rfl) (by kernel_rfl) (by kernel_rfl) (by kernel_rfl) (fun _ _ _ h => h) (Or.inl ⟨by rfl, ?_⟩) hHeld ?_
      rotate_left 1
      · (intro w hSw; have f0 := F0 w hSw; have f1 := F1 w hSw; have f2 := F2 w hSw; have f3 := F3 w hSw; go_simp; first | done | with_reducible rfl)
      try simp only [Act.put, List.setIfInBounds_toArray, List.set_cons_zero, List.set_cons_succ]
      refine Bz.wpAnyE_take (i := 9) (oi := { dst := some 16, op := Go.Op.load 28 (Go.Operand.tmp 15), type := 28, pos := "ref.go:113", after := #[{ on := 8, ground := Go.Ground.data }, { on := 5, ground := Go.Ground.guard }], guard := some (5, false) }) (v := ?_) rfl (by kernel_rfl) (by kernel_rfl) (by kernel_rfl) (by kernel_rfl) (fun _ _ _ h => h) (Or.inl ⟨by rfl, ?_⟩) hHeld ?_
      rotate_left 1
      · (intro w hSw; have f0 := F0 w hSw; have f1 := F1 w hSw; have f2 := F2 w hSw; have f3 := F3 w hSw; go_simp; first | done | with_reducible rfl)
      try simp only [Act.put, List.setIfInBounds_toArray, List.set_cons_zero, List.set_cons_succ]
      refine Bz.wpAnyE_take (i := 10) (oi := { dst := some 17, op := Go.Op.binOp Go.BinOp.neq 28 (Go.Operand.tmp 14) (Go.Operand.tmp 16) 28, type := 4, pos := "ref.go:113", after := #[{ on := 7, ground := Go.Ground.data }, { on := 9, ground := Go.Ground.data }, { on := 5, ground := Go.Ground.guard }], guard := some (5, false) }) (v := ?_) rfl (by kernel_rfl) (by kernel_rfl) (by kernel_rfl) (by kernel_rfl) (fun _ _ _ h => h) (Or.inl ⟨by rfl, ?_⟩) hHeld ?_
      rotate_left 1
      · (intro w hSw; have f0 := F0 w hSw; have f1 := F1 w hSw; have f2 := F2 w hSw; have f3 := F3 w hSw; go_simp; first | done | with_reducible rfl)
      try simp only [Act.put, List.setIfInBounds_toArray, List.set_cons_zero, List.set_cons_succ]
      refine Bz.wpAnyE_take (i := 11) (oi := { dst := some 18, op := Go.Op.pick (Go.Operand.tmp 12) (Go.Operand.const (Go.Value.bool true)) (Go.Operand.tmp 17), type := 4, pos := "ref.go:113", after := #[{ on := 5, ground := Go.Ground.data }, { on := 10, ground := Go.Ground.data }], guard := none }) (v := ?_) rfl (by kernel_rfl) (by kernel_rfl) (by kernel_rfl) (by kernel_rfl) (fun _ _ _ h => h) (Or.inl ⟨by rfl, ?_⟩) hHeld ?_
      rotate_left 1
      · (intro w hSw; have f0 := F0 w hSw; have f1 := F1 w hSw; have f2 := F2 w hSw; have f3 := F3 w hSw; go_simp; first | done | with_reducible rfl)
      try simp only [Act.put, List.setIfInBounds_toArray, List.set_cons_zero, List.set_cons_succ]
      refine Bz.wpAnyE_take (i := 12) (oi := { dst := some 19, op := Go.Op.move (Go.Operand.tmp 18), type := 4, pos := "ref.go:113", after := #[{ on := 11, ground := Go.Ground.data }, { on := 5, ground := Go.Ground.chain }], guard := none }) (v := ?_) rfl (by kernel_rfl) (by kernel_rfl) (by kernel_rfl) (by kernel_rfl) (fun _ _ _ h => h) (Or.inl ⟨by rfl, ?_⟩) hHeld ?_
      rotate_left 1
      · (intro w hSw; have f0 := F0 w hSw; have f1 := F1 w hSw; have f2 := F2 w hSw; have f3 := F3 w hSw; go_simp; first | done | with_reducible rfl)
      try simp only [Act.put, List.setIfInBounds_toArray, List.set_cons_zero, List.set_cons_succ]
      refine Bz.wpAnyE_take (i := 13) (oi := { dst := some 20, op := Go.Op.fieldAddr 42 (Go.Operand.tmp 2) 1, type := 0, pos := "ref.go:113", after := #[{ on := 12, ground := Go.Ground.guard }], guard := some (12, false) }) (v := undef) rfl (by kernel_rfl) (by kernel_rfl) (by kernel_rfl) (by kernel_rfl) (fun _ _ _ h => h) (Or.inr ⟨by rfl, rfl⟩) hHeld ?_
      try simp only [Act.put, List.setIfInBounds_toArray, List.set_cons_zero, List.set_cons_succ]
      refine Bz.wpAnyE_take (i := 14) (oi := { dst := some 21, op := Go.Op.load 40 (Go.Operand.tmp 20), type := 40, pos := "ref.go:113", after := #[{ on := 13, ground := Go.Ground.data }, { on := 12, ground := Go.Ground.guard }], guard := some (12, false) }) (v := undef) rfl (by kernel_rfl) (by kernel_rfl) (by kernel_rfl) (by kernel_rfl) (fun _ _ _ h => h) (Or.inr ⟨by rfl, rfl⟩) hHeld ?_
      try simp only [Act.put, List.setIfInBounds_toArray, List.set_cons_zero, List.set_cons_succ]
      refine Bz.wpAnyE_take (i := 15) (oi := { dst := some 22, op := Go.Op.call { callee := Go.Callee.builtin Go.Builtin.len, args := #[Go.Operand.tmp 21], argTypes := #[40] }, type := 3, pos := "ref.go:113", after := #[{ on := 14, ground := Go.Ground.data }, { on := 12, ground := Go.Ground.guard }], guard := some (12, false) }) (v := undef) rfl (by kernel_rfl) (by kernel_rfl) (by kernel_rfl) (by kernel_rfl) (fun _ _ _ h => h) (Or.inr ⟨by rfl, rfl⟩) hHeld ?_
      try simp only [Act.put, List.setIfInBounds_toArray, List.set_cons_zero, List.set_cons_succ]
      refine Bz.wpAnyE_take (i := 16) (oi := { dst := some 23, op := Go.Op.fieldAddr 42 (Go.Operand.tmp 3) 1, type := 0, pos := "ref.go:113", after := #[{ on := 12, ground := Go.Ground.guard }], guard := some (12, false) }) (v := undef) rfl (by kernel_rfl) (by kernel_rfl) (by kernel_rfl) (by kernel_rfl) (fun _ _ _ h => h) (Or.inr ⟨by rfl, rfl⟩) hHeld ?_
      try simp only [Act.put, List.setIfInBounds_toArray, List.set_cons_zero, List.set_cons_succ]
      refine Bz.wpAnyE_take (i := 17) (oi := { dst := some 24, op := Go.Op.load 40 (Go.Operand.tmp 23), type := 40, pos := "ref.go:113", after := #[{ on := 16, ground := Go.Ground.data }, { on := 12, ground := Go.Ground.guard }], guard := some (12, false) }) (v := undef) rfl (by kernel_rfl) (by kernel_rfl) (by kernel_rfl) (by kernel_rfl) (fun _ _ _ h => h) (Or.inr ⟨by rfl, rfl⟩) hHeld ?_
      try simp only [Act.put, List.setIfInBounds_toArray, List.set_cons_zero, List.set_cons_succ]
      refine Bz.wpAnyE_take (i := 18) (oi := { dst := some 25, op := Go.Op.call { callee := Go.Callee.builtin Go.Builtin.len, args := #[Go.Operand.tmp 24], argTypes := #[40] }, type := 3, pos := "ref.go:113", after := #[{ on := 17, ground := Go.Ground.data }, { on := 12, ground := Go.Ground.guard }], guard := some (12, false) }) (v := undef) rfl (by kernel_rfl) (by kernel_rfl) (by kernel_rfl) (by kernel_rfl) (fun _ _ _ h => h) (Or.inr ⟨by rfl, rfl⟩) hHeld ?_
      try simp only [Act.put, List.setIfInBounds_toArray, List.set_cons_zero, List.set_cons_succ]
      refine Bz.wpAnyE_take (i := 19) (oi := { dst := some 26, op := Go.Op.binOp Go.BinOp.neq 3 (Go.Operand.tmp 22) (Go.Operand.tmp 25) 3, type := 4, pos := "ref.go:113", after := #[{ on := 15, ground := Go.Ground.data }, { on := 18, ground := Go.Ground.data }, { on := 12, ground := Go.Ground.guard }], guard := some (12, false) }) (v := undef) rfl (by kernel_rfl) (by kernel_rfl) (by kernel_rfl) (by kernel_rfl) (fun _ _ _ h => h) (Or.inr ⟨by rfl, rfl⟩) hHeld ?_
      try simp only [Act.put, List.setIfInBounds_toArray, List.set_cons_zero, List.set_cons_succ]
      refine Bz.wpAnyE_take (i := 20) (oi := { dst := some 27, op := Go.Op.pick (Go.Operand.tmp 19) (Go.Operand.const (Go.Value.bool true)) (Go.Operand.tmp 26), type := 4, pos := "ref.go:113", after := #[{ on := 12, ground := Go.Ground.data }, { on := 19, ground := Go.Ground.data }], guard := none }) (v := ?_) rfl (by kernel_rfl) (by kernel_rfl) (by kernel_rfl) (by kernel_rfl) (fun _ _ _ h => h) (Or.inl ⟨by rfl, ?_⟩) hHeld ?_
      rotate_left 1
      · (intro w hSw; have f0 := F0 w hSw; have f1 := F1 w hSw; have f2 := F2 w hSw; have f3 := F3 w hSw; go_simp; first | done | with_reducible rfl)
      try simp only [Act.put, List.setIfInBounds_toArray, List.set_cons_zero, List.set_cons_succ]
      refine Bz.wpAnyE_take (i := 21) (oi := { dst := some 28, op := Go.Op.move (Go.Operand.tmp 27), type := 4, pos := "ref.go:113", after := #[{ on := 20, ground := Go.Ground.data }, { on := 12, ground := Go.Ground.chain }], guard := none }) (v := ?_) rfl (by kernel_rfl) (by kernel_rfl) (by kernel_rfl) (by kernel_rfl) (fun _ _ _ h => h) (Or.inl ⟨by rfl, ?_⟩) hHeld ?_
      rotate_left 1
      · (intro w hSw; have f0 := F0 w hSw; have f1 := F1 w hSw; have f2 := F2 w hSw; have f3 := F3 w hSw; go_simp; first | done | with_reducible rfl)
      try simp only [Act.put, List.setIfInBounds_toArray, List.set_cons_zero, List.set_cons_succ]
      refine Bz.wpAnyE_take (i := 22) (oi := { dst := some 29, op := Go.Op.fieldAddr 42 (Go.Operand.tmp 2) 1, type := 0, pos := "ref.go:113", after := #[{ on := 21, ground := Go.Ground.guard }], guard := some (21, false) }) (v := undef) rfl (by kernel_rfl) (by kernel_rfl) (by kernel_rfl) (by kernel_rfl) (fun _ _ _ h => h) (Or.inr ⟨by rfl, rfl⟩) hHeld ?_
      try simp only [Act.put, List.setIfInBounds_toArray, List.set_cons_zero, List.set_cons_succ]
      refine Bz.wpAnyE_take (i := 23) (oi := { dst := some 30, op := Go.Op.load 40 (Go.Operand.tmp 29), type := 40, pos := "ref.go:113", after := #[{ on := 22, ground := Go.Ground.data }, { on := 21, ground := Go.Ground.guard }], guard := some (21, false) }) (v := undef) rfl (by kernel_rfl) (by kernel_rfl) (by kernel_rfl) (by kernel_rfl) (fun _ _ _ h => h) (Or.inr ⟨by rfl, rfl⟩) hHeld ?_
      try simp only [Act.put, List.setIfInBounds_toArray, List.set_cons_zero, List.set_cons_succ]
      refine Bz.wpAnyE_take (i := 24) (oi := { dst := some 31, op := Go.Op.indexAddr 40 (Go.Operand.tmp 30) (Go.Operand.const (Go.Value.int Go.IntKind.i64 0)), type := 0, pos := "ref.go:113", after := #[{ on := 23, ground := Go.Ground.data }, { on := 21, ground := Go.Ground.guard }], guard := some (21, false) }) (v := undef) rfl (by kernel_rfl) (by kernel_rfl) (by kernel_rfl) (by kernel_rfl) (fun _ _ _ h => h) (Or.inr ⟨by rfl, rfl⟩) hHeld ?_
      try simp only [Act.put, List.setIfInBounds_toArray, List.set_cons_zero, List.set_cons_succ]
      refine Bz.wpAnyE_take (i := 25) (oi := { dst := some 32, op := Go.Op.fieldAddr 57 (Go.Operand.tmp 31) 0, type := 0, pos := "ref.go:113", after := #[{ on := 24, ground := Go.Ground.data }, { on := 21, ground := Go.Ground.guard }], guard := some (21, false) }) (v := undef) rfl (by kernel_rfl) (by kernel_rfl) (by kernel_rfl) (by kernel_rfl) (fun _ _ _ h => h) (Or.inr ⟨by rfl, rfl⟩) hHeld ?_
      try simp only [Act.put, List.setIfInBounds_toArray, List.set_cons_zero, List.set_cons_succ]
      refine Bz.wpAnyE_take (i := 26) (oi := { dst := some 33, op := Go.Op.load 28 (Go.Operand.tmp 32), type := 28, pos := "ref.go:113", after := #[{ on := 25, ground := Go.Ground.data }, { on := 21, ground := Go.Ground.guard }], guard := some (21, false) }) (v := undef) rfl (by kernel_rfl) (by kernel_rfl) (by kernel_rfl) (by kernel_rfl) (fun _ _ _ h => h) (Or.inr ⟨by rfl, rfl⟩) hHeld ?_
      try simp only [Act.put, List.setIfInBounds_toArray, List.set_cons_zero, List.set_cons_succ]
      refine Bz.wpAnyE_take (i := 27) (oi := { dst := some 34, op := Go.Op.fieldAddr 42 (Go.Operand.tmp 3) 1, type := 0, pos := "ref.go:113", after := #[{ on := 21, ground := Go.Ground.guard }], guard := some (21, false) }) (v := undef) rfl (by kernel_rfl) (by kernel_rfl) (by kernel_rfl) (by kernel_rfl) (fun _ _ _ h => h) (Or.inr ⟨by rfl, rfl⟩) hHeld ?_
      try simp only [Act.put, List.setIfInBounds_toArray, List.set_cons_zero, List.set_cons_succ]
      refine Bz.wpAnyE_take (i := 28) (oi := { dst := some 35, op := Go.Op.load 40 (Go.Operand.tmp 34), type := 40, pos := "ref.go:113", after := #[{ on := 27, ground := Go.Ground.data }, { on := 21, ground := Go.Ground.guard }], guard := some (21, false) }) (v := undef) rfl (by kernel_rfl) (by kernel_rfl) (by kernel_rfl) (by kernel_rfl) (fun _ _ _ h => h) (Or.inr ⟨by rfl, rfl⟩) hHeld ?_
      try simp only [Act.put, List.setIfInBounds_toArray, List.set_cons_zero, List.set_cons_succ]
      refine Bz.wpAnyE_take (i := 29) (oi := { dst := some 36, op := Go.Op.indexAddr 40 (Go.Operand.tmp 35) (Go.Operand.const (Go.Value.int Go.IntKind.i64 0)), type := 0, pos := "ref.go:113", after := #[{ on := 28, ground := Go.Ground.data }, { on := 21, ground := Go.Ground.guard }], guard := some (21, false) }) (v := undef) rfl (by kernel_rfl) (by kernel_rfl) (by kernel_rfl) (by kernel_rfl) (fun _ _ _ h => h) (Or.inr ⟨by rfl, rfl⟩) hHeld ?_
      try simp only [Act.put, List.setIfInBounds_toArray, List.set_cons_zero, List.set_cons_succ]
      refine Bz.wpAnyE_take (i := 30) (oi := { dst := some 37, op := Go.Op.fieldAddr 57 (Go.Operand.tmp 36) 0, type := 0, pos := "ref.go:113", after := #[{ on := 29, ground := Go.Ground.data }, { on := 21, ground := Go.Ground.guard }], guard := some (21, false) }) (v := undef) rfl (by kernel_rfl) (by kernel_rfl) (by kernel_rfl) (by kernel_rfl) (fun _ _ _ h => h) (Or.inr ⟨by rfl, rfl⟩) hHeld ?_
      try simp only [Act.put, List.setIfInBounds_toArray, List.set_cons_zero, List.set_cons_succ]
      refine Bz.wpAnyE_take (i := 31) (oi := { dst := some 38, op := Go.Op.load 28 (Go.Operand.tmp 37), type := 28, pos := "ref.go:113", after := #[{ on := 30, ground := Go.Ground.data }, { on := 21, ground := Go.Ground.guard }], guard := some (21, false) }) (v := undef) rfl (by kernel_rfl) (by kernel_rfl) (by kernel_rfl) (by kernel_rfl) (fun _ _ _ h => h) (Or.inr ⟨by rfl, rfl⟩) hHeld ?_
      try simp only [Act.put, List.setIfInBounds_toArray, List.set_cons_zero, List.set_cons_succ]
      refine Bz.wpAnyE_take (i := 32) (oi := { dst := some 39, op := Go.Op.binOp Go.BinOp.neq 28 (Go.Operand.tmp 33) (Go.Operand.tmp 38) 28, type := 4, pos := "ref.go:113", after := #[{ on := 26, ground := Go.Ground.data }, { on := 31, ground := Go.Ground.data }, { on := 21, ground := Go.Ground.guard }], guard := some (21, false) }) (v := undef) rfl (by kernel_rfl) (by kernel_rfl) (by kernel_rfl) (by kernel_rfl) (fun _ _ _ h => h) (Or.inr ⟨by rfl, rfl⟩) hHeld ?_
      try simp only [Act.put, List.setIfInBounds_toArray, List.set_cons_zero, List.set_cons_succ]
      refine Bz.wpAnyE_take (i := 33) (oi := { dst := some 40, op := Go.Op.pick (Go.Operand.tmp 28) (Go.Operand.const (Go.Value.bool true)) (Go.Operand.tmp 39), type := 4, pos := "ref.go:113", after := #[{ on := 21, ground := Go.Ground.data }, { on := 32, ground := Go.Ground.data }], guard := none }) (v := ?_) rfl (by kernel_rfl) (by kernel_rfl) (by kernel_rfl) (by kernel_rfl) (fun _ _ _ h => h) (Or.inl ⟨by rfl, ?_⟩) hHeld ?_
      rotate_left 1
      · (intro w hSw; have f0 := F0 w hSw; have f1 := F1 w hSw; have f2 := F2 w hSw; have f3 := F3 w hSw; go_simp; first | done | with_reducible rfl)
      try simp only [Act.put, List.setIfInBounds_toArray, List.set_cons_zero, List.set_cons_succ]
      refine Bz.wpAnyE_done (by kernel_rfl) ?_ _
      refine NoPanic.normal ?_
      
      clear hHeld
      go_wp2_with fail
      go_ret
      exact ⟨by rw [HR.out]; rfl, hKw.drew⟩
  · have q1 : (T.rt.depth != U.rt.depth) = true := by simp [e1]
    have HR : Hid (T.alike U = false) := Lib.hid (by
      unfold FT.alike
      have a : ¬ T.depth = U.depth := e1; simp [a])
    clear e1 hlT hlU
    go_enter Try.func31, Try.ntmps31
    go_wp2_with fail
    rw [← hw0]
    refine wp_region_noPanic ?_
    refine Bz.wp_region_E (S := (fun w' => Keep [] w0 w')) (E := []) (by kernel_rfl) (by exact (Keep.refl _ _).drew) (fun hHeld => ?_)
    refine Bz.wpAnyE_take (i := 0) (oi := { dst := some 7, op := Go.Op.fieldAddr 42 (Go.Operand.tmp 2) 0, type := 0, pos := "ref.go:113", after := #[], guard := none }) (v := ?_) rfl (by kernel_rfl) (by kernel_rfl) (by kernel_rfl) (by kernel_rfl) (fun _ _ _ h => h) (Or.inl ⟨by rfl, ?_⟩) hHeld ?_
    rotate_left 1
    · (intro w hSw; have f0 := F0 w hSw; have f1 := F1 w hSw; have f2 := F2 w hSw; have f3 := F3 w hSw; go_simp; first | done | with_reducible rfl)
    try simp only [Act.put, List.setIfInBounds_toArray, List.set_cons_zero, List.set_cons_succ]
    refine Bz.wpAnyE_take (i := 1) (oi := { dst := some 8, op := Go.Op.load 3 (Go.Operand.tmp 7), type := 3, pos := "ref.go:113", after := #[{ on := 0, ground := Go.Ground.data }], guard := none }) (v := ?_) rfl (by kernel_rfl) (by kernel_rfl) (by kernel_rfl) (by kernel_rfl) (fun _ _ _ h => h) (Or.inl ⟨by rfl, ?_⟩) hHeld ?_
    rotate_left 1
    · (intro w hSw; have f0 := F0 w hSw; have f1 := F1 w hSw; have f2 := F2 w hSw; have f3 := F3 w hSw; go_simp; first | done | with_reducible rfl)
    try simp only [Act.put, List.setIfInBounds_toArray, List.set_cons_zero, List.set_cons_succ]
    refine Bz.wpAnyE_take (i := 2) (oi := { dst := some 9, op := Go.Op.fieldAddr 42 (Go.Operand.tmp 3) 0, type := 0, pos := "ref.go:113", after := #[], guard := none }) (v := ?_) rfl (by kernel_rfl) (by kernel_rfl) (by kernel_rfl) (by kernel_rfl) (fun _ _ _ h => h) (Or.inl ⟨by rfl, ?_⟩) hHeld ?_
    rotate_left 1
    · (intro w hSw; have f0 := F0 w hSw; have f1 := F1 w hSw; have f2 := F2 w hSw; have f3 := F3 w hSw; go_simp; first | done | with_reducible rfl)
    try simp only [Act.put, List.setIfInBounds_toArray, List.set_cons_zero, List.set_cons_succ]
    refine Bz.wpAnyE_take (i := 3) (oi := { dst := some 10, op := Go.Op.load 3 (Go.Operand.tmp 9), type := 3, pos := "ref.go:113", after := #[{ on := 2, ground := Go.Ground.data }], guard := none }) (v := ?_) rfl (by kernel_rfl) (by kernel_rfl) (by kernel_rfl) (by kernel_rfl) (fun _ _ _ h => h) (Or.inl ⟨by rfl, ?_⟩) hHeld ?_
    rotate_left 1
    · (intro w hSw; have f0 := F0 w hSw; have f1 := F1 w hSw; have f2 := F2 w hSw; have f3 := F3 w hSw; go_simp; first | done | with_reducible rfl)
    try simp only [Act.put, List.setIfInBounds_toArray, List.set_cons_zero, List.set_cons_succ]
    refine Bz.wpAnyE_take (i := 4) (oi := { dst := some 11, op := Go.Op.binOp Go.BinOp.neq 3 (Go.Operand.tmp 8) (Go.Operand.tmp 10) 3, type := 4, pos := "ref.go:113", after := #[{ on := 1, ground := Go.Ground.data }, { on := 3, ground := Go.Ground.data }], guard := none }) (v := ?_) rfl (by kernel_rfl) (by kernel_rfl) (by kernel_rfl) (by kernel_rfl) (fun _ _ _ h => h) (Or.inl ⟨by rfl, ?_⟩) hHeld ?_
    rotate_left 1
    · (intro w hSw; have f0 := F0 w hSw; have f1 := F1 w hSw; have f2 := F2 w hSw; have f3 := F3 w hSw; go_simp; first | done | with_reducible rfl)
    try simp only [Act.put, List.setIfInBounds_toArray, List.set_cons_zero, List.set_cons_succ]
    refine Bz.wpAnyE_take (i := 5) (oi := { dst := some 12, op := Go.Op.move (Go.Operand.tmp 11), type := 4, pos := "ref.go:113", after := #[{ on := 4, ground := Go.Ground.data }], guard := none }) (v := ?_) rfl (by kernel_rfl) (by kernel_rfl) (by kernel_rfl) (by kernel_rfl) (fun _ _ _ h => h) (Or.inl ⟨by rfl, ?_⟩) hHeld ?_
    rotate_left 1
    · (intro w hSw; have f0 := F0 w hSw; have f1 := F1 w hSw; have f2 := F2 w hSw; have f3 := F3 w hSw; go_simp; first | done | with_reducible rfl)
    try simp only [Act.put, List.setIfInBounds_toArray, List.set_cons_zero, List.set_cons_succ]
    refine Bz.wpAnyE_take (i := 6) (oi := { dst := some 13, op := Go.Op.fieldAddr 42 (Go.Operand.tmp 2) 2, type := 0, pos := "ref.go:113", after := #[{ on := 5, ground := Go.Ground.guard }], guard := some (5, false) }) (v := undef) rfl (by kernel_rfl) (by kernel_rfl) (by kernel_rfl) (by kernel_rfl) (fun _ _ _ h => h) (Or.inr ⟨by rfl, rfl⟩) hHeld ?_
    try simp only [Act.put, List.setIfInBounds_toArray, List.set_cons_zero, List.set_cons_succ]
    refine Bz.wpAnyE_take (i := 7) (oi := { dst := some 14, op := Go.Op.load 28 (Go.Operand.tmp 13), type := 28, pos := "ref.go:113", after := #[{ on := 6, ground := Go.Ground.data }, { on := 5, ground := Go.Ground.guard }], guard := some (5, false) }) (v := undef) rfl (by kernel_rfl) (by kernel_rfl) (by kernel_rfl) (by kernel_rfl) (fun _ _ _ h => h) (Or.inr ⟨by rfl, rfl⟩) hHeld ?_
    try simp only [Act.put, List.setIfInBounds_toArray, List.set_cons_zero, List.set_cons_succ]
    refine Bz.wpAnyE_take (i := 8) (oi := { dst := some 15, op := Go.Op.fieldAddr 42 (Go.Operand.tmp 3) 2, type := 0, pos := "ref.go:113", after := #[{ on := 5, ground := Go.Ground.guard }], guard := some (5, false) }) (v := undef) rfl (by kernel_rfl) (by kernel_rfl) (by kernel_rfl) (by kernel_rfl) (fun _ _ _ h => h) (Or.inr ⟨by rfl, rfl⟩) hHeld ?_
    try simp only [Act.put, List.setIfInBounds_toArray, List.set_cons_zero, List.set_cons_succ]
    refine Bz.wpAnyE_take (i := 9) (oi := { dst := some 16, op := Go.Op.load 28 (Go.Operand.tmp 15), type := 28, pos := "ref.go:113", after := #[{ on := 8, ground := Go.Ground.data }, { on := 5, ground := Go.Ground.guard }], guard := some (5, false) }) (v := undef) rfl (by kernel_rfl) (by kernel_rfl) (by kernel_rfl) (by kernel_rfl) (fun _ _ _ h => h) (Or.inr ⟨by rfl, rfl⟩) hHeld ?_
    try simp only [Act.put, List.setIfInBounds_toArray, List.set_cons_zero, List.set_cons_succ]
    refine Bz.wpAnyE_take (i := 10) (oi := { dst := some 17, op := Go.Op.binOp Go.BinOp.neq 28 (Go.Operand.tmp 14) (Go.Operand.tmp 16) 28, type := 4, pos := "ref.go:113", after := #[{ on := 7, ground := Go.Ground.data }, { on := 9, ground := Go.Ground.data }, { on := 5, ground := Go.Ground.guard }], guard := some (5, false) }) (v := undef) rfl (by kernel_rfl) (by kernel_rfl) (by kernel_rfl) (by kernel_rfl) (fun _ _ _ h => h) (Or.inr ⟨by rfl, rfl⟩) hHeld ?_
    try simp only [Act.put, List.setIfInBounds_toArray, List.set_cons_zero, List.set_cons_succ]
    refine Bz.wpAnyE_take (i := 11) (oi := { dst := some 18, op := Go.Op.pick (Go.Operand.tmp 12) (Go.Operand.const (Go.Value.bool true)) (Go.Operand.tmp 17), type := 4, pos := "ref.go:113", after := #[{ on := 5, ground := Go.Ground.data }, { on := 10, ground := Go.Ground.data }], guard := none }) (v := ?_) rfl (by kernel_rfl) (by kernel_rfl) (by kernel_rfl) (by kernel_rfl) (fun _ _ _ h => h) (Or.inl ⟨by rfl, ?_⟩) hHeld ?_
    rotate_left 1
    · (intro w hSw; have f0 := F0 w hSw; have f1 := F1 w hSw; have f2 := F2 w hSw; have f3 := F3 w hSw; go_simp; first | done | with_reducible rfl)
    try simp only [Act.put, List.setIfInBounds_toArray, List.set_cons_zero, List.set_cons_succ]
    refine Bz.wpAnyE_take (i := 12) (oi := { dst := some 19, op := Go.Op.move (Go.Operand.tmp 18), type := 4, pos := "ref.go:113", after := #[{ on := 11, ground := Go.Ground.data }, { on := 5, ground := Go.Ground.chain }], guard := none }) (v := ?_) rfl (by kernel_rfl) (by kernel_rfl) (by kernel_rfl) (by kernel_rfl) (fun _ _ _ h => h) (Or.inl ⟨by rfl, ?_⟩) hHeld ?_
    rotate_left 1
    · (intro w hSw; have f0 := F0 w hSw; have f1 := F1 w hSw; have f2 := F2 w hSw; have f3 := F3 w hSw; go_simp; first | done | with_reducible rfl)
    try simp only [Act.put, List.setIfInBounds_toArray, List.set_cons_zero, List.set_cons_succ]
    refine Bz.wpAnyE_take (i := 13) (oi := { dst := some 20, op := Go.Op.fieldAddr 42 (Go.Operand.tmp 2) 1, type := 0, pos := "ref.go:113", after := #[{ on := 12, ground := Go.Ground.guard }], guard := some (12, false) }) (v := undef) rfl (by kernel_rfl) (by kernel_rfl) (by kernel_rfl) (by kernel_rfl) (fun _ _ _ h => h) (Or.inr ⟨by rfl, rfl⟩) hHeld ?_
    try simp only [Act.put, List.setIfInBounds_toArray, List.set_cons_zero, List.set_cons_succ]
    refine Bz.wpAnyE_take (i := 14) (oi := { dst := some 21, op := Go.Op.load 40 (Go.Operand.tmp 20), type := 40, pos := "ref.go:113", after := #[{ on := 13, ground := Go.Ground.data }, { on := 12, ground := Go.Ground.guard }], guard := some (12, false) }) (v := undef) rfl (by kernel_rfl) (by kernel_rfl) (by kernel_rfl) (by kernel_rfl) (fun _ _ _ h => h) (Or.inr ⟨by rfl, rfl⟩) hHeld ?_
    try simp only [Act.put, List.setIfInBounds_toArray, List.set_cons_zero, List.set_cons_succ]
    refine Bz.wpAnyE_take (i := 15) (oi := { dst := some 22, op := Go.Op.call { callee := Go.Callee.builtin Go.Builtin.len, args := #[Go.Operand.tmp 21], argTypes := #[40] }, type := 3, pos := "ref.go:113", after := #[{ on := 14, ground := Go.Ground.data }, { on := 12, ground := Go.Ground.guard }], guard := some (12, false) }) (v := undef) rfl (by kernel_rfl) (by kernel_rfl) (by kernel_rfl) (by kernel_rfl) (fun _ _ _ h => h) (Or.inr ⟨by rfl, rfl⟩) hHeld ?_
    try simp only [Act.put, List.setIfInBounds_toArray, List.set_cons_zero, List.set_cons_succ]
    refine Bz.wpAnyE_take (i := 16) (oi := { dst := some 23, op := Go.Op.fieldAddr 42 (Go.Operand.tmp 3) 1, type := 0, pos := "ref.go:113", after := #[{ on := 12, ground := Go.Ground.guard }], guard := some (12, false) }) (v := undef) rfl (by kernel_rfl) (by kernel_rfl) (by kernel_rfl) (by kernel_rfl) (fun _ _ _ h => h) (Or.inr ⟨by rfl, rfl⟩) hHeld ?_
    try simp only [Act.put, List.setIfInBounds_toArray, List.set_cons_zero, List.set_cons_succ]
    refine Bz.wpAnyE_take (i := 17) (oi := { dst := some 24, op := Go.Op.load 40 (Go.Operand.tmp 23), type := 40, pos := "ref.go:113", after := #[{ on := 16, ground := Go.Ground.data }, { on := 12, ground := Go.Ground.guard }], guard := some (12, false) }) (v := undef) rfl (by kernel_rfl) (by kernel_rfl) (by kernel_rfl) (by kernel_rfl) (fun _ _ _ h => h) (Or.inr ⟨by rfl, rfl⟩) hHeld ?_
    try simp only [Act.put, List.setIfInBounds_toArray, List.set_cons_zero, List.set_cons_succ]
    refine Bz.wpAnyE_take (i := 18) (oi := { dst := some 25, op := Go.Op.call { callee := Go.Callee.builtin Go.Builtin.len, args := #[Go.Operand.tmp 24], argTypes := #[40] }, type := 3, pos := "ref.go:113", after := #[{ on := 17, ground := Go.Ground.data }, { on := 12, ground := Go.Ground.guard }], guard := some (12, false) }) (v := undef) rfl (by kernel_rfl) (by kernel_rfl) (by kernel_rfl) (by kernel_rfl) (fun _ _ _ h => h) (Or.inr ⟨by rfl, rfl⟩) hHeld ?_
    try simp only [Act.put, List.setIfInBounds_toArray, List.set_cons_zero, List.set_cons_succ]
    refine Bz.wpAnyE_take (i := 19) (oi := { dst := some 26, op := Go.Op.binOp Go.BinOp.neq 3 (Go.Operand.tmp 22) (Go.Operand.tmp 25) 3, type := 4, pos := "ref.go:113", after := #[{ on := 15, ground := Go.Ground.data }, { on := 18, ground := Go.Ground.data }, { on := 12, ground := Go.Ground.guard }], guard := some (12, false) }) (v := undef) rfl (by kernel_rfl) (by kernel_rfl) (by kernel_rfl) (by kernel_rfl) (fun _ _ _ h => h) (Or.inr ⟨by rfl, rfl⟩) hHeld ?_
    try simp only [Act.put, List.setIfInBounds_toArray, List.set_cons_zero, List.set_cons_succ]
    refine Bz.wpAnyE_take (i := 20) (oi := { dst := some 27, op := Go.Op.pick (Go.Operand.tmp 19) (Go.Operand.const (Go.Value.bool true)) (Go.Operand.tmp 26), type := 4, pos := "ref.go:113", after := #[{ on := 12, ground := Go.Ground.data }, { on := 19, ground := Go.Ground.data }], guard := none }) (v := ?_) rfl (by kernel_rfl) (by kernel_rfl) (by kernel_rfl) (by kernel_rfl) (fun _ _ _ h => h) (Or.inl ⟨by rfl, ?_⟩) hHeld ?_
    rotate_left 1
    · (intro w hSw; have f0 := F0 w hSw; have f1 := F1 w hSw; have f2 := F2 w hSw; have f3 := F3 w hSw; go_simp; first | done | with_reducible rfl)
    try simp only [Act.put, List.setIfInBounds_toArray, List.set_cons_zero, List.set_cons_succ]
    refine Bz.wpAnyE_take (i := 21) (oi := { dst := some 28, op := Go.Op.move (Go.Operand.tmp 27), type := 4, pos := "ref.go:113", after := #[{ on := 20, ground := Go.Ground.data }, { on := 12, ground := Go.Ground.chain }], guard := none }) (v := ?_) rfl (by kernel_rfl) (by kernel_rfl) (by kernel_rfl) (by kernel_rfl) (fun _ _ _ h => h) (Or.inl ⟨by rfl, ?_⟩) hHeld ?_
    rotate_left 1
    · (intro w hSw; have f0 := F0 w hSw; have f1 := F1 w hSw; have f2 := F2 w hSw; have f3 := F3 w hSw; go_simp; first | done | with_reducible rfl)
    try simp only [Act.put, List.setIfInBounds_toArray, List.set_cons_zero, List.set_cons_succ]
    refine Bz.wpAnyE_take (i := 22) (oi := { dst := some 29, op := Go.Op.fieldAddr 42 (Go.Operand.tmp 2) 1, type := 0, pos := "ref.go:113", after := #[{ on := 21, ground := Go.Ground.guard }], guard := some (21, false) }) (v := undef) rfl (by kernel_rfl) (by kernel_rfl) (by kernel_rfl) (by kernel_rfl) (fun _ _ _ h => h) (Or.inr ⟨by rfl, rfl⟩) hHeld ?_
    try simp only [Act.put, List.setIfInBounds_toArray, List.set_cons_zero, List.set_cons_succ]
    refine Bz.wpAnyE_take (i := 23) (oi := { dst := some 30, op := Go.Op.load 40 (Go.Operand.tmp 29), type := 40, pos := "ref.go:113", after := #[{ on := 22, ground := Go.Ground.data }, { on := 21, ground := Go.Ground.guard }], guard := some (21, false) }) (v := undef) rfl (by kernel_rfl) (by kernel_rfl) (by kernel_rfl) (by kernel_rfl) (fun _ _ _ h => h) (Or.inr ⟨by rfl, rfl⟩) hHeld ?_
    try simp only [Act.put, List.setIfInBounds_toArray, List.set_cons_zero, List.set_cons_succ]
    refine Bz.wpAnyE_take (i := 24) (oi := { dst := some 31, op := Go.Op.indexAddr 40 (Go.Operand.tmp 30) (Go.Operand.const (Go.Value.int Go.IntKind.i64 0)), type := 0, pos := "ref.go:113", after := #[{ on := 23, ground := Go.Ground.data }, { on := 21, ground := Go.Ground.guard }], guard := some (21, false) }) (v := undef) rfl (by kernel_rfl) (by kernel_rfl) (by kernel_rfl) (by kernel_rfl) (fun _ _ _ h => h) (Or.inr ⟨by rfl, rfl⟩) hHeld ?_
    try simp only [Act.put, List.setIfInBounds_toArray, List.set_cons_zero, List.set_cons_succ]
    refine Bz.wpAnyE_take (i := 25) (oi := { dst := some 32, op := Go.Op.fieldAddr 57 (Go.Operand.tmp 31) 0, type := 0, pos := "ref.go:113", after := #[{ on := 24, ground := Go.Ground.data }, { on := 21, ground := Go.Ground.guard }], guard := some (21, false) }) (v := undef) rfl (by kernel_rfl) (by kernel_rfl) (by kernel_rfl) (by kernel_rfl) (fun _ _ _ h => h) (Or.inr ⟨by rfl, rfl⟩) hHeld ?_
    try simp only [Act.put, List.setIfInBounds_toArray, List.set_cons_zero, List.set_cons_succ]
    refine Bz.wpAnyE_take (i := 26) (oi := { dst := some 33, op := Go.Op.load 28 (Go.Operand.tmp 32), type := 28, pos := "ref.go:113", after := #[{ on := 25, ground := Go.Ground.data }, { on := 21, ground := Go.Ground.guard }], guard := some (21, false) }) (v := undef) rfl (by kernel_rfl) (by kernel_rfl) (by kernel_rfl) (by kernel_rfl) (fun _ _ _ h => h) (Or.inr ⟨by rfl, rfl⟩) hHeld ?_
    try simp only [Act.put, List.setIfInBounds_toArray, List.set_cons_zero, List.set_cons_succ]
    refine Bz.wpAnyE_take (i := 27) (oi := { dst := some 34, op := Go.Op.fieldAddr 42 (Go.Operand.tmp 3) 1, type := 0, pos := "ref.go:113", after := #[{ on := 21, ground := Go.Ground.guard }], guard := some (21, false) }) (v := undef) rfl (by kernel_rfl) (by kernel_rfl) (by kernel_rfl) (by kernel_rfl) (fun _ _ _ h => h) (Or.inr ⟨by rfl, rfl⟩) hHeld ?_
    try simp only [Act.put, List.setIfInBounds_toArray, List.set_cons_zero, List.set_cons_succ]
    refine Bz.wpAnyE_take (i := 28) (oi := { dst := some 35, op := Go.Op.load 40 (Go.Operand.tmp 34), type := 40, pos := "ref.go:113", after := #[{ on := 27, ground := Go.Ground.data }, { on := 21, ground := Go.Ground.guard }], guard := some (21, false) }) (v := undef) rfl (by kernel_rfl) (by kernel_rfl) (by kernel_rfl) (by kernel_rfl) (fun _ _ _ h => h) (Or.inr ⟨by rfl, rfl⟩) hHeld ?_
    try simp only [Act.put, List.setIfInBounds_toArray, List.set_cons_zero, List.set_cons_succ]
    refine Bz.wpAnyE_take (i := 29) (oi := { dst := some 36, op := Go.Op.indexAddr 40 (Go.Operand.tmp 35) (Go.Operand.const (Go.Value.int Go.IntKind.i64 0)), type := 0, pos := "ref.go:113", after := #[{ on := 28, ground := Go.Ground.data }, { on := 21, ground := Go.Ground.guard }], guard := some (21, false) }) (v := undef) rfl (by kernel_rfl) (by kernel_rfl) (by kernel_rfl) (by kernel_rfl) (fun _ _ _ h => h) (Or.inr ⟨by rfl, rfl⟩) hHeld ?_
    try simp only [Act.put, List.setIfInBounds_toArray, List.set_cons_zero, List.set_cons_succ]
    refine Bz.wpAnyE_take (i := 30) (oi := { dst := some 37, op := Go.Op.fieldAddr 57 (Go.Operand.tmp 36) 0, type := 0, pos := "ref.go:113", after := #[{ on := 29, ground := Go.Ground.data }, { on := 21, ground := Go.Ground.guard }], guard := some (21, false) }) (v := undef) rfl (by kernel_rfl) (by kernel_rfl) (by kernel_rfl) (by kernel_rfl) (fun _ _ _ h => h) (Or.inr ⟨by rfl, rfl⟩) hHeld ?_
    try simp only [Act.put, List.setIfInBounds_toArray, List.set_cons_zero, List.set_cons_succ]
    refine Bz.wpAnyE_take (i := 31) (oi := { dst := some 38, op := Go.Op.load 28 (Go.Operand.tmp 37), type := 28, pos := "ref.go:113", after := #[{ on := 30, ground := Go.Ground.data }, { on := 21, ground := Go.Ground.guard }], guard := some (21, false) }) (v := undef) rfl (by kernel_rfl) (by kernel_rfl) (by kernel_rfl) (by kernel_rfl) (fun _ _ _ h => h) (Or.inr ⟨by rfl, rfl⟩) hHeld ?_
    try simp only [Act.put, List.setIfInBounds_toArray, List.set_cons_zero, List.set_cons_succ]
    refine Bz.wpAnyE_take (i := 32) (oi := { dst := some 39, op := Go.Op.binOp Go.BinOp.neq 28 (Go.Operand.tmp 33) (Go.Operand.tmp 38) 28, type := 4, pos := "ref.go:113", after := #[{ on := 26, ground := Go.Ground.data }, { on := 31, ground := Go.Ground.data }, { on := 21, ground := Go.Ground.guard }], guard := some (21, false) }) (v := undef) rfl (by kernel_rfl) (by kernel_rfl) (by kernel_rfl) (by kernel_rfl) (fun _ _ _ h => h) (Or.inr ⟨by rfl, rfl⟩) hHeld ?_
    try simp only [Act.put, List.setIfInBounds_toArray, List.set_cons_zero, List.set_cons_succ]
    refine Bz.wpAnyE_take (i := 33) (oi := { dst := some 40, op := Go.Op.pick (Go.Operand.tmp 28) (Go.Operand.const (Go.Value.bool true)) (Go.Operand.tmp 39), type := 4, pos := "ref.go:113", after := #[{ on := 21, ground := Go.Ground.data }, { on := 32, ground := Go.Ground.data }], guard := none }) (v := ?_) rfl (by kernel_rfl) (by kernel_rfl) (by kernel_rfl) (by kernel_rfl) (fun _ _ _ h => h) (Or.inl ⟨by rfl, ?_⟩) hHeld ?_
    rotate_left 1
    · (intro w hSw; have f0 := F0 w hSw; have f1 := F1 w hSw; have f2 := F2 w hSw; have f3 := F3 w hSw; go_simp; first | done | with_reducible rfl)
    try simp only [Act.put, List.setIfInBounds_toArray, List.set_cons_zero, List.set_cons_succ]
    refine Bz.wpAnyE_done (by kernel_rfl) ?_ _
    refine NoPanic.normal ?_
    
    clear hHeld
    go_wp2_with fail
    go_ret
    exact ⟨by rw [HR.out]; rfl, hKw.drew⟩
end Go.Proofs.Ytbkchniomhdieaa
