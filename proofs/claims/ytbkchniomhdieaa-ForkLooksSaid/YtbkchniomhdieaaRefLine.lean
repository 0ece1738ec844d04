/- The document's Line and Height walked. -/
import Derived.Test.YtbkchniomhdieaaRefLaw
import Derived.Test.YtbkchniomhdieaaLists
import Derived.Test.YtbkchniomhdieaaAll
namespace Go.Proofs.Ytbkchniomhdieaa
open Go.RowKit Go.Bz

set_option maxHeartbeats 4000000 in
theorem rline_is {T : FT} (h : T.WF) (hh : T.Hd) : ∀ (n : Nat) (x : D8) (w : World) (V : Value), T.is x = true → (T.get x).2 = n → Sl w 57 16 renc V T.ref →
    Calls Try.prog 26 #[rtv V T.rt, dv x] w (fun e w' => ∃ v, e = .returned v ∧ Own w' w.heap.size 28 8 dcells v (T.line x) ∧ Keep [] w w') := by
  intro n
  induction n with
  | zero =>
    intro x w V hx hn hs
    obtain ⟨k, hk, hg, h0⟩ := h.ref_is hh hx
    have hf := h.zero hx hn
    have hk0 := h0.2 hf
    subst hk0
    have hlen := T.ref_len
    have hsz := h.size
    have hL : T.line x = [x] := by rw [hf, h.line_first]
    have hR : Sl w 57 16 renc V T.rt.l := hs
    have hRl : T.rt.l.length ≤ 5000 := by show T.ref.length ≤ 5000; omega
    have hk' : findIn x T.rt.l = (0 : Int) := hk
    have hK := ((Keep.refl [] w).alloc (.cells (rcells V T.rt) 42)).alloc (.cells (dcells x) 28)
    have hR := hR.keep0 hK
    have hB0 := (Blk.new w 42 (rcells V T.rt)).alloc (.cells (dcells x) 28)
    have hB1 := Blk.new_ (w := w.alloc (.cells (rcells V T.rt) 42)) (t := 28) (cs := dcells x) (g := w.heap.size + 1) (by simp)
    clear hn h0 hf hg
    go_enter Try.func26, Try.ntmps26
    go_wp2_with (first | (go_at_call 24; refine (find_any hR x hRl).mono ?_; rw [hk']; rintro e w1 ⟨rfl, hk1⟩; have hR := hR.keep0 hk1; have hK := hK.trans hk1; have hB0 := hB0.keep hk1 (by simp); have hB1 := hB1.keep hk1 (by simp); have c0 := hB0.cell; have c1 := hB1.cell; clear hk1))
    go_ret
    exact ⟨_, rfl, by rw [hL]; exact Own.one (Blk.new _ _ _) rfl hK.size, hK.alloc _⟩
  | succ n ih =>
    intro x w V hx hn hs
    obtain ⟨k, hk, hg, h0⟩ := h.ref_is hh hx
    have hf : x ≠ T.first := fun e => by rw [e, h.get_first] at hn; simp at hn; omega
    obtain ⟨hp, hpn⟩ := h.step hx hf
    have hlen := T.ref_len
    have hsz := h.size
    have hL := h.line_step hx hf
    have hLl := h.line_lt hx
    have ih := fun w V => ih _ w V hp (by omega)
    have hR : Sl w 57 16 renc V T.rt.l := hs
    have hRl : T.rt.l.length ≤ 5000 := by show T.ref.length ≤ 5000; omega
    obtain ⟨g, o, cap, hV, hcap, hsl⟩ := hR.at_ hg
    subst hV
    have hk' : findIn x T.rt.l = (k : Int) := hk
    have hk0 : ¬ (k : Int) = 0 := fun e => hf (h0.1 (by omega))
    generalize hp' : (T.get x).1 = p at *
    clear hn hpn h0 hf
    have hK := ((Keep.refl [] w).alloc (.cells (rcells (.slice (some ⟨g, o, none⟩) T.rt.l.length cap) T.rt) 42)).alloc (.cells (dcells x) 28)
    have hR := hR.keep0 hK
    have hB0 := (Blk.new w 42 (rcells (.slice (some ⟨g, o, none⟩) T.rt.l.length cap) T.rt)).alloc (.cells (dcells x) 28)
    have hB1 := Blk.new_ (w := w.alloc (.cells (rcells (.slice (some ⟨g, o, none⟩) T.rt.l.length cap) T.rt) 42)) (t := 28) (cs := dcells x) (g := w.heap.size + 1) (by simp)
    go_enter Try.func26, Try.ntmps26
    go_wp2_with (first | (go_at_call 24; refine (find_any hR x hRl).mono ?_; rw [hk']; rintro e w1 ⟨rfl, hk1⟩; have hR := hR.keep0 hk1; have hK := hK.trans hk1; have hB0 := hB0.keep hk1 (by simp); have hB1 := hB1.keep hk1 (by simp); have c0 := hB0.cell; have c1 := hB1.cell; have hsl' := hsl.keep hK (by simp); have hg' := hg; clear hk1))
    have hLp : (T.line p).length ≤ 4095 := by rw [hL] at hLl; simp at hLl; omega
    have F0 := fun W (hk : Keep [] w1 W) => (hB0.keep hk (by simp)).cell
    have F1 := fun W (hk : Keep [] w1 W) => (hB1.keep hk (by simp)).cell
    have F2 : ∀ W, Keep [] w1 W → At8 W g (o + k * 16 + 8) p := fun W hk => ((hsl'.keep hk (by simp)).at16 hg').2
    unfold At8 at F2
    have hkl : k < T.rt.l.length := (List.getElem?_eq_some_iff.1 hg').1
    clear c0 c1 hsl' hg' hk hk' hg hsl hs hlen
    refine wp_region_noPanic ?_
    refine Bz.wp_region_E (S := (fun w' => Keep [] w1 w')) (E := []) (by kernel_rfl) (by exact (Keep.refl _ _).drew) (fun hHeld => ?_)
    refine Bz.wpAnyE_take (i := 0) (oi := { dst := some 15, op := Go.Op.load 42 (Go.Operand.tmp 2), type := 42, pos := "ref.go:42", after := #[], guard := none }) (v := ?_) rfl (by kernel_rfl) (by kernel_rfl) (by kernel_rfl) (by kernel_rfl) (fun _ _ _ h => h) (Or.inl ⟨by rfl, ?_⟩) hHeld ?_
    rotate_left 1
    · (intro w hSw; have q0 := F0 w hSw; have q1 := F1 w hSw; have q2 := F2 w hSw; go_simp; first | done | with_reducible rfl)
    try simp only [Act.put, List.setIfInBounds_toArray, List.set_cons_zero, List.set_cons_succ]
    refine Bz.wpAnyE_take (i := 1) (oi := { dst := some 16, op := Go.Op.fieldAddr 42 (Go.Operand.tmp 2) 1, type := 0, pos := "ref.go:42", after := #[], guard := none }) (v := ?_) rfl (by kernel_rfl) (by kernel_rfl) (by kernel_rfl) (by kernel_rfl) (fun _ _ _ h => h) (Or.inl ⟨by rfl, ?_⟩) hHeld ?_
    rotate_left 1
    · (intro w hSw; have q0 := F0 w hSw; have q1 := F1 w hSw; have q2 := F2 w hSw; go_simp; first | done | with_reducible rfl)
    try simp only [Act.put, List.setIfInBounds_toArray, List.set_cons_zero, List.set_cons_succ]
    refine Bz.wpAnyE_take (i := 2) (oi := { dst := some 17, op := Go.Op.load 40 (Go.Operand.tmp 16), type := 40, pos := "ref.go:42", after := #[{ on := 1, ground := Go.Ground.data }], guard := none }) (v := ?_) rfl (by kernel_rfl) (by kernel_rfl) (by kernel_rfl) (by kernel_rfl) (fun _ _ _ h => h) (Or.inl ⟨by rfl, ?_⟩) hHeld ?_
    rotate_left 1
    · (intro w hSw; have q0 := F0 w hSw; have q1 := F1 w hSw; have q2 := F2 w hSw; go_simp; first | done | with_reducible rfl)
    try simp only [Act.put, List.setIfInBounds_toArray, List.set_cons_zero, List.set_cons_succ]
    refine Bz.wpAnyE_take (i := 3) (oi := { dst := some 18, op := Go.Op.move (Go.Operand.tmp 5), type := 3, pos := "ref.go:42", after := #[], guard := none }) (v := ?_) rfl (by kernel_rfl) (by kernel_rfl) (by kernel_rfl) (by kernel_rfl) (fun _ _ _ h => h) (Or.inl ⟨by rfl, ?_⟩) hHeld ?_
    rotate_left 1
    · (intro w hSw; have q0 := F0 w hSw; have q1 := F1 w hSw; have q2 := F2 w hSw; go_simp; first | done | with_reducible rfl)
    try simp only [Act.put, List.setIfInBounds_toArray, List.set_cons_zero, List.set_cons_succ]
    refine Bz.wpAnyE_take (i := 4) (oi := { dst := some 19, op := Go.Op.indexAddr 40 (Go.Operand.tmp 17) (Go.Operand.tmp 18), type := 0, pos := "ref.go:42", after := #[{ on := 2, ground := Go.Ground.data }, { on := 3, ground := Go.Ground.data }], guard := none }) (v := ?_) rfl (by kernel_rfl) (by kernel_rfl) (by kernel_rfl) (by kernel_rfl) (fun _ _ _ h => h) (Or.inl ⟨by rfl, ?_⟩) hHeld ?_
    rotate_left 1
    · (intro w hSw; have q0 := F0 w hSw; have q1 := F1 w hSw; have q2 := F2 w hSw; go_simp; first | done | with_reducible rfl)
    try simp only [Act.put, List.setIfInBounds_toArray, List.set_cons_zero, List.set_cons_succ]
    refine Bz.wpAnyE_take (i := 5) (oi := { dst := some 20, op := Go.Op.fieldAddr 57 (Go.Operand.tmp 19) 1, type := 0, pos := "ref.go:42", after := #[{ on := 4, ground := Go.Ground.data }], guard := none }) (v := ?_) rfl (by kernel_rfl) (by kernel_rfl) (by kernel_rfl) (by kernel_rfl) (fun _ _ _ h => h) (Or.inl ⟨by rfl, ?_⟩) hHeld ?_
    rotate_left 1
    · (intro w hSw; have q0 := F0 w hSw; have q1 := F1 w hSw; have q2 := F2 w hSw; go_simp; first | done | with_reducible rfl)
    try simp only [Act.put, List.setIfInBounds_toArray, List.set_cons_zero, List.set_cons_succ]
    refine Bz.wpAnyE_take (i := 6) (oi := { dst := some 21, op := Go.Op.load 28 (Go.Operand.tmp 20), type := 28, pos := "ref.go:42", after := #[{ on := 5, ground := Go.Ground.data }], guard := none }) (v := ?_) rfl (by kernel_rfl) (by kernel_rfl) (by kernel_rfl) (by kernel_rfl) (fun _ _ _ h => h) (Or.inl ⟨by rfl, ?_⟩) hHeld ?_
    rotate_left 1
    · (intro w hSw; have q0 := F0 w hSw; have q1 := F1 w hSw; have q2 := F2 w hSw; go_simp; first | done | with_reducible rfl)
    try simp only [Act.put, List.setIfInBounds_toArray, List.set_cons_zero, List.set_cons_succ]
    refine Bz.wpAnyE_take (i := 8) (oi := { dst := some 23, op := Go.Op.load 28 (Go.Operand.tmp 3), type := 28, pos := "ref.go:42", after := #[], guard := none }) (v := ?_) rfl (by kernel_rfl) (by kernel_rfl) (by kernel_rfl) (by kernel_rfl) (fun _ _ _ h => h) (Or.inl ⟨by rfl, ?_⟩) hHeld ?_
    rotate_left 1
    · (intro w hSw; have q0 := F0 w hSw; have q1 := F1 w hSw; have q2 := F2 w hSw; go_simp; first | done | with_reducible rfl)
    try simp only [Act.put, List.setIfInBounds_toArray, List.set_cons_zero, List.set_cons_succ]
    refine Bz.wpAnyE_ready (rs := [7, 9]) (by kernel_rfl) (by simp) ?_
    refine Bz.AllReadyE.cons (o := { dst := some 22, op := Go.Op.call { callee := Go.Callee.value (Go.Operand.func 26), args := #[Go.Operand.tmp 15, Go.Operand.tmp 21], argTypes := #[42, 28] }, type := 47, pos := "ref.go:42", after := #[{ on := 0, ground := Go.Ground.data }, { on := 6, ground := Go.Ground.data }], guard := none }) rfl (fun K hK => ?_) ?_
    · skip
      go_simp
      
      refine (ih _ _ (hR.keep0 hHeld)).mono ?_
      rintro e w5 ⟨v5, rfl, hO5, hk5⟩
      have hz := hHeld.size
      have hz5 := hk5.size
      try have hBn := hBn.keep hk5 (by simp)
      refine hK.out _ _ (by exact hHeld.trans hk5) ?_
      clear hHeld hK K; intro hHeld
      try simp only [Act.put, List.setIfInBounds_toArray, List.set_cons_zero, List.set_cons_succ]
      refine Bz.wpAnyE_ready (rs := [9]) (by kernel_rfl) (by simp) ?_
      refine Bz.AllReadyE.cons (o := { dst := some 24, op := Go.Op.buildSlice 47 1 #[(0, Go.Operand.tmp 23)], type := 47, pos := "ref.go:42", after := #[{ on := 8, ground := Go.Ground.data }], guard := none }) rfl (fun K hK => ?_) Bz.AllReadyE.nil
      
      go_simp
      first | (have hBn := Blk.new w5 28 (dcells x)) | (have hBn := Blk.new w1.drew 28 (dcells x))
      try have hO5 := hO5.alloc (.cells (dcells x) 28)
      refine hK.out _ _ (by exact hHeld.alloc _) ?_
      clear hHeld hK K; intro hHeld
      try simp only [Act.put, List.setIfInBounds_toArray, List.set_cons_zero, List.set_cons_succ]
      refine Bz.wpAnyE_ready (rs := [10]) (by kernel_rfl) (by simp) ?_
      refine Bz.AllReadyE.cons (o := { dst := some 25, op := Go.Op.call { callee := Go.Callee.builtin Go.Builtin.append, args := #[Go.Operand.tmp 22, Go.Operand.tmp 24], argTypes := #[47, 47] }, type := 47, pos := "ref.go:42", after := #[{ on := 7, ground := Go.Ground.data }, { on := 9, ground := Go.Ground.data }, { on := 7, ground := Go.Ground.chain }], guard := none }) rfl (fun K hK => ?_) Bz.AllReadyE.nil
      
      refine oper_append1 _ _ 47 rfl app47 rfl hO5 rfl hBn rfl (dc_one _) (by omega) (by unfold maxLen; omega) (by first | exact hz5 | exact Nat.le_trans hz5 (by simp)) ?_
      intro v6 w6 hO6 hk6
      refine hK.out _ _ (by exact hHeld.andThen hk6 (fun g hg => .inr (Nat.le_trans hz (hO5.lt g hg).1))) ?_
      clear hHeld hK K; intro hHeld
      try simp only [Act.put, List.setIfInBounds_toArray, List.set_cons_zero, List.set_cons_succ]
      refine Bz.wpAnyE_take (i := 11) (oi := { dst := some 4, op := Go.Op.assign (Go.Operand.tmp 25), type := 47, pos := "ref.go:42", after := #[{ on := 10, ground := Go.Ground.data }, { on := 10, ground := Go.Ground.chain }, { on := 0, ground := Go.Ground.phase }, { on := 1, ground := Go.Ground.phase }, { on := 2, ground := Go.Ground.phase }, { on := 3, ground := Go.Ground.phase }, { on := 4, ground := Go.Ground.phase }, { on := 5, ground := Go.Ground.phase }, { on := 6, ground := Go.Ground.phase }, { on := 7, ground := Go.Ground.phase }, { on := 8, ground := Go.Ground.phase }, { on := 9, ground := Go.Ground.phase }, { on := 10, ground := Go.Ground.phase }], guard := none }) (v := ?_) rfl (by kernel_rfl) (by kernel_rfl) (by kernel_rfl) (by kernel_rfl) (fun _ _ _ h => h) (Or.inl ⟨by rfl, ?_⟩) hHeld ?_
      rotate_left 1
      · (intro w hSw; have q0 := F0 w hSw; have q1 := F1 w hSw; have q2 := F2 w hSw; go_simp; first | done | with_reducible rfl)
      try simp only [Act.put, List.setIfInBounds_toArray, List.set_cons_zero, List.set_cons_succ]
      refine Bz.wpAnyE_done (by kernel_rfl) ?_ _
      refine NoPanic.normal ?_
      go_wp2_with fail
      go_ret
      exact ⟨_, rfl, by rw [hL]; exact hO6.mono (Nat.le_trans hK.size hz), hK.trans hHeld⟩
    refine Bz.AllReadyE.cons (o := { dst := some 24, op := Go.Op.buildSlice 47 1 #[(0, Go.Operand.tmp 23)], type := 47, pos := "ref.go:42", after := #[{ on := 8, ground := Go.Ground.data }], guard := none }) rfl (fun K hK => ?_) ?_
    · skip
      
      go_simp
      first | (have hBn := Blk.new w5 28 (dcells x)) | (have hBn := Blk.new w1.drew 28 (dcells x))
      try have hO5 := hO5.alloc (.cells (dcells x) 28)
      refine hK.out _ _ (by exact hHeld.alloc _) ?_
      clear hHeld hK K; intro hHeld
      try simp only [Act.put, List.setIfInBounds_toArray, List.set_cons_zero, List.set_cons_succ]
      refine Bz.wpAnyE_ready (rs := [7]) (by kernel_rfl) (by simp) ?_
      refine Bz.AllReadyE.cons (o := { dst := some 22, op := Go.Op.call { callee := Go.Callee.value (Go.Operand.func 26), args := #[Go.Operand.tmp 15, Go.Operand.tmp 21], argTypes := #[42, 28] }, type := 47, pos := "ref.go:42", after := #[{ on := 0, ground := Go.Ground.data }, { on := 6, ground := Go.Ground.data }], guard := none }) rfl (fun K hK => ?_) Bz.AllReadyE.nil
      go_simp
      
      refine (ih _ _ (hR.keep0 hHeld)).mono ?_
      rintro e w5 ⟨v5, rfl, hO5, hk5⟩
      have hz := hHeld.size
      have hz5 := hk5.size
      try have hBn := hBn.keep hk5 (by simp)
      refine hK.out _ _ (by exact hHeld.trans hk5) ?_
      clear hHeld hK K; intro hHeld
      try simp only [Act.put, List.setIfInBounds_toArray, List.set_cons_zero, List.set_cons_succ]
      refine Bz.wpAnyE_ready (rs := [10]) (by kernel_rfl) (by simp) ?_
      refine Bz.AllReadyE.cons (o := { dst := some 25, op := Go.Op.call { callee := Go.Callee.builtin Go.Builtin.append, args := #[Go.Operand.tmp 22, Go.Operand.tmp 24], argTypes := #[47, 47] }, type := 47, pos := "ref.go:42", after := #[{ on := 7, ground := Go.Ground.data }, { on := 9, ground := Go.Ground.data }, { on := 7, ground := Go.Ground.chain }], guard := none }) rfl (fun K hK => ?_) Bz.AllReadyE.nil
      
      refine oper_append1 _ _ 47 rfl app47 rfl hO5 rfl hBn rfl (dc_one _) (by omega) (by unfold maxLen; omega) (by first | exact hz5 | exact Nat.le_trans hz5 (by simp)) ?_
      intro v6 w6 hO6 hk6
      refine hK.out _ _ (by exact hHeld.andThen hk6 (fun g hg => .inr (Nat.le_trans hz (hO5.lt g hg).1))) ?_
      clear hHeld hK K; intro hHeld
      try simp only [Act.put, List.setIfInBounds_toArray, List.set_cons_zero, List.set_cons_succ]
      refine Bz.wpAnyE_take (i := 11) (oi := { dst := some 4, op := Go.Op.assign (Go.Operand.tmp 25), type := 47, pos := "ref.go:42", after := #[{ on := 10, ground := Go.Ground.data }, { on := 10, ground := Go.Ground.chain }, { on := 0, ground := Go.Ground.phase }, { on := 1, ground := Go.Ground.phase }, { on := 2, ground := Go.Ground.phase }, { on := 3, ground := Go.Ground.phase }, { on := 4, ground := Go.Ground.phase }, { on := 5, ground := Go.Ground.phase }, { on := 6, ground := Go.Ground.phase }, { on := 7, ground := Go.Ground.phase }, { on := 8, ground := Go.Ground.phase }, { on := 9, ground := Go.Ground.phase }, { on := 10, ground := Go.Ground.phase }], guard := none }) (v := ?_) rfl (by kernel_rfl) (by kernel_rfl) (by kernel_rfl) (by kernel_rfl) (fun _ _ _ h => h) (Or.inl ⟨by rfl, ?_⟩) hHeld ?_
      rotate_left 1
      · (intro w hSw; have q0 := F0 w hSw; have q1 := F1 w hSw; have q2 := F2 w hSw; go_simp; first | done | with_reducible rfl)
      try simp only [Act.put, List.setIfInBounds_toArray, List.set_cons_zero, List.set_cons_succ]
      refine Bz.wpAnyE_done (by kernel_rfl) ?_ _
      refine NoPanic.normal ?_
      go_wp2_with fail
      go_ret
      exact ⟨_, rfl, by rw [hL]; exact hO6.mono (Nat.le_trans hK.size hz), hK.trans hHeld⟩
    exact Bz.AllReadyE.nil
theorem rline_not {T : FT} (h : T.WF) {x : D8} (hx : T.is x = false) {w : World} {V : Value} (hs : Sl w 57 16 renc V T.ref) :
    Calls Try.prog 26 #[rtv V T.rt, dv x] w (fun e w' => e = .returned (.slice none 0 0) ∧ Keep [] w w') := by
  have hlen := T.ref_len
  have hsz := h.size
  have hR : Sl w 57 16 renc V T.rt.l := hs
  have hRl : T.rt.l.length ≤ 5000 := by show T.ref.length ≤ 5000; omega
  have hk' : findIn x T.rt.l = (-1 : Int) := T.ref_not hx
  have hK := ((Keep.refl [] w).alloc (.cells (rcells V T.rt) 42)).alloc (.cells (dcells x) 28)
  have hR := hR.keep0 hK
  have hB0 := (Blk.new w 42 (rcells V T.rt)).alloc (.cells (dcells x) 28)
  have hB1 := Blk.new_ (w := w.alloc (.cells (rcells V T.rt) 42)) (t := 28) (cs := dcells x) (g := w.heap.size + 1) (by simp)
  go_enter Try.func26, Try.ntmps26
  go_wp2_with (first | (go_at_call 24; refine (find_any hR x hRl).mono ?_; rw [hk']; rintro e w1 ⟨rfl, hk1⟩; have hR := hR.keep0 hk1; have hK := hK.trans hk1; have hB0 := hB0.keep hk1 (by simp); have hB1 := hB1.keep hk1 (by simp); have c0 := hB0.cell; have c1 := hB1.cell; clear hk1))
  go_ret
  exact ⟨rfl, hK⟩
theorem rline_any {T : FT} (h : T.WF) (hh : T.Hd) (x : D8) {w : World} {V : Value} (hs : Sl w 57 16 renc V T.ref) :
    Calls Try.prog 26 #[rtv V T.rt, dv x] w (fun e w' => ∃ v, e = .returned v ∧ Own w' w.heap.size 28 8 dcells v (T.lines x) ∧ Keep [] w w') := by
  unfold FT.lines
  by_cases hx : T.is x = true
  · rw [if_pos hx]
    exact rline_is h hh _ x w V hx (Int.toNat_of_nonneg (h.nonneg hx).1).symm hs
  · rw [if_neg hx]
    refine (rline_not h (by simpa using hx) hs).mono ?_
    rintro e w' ⟨rfl, hk⟩
    exact ⟨_, rfl, Own.nil .., hk⟩
end Go.Proofs.Ytbkchniomhdieaa
