/- The document's tree beside ours; its Find walked. -/
import Derived.Test.YtbkchniomhdieaaBegin
namespace Go.Proofs.Ytbkchniomhdieaa
open Go.RowKit Go.Bz

/-- The document's blocks. -/
def FT.ref (T : FT) : List (D8 × D8) := T.bl.map fun p => (p.1, p.2.1)
def FT.rt (T : FT) : RT := ⟨T.depth, T.ref, T.tip⟩
/-- Where a block stands; -1: it isn't there. -/
def findIn (x : D8) : List (D8 × D8) → Int
  | [] => -1
  | p :: r => if p.1 = x then 0 else if findIn x r < 0 then -1 else findIn x r + 1
theorem findIn_lt (x : D8) : ∀ l, -1 ≤ findIn x l ∧ findIn x l < l.length
  | [] => by simp [findIn]
  | p :: r => by
    unfold findIn
    have := findIn_lt x r
    split
    · simp only [List.length_cons]; omega
    · split <;> simp only [List.length_cons] <;> omega
theorem findIn_at (x : D8) : ∀ (l : List (D8 × D8)) (k : Nat), (∀ (i : Nat) (p : D8 × D8), i < k → l[i]? = some p → p.1 ≠ x) → (∃ p, l[k]? = some p ∧ p.1 = x) → findIn x l = k
  | [], k, _, ⟨p, hp, _⟩ => by simp at hp
  | q :: r, 0, _, ⟨p, hp, he⟩ => by simp at hp; subst hp; simp [findIn, he]
  | q :: r, k + 1, h, ⟨p, hp, he⟩ => by
    have h0 := h 0 q (by omega) rfl
    have ih := findIn_at x r k (fun i p hi hp => h (i + 1) p (by omega) (by simpa using hp)) ⟨p, by simpa using hp, he⟩
    unfold findIn
    rw [if_neg h0, ih, if_neg (by omega)]
    omega
theorem findIn_none (x : D8) : ∀ (l : List (D8 × D8)), (∀ (i : Nat) (p : D8 × D8), l[i]? = some p → p.1 ≠ x) → findIn x l = -1
  | [], _ => rfl
  | q :: r, h => by
    have ih := findIn_none x r (fun i p hp => h (i + 1) p (by simpa using hp))
    unfold findIn
    rw [if_neg (h 0 q rfl), ih, if_pos (by omega)]
theorem _root_.Go.Bz.SlAt.at16 {w : World} {ty : TypeId} {g o : Nat} {l : List (D8 × D8)} (h : SlAt w ty 16 renc g o l) {i : Nat} {p : D8 × D8} (hi : l[i]? = some p) : At8 w g (o + i * 16) p.1 ∧ At8 w g (o + i * 16 + 8) p.2 :=
  ⟨⟨h.cell hi (j := 0) (by omega), h.cell hi (j := 1) (by omega), h.cell hi (j := 2) (by omega), h.cell hi (j := 3) (by omega), h.cell hi (j := 4) (by omega), h.cell hi (j := 5) (by omega), h.cell hi (j := 6) (by omega), h.cell hi (j := 7) (by omega)⟩,
   ⟨h.cell hi (j := 8) (by omega), h.cell hi (j := 9) (by omega), h.cell hi (j := 10) (by omega), h.cell hi (j := 11) (by omega), h.cell hi (j := 12) (by omega), h.cell hi (j := 13) (by omega), h.cell hi (j := 14) (by omega), h.cell hi (j := 15) (by omega)⟩⟩
set_option maxHeartbeats 1000000 in
theorem find_any {w : World} {V : Value} {R : RT} (hs : Sl w 57 16 renc V R.l) (x : D8) (hl : R.l.length ≤ 5000) :
    Calls Try.prog 24 #[rtv V R, dv x] w (fun e w' => e = .returned (.int .i64 (findIn x R.l)) ∧ Keep [] w w') := by
  obtain ⟨dep, l, tip⟩ := R
  obtain ⟨A, cap, rfl, hc1, hc2, hc3⟩ := hs
  simp only at hc1 hc3 hl
  have hB0 := (Blk.new w 42 (rcells (.slice A l.length cap) ⟨dep, l, tip⟩)).alloc (.cells (dcells x) 28)
  have hB1 := Blk.new_ (w := w.alloc (.cells (rcells (.slice A l.length cap) ⟨dep, l, tip⟩) 42)) (t := 28) (cs := dcells x) (g := w.heap.size + 1) (by simp)
  have hK0 := ((Keep.refl [] w).alloc (.cells (rcells (.slice A l.length cap) ⟨dep, l, tip⟩) 42)).alloc (.cells (dcells x) 28)
  go_enter Try.func24, Try.ntmps24
  go_wp2_with fail
  go_loopg [5] l.length (fun m i wr => ∃ k : Nat, i = .int .i64 k ∧ m + k = l.length ∧ Hid (∀ i p, i < k → l[i]? = some p → p.1 ≠ x) ∧ Blk wr w.heap.size 42 (rcells (.slice A l.length cap) ⟨dep, l, tip⟩) ∧ Blk wr (w.heap.size + 1) 28 (dcells x) ∧ Keep [] w wr)
  case atStart => exact ⟨0, rfl, rfl, Lib.hid (fun i p h => by omega), hB0, hB1, hK0⟩
  case round =>
    clear hB0 hB1 hK0
    obtain ⟨k, rfl, hk, HG, hB0, hB1, hK⟩ := hrel
    have c0 := hB0.cell
    have c1 := hB1.cell
    by_cases hlt : k < l.length
    · obtain ⟨g, o, rfl, hsl⟩ := hc3 (by intro e; rw [e] at hlt; simp at hlt)
      obtain ⟨p, hp⟩ : ∃ p, l[k]? = some p := ⟨_, List.getElem?_eq_getElem hlt⟩
      have hr := ((hsl.keep hK (by simp)).at16 hp).1
      have HP := Lib.hid hp
      have heq := fun W => run_eqD8 (P := Try.prog) W dt28 9998 p.1 x
      have HK := Lib.hid hk
      clear hp hk hsl
      by_cases he : p.1 = x
      · rw [decide_eq_true he] at heq
        have HE := Lib.hid he
        clear he
        go_wp2_with fail
        refine wp_region_noPanic ?_
        refine Bz.wp_region_E (S := (fun w' => At8 w' g (o + k * 16) p.1 ∧ (∀ i, w'.cell? ⟨w.heap.size, i, none⟩ = (rcells (.slice (some ⟨g, o, none⟩) l.length cap) ⟨dep, l, tip⟩)[i]?) ∧ (∀ i, w'.cell? ⟨w.heap.size + 1, i, none⟩ = (dcells x)[i]?))) (E := []) (by kernel_rfl) (by exact ⟨hr, c0, c1⟩) (fun hHeld => ?_)
        refine Bz.wpAnyE_take (i := 0) (oi := { dst := some 13, op := Go.Op.fieldAddr 42 (Go.Operand.tmp 2) 1, type := 0, pos := "ref.go:26", after := #[], guard := none }) (v := ?_) rfl (by kernel_rfl) (by kernel_rfl) (by kernel_rfl) (by kernel_rfl) (fun _ _ _ h => h) (Or.inl ⟨by rfl, ?_⟩) hHeld ?_
        rotate_left 1
        · (intro w hSw; simp only [At8] at hSw; go_simp; first | done | with_reducible rfl)
        try simp only [Act.put, List.setIfInBounds_toArray, List.set_cons_zero, List.set_cons_succ]
        refine Bz.wpAnyE_take (i := 1) (oi := { dst := some 14, op := Go.Op.load 40 (Go.Operand.tmp 13), type := 40, pos := "ref.go:26", after := #[{ on := 0, ground := Go.Ground.data }], guard := none }) (v := ?_) rfl (by kernel_rfl) (by kernel_rfl) (by kernel_rfl) (by kernel_rfl) (fun _ _ _ h => h) (Or.inl ⟨by rfl, ?_⟩) hHeld ?_
        rotate_left 1
        · (intro w hSw; simp only [At8] at hSw; go_simp; first | done | with_reducible rfl)
        try simp only [Act.put, List.setIfInBounds_toArray, List.set_cons_zero, List.set_cons_succ]
        refine Bz.wpAnyE_take (i := 2) (oi := { dst := some 15, op := Go.Op.move (Go.Operand.tmp 5), type := 3, pos := "ref.go:26", after := #[], guard := none }) (v := ?_) rfl (by kernel_rfl) (by kernel_rfl) (by kernel_rfl) (by kernel_rfl) (fun _ _ _ h => h) (Or.inl ⟨by rfl, ?_⟩) hHeld ?_
        rotate_left 1
        · (intro w hSw; simp only [At8] at hSw; go_simp; first | done | with_reducible rfl)
        try simp only [Act.put, List.setIfInBounds_toArray, List.set_cons_zero, List.set_cons_succ]
        refine Bz.wpAnyE_take (i := 3) (oi := { dst := some 16, op := Go.Op.indexAddr 40 (Go.Operand.tmp 14) (Go.Operand.tmp 15), type := 0, pos := "ref.go:26", after := #[{ on := 1, ground := Go.Ground.data }, { on := 2, ground := Go.Ground.data }], guard := none }) (v := ?_) rfl (by kernel_rfl) (by kernel_rfl) (by kernel_rfl) (by kernel_rfl) (fun _ _ _ h => h) (Or.inl ⟨by rfl, ?_⟩) hHeld ?_
        rotate_left 1
        · (intro w hSw; simp only [At8] at hSw; go_simp; first | done | with_reducible rfl)
        try simp only [Act.put, List.setIfInBounds_toArray, List.set_cons_zero, List.set_cons_succ]
        refine Bz.wpAnyE_take (i := 4) (oi := { dst := some 17, op := Go.Op.fieldAddr 57 (Go.Operand.tmp 16) 0, type := 0, pos := "ref.go:26", after := #[{ on := 3, ground := Go.Ground.data }], guard := none }) (v := ?_) rfl (by kernel_rfl) (by kernel_rfl) (by kernel_rfl) (by kernel_rfl) (fun _ _ _ h => h) (Or.inl ⟨by rfl, ?_⟩) hHeld ?_
        rotate_left 1
        · (intro w hSw; simp only [At8] at hSw; go_simp; first | done | with_reducible rfl)
        try simp only [Act.put, List.setIfInBounds_toArray, List.set_cons_zero, List.set_cons_succ]
        refine Bz.wpAnyE_take (i := 5) (oi := { dst := some 18, op := Go.Op.load 28 (Go.Operand.tmp 17), type := 28, pos := "ref.go:26", after := #[{ on := 4, ground := Go.Ground.data }], guard := none }) (v := ?_) rfl (by kernel_rfl) (by kernel_rfl) (by kernel_rfl) (by kernel_rfl) (fun _ _ _ h => h) (Or.inl ⟨by rfl, ?_⟩) hHeld ?_
        rotate_left 1
        · (intro w hSw; simp only [At8] at hSw; go_simp; first | done | with_reducible rfl)
        try simp only [Act.put, List.setIfInBounds_toArray, List.set_cons_zero, List.set_cons_succ]
        refine Bz.wpAnyE_take (i := 6) (oi := { dst := some 19, op := Go.Op.load 28 (Go.Operand.tmp 3), type := 28, pos := "ref.go:26", after := #[], guard := none }) (v := ?_) rfl (by kernel_rfl) (by kernel_rfl) (by kernel_rfl) (by kernel_rfl) (fun _ _ _ h => h) (Or.inl ⟨by rfl, ?_⟩) hHeld ?_
        rotate_left 1
        · (intro w hSw; simp only [At8] at hSw; go_simp; first | done | with_reducible rfl)
        try simp only [Act.put, List.setIfInBounds_toArray, List.set_cons_zero, List.set_cons_succ]
        refine Bz.wpAnyE_take (i := 7) (oi := { dst := some 20, op := Go.Op.binOp Go.BinOp.eql 28 (Go.Operand.tmp 18) (Go.Operand.tmp 19) 28, type := 4, pos := "ref.go:26", after := #[{ on := 5, ground := Go.Ground.data }, { on := 6, ground := Go.Ground.data }], guard := none }) (v := ?_) rfl (by kernel_rfl) (by kernel_rfl) (by kernel_rfl) (by kernel_rfl) (fun _ _ _ h => h) (Or.inl ⟨by rfl, ?_⟩) hHeld ?_
        rotate_left 1
        · (intro w hSw; simp only [At8] at hSw; go_simp; first | done | with_reducible rfl)
        try simp only [Act.put, List.setIfInBounds_toArray, List.set_cons_zero, List.set_cons_succ]
        refine Bz.wpAnyE_done (by kernel_rfl) ?_ _
        refine NoPanic.normal ?_
        
        clear hHeld
        go_wp2_with fail
        go_ret
        exact ⟨by rw [findIn_at x l k HG.out ⟨p, HP.out, HE.out⟩]; rfl, hK.drew⟩
      · rw [decide_eq_false he] at heq
        have HE := Lib.hid he
        clear he
        go_wp2_with fail
        refine wp_region_noPanic ?_
        refine Bz.wp_region_E (S := (fun w' => At8 w' g (o + k * 16) p.1 ∧ (∀ i, w'.cell? ⟨w.heap.size, i, none⟩ = (rcells (.slice (some ⟨g, o, none⟩) l.length cap) ⟨dep, l, tip⟩)[i]?) ∧ (∀ i, w'.cell? ⟨w.heap.size + 1, i, none⟩ = (dcells x)[i]?))) (E := []) (by kernel_rfl) (by exact ⟨hr, c0, c1⟩) (fun hHeld => ?_)
        refine Bz.wpAnyE_take (i := 0) (oi := { dst := some 13, op := Go.Op.fieldAddr 42 (Go.Operand.tmp 2) 1, type := 0, pos := "ref.go:26", after := #[], guard := none }) (v := ?_) rfl (by kernel_rfl) (by kernel_rfl) (by kernel_rfl) (by kernel_rfl) (fun _ _ _ h => h) (Or.inl ⟨by rfl, ?_⟩) hHeld ?_
        rotate_left 1
        · (intro w hSw; simp only [At8] at hSw; go_simp; first | done | with_reducible rfl)
        try simp only [Act.put, List.setIfInBounds_toArray, List.set_cons_zero, List.set_cons_succ]
        refine Bz.wpAnyE_take (i := 1) (oi := { dst := some 14, op := Go.Op.load 40 (Go.Operand.tmp 13), type := 40, pos := "ref.go:26", after := #[{ on := 0, ground := Go.Ground.data }], guard := none }) (v := ?_) rfl (by kernel_rfl) (by kernel_rfl) (by kernel_rfl) (by kernel_rfl) (fun _ _ _ h => h) (Or.inl ⟨by rfl, ?_⟩) hHeld ?_
        rotate_left 1
        · (intro w hSw; simp only [At8] at hSw; go_simp; first | done | with_reducible rfl)
        try simp only [Act.put, List.setIfInBounds_toArray, List.set_cons_zero, List.set_cons_succ]
        refine Bz.wpAnyE_take (i := 2) (oi := { dst := some 15, op := Go.Op.move (Go.Operand.tmp 5), type := 3, pos := "ref.go:26", after := #[], guard := none }) (v := ?_) rfl (by kernel_rfl) (by kernel_rfl) (by kernel_rfl) (by kernel_rfl) (fun _ _ _ h => h) (Or.inl ⟨by rfl, ?_⟩) hHeld ?_
        rotate_left 1
        · (intro w hSw; simp only [At8] at hSw; go_simp; first | done | with_reducible rfl)
        try simp only [Act.put, List.setIfInBounds_toArray, List.set_cons_zero, List.set_cons_succ]
        refine Bz.wpAnyE_take (i := 3) (oi := { dst := some 16, op := Go.Op.indexAddr 40 (Go.Operand.tmp 14) (Go.Operand.tmp 15), type := 0, pos := "ref.go:26", after := #[{ on := 1, ground := Go.Ground.data }, { on := 2, ground := Go.Ground.data }], guard := none }) (v := ?_) rfl (by kernel_rfl) (by kernel_rfl) (by kernel_rfl) (by kernel_rfl) (fun _ _ _ h => h) (Or.inl ⟨by rfl, ?_⟩) hHeld ?_
        rotate_left 1
        · (intro w hSw; simp only [At8] at hSw; go_simp; first | done | with_reducible rfl)
        try simp only [Act.put, List.setIfInBounds_toArray, List.set_cons_zero, List.set_cons_succ]
        refine Bz.wpAnyE_take (i := 4) (oi := { dst := some 17, op := Go.Op.fieldAddr 57 (Go.Operand.tmp 16) 0, type := 0, pos := "ref.go:26", after := #[{ on := 3, ground := Go.Ground.data }], guard := none }) (v := ?_) rfl (by kernel_rfl) (by kernel_rfl) (by kernel_rfl) (by kernel_rfl) (fun _ _ _ h => h) (Or.inl ⟨by rfl, ?_⟩) hHeld ?_
        rotate_left 1
        · (intro w hSw; simp only [At8] at hSw; go_simp; first | done | with_reducible rfl)
        try simp only [Act.put, List.setIfInBounds_toArray, List.set_cons_zero, List.set_cons_succ]
        refine Bz.wpAnyE_take (i := 5) (oi := { dst := some 18, op := Go.Op.load 28 (Go.Operand.tmp 17), type := 28, pos := "ref.go:26", after := #[{ on := 4, ground := Go.Ground.data }], guard := none }) (v := ?_) rfl (by kernel_rfl) (by kernel_rfl) (by kernel_rfl) (by kernel_rfl) (fun _ _ _ h => h) (Or.inl ⟨by rfl, ?_⟩) hHeld ?_
        rotate_left 1
        · (intro w hSw; simp only [At8] at hSw; go_simp; first | done | with_reducible rfl)
        try simp only [Act.put, List.setIfInBounds_toArray, List.set_cons_zero, List.set_cons_succ]
        refine Bz.wpAnyE_take (i := 6) (oi := { dst := some 19, op := Go.Op.load 28 (Go.Operand.tmp 3), type := 28, pos := "ref.go:26", after := #[], guard := none }) (v := ?_) rfl (by kernel_rfl) (by kernel_rfl) (by kernel_rfl) (by kernel_rfl) (fun _ _ _ h => h) (Or.inl ⟨by rfl, ?_⟩) hHeld ?_
        rotate_left 1
        · (intro w hSw; simp only [At8] at hSw; go_simp; first | done | with_reducible rfl)
        try simp only [Act.put, List.setIfInBounds_toArray, List.set_cons_zero, List.set_cons_succ]
        refine Bz.wpAnyE_take (i := 7) (oi := { dst := some 20, op := Go.Op.binOp Go.BinOp.eql 28 (Go.Operand.tmp 18) (Go.Operand.tmp 19) 28, type := 4, pos := "ref.go:26", after := #[{ on := 5, ground := Go.Ground.data }, { on := 6, ground := Go.Ground.data }], guard := none }) (v := ?_) rfl (by kernel_rfl) (by kernel_rfl) (by kernel_rfl) (by kernel_rfl) (fun _ _ _ h => h) (Or.inl ⟨by rfl, ?_⟩) hHeld ?_
        rotate_left 1
        · (intro w hSw; simp only [At8] at hSw; go_simp; first | done | with_reducible rfl)
        try simp only [Act.put, List.setIfInBounds_toArray, List.set_cons_zero, List.set_cons_succ]
        refine Bz.wpAnyE_done (by kernel_rfl) ?_ _
        refine NoPanic.normal ?_
        
        clear hHeld
        go_wp2_with fail
        have hk := HK.out
        go_roundg (l.length - (k + 1))
        case measure => omega
        case rel =>
          refine ⟨k + 1, by go_num, by omega, Lib.hid (fun i q hi hq => ?_), hB0.drew, hB1.drew, hK.drew⟩
          by_cases hik : i = k
          · subst hik
            rw [HP.out] at hq
            cases hq
            exact HE.out
          · exact HG.out i q (by omega) hq
    · go_wp2_with fail
      go_ret
      exact ⟨by rw [findIn_none x l (fun i p hp => HG.out i p (by have := (List.getElem?_eq_some_iff.1 hp).1; omega) hp)]; rfl, hK⟩
end Go.Proofs.Ytbkchniomhdieaa
