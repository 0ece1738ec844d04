/- ForkLooks walked. -/
import Derived.Test.YtbkchniomhdieaaClones
namespace Go.Proofs.Ytbkchniomhdieaa
open Go.RowKit Go.Bz

theorem byteAt {w : World} {A : Option Addr} {l : List Int} (h : Rd w 1 (fun x : Int => #[Value.int .u8 x]) A l) {k : Nat} (hk : k < l.length) : ∃ ab ao, A = some ⟨ab, ao, none⟩ ∧ ab < w.heap.size ∧ ∃ x, l[k]? = some x ∧
    ∀ W, Keep [] w W → W.cell? ⟨ab, ao + k, none⟩ = some (.int .u8 x) := by
  have hi : l[k]? = some (l[k]) := List.getElem?_eq_getElem hk
  obtain ⟨ab, ao, h1, h2, h3⟩ := h.elem hi
  exact ⟨ab, ao, h1, h2, _, hi, fun W hW => by simpa using h3 W hW 0 (by decide)⟩
theorem FT.WF.find_under {T : FT} (h : T.WF) (hh : T.Hd) (x : D8) :
    (∃ k : Nat, findIn x T.rt.l = k ∧ 1 ≤ k ∧ T.rt.l[k]? = some (x, (T.get x).1) ∧ T.under x = true) ∨ (∃ n : Int, n ≤ 0 ∧ findIn x T.rt.l = n ∧ T.under x = false ∧ (T.get x).1 = d0) := by
  cases hi : T.is x with
  | false => exact .inr ⟨-1, by decide, FT.ref_not hi, by unfold FT.under; simp [hi], by unfold FT.get; rw [FT.is_false.1 hi]; rfl⟩
  | true =>
    obtain ⟨k, h1, h2, h3⟩ := h.ref_is hh hi
    by_cases hf : x = T.first
    · exact .inr ⟨k, by have := h3.2 hf; omega, h1, by unfold FT.under; simp [hf], by rw [hf, h.get_first]⟩
    · exact .inl ⟨k, h1, by have : k ≠ 0 := fun e => hf (h3.1 e); omega, h2, by unfold FT.under; simp [hi, hf]⟩
theorem FT.WF.undone_len {T : FT} (h : T.WF) (x y : D8) : (T.undone x y).length ≤ 5000 := by
  unfold FT.undone
  split
  · rename_i hx
    have := h.line_lt hx.1
    rw [List.length_reverse, List.length_drop]; omega
  · simp
set_option maxRecDepth 100000 in
set_option maxHeartbeats 8000000 in
theorem looks_any (dep : Int) (A : Option Addr) (l : List (Int × Int)) (cap : Nat) (A2 : Option Addr) (l2 : List Int) (cap2 : Nat) (w : World) (hlen : l.length ≤ 9223372036854775807) (hlen2 : l2.length ≤ 9223372036854775807) (hR : Rd w 2 cenc A l) (hR2 : Rd w 1 (fun x : Int => #[Value.int .u8 x]) A2 l2) :
    Calls Try.prog 6 #[.int .i64 dep, .slice A l.length cap, .slice A2 l2.length cap2] w (fun e w' => e = .returned (.bool true) ∧ Keep [] w w') := by
  go_enter Try.func6, Try.ntmps6
  go_wp2_with (first
    | (go_at_call 17; refine (begin_any _ _).mono ?_; rintro e w1 ⟨n, t, mb, V, hn0, hn1, rfl, ht, hmb, hT, hSV, hk1⟩; obtain ⟨AV, capV, rfl, _⟩ := id hSV)
    | (go_at_call 12; refine (told_any _).mono ?_; rintro e w3 ⟨rfl, hk3⟩))
  have hBX : Box (w1.alloc (.cells (rcells (.slice AV 1 capV) ⟨n, [(idv 0, d0)], idv 0⟩) 42)) w1.heap.size AV capV (FT.new (idv 0) n) := ⟨Blk.new _ _ _, hSV.keep0 ((Keep.refl _ _).alloc _)⟩
  have hBX := hBX.keep0 hk3
  have hT := (hT.alloc _).keep0 hk3
  have hKw := (hk1.alloc _).trans hk3
  have hb8 : w.heap.size ≤ w1.heap.size := hk1.size
  obtain ⟨b, hb⟩ : ∃ b, b = w1.heap.size := ⟨_, rfl⟩
  rw [← hb] at hBX hb8 ⊢
  have own : ∀ g ∈ [t, mb], w.heap.size ≤ g := by intro g hg; simp at hg; rcases hg with rfl | rfl <;> assumption
  clear hb hk1 hk3 hSV
  go_loopg [9] l.length (fun m i wr => ∃ (k : Nat) (T : FT) (A : Option Addr) (cap : Nat), i = .int .i64 k ∧ m + k = l.length ∧ TreeAt wr t mb T ∧ T.WF ∧ T.Hd ∧ Box wr b A cap T ∧ Keep [] w wr)
  case atStart => exact ⟨0, _, _, _, rfl, rfl, hT, FT.new_wf _ hn0 hn1, FT.new_hd _ _, hBX, hKw⟩
  case round =>
    clear hKw hT hBX
    obtain ⟨k, T, AV, capV, rfl, hk, hT, hWF, hHd, hBX, hKw⟩ := hrel
    have hgo : (k < l.length ∧ k < 40) ∨ (k < l.length ∧ ¬ k < 40) ∨ ¬ k < l.length := by omega
    rcases hgo with ⟨hlt, h80⟩ | hend
    · obtain ⟨ab, ao, rfl, hab, x, y, hxy, hcl⟩ := coming hR hlt
      have F0 := fun W (hk : Keep [] wr W) => (hBX.box.keep hk (by simp)).cell
      have Ff := fun W (hk : Keep [] wr W) => (hBX.box.keep hk (by simp)).frozen
      have F1 := fun W (hk : Keep [] wr W) => hcl W (hKw.trans hk)
      obtain ⟨T', HT'⟩ : ∃ T', Hid (T' = T.add (idv x) (idv y)) := ⟨_, Lib.hid rfl⟩
      have hWF' : T'.WF := by rw [HT'.out]; exact hWF.add _ _
      have hHd' : T'.Hd := by rw [HT'.out]; exact hHd.add _ _
      have hadd := fun w V => radd_any hWF hHd (idv x) (idv y) (w := w) (V := V)
      have hadd2 := fun w h => add_any (t := t) (mb := mb) (w := w) h hWF (idv x) (idv y)
      obtain ⟨er, HE⟩ : ∃ er, Hid (er = T.err (idv x) (idv y)) := ⟨_, Lib.hid rfl⟩
      rw [← HT'.out, ← HE.out] at hadd hadd2
      go_wp2_with fail
      refine wp_region_noPanic ?_
      refine Bz.wp_region_E (S := (fun w' => Keep [] wr w')) (E := [17]) (by kernel_rfl) (by exact (Keep.refl _ _).drew) (fun hHeld => ?_)
      refine Bz.wpAnyE_take (i := 0) (oi := { dst := some 39, op := Go.Op.load 42 (Go.Operand.tmp 8), type := 42, pos := "law.go:75", after := #[], guard := none }) (v := ?_) rfl (by kernel_rfl) (by kernel_rfl) (by kernel_rfl) (by kernel_rfl) (fun _ _ _ h => h) (Or.inl ⟨by rfl, ?_⟩) hHeld ?_
      rotate_left 1
      · (intro w hSw; have f0 := F0 w hSw; have f1 := F1 w hSw; go_simp; first | done | with_reducible rfl)
      try simp only [Act.put, List.setIfInBounds_toArray, List.set_cons_zero, List.set_cons_succ]
      refine Bz.wpAnyE_take (i := 1) (oi := { dst := some 40, op := Go.Op.move (Go.Operand.tmp 1), type := 22, pos := "law.go:75", after := #[], guard := none }) (v := ?_) rfl (by kernel_rfl) (by kernel_rfl) (by kernel_rfl) (by kernel_rfl) (fun _ _ _ h => h) (Or.inl ⟨by rfl, ?_⟩) hHeld ?_
      rotate_left 1
      · (intro w hSw; have f0 := F0 w hSw; have f1 := F1 w hSw; go_simp; first | done | with_reducible rfl)
      try simp only [Act.put, List.setIfInBounds_toArray, List.set_cons_zero, List.set_cons_succ]
      refine Bz.wpAnyE_take (i := 2) (oi := { dst := some 41, op := Go.Op.move (Go.Operand.tmp 9), type := 3, pos := "law.go:75", after := #[], guard := none }) (v := ?_) rfl (by kernel_rfl) (by kernel_rfl) (by kernel_rfl) (by kernel_rfl) (fun _ _ _ h => h) (Or.inl ⟨by rfl, ?_⟩) hHeld ?_
      rotate_left 1
      · (intro w hSw; have f0 := F0 w hSw; have f1 := F1 w hSw; go_simp; first | done | with_reducible rfl)
      try simp only [Act.put, List.setIfInBounds_toArray, List.set_cons_zero, List.set_cons_succ]
      refine Bz.wpAnyE_take (i := 3) (oi := { dst := some 42, op := Go.Op.indexAddr 22 (Go.Operand.tmp 40) (Go.Operand.tmp 41), type := 0, pos := "law.go:75", after := #[{ on := 1, ground := Go.Ground.data }, { on := 2, ground := Go.Ground.data }], guard := none }) (v := ?_) rfl (by kernel_rfl) (by kernel_rfl) (by kernel_rfl) (by kernel_rfl) (fun _ _ _ h => h) (Or.inl ⟨by rfl, ?_⟩) hHeld ?_
      rotate_left 1
      · (intro w hSw; have f0 := F0 w hSw; have f1 := F1 w hSw; go_simp; first | done | with_reducible rfl)
      try simp only [Act.put, List.setIfInBounds_toArray, List.set_cons_zero, List.set_cons_succ]
      refine Bz.wpAnyE_take (i := 4) (oi := { dst := some 43, op := Go.Op.fieldAddr 35 (Go.Operand.tmp 42) 0, type := 0, pos := "law.go:75", after := #[{ on := 3, ground := Go.Ground.data }], guard := none }) (v := ?_) rfl (by kernel_rfl) (by kernel_rfl) (by kernel_rfl) (by kernel_rfl) (fun _ _ _ h => h) (Or.inl ⟨by rfl, ?_⟩) hHeld ?_
      rotate_left 1
      · (intro w hSw; have f0 := F0 w hSw; have f1 := F1 w hSw; go_simp; first | done | with_reducible rfl)
      try simp only [Act.put, List.setIfInBounds_toArray, List.set_cons_zero, List.set_cons_succ]
      refine Bz.wpAnyE_take (i := 5) (oi := { dst := some 44, op := Go.Op.load 5 (Go.Operand.tmp 43), type := 5, pos := "law.go:75", after := #[{ on := 4, ground := Go.Ground.data }], guard := none }) (v := ?_) rfl (by kernel_rfl) (by kernel_rfl) (by kernel_rfl) (by kernel_rfl) (fun _ _ _ h => h) (Or.inl ⟨by rfl, ?_⟩) hHeld ?_
      rotate_left 1
      · (intro w hSw; have f0 := F0 w hSw; have f1 := F1 w hSw; go_simp; first | done | with_reducible rfl)
      try simp only [Act.put, List.setIfInBounds_toArray, List.set_cons_zero, List.set_cons_succ]
      refine Bz.wpAnyE_take (i := 7) (oi := { dst := some 46, op := Go.Op.move (Go.Operand.tmp 1), type := 22, pos := "law.go:75", after := #[], guard := none }) (v := ?_) rfl (by kernel_rfl) (by kernel_rfl) (by kernel_rfl) (by kernel_rfl) (fun _ _ _ h => h) (Or.inl ⟨by rfl, ?_⟩) hHeld ?_
      rotate_left 1
      · (intro w hSw; have f0 := F0 w hSw; have f1 := F1 w hSw; go_simp; first | done | with_reducible rfl)
      try simp only [Act.put, List.setIfInBounds_toArray, List.set_cons_zero, List.set_cons_succ]
      refine Bz.wpAnyE_take (i := 8) (oi := { dst := some 47, op := Go.Op.move (Go.Operand.tmp 9), type := 3, pos := "law.go:75", after := #[], guard := none }) (v := ?_) rfl (by kernel_rfl) (by kernel_rfl) (by kernel_rfl) (by kernel_rfl) (fun _ _ _ h => h) (Or.inl ⟨by rfl, ?_⟩) hHeld ?_
      rotate_left 1
      · (intro w hSw; have f0 := F0 w hSw; have f1 := F1 w hSw; go_simp; first | done | with_reducible rfl)
      try simp only [Act.put, List.setIfInBounds_toArray, List.set_cons_zero, List.set_cons_succ]
      refine Bz.wpAnyE_take (i := 9) (oi := { dst := some 48, op := Go.Op.indexAddr 22 (Go.Operand.tmp 46) (Go.Operand.tmp 47), type := 0, pos := "law.go:75", after := #[{ on := 7, ground := Go.Ground.data }, { on := 8, ground := Go.Ground.data }], guard := none }) (v := ?_) rfl (by kernel_rfl) (by kernel_rfl) (by kernel_rfl) (by kernel_rfl) (fun _ _ _ h => h) (Or.inl ⟨by rfl, ?_⟩) hHeld ?_
      rotate_left 1
      · (intro w hSw; have f0 := F0 w hSw; have f1 := F1 w hSw; go_simp; first | done | with_reducible rfl)
      try simp only [Act.put, List.setIfInBounds_toArray, List.set_cons_zero, List.set_cons_succ]
      refine Bz.wpAnyE_take (i := 10) (oi := { dst := some 49, op := Go.Op.fieldAddr 35 (Go.Operand.tmp 48) 1, type := 0, pos := "law.go:75", after := #[{ on := 9, ground := Go.Ground.data }], guard := none }) (v := ?_) rfl (by kernel_rfl) (by kernel_rfl) (by kernel_rfl) (by kernel_rfl) (fun _ _ _ h => h) (Or.inl ⟨by rfl, ?_⟩) hHeld ?_
      rotate_left 1
      · (intro w hSw; have f0 := F0 w hSw; have f1 := F1 w hSw; go_simp; first | done | with_reducible rfl)
      try simp only [Act.put, List.setIfInBounds_toArray, List.set_cons_zero, List.set_cons_succ]
      refine Bz.wpAnyE_take (i := 11) (oi := { dst := some 50, op := Go.Op.load 5 (Go.Operand.tmp 49), type := 5, pos := "law.go:75", after := #[{ on := 10, ground := Go.Ground.data }], guard := none }) (v := ?_) rfl (by kernel_rfl) (by kernel_rfl) (by kernel_rfl) (by kernel_rfl) (fun _ _ _ h => h) (Or.inl ⟨by rfl, ?_⟩) hHeld ?_
      rotate_left 1
      · (intro w hSw; have f0 := F0 w hSw; have f1 := F1 w hSw; go_simp; first | done | with_reducible rfl)
      try simp only [Act.put, List.setIfInBounds_toArray, List.set_cons_zero, List.set_cons_succ]
      refine Bz.wpAnyE_ready (rs := [6]) (by kernel_rfl) (by simp) ?_
      refine Bz.AllReadyE.cons (o := { dst := some 45, op := Go.Op.call { callee := Go.Callee.value (Go.Operand.func 11), args := #[Go.Operand.tmp 44], argTypes := #[5] }, type := 29, pos := "law.go:75", after := #[{ on := 5, ground := Go.Ground.data }], guard := none }) rfl (fun K hK => ?_) Bz.AllReadyE.nil
      go_simp
      
      refine (id_any _ _).mono ?_
      rintro e w5 ⟨rfl, hk5⟩
      refine hK.out _ _ (by exact hHeld.trans hk5) ?_
      clear hHeld hK K; intro hHeld
      try simp only [Act.put, List.setIfInBounds_toArray, List.set_cons_zero, List.set_cons_succ]
      refine Bz.wpAnyE_ready (rs := [12]) (by kernel_rfl) (by simp) ?_
      refine Bz.AllReadyE.cons (o := { dst := some 51, op := Go.Op.call { callee := Go.Callee.value (Go.Operand.func 11), args := #[Go.Operand.tmp 50], argTypes := #[5] }, type := 29, pos := "law.go:75", after := #[{ on := 11, ground := Go.Ground.data }, { on := 6, ground := Go.Ground.chain }], guard := none }) rfl (fun K hK => ?_) Bz.AllReadyE.nil
      go_simp
      
      refine (id_any _ _).mono ?_
      rintro e w5 ⟨rfl, hk5⟩
      refine hK.out _ _ (by exact hHeld.trans hk5) ?_
      clear hHeld hK K; intro hHeld
      try simp only [Act.put, List.setIfInBounds_toArray, List.set_cons_zero, List.set_cons_succ]
      refine Bz.wpAnyE_ready (rs := [13]) (by kernel_rfl) (by simp) ?_
      refine Bz.AllReadyE.cons (o := { dst := some 52, op := Go.Op.call { callee := Go.Callee.value (Go.Operand.func 22), args := #[Go.Operand.tmp 39, Go.Operand.tmp 45, Go.Operand.tmp 51], argTypes := #[42, 28, 28] }, type := 51, pos := "law.go:75", after := #[{ on := 0, ground := Go.Ground.data }, { on := 6, ground := Go.Ground.data }, { on := 12, ground := Go.Ground.data }, { on := 12, ground := Go.Ground.chain }], guard := none }) rfl (fun K hK => ?_) Bz.AllReadyE.nil
      go_simp
      
      refine (hadd _ _ (hBX.sl.keep0 hHeld)).mono ?_
      rintro e w6 ⟨V6, rfl, hS6, hk5⟩
      have hS6 : Sl w6 57 16 renc V6 T'.rt.l := hS6
      obtain ⟨A6, cap6, rfl, _⟩ := id hS6
      refine hK.out _ _ (by exact hHeld.trans hk5) ?_
      clear hHeld hK K; intro hHeld
      try simp only [Act.put, List.setIfInBounds_toArray, List.set_cons_zero, List.set_cons_succ]
      refine Bz.wpAnyE_take (i := 14) (oi := { dst := some 38, op := Go.Op.move (Go.Operand.tmp 52), type := 51, pos := "law.go:75", after := #[{ on := 13, ground := Go.Ground.data }], guard := none }) (v := ?_) rfl (by kernel_rfl) (by kernel_rfl) (by kernel_rfl) (by kernel_rfl) (fun _ _ _ h => h) (Or.inl ⟨by rfl, ?_⟩) hHeld ?_
      rotate_left 1
      · (intro w hSw; have f0 := F0 w hSw; have f1 := F1 w hSw; go_simp; first | done | with_reducible rfl)
      try simp only [Act.put, List.setIfInBounds_toArray, List.set_cons_zero, List.set_cons_succ]
      refine Bz.wpAnyE_take (i := 15) (oi := { dst := some 53, op := Go.Op.extract (Go.Operand.tmp 38) 0, type := 42, pos := "law.go:75", after := #[{ on := 14, ground := Go.Ground.data }], guard := none }) (v := ?_) rfl (by kernel_rfl) (by kernel_rfl) (by kernel_rfl) (by kernel_rfl) (fun _ _ _ h => h) (Or.inl ⟨by rfl, ?_⟩) hHeld ?_
      rotate_left 1
      · (intro w hSw; have f0 := F0 w hSw; have f1 := F1 w hSw; go_simp; first | done | with_reducible rfl)
      try simp only [Act.put, List.setIfInBounds_toArray, List.set_cons_zero, List.set_cons_succ]
      refine Bz.wpAnyE_takeT (i := 16) (oi := { dst := some 54, op := Go.Op.extract (Go.Operand.tmp 38) 1, type := 3, pos := "law.go:75", after := #[{ on := 14, ground := Go.Ground.data }, { on := 17, ground := Go.Ground.gcOnly Go.Departure.lateStores }], guard := none }) (v := ?_) rfl (by kernel_rfl) (by kernel_rfl) (by kernel_rfl) (fun _ _ _ h => h) (Or.inl ⟨by rfl, ?_⟩) ?_
      rotate_left 1
      · (intro w _; go_simp; first | done | with_reducible rfl)
      try simp only [Act.put, List.setIfInBounds_toArray, List.set_cons_zero, List.set_cons_succ]
      refine Bz.wpAnyE_ready (rs := [17]) (by kernel_rfl) (by simp) ?_
      refine Bz.AllReadyE.last (o := { dst := none, op := Go.Op.store 42 (Go.Operand.tmp 8) (Go.Operand.tmp 53), type := 0, pos := "law.go:75", after := #[{ on := 15, ground := Go.Ground.data }, { on := 13, ground := Go.Ground.chain }, { on := 0, ground := Go.Ground.phase }, { on := 1, ground := Go.Ground.phase }, { on := 2, ground := Go.Ground.phase }, { on := 3, ground := Go.Ground.phase }, { on := 4, ground := Go.Ground.phase }, { on := 5, ground := Go.Ground.phase }, { on := 6, ground := Go.Ground.phase }, { on := 7, ground := Go.Ground.phase }, { on := 8, ground := Go.Ground.phase }, { on := 9, ground := Go.Ground.phase }, { on := 10, ground := Go.Ground.phase }, { on := 11, ground := Go.Ground.phase }, { on := 12, ground := Go.Ground.phase }, { on := 13, ground := Go.Ground.phase }, { on := 14, ground := Go.Ground.phase }, { on := 15, ground := Go.Ground.phase }, { on := 16, ground := Go.Ground.textOnly Go.Departure.lateStores }], guard := none }) rfl (by rfl) (fun K hK => ?_) Bz.AllReadyE.nil
      
      have f0 := F0 _ hHeld
      have ff := Ff _ hHeld
      go_simp
      refine hK.out _ _ ?_
      clear hK K
      try simp only [Act.put, List.setIfInBounds_toArray, List.set_cons_zero, List.set_cons_succ]
      refine Bz.wpAnyE_done (by kernel_rfl) ?_ _
      refine NoPanic.normal ?_
      obtain ⟨w7, hw7⟩ : ∃ W, W = rtStore w6 b (.slice A6 T'.rt.l.length cap6) T'.rt := ⟨_, rfl⟩
      have hBX' := (hBX.keep0 hHeld).put (U := T') hS6
      have hT' := (hT.keep0 hHeld).keepB (W := T') (hBX.keep0 hHeld) (.slice A6 T'.rt.l.length cap6)
      have hKw' := (hKw.trans hHeld).own (rtStore_over (V := .slice A6 T'.rt.l.length cap6) (R := T'.rt) (hBX.keep0 hHeld).box).2 (by simpa using hb8)
      rw [← hw7] at hBX' hT' hKw'
      unfold rtStore at hw7
      skip
      clear F0 Ff F1 hBX hT hKw hadd
      go_wp2_with fail
      rw [← hw7]
      clear hw7
      have F1 := fun W (hk : Keep [] w W) => hcl W hk
      refine wp_region_noPanic ?_
      refine Bz.wp_region_E (S := (fun w' => w'.cell? ⟨ab, ao + k * 2, none⟩ = some (.int .u8 x) ∧ w'.cell? ⟨ab, ao + k * 2 + 1, none⟩ = some (.int .u8 y))) (E := []) (by kernel_rfl) (by exact hcl _ hKw'.drew) (fun hHeld => ?_)
      refine Bz.wpAnyE_take (i := 0) (oi := { dst := some 55, op := Go.Op.move (Go.Operand.tmp 7), type := 24, pos := "law.go:76", after := #[], guard := none }) (v := ?_) rfl (by kernel_rfl) (by kernel_rfl) (by kernel_rfl) (by kernel_rfl) (fun _ _ _ h => h) (Or.inl ⟨by rfl, ?_⟩) hHeld ?_
      rotate_left 1
      · (intro w hSw; (try dsimp only at hSw); go_simp; first | done | with_reducible rfl)
      try simp only [Act.put, List.setIfInBounds_toArray, List.set_cons_zero, List.set_cons_succ]
      refine Bz.wpAnyE_take (i := 1) (oi := { dst := some 56, op := Go.Op.move (Go.Operand.tmp 1), type := 22, pos := "law.go:76", after := #[], guard := none }) (v := ?_) rfl (by kernel_rfl) (by kernel_rfl) (by kernel_rfl) (by kernel_rfl) (fun _ _ _ h => h) (Or.inl ⟨by rfl, ?_⟩) hHeld ?_
      rotate_left 1
      · (intro w hSw; (try dsimp only at hSw); go_simp; first | done | with_reducible rfl)
      try simp only [Act.put, List.setIfInBounds_toArray, List.set_cons_zero, List.set_cons_succ]
      refine Bz.wpAnyE_take (i := 2) (oi := { dst := some 57, op := Go.Op.move (Go.Operand.tmp 9), type := 3, pos := "law.go:76", after := #[], guard := none }) (v := ?_) rfl (by kernel_rfl) (by kernel_rfl) (by kernel_rfl) (by kernel_rfl) (fun _ _ _ h => h) (Or.inl ⟨by rfl, ?_⟩) hHeld ?_
      rotate_left 1
      · (intro w hSw; (try dsimp only at hSw); go_simp; first | done | with_reducible rfl)
      try simp only [Act.put, List.setIfInBounds_toArray, List.set_cons_zero, List.set_cons_succ]
      refine Bz.wpAnyE_take (i := 3) (oi := { dst := some 58, op := Go.Op.indexAddr 22 (Go.Operand.tmp 56) (Go.Operand.tmp 57), type := 0, pos := "law.go:76", after := #[{ on := 1, ground := Go.Ground.data }, { on := 2, ground := Go.Ground.data }], guard := none }) (v := ?_) rfl (by kernel_rfl) (by kernel_rfl) (by kernel_rfl) (by kernel_rfl) (fun _ _ _ h => h) (Or.inl ⟨by rfl, ?_⟩) hHeld ?_
      rotate_left 1
      · (intro w hSw; (try dsimp only at hSw); go_simp; first | done | with_reducible rfl)
      try simp only [Act.put, List.setIfInBounds_toArray, List.set_cons_zero, List.set_cons_succ]
      refine Bz.wpAnyE_take (i := 4) (oi := { dst := some 59, op := Go.Op.fieldAddr 35 (Go.Operand.tmp 58) 0, type := 0, pos := "law.go:76", after := #[{ on := 3, ground := Go.Ground.data }], guard := none }) (v := ?_) rfl (by kernel_rfl) (by kernel_rfl) (by kernel_rfl) (by kernel_rfl) (fun _ _ _ h => h) (Or.inl ⟨by rfl, ?_⟩) hHeld ?_
      rotate_left 1
      · (intro w hSw; (try dsimp only at hSw); go_simp; first | done | with_reducible rfl)
      try simp only [Act.put, List.setIfInBounds_toArray, List.set_cons_zero, List.set_cons_succ]
      refine Bz.wpAnyE_take (i := 5) (oi := { dst := some 60, op := Go.Op.load 5 (Go.Operand.tmp 59), type := 5, pos := "law.go:76", after := #[{ on := 4, ground := Go.Ground.data }], guard := none }) (v := ?_) rfl (by kernel_rfl) (by kernel_rfl) (by kernel_rfl) (by kernel_rfl) (fun _ _ _ h => h) (Or.inl ⟨by rfl, ?_⟩) hHeld ?_
      rotate_left 1
      · (intro w hSw; (try dsimp only at hSw); go_simp; first | done | with_reducible rfl)
      try simp only [Act.put, List.setIfInBounds_toArray, List.set_cons_zero, List.set_cons_succ]
      refine Bz.wpAnyE_take (i := 7) (oi := { dst := some 62, op := Go.Op.move (Go.Operand.tmp 1), type := 22, pos := "law.go:76", after := #[], guard := none }) (v := ?_) rfl (by kernel_rfl) (by kernel_rfl) (by kernel_rfl) (by kernel_rfl) (fun _ _ _ h => h) (Or.inl ⟨by rfl, ?_⟩) hHeld ?_
      rotate_left 1
      · (intro w hSw; (try dsimp only at hSw); go_simp; first | done | with_reducible rfl)
      try simp only [Act.put, List.setIfInBounds_toArray, List.set_cons_zero, List.set_cons_succ]
      refine Bz.wpAnyE_take (i := 8) (oi := { dst := some 63, op := Go.Op.move (Go.Operand.tmp 9), type := 3, pos := "law.go:76", after := #[], guard := none }) (v := ?_) rfl (by kernel_rfl) (by kernel_rfl) (by kernel_rfl) (by kernel_rfl) (fun _ _ _ h => h) (Or.inl ⟨by rfl, ?_⟩) hHeld ?_
      rotate_left 1
      · (intro w hSw; (try dsimp only at hSw); go_simp; first | done | with_reducible rfl)
      try simp only [Act.put, List.setIfInBounds_toArray, List.set_cons_zero, List.set_cons_succ]
      refine Bz.wpAnyE_take (i := 9) (oi := { dst := some 64, op := Go.Op.indexAddr 22 (Go.Operand.tmp 62) (Go.Operand.tmp 63), type := 0, pos := "law.go:76", after := #[{ on := 7, ground := Go.Ground.data }, { on := 8, ground := Go.Ground.data }], guard := none }) (v := ?_) rfl (by kernel_rfl) (by kernel_rfl) (by kernel_rfl) (by kernel_rfl) (fun _ _ _ h => h) (Or.inl ⟨by rfl, ?_⟩) hHeld ?_
      rotate_left 1
      · (intro w hSw; (try dsimp only at hSw); go_simp; first | done | with_reducible rfl)
      try simp only [Act.put, List.setIfInBounds_toArray, List.set_cons_zero, List.set_cons_succ]
      refine Bz.wpAnyE_take (i := 10) (oi := { dst := some 65, op := Go.Op.fieldAddr 35 (Go.Operand.tmp 64) 1, type := 0, pos := "law.go:76", after := #[{ on := 9, ground := Go.Ground.data }], guard := none }) (v := ?_) rfl (by kernel_rfl) (by kernel_rfl) (by kernel_rfl) (by kernel_rfl) (fun _ _ _ h => h) (Or.inl ⟨by rfl, ?_⟩) hHeld ?_
      rotate_left 1
      · (intro w hSw; (try dsimp only at hSw); go_simp; first | done | with_reducible rfl)
      try simp only [Act.put, List.setIfInBounds_toArray, List.set_cons_zero, List.set_cons_succ]
      refine Bz.wpAnyE_take (i := 11) (oi := { dst := some 66, op := Go.Op.load 5 (Go.Operand.tmp 65), type := 5, pos := "law.go:76", after := #[{ on := 10, ground := Go.Ground.data }], guard := none }) (v := ?_) rfl (by kernel_rfl) (by kernel_rfl) (by kernel_rfl) (by kernel_rfl) (fun _ _ _ h => h) (Or.inl ⟨by rfl, ?_⟩) hHeld ?_
      rotate_left 1
      · (intro w hSw; (try dsimp only at hSw); go_simp; first | done | with_reducible rfl)
      try simp only [Act.put, List.setIfInBounds_toArray, List.set_cons_zero, List.set_cons_succ]
      refine Bz.wpAnyE_ready (rs := [6]) (by kernel_rfl) (by simp) ?_
      refine Bz.AllReadyE.cons (o := { dst := some 61, op := Go.Op.call { callee := Go.Callee.value (Go.Operand.func 11), args := #[Go.Operand.tmp 60], argTypes := #[5] }, type := 29, pos := "law.go:76", after := #[{ on := 5, ground := Go.Ground.data }], guard := none }) rfl (fun K hK => ?_) Bz.AllReadyE.nil
      go_simp
      
      refine (id_any _ _).mono ?_
      rintro e w5 ⟨rfl, hk5⟩
      try have hk5 := hk5.undrew
      have hT' := hT'.keep0 hk5
      have hBX' := hBX'.keep0 hk5
      have hKw' := hKw'.trans hk5
      refine hK.out _ _ (by exact hcl _ hKw') ?_
      clear hHeld hK K; intro hHeld
      try simp only [Act.put, List.setIfInBounds_toArray, List.set_cons_zero, List.set_cons_succ]
      refine Bz.wpAnyE_ready (rs := [12]) (by kernel_rfl) (by simp) ?_
      refine Bz.AllReadyE.cons (o := { dst := some 67, op := Go.Op.call { callee := Go.Callee.value (Go.Operand.func 11), args := #[Go.Operand.tmp 66], argTypes := #[5] }, type := 29, pos := "law.go:76", after := #[{ on := 11, ground := Go.Ground.data }, { on := 6, ground := Go.Ground.chain }], guard := none }) rfl (fun K hK => ?_) Bz.AllReadyE.nil
      go_simp
      
      refine (id_any _ _).mono ?_
      rintro e w5 ⟨rfl, hk5⟩
      try have hk5 := hk5.undrew
      have hT' := hT'.keep0 hk5
      have hBX' := hBX'.keep0 hk5
      have hKw' := hKw'.trans hk5
      refine hK.out _ _ (by exact hcl _ hKw') ?_
      clear hHeld hK K; intro hHeld
      try simp only [Act.put, List.setIfInBounds_toArray, List.set_cons_zero, List.set_cons_succ]
      refine Bz.wpAnyE_ready (rs := [13]) (by kernel_rfl) (by simp) ?_
      refine Bz.AllReadyE.cons (o := { dst := some 68, op := Go.Op.call { callee := Go.Callee.value (Go.Operand.func 14), args := #[Go.Operand.tmp 55, Go.Operand.tmp 61, Go.Operand.tmp 67], argTypes := #[24, 29, 29] }, type := 25, pos := "law.go:76", after := #[{ on := 0, ground := Go.Ground.data }, { on := 6, ground := Go.Ground.data }, { on := 12, ground := Go.Ground.data }, { on := 12, ground := Go.Ground.chain }], guard := none }) rfl (fun K hK => ?_) Bz.AllReadyE.nil
      go_simp
      
      refine (hadd2 _ hT').mono ?_
      rintro e w8 ⟨rfl, hT8, hk8⟩
      have hBX' := hBX'.keepT hT' hk8
      have hKw' := hKw'.own hk8 own
      refine hK.out _ _ (by exact hcl _ hKw') ?_
      clear hHeld hK K; intro hHeld
      try simp only [Act.put, List.setIfInBounds_toArray, List.set_cons_zero, List.set_cons_succ]
      refine Bz.wpAnyE_done (by kernel_rfl) ?_ _
      refine NoPanic.normal ?_
      
      clear hHeld
      go_wp2_with fail
      go_roundg (l.length - (k + 1))
      case measure => omega
      case rel => exact ⟨k + 1, T', _, _, by go_num, by omega, hT8, hWF', hHd', hBX', hKw'⟩
    · rcases hend with ⟨hlt, h80⟩ | hlt
      all_goals
        go_upto_region 9 with fail
        clear hlt
        clear own hb8 ht hmb
        go_wp2_with fail
        go_loopg [10] l2.length (fun m i wr => ∃ (k : Nat), i = .int .i64 k ∧ m + k = l2.length ∧ TreeAt wr t mb T ∧ Box wr b AV capV T ∧ Keep [] w wr)
        case atStart => exact ⟨0, rfl, rfl, hT, hBX, hKw⟩
        case round =>
          clear hKw hT hBX
          obtain ⟨k2, rfl, hk2, hT, hBX, hKw⟩ := hrel
          have hgo : (k2 < l2.length ∧ k2 < 12) ∨ (k2 < l2.length ∧ ¬ k2 < 12) ∨ ¬ k2 < l2.length := by omega
          rcases hgo with ⟨hlt, h80⟩ | hend
          · obtain ⟨ab, ao, rfl, hab, x, hxy, hcl⟩ := byteAt hR2 hlt
            have f1 := hcl _ hKw
            obtain ⟨y, HY⟩ : ∃ y, Hid (y = (T.get (idv x)).1) := ⟨_, Lib.hid rfl⟩
            obtain ⟨ub, HU⟩ : ∃ ub, Hid (ub = T.under (idv x)) := ⟨_, Lib.hid rfl⟩
            obtain ⟨n, HN⟩ : ∃ n, Hid (n = findIn (idv x) T.rt.l) := ⟨_, Lib.hid rfl⟩
            have hRl : T.rt.l.length ≤ 5000 := by have := T.ref_len; have := hWF.size; show T.ref.length ≤ 5000; omega
            have pc := fun w h => parent_any (w := w) (t := t) (mb := mb) h hWF (idv x)
            rw [← HY.out, ← HU.out] at pc
            have fc := fun w V h => find_any (w := w) (V := V) (R := T.rt) h (idv x) hRl
            rw [← HN.out] at fc
            have hfu := hWF.find_under hHd (idv x)
            rw [← HN.out, ← HY.out, ← HU.out] at hfu
            clear hRl
            go_upto_if 94 with (first
              | (go_at_call 11; refine (id_any _ _).mono ?_; rintro e w5 ⟨rfl, hk5⟩; have hT := hT.keep0 hk5; have hBX := hBX.keep0 hk5; have hKw := hKw.trans hk5)
              | (go_at_call 23; refine (pc _ (hT.alloc _)).mono ?_; rintro e w6 ⟨rfl, hk6⟩; have B11 := (Blk.new w5 29 (dcells (idv x))).keep hk6 (by simp); have hT := (hT.alloc (.cells (dcells (idv x)) 29)).keep0 hk6; have hBX := (hBX.keep0 ((Keep.refl _ _).alloc (.cells (dcells (idv x)) 29))).keep0 hk6; have hKw := (hKw.alloc (.cells (dcells (idv x)) 29)).trans hk6; have c11 := B11.cell; have c8 := hBX.box.cell; have lb := hBX.box.lt; have l11 := B11.lt)
              | (go_at_call 24; refine (fc _ _ (hBX.sl.keep0 ((Keep.refl _ _).alloc _))).mono ?_; rintro e w7 ⟨rfl, hk7⟩; have B12 := (Blk.new w6 29 (dcells y)).keep hk7 (by simp); have B11 := (B11.alloc (.cells (dcells y) 29)).keep hk7 (by simp); have hT := (hT.alloc (.cells (dcells y) 29)).keep0 hk7; have hBX := (hBX.keep0 ((Keep.refl _ _).alloc (.cells (dcells y) 29))).keep0 hk7; have hKw := (hKw.alloc (.cells (dcells y) 29)).trans hk7))
            go_cut [11, 12, 15] from 69 to 158 (fun v11 v12 v15 wx => ∃ b11 b12 b15 : Nat, v11 = .pointer (some ⟨b11, 0, none⟩) ∧ v12 = .pointer (some ⟨b12, 0, none⟩) ∧ v15 = .pointer (some ⟨b15, 0, none⟩) ∧ Hid (decide (0 < n) = ub) ∧ Blk wx b11 29 (dcells (idv x)) ∧ Blk wx b12 29 (dcells y) ∧ Blk wx b15 29 (dcells y) ∧ TreeAt wx t mb T ∧ Box wx b AV capV T ∧ Keep [] w wx)
            case first =>
              have lb := hBX.box.lt
              rcases hfu with ⟨k', hk', hk1, hel, hub⟩ | ⟨n', hn', hnn, hub, hy⟩
              · subst hk'
                obtain ⟨g, o, cap0, hv, _, hsl⟩ := hBX.sl.at_ hel
                cases hv
                have r := (hsl.at16 hel).2
                unfold At8 at r
                have hlg := hsl.lt
                have hkl : k' < T.rt.l.length := (List.getElem?_eq_some_iff.1 hel).1
                have hpos : (0 : Int) < (k' : Int) := by omega
                have hpos2 : 0 < k' := by omega
                have c8 := hBX.box.cell
                have HUB := Lib.hid (And.intro hub hk1)
                clear hel hub hk1
                go_wp2_with fail
                go_meet
                exact ⟨_, _, _, rfl, rfl, rfl, Lib.hid (by rw [HUB.out.1]; simp; omega), B11.alloc _, B12.alloc _, Blk.new _ _ _, hT.alloc _, hBX.keep0 ((Keep.refl _ _).alloc _), hKw.alloc _⟩
              · subst hnn
                have hpos : decide ((0 : Int) < n) = false := by simp; omega
                have HUB := Lib.hid hub
                clear hub
                go_wp2_with fail
                go_meet
                exact ⟨_, _, _, rfl, rfl, rfl, Lib.hid (by rw [HUB.out]; exact hpos), B11.alloc _, B12.alloc _, by rw [hy]; exact Blk.new _ _ _, hT.alloc _, hBX.keep0 ((Keep.refl _ _).alloc _), hKw.alloc _⟩
            case rest =>
              clear hT hBX hKw hfu pc fc
              obtain ⟨b11, b12, b15, rfl, rfl, rfl, HD, B11, B12, B15, hT, hBX, hKw⟩ := hcut
              have hd := HD.out
              have F11 := fun W (hk : Keep [] wc W) => (B11.keep hk (by simp)).cell
              have F12 := fun W (hk : Keep [] wc W) => (B12.keep hk (by simp)).cell
              have F15 := fun W (hk : Keep [] wc W) => (B15.keep hk (by simp)).cell
              have F8 := fun W (hk : Keep [] wc W) => (hBX.box.keep hk (by simp)).cell
              obtain ⟨hg, HG⟩ : ∃ hg, Hid (hg = T.height (idv x)) := ⟨_, Lib.hid rfl⟩
              obtain ⟨ll, HL⟩ : ∃ ll, Hid (ll = T.lines (idv x)) := ⟨_, Lib.hid rfl⟩
              have hll : ll.length ≤ 5000 := by rw [HL.out]; have := (FT.lines_len hWF (idv x)).1; omega
              have hc := fun w h => height_any (w := w) (t := t) (mb := mb) (T := T) h (idv x)
              have hr := fun w V h => rheight_any hWF hHd (idv x) (w := w) (V := V) h
              have lc := fun w h => line_call (w := w) (t := t) (mb := mb) h hWF (idv x)
              have lr := fun w V h => rline_any hWF hHd (idv x) (w := w) (V := V) h
              rw [← HG.out] at hc hr
              rw [← HL.out] at lc lr
              have pl := fun w V h => plain_any (w := w) (v := V) (l := ll) h hll
              clear hll
              have q1 := fun W => run_eqD8 (P := Try.prog) W dt29 9998 y y
              rw [decide_eq_true rfl] at q1
              go_upto_region 18 with fail
              refine wp_region_noPanic ?_
              refine Bz.wp_region_E (S := (fun w' => Keep [] wc w')) (E := []) (by kernel_rfl) (by exact (Keep.refl _ _).drew) (fun hHeld => ?_)
              refine Bz.wpAnyE_take (i := 0) (oi := { dst := some 101, op := Go.Op.move (Go.Operand.tmp 7), type := 24, pos := "law.go:86", after := #[], guard := none }) (v := ?_) rfl (by kernel_rfl) (by kernel_rfl) (by kernel_rfl) (by kernel_rfl) (fun _ _ _ h => h) (Or.inl ⟨by rfl, ?_⟩) hHeld ?_
              rotate_left 1
              · (intro w hSw; have f0 := F11 w hSw; have f1 := F12 w hSw; have f2 := F15 w hSw; have f3 := F8 w hSw; go_simp; first | done | with_reducible rfl)
              try simp only [Act.put, List.setIfInBounds_toArray, List.set_cons_zero, List.set_cons_succ]
              refine Bz.wpAnyE_take (i := 1) (oi := { dst := some 102, op := Go.Op.load 29 (Go.Operand.tmp 11), type := 29, pos := "law.go:86", after := #[], guard := none }) (v := ?_) rfl (by kernel_rfl) (by kernel_rfl) (by kernel_rfl) (by kernel_rfl) (fun _ _ _ h => h) (Or.inl ⟨by rfl, ?_⟩) hHeld ?_
              rotate_left 1
              · (intro w hSw; have f0 := F11 w hSw; have f1 := F12 w hSw; have f2 := F15 w hSw; have f3 := F8 w hSw; go_simp; first | done | with_reducible rfl)
              try simp only [Act.put, List.setIfInBounds_toArray, List.set_cons_zero, List.set_cons_succ]
              refine Bz.wpAnyE_take (i := 3) (oi := { dst := some 104, op := Go.Op.load 42 (Go.Operand.tmp 8), type := 42, pos := "law.go:86", after := #[], guard := none }) (v := ?_) rfl (by kernel_rfl) (by kernel_rfl) (by kernel_rfl) (by kernel_rfl) (fun _ _ _ h => h) (Or.inl ⟨by rfl, ?_⟩) hHeld ?_
              rotate_left 1
              · (intro w hSw; have f0 := F11 w hSw; have f1 := F12 w hSw; have f2 := F15 w hSw; have f3 := F8 w hSw; go_simp; first | done | with_reducible rfl)
              try simp only [Act.put, List.setIfInBounds_toArray, List.set_cons_zero, List.set_cons_succ]
              refine Bz.wpAnyE_take (i := 4) (oi := { dst := some 105, op := Go.Op.load 29 (Go.Operand.tmp 11), type := 29, pos := "law.go:86", after := #[], guard := none }) (v := ?_) rfl (by kernel_rfl) (by kernel_rfl) (by kernel_rfl) (by kernel_rfl) (fun _ _ _ h => h) (Or.inl ⟨by rfl, ?_⟩) hHeld ?_
              rotate_left 1
              · (intro w hSw; have f0 := F11 w hSw; have f1 := F12 w hSw; have f2 := F15 w hSw; have f3 := F8 w hSw; go_simp; first | done | with_reducible rfl)
              try simp only [Act.put, List.setIfInBounds_toArray, List.set_cons_zero, List.set_cons_succ]
              refine Bz.wpAnyE_ready (rs := [2]) (by kernel_rfl) (by simp) ?_
              refine Bz.AllReadyE.cons (o := { dst := some 103, op := Go.Op.call { callee := Go.Callee.value (Go.Operand.func 16), args := #[Go.Operand.tmp 101, Go.Operand.tmp 102], argTypes := #[24, 29] }, type := 3, pos := "law.go:86", after := #[{ on := 0, ground := Go.Ground.data }, { on := 1, ground := Go.Ground.data }], guard := none }) rfl (fun K hK => ?_) Bz.AllReadyE.nil
              go_simp
              
              refine (hc _ (hT.keep0 hHeld)).mono ?_
              rintro e w5 ⟨rfl, hk5⟩
              refine hK.out _ _ (by exact hHeld.trans hk5) ?_
              clear hHeld hK K; intro hHeld
              try simp only [Act.put, List.setIfInBounds_toArray, List.set_cons_zero, List.set_cons_succ]
              refine Bz.wpAnyE_ready (rs := [5]) (by kernel_rfl) (by simp) ?_
              refine Bz.AllReadyE.cons (o := { dst := some 106, op := Go.Op.call { callee := Go.Callee.value (Go.Operand.func 25), args := #[Go.Operand.tmp 104, Go.Operand.tmp 105], argTypes := #[42, 28] }, type := 3, pos := "law.go:86", after := #[{ on := 3, ground := Go.Ground.data }, { on := 4, ground := Go.Ground.data }, { on := 2, ground := Go.Ground.chain }], guard := none }) rfl (fun K hK => ?_) Bz.AllReadyE.nil
              go_simp
              
              refine (hr _ _ (hBX.sl.keep0 hHeld)).mono ?_
              rintro e w5 ⟨rfl, hk5⟩
              refine hK.out _ _ (by exact hHeld.trans hk5) ?_
              clear hHeld hK K; intro hHeld
              try simp only [Act.put, List.setIfInBounds_toArray, List.set_cons_zero, List.set_cons_succ]
              refine Bz.wpAnyE_take (i := 6) (oi := { dst := some 107, op := Go.Op.binOp Go.BinOp.neq 3 (Go.Operand.tmp 103) (Go.Operand.tmp 106) 3, type := 4, pos := "law.go:86", after := #[{ on := 2, ground := Go.Ground.data }, { on := 5, ground := Go.Ground.data }], guard := none }) (v := ?_) rfl (by kernel_rfl) (by kernel_rfl) (by kernel_rfl) (by kernel_rfl) (fun _ _ _ h => h) (Or.inl ⟨by rfl, ?_⟩) hHeld ?_
              rotate_left 1
              · (intro w hSw; have f0 := F11 w hSw; have f1 := F12 w hSw; have f2 := F15 w hSw; have f3 := F8 w hSw; go_simp; first | done | with_reducible rfl)
              try simp only [Act.put, List.setIfInBounds_toArray, List.set_cons_zero, List.set_cons_succ]
              refine Bz.wpAnyE_take (i := 7) (oi := { dst := some 108, op := Go.Op.move (Go.Operand.tmp 107), type := 4, pos := "law.go:86", after := #[{ on := 6, ground := Go.Ground.data }, { on := 5, ground := Go.Ground.chain }], guard := none }) (v := ?_) rfl (by kernel_rfl) (by kernel_rfl) (by kernel_rfl) (by kernel_rfl) (fun _ _ _ h => h) (Or.inl ⟨by rfl, ?_⟩) hHeld ?_
              rotate_left 1
              · (intro w hSw; have f0 := F11 w hSw; have f1 := F12 w hSw; have f2 := F15 w hSw; have f3 := F8 w hSw; go_simp; first | done | with_reducible rfl)
              try simp only [Act.put, List.setIfInBounds_toArray, List.set_cons_zero, List.set_cons_succ]
              refine Bz.wpAnyE_take (i := 8) (oi := { dst := some 109, op := Go.Op.move (Go.Operand.tmp 13), type := 4, pos := "law.go:86", after := #[{ on := 7, ground := Go.Ground.guard }], guard := some (7, false) }) (v := ?_) rfl (by kernel_rfl) (by kernel_rfl) (by kernel_rfl) (by kernel_rfl) (fun _ _ _ h => h) (Or.inl ⟨by rfl, ?_⟩) hHeld ?_
              rotate_left 1
              · (intro w hSw; have f0 := F11 w hSw; have f1 := F12 w hSw; have f2 := F15 w hSw; have f3 := F8 w hSw; go_simp; first | done | with_reducible rfl)
              try simp only [Act.put, List.setIfInBounds_toArray, List.set_cons_zero, List.set_cons_succ]
              refine Bz.wpAnyE_take (i := 9) (oi := { dst := some 110, op := Go.Op.move (Go.Operand.tmp 14), type := 3, pos := "law.go:86", after := #[{ on := 7, ground := Go.Ground.guard }], guard := some (7, false) }) (v := ?_) rfl (by kernel_rfl) (by kernel_rfl) (by kernel_rfl) (by kernel_rfl) (fun _ _ _ h => h) (Or.inl ⟨by rfl, ?_⟩) hHeld ?_
              rotate_left 1
              · (intro w hSw; have f0 := F11 w hSw; have f1 := F12 w hSw; have f2 := F15 w hSw; have f3 := F8 w hSw; go_simp; first | done | with_reducible rfl)
              try simp only [Act.put, List.setIfInBounds_toArray, List.set_cons_zero, List.set_cons_succ]
              refine Bz.wpAnyE_take (i := 10) (oi := { dst := some 111, op := Go.Op.binOp Go.BinOp.gtr 3 (Go.Operand.tmp 110) (Go.Operand.const (Go.Value.int Go.IntKind.i64 0)) 3, type := 4, pos := "law.go:86", after := #[{ on := 9, ground := Go.Ground.data }, { on := 7, ground := Go.Ground.guard }], guard := some (7, false) }) (v := ?_) rfl (by kernel_rfl) (by kernel_rfl) (by kernel_rfl) (by kernel_rfl) (fun _ _ _ h => h) (Or.inl ⟨by rfl, ?_⟩) hHeld ?_
              rotate_left 1
              · (intro w hSw; have f0 := F11 w hSw; have f1 := F12 w hSw; have f2 := F15 w hSw; have f3 := F8 w hSw; go_simp; first | done | with_reducible rfl)
              try simp only [Act.put, List.setIfInBounds_toArray, List.set_cons_zero, List.set_cons_succ]
              refine Bz.wpAnyE_take (i := 11) (oi := { dst := some 112, op := Go.Op.binOp Go.BinOp.neq 4 (Go.Operand.tmp 109) (Go.Operand.tmp 111) 4, type := 4, pos := "law.go:86", after := #[{ on := 8, ground := Go.Ground.data }, { on := 10, ground := Go.Ground.data }, { on := 7, ground := Go.Ground.guard }], guard := some (7, false) }) (v := ?_) rfl (by kernel_rfl) (by kernel_rfl) (by kernel_rfl) (by kernel_rfl) (fun _ _ _ h => h) (Or.inl ⟨by rfl, ?_⟩) hHeld ?_
              rotate_left 1
              · (intro w hSw; have f0 := F11 w hSw; have f1 := F12 w hSw; have f2 := F15 w hSw; have f3 := F8 w hSw; go_simp; first | done | with_reducible rfl)
              try simp only [Act.put, List.setIfInBounds_toArray, List.set_cons_zero, List.set_cons_succ]
              refine Bz.wpAnyE_take (i := 12) (oi := { dst := some 113, op := Go.Op.pick (Go.Operand.tmp 108) (Go.Operand.const (Go.Value.bool true)) (Go.Operand.tmp 112), type := 4, pos := "law.go:86", after := #[{ on := 7, ground := Go.Ground.data }, { on := 11, ground := Go.Ground.data }], guard := none }) (v := ?_) rfl (by kernel_rfl) (by kernel_rfl) (by kernel_rfl) (by kernel_rfl) (fun _ _ _ h => h) (Or.inl ⟨by rfl, ?_⟩) hHeld ?_
              rotate_left 1
              · (intro w hSw; have f0 := F11 w hSw; have f1 := F12 w hSw; have f2 := F15 w hSw; have f3 := F8 w hSw; go_simp; first | done | with_reducible rfl)
              try simp only [Act.put, List.setIfInBounds_toArray, List.set_cons_zero, List.set_cons_succ]
              refine Bz.wpAnyE_take (i := 13) (oi := { dst := some 114, op := Go.Op.move (Go.Operand.tmp 113), type := 4, pos := "law.go:86", after := #[{ on := 12, ground := Go.Ground.data }, { on := 7, ground := Go.Ground.chain }], guard := none }) (v := ?_) rfl (by kernel_rfl) (by kernel_rfl) (by kernel_rfl) (by kernel_rfl) (fun _ _ _ h => h) (Or.inl ⟨by rfl, ?_⟩) hHeld ?_
              rotate_left 1
              · (intro w hSw; have f0 := F11 w hSw; have f1 := F12 w hSw; have f2 := F15 w hSw; have f3 := F8 w hSw; go_simp; first | done | with_reducible rfl)
              try simp only [Act.put, List.setIfInBounds_toArray, List.set_cons_zero, List.set_cons_succ]
              refine Bz.wpAnyE_take (i := 14) (oi := { dst := some 115, op := Go.Op.load 29 (Go.Operand.tmp 12), type := 29, pos := "law.go:86", after := #[{ on := 13, ground := Go.Ground.guard }], guard := some (13, false) }) (v := ?_) rfl (by kernel_rfl) (by kernel_rfl) (by kernel_rfl) (by kernel_rfl) (fun _ _ _ h => h) (Or.inl ⟨by rfl, ?_⟩) hHeld ?_
              rotate_left 1
              · (intro w hSw; have f0 := F11 w hSw; have f1 := F12 w hSw; have f2 := F15 w hSw; have f3 := F8 w hSw; go_simp; first | done | with_reducible rfl)
              try simp only [Act.put, List.setIfInBounds_toArray, List.set_cons_zero, List.set_cons_succ]
              refine Bz.wpAnyE_take (i := 15) (oi := { dst := some 116, op := Go.Op.load 29 (Go.Operand.tmp 15), type := 29, pos := "law.go:86", after := #[{ on := 13, ground := Go.Ground.guard }], guard := some (13, false) }) (v := ?_) rfl (by kernel_rfl) (by kernel_rfl) (by kernel_rfl) (by kernel_rfl) (fun _ _ _ h => h) (Or.inl ⟨by rfl, ?_⟩) hHeld ?_
              rotate_left 1
              · (intro w hSw; have f0 := F11 w hSw; have f1 := F12 w hSw; have f2 := F15 w hSw; have f3 := F8 w hSw; go_simp; first | done | with_reducible rfl)
              try simp only [Act.put, List.setIfInBounds_toArray, List.set_cons_zero, List.set_cons_succ]
              refine Bz.wpAnyE_take (i := 16) (oi := { dst := some 117, op := Go.Op.binOp Go.BinOp.neq 29 (Go.Operand.tmp 115) (Go.Operand.tmp 116) 29, type := 4, pos := "law.go:86", after := #[{ on := 14, ground := Go.Ground.data }, { on := 15, ground := Go.Ground.data }, { on := 13, ground := Go.Ground.guard }], guard := some (13, false) }) (v := ?_) rfl (by kernel_rfl) (by kernel_rfl) (by kernel_rfl) (by kernel_rfl) (fun _ _ _ h => h) (Or.inl ⟨by rfl, ?_⟩) hHeld ?_
              rotate_left 1
              · (intro w hSw; have f0 := F11 w hSw; have f1 := F12 w hSw; have f2 := F15 w hSw; have f3 := F8 w hSw; go_simp; first | done | with_reducible rfl)
              try simp only [Act.put, List.setIfInBounds_toArray, List.set_cons_zero, List.set_cons_succ]
              refine Bz.wpAnyE_take (i := 17) (oi := { dst := some 118, op := Go.Op.pick (Go.Operand.tmp 114) (Go.Operand.const (Go.Value.bool true)) (Go.Operand.tmp 117), type := 4, pos := "law.go:86", after := #[{ on := 13, ground := Go.Ground.data }, { on := 16, ground := Go.Ground.data }], guard := none }) (v := ?_) rfl (by kernel_rfl) (by kernel_rfl) (by kernel_rfl) (by kernel_rfl) (fun _ _ _ h => h) (Or.inl ⟨by rfl, ?_⟩) hHeld ?_
              rotate_left 1
              · (intro w hSw; have f0 := F11 w hSw; have f1 := F12 w hSw; have f2 := F15 w hSw; have f3 := F8 w hSw; go_simp; first | done | with_reducible rfl)
              try simp only [Act.put, List.setIfInBounds_toArray, List.set_cons_zero, List.set_cons_succ]
              refine Bz.wpAnyE_take (i := 18) (oi := { dst := some 119, op := Go.Op.move (Go.Operand.tmp 118), type := 4, pos := "law.go:86", after := #[{ on := 17, ground := Go.Ground.data }, { on := 13, ground := Go.Ground.chain }], guard := none }) (v := ?_) rfl (by kernel_rfl) (by kernel_rfl) (by kernel_rfl) (by kernel_rfl) (fun _ _ _ h => h) (Or.inl ⟨by rfl, ?_⟩) hHeld ?_
              rotate_left 1
              · (intro w hSw; have f0 := F11 w hSw; have f1 := F12 w hSw; have f2 := F15 w hSw; have f3 := F8 w hSw; go_simp; first | done | with_reducible rfl)
              try simp only [Act.put, List.setIfInBounds_toArray, List.set_cons_zero, List.set_cons_succ]
              refine Bz.wpAnyE_take (i := 19) (oi := { dst := some 120, op := Go.Op.move (Go.Operand.tmp 7), type := 24, pos := "law.go:86", after := #[{ on := 18, ground := Go.Ground.guard }], guard := some (18, false) }) (v := ?_) rfl (by kernel_rfl) (by kernel_rfl) (by kernel_rfl) (by kernel_rfl) (fun _ _ _ h => h) (Or.inl ⟨by rfl, ?_⟩) hHeld ?_
              rotate_left 1
              · (intro w hSw; have f0 := F11 w hSw; have f1 := F12 w hSw; have f2 := F15 w hSw; have f3 := F8 w hSw; go_simp; first | done | with_reducible rfl)
              try simp only [Act.put, List.setIfInBounds_toArray, List.set_cons_zero, List.set_cons_succ]
              refine Bz.wpAnyE_take (i := 20) (oi := { dst := some 121, op := Go.Op.load 29 (Go.Operand.tmp 11), type := 29, pos := "law.go:86", after := #[{ on := 18, ground := Go.Ground.guard }], guard := some (18, false) }) (v := ?_) rfl (by kernel_rfl) (by kernel_rfl) (by kernel_rfl) (by kernel_rfl) (fun _ _ _ h => h) (Or.inl ⟨by rfl, ?_⟩) hHeld ?_
              rotate_left 1
              · (intro w hSw; have f0 := F11 w hSw; have f1 := F12 w hSw; have f2 := F15 w hSw; have f3 := F8 w hSw; go_simp; first | done | with_reducible rfl)
              try simp only [Act.put, List.setIfInBounds_toArray, List.set_cons_zero, List.set_cons_succ]
              refine Bz.wpAnyE_take (i := 23) (oi := { dst := some 124, op := Go.Op.load 42 (Go.Operand.tmp 8), type := 42, pos := "law.go:86", after := #[{ on := 18, ground := Go.Ground.guard }], guard := some (18, false) }) (v := ?_) rfl (by kernel_rfl) (by kernel_rfl) (by kernel_rfl) (by kernel_rfl) (fun _ _ _ h => h) (Or.inl ⟨by rfl, ?_⟩) hHeld ?_
              rotate_left 1
              · (intro w hSw; have f0 := F11 w hSw; have f1 := F12 w hSw; have f2 := F15 w hSw; have f3 := F8 w hSw; go_simp; first | done | with_reducible rfl)
              try simp only [Act.put, List.setIfInBounds_toArray, List.set_cons_zero, List.set_cons_succ]
              refine Bz.wpAnyE_take (i := 24) (oi := { dst := some 125, op := Go.Op.load 29 (Go.Operand.tmp 11), type := 29, pos := "law.go:86", after := #[{ on := 18, ground := Go.Ground.guard }], guard := some (18, false) }) (v := ?_) rfl (by kernel_rfl) (by kernel_rfl) (by kernel_rfl) (by kernel_rfl) (fun _ _ _ h => h) (Or.inl ⟨by rfl, ?_⟩) hHeld ?_
              rotate_left 1
              · (intro w hSw; have f0 := F11 w hSw; have f1 := F12 w hSw; have f2 := F15 w hSw; have f3 := F8 w hSw; go_simp; first | done | with_reducible rfl)
              try simp only [Act.put, List.setIfInBounds_toArray, List.set_cons_zero, List.set_cons_succ]
              refine Bz.wpAnyE_ready (rs := [21]) (by kernel_rfl) (by simp) ?_
              refine Bz.AllReadyE.cons (o := { dst := some 122, op := Go.Op.call { callee := Go.Callee.value (Go.Operand.func 18), args := #[Go.Operand.tmp 120, Go.Operand.tmp 121], argTypes := #[24, 29] }, type := 36, pos := "law.go:86", after := #[{ on := 19, ground := Go.Ground.data }, { on := 20, ground := Go.Ground.data }, { on := 18, ground := Go.Ground.chain }, { on := 18, ground := Go.Ground.guard }], guard := some (18, false) }) rfl (fun K hK => ?_) Bz.AllReadyE.nil
              go_simp
              
              refine (lc _ (hT.keep0 hHeld)).mono ?_
              rintro e w5 ⟨v5, rfl, hv5, hk5⟩
              refine hK.out _ _ (by exact hHeld.trans hk5) ?_
              clear hHeld hK K; intro hHeld
              try simp only [Act.put, List.setIfInBounds_toArray, List.set_cons_zero, List.set_cons_succ]
              refine Bz.wpAnyE_ready (rs := [22]) (by kernel_rfl) (by simp) ?_
              refine Bz.AllReadyE.cons (o := { dst := some 123, op := Go.Op.call { callee := Go.Callee.value (Go.Operand.func 20), args := #[Go.Operand.tmp 122], argTypes := #[36] }, type := 47, pos := "law.go:86", after := #[{ on := 21, ground := Go.Ground.data }, { on := 21, ground := Go.Ground.chain }, { on := 18, ground := Go.Ground.guard }], guard := some (18, false) }) rfl (fun K hK => ?_) Bz.AllReadyE.nil
              go_simp
              
              refine (pl _ _ hv5).mono ?_
              rintro e w6 ⟨v6, rfl, hv6, hk5⟩
              have hv6 := hv6.sl dsz
              refine hK.out _ _ (by exact hHeld.trans hk5) ?_
              clear hHeld hK K; intro hHeld
              try simp only [Act.put, List.setIfInBounds_toArray, List.set_cons_zero, List.set_cons_succ]
              refine Bz.wpAnyE_ready (rs := [25]) (by kernel_rfl) (by simp) ?_
              refine Bz.AllReadyE.cons (o := { dst := some 126, op := Go.Op.call { callee := Go.Callee.value (Go.Operand.func 26), args := #[Go.Operand.tmp 124, Go.Operand.tmp 125], argTypes := #[42, 28] }, type := 47, pos := "law.go:86", after := #[{ on := 23, ground := Go.Ground.data }, { on := 24, ground := Go.Ground.data }, { on := 22, ground := Go.Ground.chain }, { on := 18, ground := Go.Ground.guard }], guard := some (18, false) }) rfl (fun K hK => ?_) Bz.AllReadyE.nil
              go_simp
              
              refine (lr _ _ (hBX.sl.keep0 hHeld)).mono ?_
              rintro e w7 ⟨v7, rfl, hv7, hk5⟩
              have hv7 := hv7.sl dsz
              have hv6 := hv6.keep0 hk5
              refine hK.out _ _ (by exact hHeld.trans hk5) ?_
              clear hHeld hK K; intro hHeld
              try simp only [Act.put, List.setIfInBounds_toArray, List.set_cons_zero, List.set_cons_succ]
              refine Bz.wpAnyE_ready (rs := [26]) (by kernel_rfl) (by simp) ?_
              refine Bz.AllReadyE.cons (o := { dst := some 127, op := Go.Op.call { callee := Go.Callee.value (Go.Operand.func 19), args := #[Go.Operand.tmp 123, Go.Operand.tmp 126], argTypes := #[47, 47] }, type := 4, pos := "law.go:86", after := #[{ on := 22, ground := Go.Ground.data }, { on := 25, ground := Go.Ground.data }, { on := 25, ground := Go.Ground.chain }, { on := 18, ground := Go.Ground.guard }], guard := some (18, false) }) rfl (fun K hK => ?_) Bz.AllReadyE.nil
              go_simp
              
              refine (same_any hv6 hv7).mono ?_
              rw [decide_eq_true rfl]
              rintro e w9 ⟨rfl, hk5⟩
              refine hK.out _ _ (by exact hHeld.trans hk5) ?_
              clear hHeld hK K; intro hHeld
              try simp only [Act.put, List.setIfInBounds_toArray, List.set_cons_zero, List.set_cons_succ]
              refine Bz.wpAnyE_take (i := 27) (oi := { dst := some 128, op := Go.Op.unOp Go.UnOp.not 4 (Go.Operand.tmp 127), type := 4, pos := "law.go:86", after := #[{ on := 26, ground := Go.Ground.data }, { on := 18, ground := Go.Ground.guard }], guard := some (18, false) }) (v := ?_) rfl (by kernel_rfl) (by kernel_rfl) (by kernel_rfl) (by kernel_rfl) (fun _ _ _ h => h) (Or.inl ⟨by rfl, ?_⟩) hHeld ?_
              rotate_left 1
              · (intro w hSw; have f0 := F11 w hSw; have f1 := F12 w hSw; have f2 := F15 w hSw; have f3 := F8 w hSw; go_simp; first | done | with_reducible rfl)
              try simp only [Act.put, List.setIfInBounds_toArray, List.set_cons_zero, List.set_cons_succ]
              refine Bz.wpAnyE_take (i := 28) (oi := { dst := some 129, op := Go.Op.pick (Go.Operand.tmp 119) (Go.Operand.const (Go.Value.bool true)) (Go.Operand.tmp 128), type := 4, pos := "law.go:86", after := #[{ on := 18, ground := Go.Ground.data }, { on := 27, ground := Go.Ground.data }], guard := none }) (v := ?_) rfl (by kernel_rfl) (by kernel_rfl) (by kernel_rfl) (by kernel_rfl) (fun _ _ _ h => h) (Or.inl ⟨by rfl, ?_⟩) hHeld ?_
              rotate_left 1
              · (intro w hSw; have f0 := F11 w hSw; have f1 := F12 w hSw; have f2 := F15 w hSw; have f3 := F8 w hSw; go_simp; first | done | with_reducible rfl)
              try simp only [Act.put, List.setIfInBounds_toArray, List.set_cons_zero, List.set_cons_succ]
              refine Bz.wpAnyE_done (by kernel_rfl) ?_ _
              refine NoPanic.normal ?_
              
              obtain ⟨wa, hwa⟩ : ∃ W, W = w9 := ⟨_, rfl⟩
              have hKa : Keep [] wc wa := by rw [hwa]; exact hHeld
              rw [← hwa]
              clear hwa hHeld F11 F12 F15 F8 hc hr lc lr pl q1 hd
              have hT := hT.keep0 hKa
              have hBX := hBX.keep0 hKa
              have hKw := hKw.trans hKa
              have B11 := B11.keep hKa (by simp)
              clear hKa B12 B15
              go_wp2_with fail
              go_loopg [16] l2.length (fun m i wr => ∃ j : Nat, i = .int .i64 j ∧ m + j = l2.length ∧ Blk wr b11 29 (dcells (idv x)) ∧ TreeAt wr t mb T ∧ Box wr b AV capV T ∧ Keep [] w wr)
              case atStart => exact ⟨0, rfl, rfl, B11, hT, hBX, hKw⟩
              case round =>
                clear hT hBX hKw B11
                obtain ⟨j, rfl, hj, B11, hT, hBX, hKw⟩ := hrel
                have hgj : (j < l2.length ∧ j < 12) ∨ (j < l2.length ∧ ¬ j < 12) ∨ ¬ j < l2.length := by omega
                rcases hgj with ⟨hlj, h12⟩ | hend
                · obtain ⟨ab2, ao2, hA2, hab2, x2, hxy2, hcl2⟩ := byteAt hR2 hlj
                  cases hA2
                  have F1 := fun W (hk : Keep [] wr W) => hcl2 W (hKw.trans hk)
                  have F11 := fun W (hk : Keep [] wr W) => (B11.keep hk (by simp)).cell
                  have F8 := fun W (hk : Keep [] wr W) => (hBX.box.keep hk (by simp)).cell
                  obtain ⟨ul, HL⟩ : ∃ ul, Hid (ul = T.undone (idv x) (idv x2)) := ⟨_, Lib.hid rfl⟩
                  have hul : ul.length ≤ 5000 := by rw [HL.out]; exact hWF.undone_len _ _
                  have uc := fun w h => undone_call (w := w) (t := t) (mb := mb) h hWF (idv x) (idv x2)
                  have ur := fun w V h => rundone_any hWF hHd (idv x) (idv x2) (w := w) (V := V) h
                  rw [← HL.out] at uc ur
                  have pl := fun w V h => plain_any (w := w) (v := V) (l := ul) h hul
                  clear hul
                  go_upto_region 23 with fail
                  refine wp_region_noPanic ?_
                  refine Bz.wp_region_E (S := (fun w' => Keep [] wr w')) (E := []) (by kernel_rfl) (by exact (Keep.refl _ _).drew) (fun hHeld => ?_)
                  refine Bz.wpAnyE_take (i := 0) (oi := { dst := some 140, op := Go.Op.move (Go.Operand.tmp 7), type := 24, pos := "law.go:90", after := #[], guard := none }) (v := ?_) rfl (by kernel_rfl) (by kernel_rfl) (by kernel_rfl) (by kernel_rfl) (fun _ _ _ h => h) (Or.inl ⟨by rfl, ?_⟩) hHeld ?_
                  rotate_left 1
                  · (intro w hSw; have f0 := F11 w hSw; have f1 := F1 w hSw; have f3 := F8 w hSw; go_simp; first | done | with_reducible rfl)
                  try simp only [Act.put, List.setIfInBounds_toArray, List.set_cons_zero, List.set_cons_succ]
                  refine Bz.wpAnyE_take (i := 1) (oi := { dst := some 141, op := Go.Op.load 29 (Go.Operand.tmp 11), type := 29, pos := "law.go:90", after := #[], guard := none }) (v := ?_) rfl (by kernel_rfl) (by kernel_rfl) (by kernel_rfl) (by kernel_rfl) (fun _ _ _ h => h) (Or.inl ⟨by rfl, ?_⟩) hHeld ?_
                  rotate_left 1
                  · (intro w hSw; have f0 := F11 w hSw; have f1 := F1 w hSw; have f3 := F8 w hSw; go_simp; first | done | with_reducible rfl)
                  try simp only [Act.put, List.setIfInBounds_toArray, List.set_cons_zero, List.set_cons_succ]
                  refine Bz.wpAnyE_take (i := 2) (oi := { dst := some 142, op := Go.Op.move (Go.Operand.tmp 2), type := 50, pos := "law.go:90", after := #[], guard := none }) (v := ?_) rfl (by kernel_rfl) (by kernel_rfl) (by kernel_rfl) (by kernel_rfl) (fun _ _ _ h => h) (Or.inl ⟨by rfl, ?_⟩) hHeld ?_
                  rotate_left 1
                  · (intro w hSw; have f0 := F11 w hSw; have f1 := F1 w hSw; have f3 := F8 w hSw; go_simp; first | done | with_reducible rfl)
                  try simp only [Act.put, List.setIfInBounds_toArray, List.set_cons_zero, List.set_cons_succ]
                  refine Bz.wpAnyE_take (i := 3) (oi := { dst := some 143, op := Go.Op.move (Go.Operand.tmp 16), type := 3, pos := "law.go:90", after := #[], guard := none }) (v := ?_) rfl (by kernel_rfl) (by kernel_rfl) (by kernel_rfl) (by kernel_rfl) (fun _ _ _ h => h) (Or.inl ⟨by rfl, ?_⟩) hHeld ?_
                  rotate_left 1
                  · (intro w hSw; have f0 := F11 w hSw; have f1 := F1 w hSw; have f3 := F8 w hSw; go_simp; first | done | with_reducible rfl)
                  try simp only [Act.put, List.setIfInBounds_toArray, List.set_cons_zero, List.set_cons_succ]
                  refine Bz.wpAnyE_take (i := 4) (oi := { dst := some 144, op := Go.Op.indexAddr 50 (Go.Operand.tmp 142) (Go.Operand.tmp 143), type := 0, pos := "law.go:90", after := #[{ on := 2, ground := Go.Ground.data }, { on := 3, ground := Go.Ground.data }], guard := none }) (v := ?_) rfl (by kernel_rfl) (by kernel_rfl) (by kernel_rfl) (by kernel_rfl) (fun _ _ _ h => h) (Or.inl ⟨by rfl, ?_⟩) hHeld ?_
                  rotate_left 1
                  · (intro w hSw; have f0 := F11 w hSw; have f1 := F1 w hSw; have f3 := F8 w hSw; go_simp; first | done | with_reducible rfl)
                  try simp only [Act.put, List.setIfInBounds_toArray, List.set_cons_zero, List.set_cons_succ]
                  refine Bz.wpAnyE_take (i := 5) (oi := { dst := some 145, op := Go.Op.load 5 (Go.Operand.tmp 144), type := 5, pos := "law.go:90", after := #[{ on := 4, ground := Go.Ground.data }], guard := none }) (v := ?_) rfl (by kernel_rfl) (by kernel_rfl) (by kernel_rfl) (by kernel_rfl) (fun _ _ _ h => h) (Or.inl ⟨by rfl, ?_⟩) hHeld ?_
                  rotate_left 1
                  · (intro w hSw; have f0 := F11 w hSw; have f1 := F1 w hSw; have f3 := F8 w hSw; go_simp; first | done | with_reducible rfl)
                  try simp only [Act.put, List.setIfInBounds_toArray, List.set_cons_zero, List.set_cons_succ]
                  refine Bz.wpAnyE_take (i := 9) (oi := { dst := some 149, op := Go.Op.load 42 (Go.Operand.tmp 8), type := 42, pos := "law.go:90", after := #[], guard := none }) (v := ?_) rfl (by kernel_rfl) (by kernel_rfl) (by kernel_rfl) (by kernel_rfl) (fun _ _ _ h => h) (Or.inl ⟨by rfl, ?_⟩) hHeld ?_
                  rotate_left 1
                  · (intro w hSw; have f0 := F11 w hSw; have f1 := F1 w hSw; have f3 := F8 w hSw; go_simp; first | done | with_reducible rfl)
                  try simp only [Act.put, List.setIfInBounds_toArray, List.set_cons_zero, List.set_cons_succ]
                  refine Bz.wpAnyE_take (i := 10) (oi := { dst := some 150, op := Go.Op.load 29 (Go.Operand.tmp 11), type := 29, pos := "law.go:90", after := #[], guard := none }) (v := ?_) rfl (by kernel_rfl) (by kernel_rfl) (by kernel_rfl) (by kernel_rfl) (fun _ _ _ h => h) (Or.inl ⟨by rfl, ?_⟩) hHeld ?_
                  rotate_left 1
                  · (intro w hSw; have f0 := F11 w hSw; have f1 := F1 w hSw; have f3 := F8 w hSw; go_simp; first | done | with_reducible rfl)
                  try simp only [Act.put, List.setIfInBounds_toArray, List.set_cons_zero, List.set_cons_succ]
                  refine Bz.wpAnyE_take (i := 11) (oi := { dst := some 151, op := Go.Op.move (Go.Operand.tmp 2), type := 50, pos := "law.go:90", after := #[], guard := none }) (v := ?_) rfl (by kernel_rfl) (by kernel_rfl) (by kernel_rfl) (by kernel_rfl) (fun _ _ _ h => h) (Or.inl ⟨by rfl, ?_⟩) hHeld ?_
                  rotate_left 1
                  · (intro w hSw; have f0 := F11 w hSw; have f1 := F1 w hSw; have f3 := F8 w hSw; go_simp; first | done | with_reducible rfl)
                  try simp only [Act.put, List.setIfInBounds_toArray, List.set_cons_zero, List.set_cons_succ]
                  refine Bz.wpAnyE_take (i := 12) (oi := { dst := some 152, op := Go.Op.move (Go.Operand.tmp 16), type := 3, pos := "law.go:90", after := #[], guard := none }) (v := ?_) rfl (by kernel_rfl) (by kernel_rfl) (by kernel_rfl) (by kernel_rfl) (fun _ _ _ h => h) (Or.inl ⟨by rfl, ?_⟩) hHeld ?_
                  rotate_left 1
                  · (intro w hSw; have f0 := F11 w hSw; have f1 := F1 w hSw; have f3 := F8 w hSw; go_simp; first | done | with_reducible rfl)
                  try simp only [Act.put, List.setIfInBounds_toArray, List.set_cons_zero, List.set_cons_succ]
                  refine Bz.wpAnyE_take (i := 13) (oi := { dst := some 153, op := Go.Op.indexAddr 50 (Go.Operand.tmp 151) (Go.Operand.tmp 152), type := 0, pos := "law.go:90", after := #[{ on := 11, ground := Go.Ground.data }, { on := 12, ground := Go.Ground.data }], guard := none }) (v := ?_) rfl (by kernel_rfl) (by kernel_rfl) (by kernel_rfl) (by kernel_rfl) (fun _ _ _ h => h) (Or.inl ⟨by rfl, ?_⟩) hHeld ?_
                  rotate_left 1
                  · (intro w hSw; have f0 := F11 w hSw; have f1 := F1 w hSw; have f3 := F8 w hSw; go_simp; first | done | with_reducible rfl)
                  try simp only [Act.put, List.setIfInBounds_toArray, List.set_cons_zero, List.set_cons_succ]
                  refine Bz.wpAnyE_take (i := 14) (oi := { dst := some 154, op := Go.Op.load 5 (Go.Operand.tmp 153), type := 5, pos := "law.go:90", after := #[{ on := 13, ground := Go.Ground.data }], guard := none }) (v := ?_) rfl (by kernel_rfl) (by kernel_rfl) (by kernel_rfl) (by kernel_rfl) (fun _ _ _ h => h) (Or.inl ⟨by rfl, ?_⟩) hHeld ?_
                  rotate_left 1
                  · (intro w hSw; have f0 := F11 w hSw; have f1 := F1 w hSw; have f3 := F8 w hSw; go_simp; first | done | with_reducible rfl)
                  try simp only [Act.put, List.setIfInBounds_toArray, List.set_cons_zero, List.set_cons_succ]
                  refine Bz.wpAnyE_ready (rs := [6]) (by kernel_rfl) (by simp) ?_
                  refine Bz.AllReadyE.cons (o := { dst := some 146, op := Go.Op.call { callee := Go.Callee.value (Go.Operand.func 11), args := #[Go.Operand.tmp 145], argTypes := #[5] }, type := 29, pos := "law.go:90", after := #[{ on := 5, ground := Go.Ground.data }], guard := none }) rfl (fun K hK => ?_) Bz.AllReadyE.nil
                  go_simp
                  
                  refine (id_any _ _).mono ?_
                  rintro e w5 ⟨rfl, hk5⟩
                  try have hv6 := hv6.keep0 hk5
                  refine hK.out _ _ (by exact hHeld.trans hk5) ?_
                  clear hHeld hK K; intro hHeld
                  try simp only [Act.put, List.setIfInBounds_toArray, List.set_cons_zero, List.set_cons_succ]
                  refine Bz.wpAnyE_ready (rs := [7]) (by kernel_rfl) (by simp) ?_
                  refine Bz.AllReadyE.cons (o := { dst := some 147, op := Go.Op.call { callee := Go.Callee.value (Go.Operand.func 15), args := #[Go.Operand.tmp 140, Go.Operand.tmp 141, Go.Operand.tmp 146], argTypes := #[24, 29, 29] }, type := 36, pos := "law.go:90", after := #[{ on := 0, ground := Go.Ground.data }, { on := 1, ground := Go.Ground.data }, { on := 6, ground := Go.Ground.data }, { on := 6, ground := Go.Ground.chain }], guard := none }) rfl (fun K hK => ?_) Bz.AllReadyE.nil
                  go_simp
                  
                  refine (uc _ (hT.keep0 hHeld)).mono ?_
                  rintro e w5 ⟨v5, rfl, hv5, hk5⟩
                  refine hK.out _ _ (by exact hHeld.trans hk5) ?_
                  clear hHeld hK K; intro hHeld
                  try simp only [Act.put, List.setIfInBounds_toArray, List.set_cons_zero, List.set_cons_succ]
                  refine Bz.wpAnyE_ready (rs := [8]) (by kernel_rfl) (by simp) ?_
                  refine Bz.AllReadyE.cons (o := { dst := some 148, op := Go.Op.call { callee := Go.Callee.value (Go.Operand.func 20), args := #[Go.Operand.tmp 147], argTypes := #[36] }, type := 47, pos := "law.go:90", after := #[{ on := 7, ground := Go.Ground.data }, { on := 7, ground := Go.Ground.chain }], guard := none }) rfl (fun K hK => ?_) Bz.AllReadyE.nil
                  go_simp
                  
                  refine (pl _ _ hv5).mono ?_
                  rintro e w6 ⟨v6, rfl, hv6, hk5⟩
                  have hv6 := hv6.sl dsz
                  refine hK.out _ _ (by exact hHeld.trans hk5) ?_
                  clear hHeld hK K; intro hHeld
                  try simp only [Act.put, List.setIfInBounds_toArray, List.set_cons_zero, List.set_cons_succ]
                  refine Bz.wpAnyE_ready (rs := [15]) (by kernel_rfl) (by simp) ?_
                  refine Bz.AllReadyE.cons (o := { dst := some 155, op := Go.Op.call { callee := Go.Callee.value (Go.Operand.func 11), args := #[Go.Operand.tmp 154], argTypes := #[5] }, type := 29, pos := "law.go:90", after := #[{ on := 14, ground := Go.Ground.data }, { on := 8, ground := Go.Ground.chain }], guard := none }) rfl (fun K hK => ?_) Bz.AllReadyE.nil
                  go_simp
                  
                  refine (id_any _ _).mono ?_
                  rintro e w5 ⟨rfl, hk5⟩
                  try have hv6 := hv6.keep0 hk5
                  refine hK.out _ _ (by exact hHeld.trans hk5) ?_
                  clear hHeld hK K; intro hHeld
                  try simp only [Act.put, List.setIfInBounds_toArray, List.set_cons_zero, List.set_cons_succ]
                  refine Bz.wpAnyE_ready (rs := [16]) (by kernel_rfl) (by simp) ?_
                  refine Bz.AllReadyE.cons (o := { dst := some 156, op := Go.Op.call { callee := Go.Callee.value (Go.Operand.func 27), args := #[Go.Operand.tmp 149, Go.Operand.tmp 150, Go.Operand.tmp 155], argTypes := #[42, 28, 28] }, type := 47, pos := "law.go:90", after := #[{ on := 9, ground := Go.Ground.data }, { on := 10, ground := Go.Ground.data }, { on := 15, ground := Go.Ground.data }, { on := 15, ground := Go.Ground.chain }], guard := none }) rfl (fun K hK => ?_) Bz.AllReadyE.nil
                  go_simp
                  
                  refine (ur _ _ (hBX.sl.keep0 hHeld)).mono ?_
                  rintro e w7 ⟨v7, rfl, hv7, hk5⟩
                  have hv6 := hv6.keep0 hk5
                  refine hK.out _ _ (by exact hHeld.trans hk5) ?_
                  clear hHeld hK K; intro hHeld
                  try simp only [Act.put, List.setIfInBounds_toArray, List.set_cons_zero, List.set_cons_succ]
                  refine Bz.wpAnyE_ready (rs := [17]) (by kernel_rfl) (by simp) ?_
                  refine Bz.AllReadyE.cons (o := { dst := some 157, op := Go.Op.call { callee := Go.Callee.value (Go.Operand.func 19), args := #[Go.Operand.tmp 148, Go.Operand.tmp 156], argTypes := #[47, 47] }, type := 4, pos := "law.go:90", after := #[{ on := 8, ground := Go.Ground.data }, { on := 16, ground := Go.Ground.data }, { on := 16, ground := Go.Ground.chain }], guard := none }) rfl (fun K hK => ?_) Bz.AllReadyE.nil
                  go_simp
                  
                  refine (same_any hv6 hv7).mono ?_
                  rw [decide_eq_true rfl]
                  rintro e w9 ⟨rfl, hk5⟩
                  refine hK.out _ _ (by exact hHeld.trans hk5) ?_
                  clear hHeld hK K; intro hHeld
                  try simp only [Act.put, List.setIfInBounds_toArray, List.set_cons_zero, List.set_cons_succ]
                  refine Bz.wpAnyE_take (i := 18) (oi := { dst := some 158, op := Go.Op.unOp Go.UnOp.not 4 (Go.Operand.tmp 157), type := 4, pos := "law.go:90", after := #[{ on := 17, ground := Go.Ground.data }], guard := none }) (v := ?_) rfl (by kernel_rfl) (by kernel_rfl) (by kernel_rfl) (by kernel_rfl) (fun _ _ _ h => h) (Or.inl ⟨by rfl, ?_⟩) hHeld ?_
                  rotate_left 1
                  · (intro w hSw; have f0 := F11 w hSw; have f1 := F1 w hSw; have f3 := F8 w hSw; go_simp; first | done | with_reducible rfl)
                  try simp only [Act.put, List.setIfInBounds_toArray, List.set_cons_zero, List.set_cons_succ]
                  refine Bz.wpAnyE_done (by kernel_rfl) ?_ _
                  refine NoPanic.normal ?_
                  
                  go_wp2_with fail
                  go_roundg (l2.length - (j + 1))
                  case measure => omega
                  case rel => exact ⟨j + 1, by go_num, by omega, B11.keep hHeld (by simp), hT.keep0 hHeld, hBX.keep0 hHeld, hKw.trans hHeld⟩
                · rcases hend with ⟨hlj, h12⟩ | hlj
                  all_goals
                    go_wp2_with fail
                    have hk2' := hk2
                    go_roundg (l2.length - (k2 + 1))
                    case measure => omega
                    case rel => exact ⟨k2 + 1, by go_num, by omega, hT, hBX, hKw⟩
          · rcases hend with ⟨hlt, h80⟩ | hlt
            all_goals
              go_wp2_with fail
              go_ret
              exact ⟨rfl, hKw⟩
end Go.Proofs.Ytbkchniomhdieaa
