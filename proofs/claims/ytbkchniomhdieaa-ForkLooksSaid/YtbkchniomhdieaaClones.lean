/- ForkClones walked. -/
import Derived.Test.YtbkchniomhdieaaRefAlike
import Derived.Test.YtbkchniomhdieaaSameLaw
import Derived.Test.YtbkchniomhdieaaParent
import Derived.Test.YtbkchniomhdieaaClone
import Derived.Test.YtbkchniomhdieaaNil
import Derived.Test.YtbkchniomhdieaaComing
import Derived.LaidEqlPtr
namespace Go.Proofs.Ytbkchniomhdieaa
open Go.RowKit Go.Bz

theorem rtStore_over {w : World} {b : Nat} {V V0 : Value} {R R0 : RT} (hN : Blk w b 42 (rcells V0 R0)) : Blk (rtStore w b V R) b 42 (rcells V R) ∧ Keep [b] w (rtStore w b V R) := by
  refine ⟨?_, ?_⟩
  · have h9 := ((((((((((hN).set_ 0 (.int .i64 R.depth)).set_ 1 V).set_ 2 (.int .u8 R.tip.a)).set_ 3 (.int .u8 R.tip.b)).set_ 4 (.int .u8 R.tip.c)).set_ 5 (.int .u8 R.tip.d)).set_ 6 (.int .u8 R.tip.e)).set_ 7 (.int .u8 R.tip.f)).set_ 8 (.int .u8 R.tip.g)).set_ 9 (.int .u8 R.tip.h)
    simpa only [rcells, List.setIfInBounds_toArray, List.set_cons_zero, List.set_cons_succ] using h9
  · exact ((((((((((Keep.refl [b] w).setCell (p := ⟨b, 0, none⟩) (.inl (by simp)) _).setCell (p := ⟨b, 1, none⟩) (.inl (by simp)) _).setCell (p := ⟨b, 2, none⟩) (.inl (by simp)) _).setCell (p := ⟨b, 3, none⟩) (.inl (by simp)) _).setCell (p := ⟨b, 4, none⟩) (.inl (by simp)) _).setCell (p := ⟨b, 5, none⟩) (.inl (by simp)) _).setCell (p := ⟨b, 6, none⟩) (.inl (by simp)) _).setCell (p := ⟨b, 7, none⟩) (.inl (by simp)) _).setCell (p := ⟨b, 8, none⟩) (.inl (by simp)) _).setCell (p := ⟨b, 9, none⟩) (.inl (by simp)) _
/-- The document's tree in a box of the law's. -/
structure Box (w : World) (b : Nat) (A : Option Addr) (cap : Nat) (T : FT) : Prop where
  box : Blk w b 42 (rcells (.slice A T.rt.l.length cap) T.rt)
  sl : Sl w 57 16 renc (.slice A T.rt.l.length cap) T.rt.l
theorem Box.keep0 {w w' : World} {b : Nat} {A : Option Addr} {cap : Nat} {T : FT} (h : Box w b A cap T) (hk : Keep [] w w') : Box w' b A cap T := ⟨h.box.keep hk (by simp), h.sl.keep0 hk⟩
theorem Box.keepT {w w' : World} {b t mb : Nat} {A : Option Addr} {cap : Nat} {T U : FT} (h : Box w b A cap T) (hT : TreeAt w t mb U) (hk : Keep [t, mb] w w') : Box w' b A cap T := by
  refine ⟨h.box.keep hk (by simp; exact ⟨fun e => hT.1.ne_ h.box (by decide) e.symm, fun e => hT.2.ne_blk h.box e.symm⟩), h.sl.keepTy hk ?_⟩
  intro s hs cs hb
  simp at hs
  rcases hs with rfl | rfl
  · exact hT.1.ne_ hb (by decide) rfl
  · exact hT.2.ne_blk hb rfl
/-- The box is stored into. -/
theorem Box.put {w : World} {b : Nat} {A A' : Option Addr} {cap cap' : Nat} {T U : FT} (h : Box w b A cap T) (hs : Sl w 57 16 renc (.slice A' U.rt.l.length cap') U.rt.l) : Box (rtStore w b (.slice A' U.rt.l.length cap') U.rt) b A' cap' U := by
  have hp := rtStore_over (V := .slice A' U.rt.l.length cap') (R := U.rt) h.box
  exact ⟨hp.1, hs.keepTy hp.2 (by intro s hs cs hb; simp at hs; subst hs; exact h.box.ne_ hb (by decide) rfl)⟩
theorem Box.other {w : World} {b b' : Nat} {A A' : Option Addr} {cap cap' : Nat} {T T' U : FT} (h : Box w b A cap T) (h' : Box w b' A' cap' T') (hne : b ≠ b') (V : Value) : Box (rtStore w b' V U.rt) b A cap T := by
  have hp := rtStore_over (V := V) (R := U.rt) h'.box
  exact ⟨h.box.keep hp.2 (by simpa using hne), h.sl.keepTy hp.2 (by intro s hs cs hb; simp at hs; subst hs; exact h'.box.ne_ hb (by decide) rfl)⟩
theorem TreeAt.keepB {w : World} {t mb b : Nat} {A : Option Addr} {cap : Nat} {T U W : FT} (h : TreeAt w t mb T) (hB : Box w b A cap U) (V : Value) : TreeAt (rtStore w b V W.rt) t mb T := by
  have hp := rtStore_over (V := V) (R := W.rt) hB.box
  exact h.keep hp.2 (by simp; exact h.1.ne_ hB.box (by decide)) (by simp; exact h.2.ne_blk hB.box)
theorem tree_ne {w : World} {t t' mb mb' : Nat} {T U : FT} (h : TreeAt w t mb T) (h' : TreeAt w t' mb' U) (hne : ¬ t' = t) :
    (binOp .eql 24 (.pointer (some ⟨t', 0, none⟩)) (.pointer (some ⟨t, 0, none⟩))).run Try.prog w = .ok (.bool false) w := by
  have hi : (Try.prog.info? 72).map (·.size) = some 18 := by kernel_rfl
  obtain ⟨j, hj, hs⟩ := Option.map_eq_some_iff.1 hi
  exact run_eql_ptr_other w Try.underlying24 hj (by rw [hs]; decide) (fun e => hne (congrArg Addr.block e)) h'.1 h.1
set_option maxRecDepth 100000 in
set_option maxHeartbeats 8000000 in
theorem clones_any (dep : Int) (A : Option Addr) (l : List (Int × Int)) (cap : Nat) (A2 : Option Addr) (l2 : List (Int × Int)) (cap2 : Nat) (w : World) (hlen : l.length ≤ 9223372036854775807) (hlen2 : l2.length ≤ 9223372036854775807) (hR : Rd w 2 cenc A l) (hR2 : Rd w 2 cenc A2 l2) :
    Calls Try.prog 8 #[.int .i64 dep, .slice A l.length cap, .slice A2 l2.length cap2] w (fun e w' => e = .returned (.bool true) ∧ Keep [] w w') := by
  go_enter Try.func8, Try.ntmps8
  go_wp2_with (first
    | (go_at_call 17; refine (begin_any _ _).mono ?_; rintro e w1 ⟨n, t, mb, V, hn0, hn1, rfl, ht, hmb, hT, hSV, hk1⟩; obtain ⟨AV, capV, rfl, _⟩ := id hSV)
    | (go_at_call 12; refine (told_any _).mono ?_; rintro e w3 ⟨rfl, hk3⟩))
  have hBX : Box (w1.alloc (.cells (rcells (.slice AV 1 capV) ⟨n, [(idv 0, d0)], idv 0⟩) 42)) w1.heap.size AV capV (FT.new (idv 0) n) := ⟨Blk.new _ _ _, hSV.keep0 ((Keep.refl _ _).alloc _)⟩
  have hBX := hBX.keep0 hk3
  have hT := (hT.alloc _).keep0 hk3
  have hKw := (hk1.alloc _).trans hk3
  have hb8 : w.heap.size ≤ w1.heap.size := hk1.size
  obtain ⟨b, hb⟩ : ∃ b, b = w1.heap.size := ⟨_, rfl⟩
  rw [← hb] at hBX hb8 ⊢
  have own : ∀ g ∈ [t, mb], w.heap.size ≤ g := by intro g hg; simp at hg; rcases hg with rfl | rfl <;> assumption
  clear hb hk1 hk3 hSV
  go_loopg [9] l.length (fun m i wr => ∃ (k : Nat) (T : FT) (A : Option Addr) (cap : Nat), i = .int .i64 k ∧ m + k = l.length ∧ TreeAt wr t mb T ∧ T.WF ∧ T.Hd ∧ Box wr b A cap T ∧ Keep [] w wr)
  case atStart => exact ⟨0, _, _, _, rfl, rfl, hT, FT.new_wf _ hn0 hn1, FT.new_hd _ _, hBX, hKw⟩
  case round =>
    clear hKw hT hBX
    obtain ⟨k, T, AV, capV, rfl, hk, hT, hWF, hHd, hBX, hKw⟩ := hrel
    have hgo : (k < l.length ∧ k < 30) ∨ (k < l.length ∧ ¬ k < 30) ∨ ¬ k < l.length := by omega
    rcases hgo with ⟨hlt, h80⟩ | hend
    · obtain ⟨ab, ao, rfl, hab, x, y, hxy, hcl⟩ := coming hR hlt
      have F0 := fun W (hk : Keep [] wr W) => (hBX.box.keep hk (by simp)).cell
      have Ff := fun W (hk : Keep [] wr W) => (hBX.box.keep hk (by simp)).frozen
      have F1 := fun W (hk : Keep [] wr W) => hcl W (hKw.trans hk)
      obtain ⟨T', HT'⟩ : ∃ T', Hid (T' = T.add (idv x) (idv y)) := ⟨_, Lib.hid rfl⟩
      have hWF' : T'.WF := by rw [HT'.out]; exact hWF.add _ _
      have hHd' : T'.Hd := by rw [HT'.out]; exact hHd.add _ _
      have hadd := fun w V => radd_any hWF hHd (idv x) (idv y) (w := w) (V := V)
      have hadd2 := fun w h => add_any (t := t) (mb := mb) (w := w) h hWF (idv x) (idv y)
      obtain ⟨er, HE⟩ : ∃ er, Hid (er = T.err (idv x) (idv y)) := ⟨_, Lib.hid rfl⟩
      rw [← HT'.out, ← HE.out] at hadd hadd2
      go_wp2_with fail
      refine wp_region_noPanic ?_
      refine Bz.wp_region_E (S := (fun w' => Keep [] wr w')) (E := [17]) (by kernel_rfl) (by exact (Keep.refl _ _).drew) (fun hHeld => ?_)
      refine Bz.wpAnyE_take (i := 0) (oi := { dst := some 35, op := Go.Op.load 42 (Go.Operand.tmp 8), type := 42, pos := "law.go:178", after := #[], guard := none }) (v := ?_) rfl (by kernel_rfl) (by kernel_rfl) (by kernel_rfl) (by kernel_rfl) (fun _ _ _ h => h) (Or.inl ⟨by rfl, ?_⟩) hHeld ?_
      rotate_left 1
      · (intro w hSw; have f0 := F0 w hSw; have f1 := F1 w hSw; go_simp; first | done | with_reducible rfl)
      try simp only [Act.put, List.setIfInBounds_toArray, List.set_cons_zero, List.set_cons_succ]
      refine Bz.wpAnyE_take (i := 1) (oi := { dst := some 36, op := Go.Op.move (Go.Operand.tmp 1), type := 22, pos := "law.go:178", after := #[], guard := none }) (v := ?_) rfl (by kernel_rfl) (by kernel_rfl) (by kernel_rfl) (by kernel_rfl) (fun _ _ _ h => h) (Or.inl ⟨by rfl, ?_⟩) hHeld ?_
      rotate_left 1
      · (intro w hSw; have f0 := F0 w hSw; have f1 := F1 w hSw; go_simp; first | done | with_reducible rfl)
      try simp only [Act.put, List.setIfInBounds_toArray, List.set_cons_zero, List.set_cons_succ]
      refine Bz.wpAnyE_take (i := 2) (oi := { dst := some 37, op := Go.Op.move (Go.Operand.tmp 9), type := 3, pos := "law.go:178", after := #[], guard := none }) (v := ?_) rfl (by kernel_rfl) (by kernel_rfl) (by kernel_rfl) (by kernel_rfl) (fun _ _ _ h => h) (Or.inl ⟨by rfl, ?_⟩) hHeld ?_
      rotate_left 1
      · (intro w hSw; have f0 := F0 w hSw; have f1 := F1 w hSw; go_simp; first | done | with_reducible rfl)
      try simp only [Act.put, List.setIfInBounds_toArray, List.set_cons_zero, List.set_cons_succ]
      refine Bz.wpAnyE_take (i := 3) (oi := { dst := some 38, op := Go.Op.indexAddr 22 (Go.Operand.tmp 36) (Go.Operand.tmp 37), type := 0, pos := "law.go:178", after := #[{ on := 1, ground := Go.Ground.data }, { on := 2, ground := Go.Ground.data }], guard := none }) (v := ?_) rfl (by kernel_rfl) (by kernel_rfl) (by kernel_rfl) (by kernel_rfl) (fun _ _ _ h => h) (Or.inl ⟨by rfl, ?_⟩) hHeld ?_
      rotate_left 1
      · (intro w hSw; have f0 := F0 w hSw; have f1 := F1 w hSw; go_simp; first | done | with_reducible rfl)
      try simp only [Act.put, List.setIfInBounds_toArray, List.set_cons_zero, List.set_cons_succ]
      refine Bz.wpAnyE_take (i := 4) (oi := { dst := some 39, op := Go.Op.fieldAddr 35 (Go.Operand.tmp 38) 0, type := 0, pos := "law.go:178", after := #[{ on := 3, ground := Go.Ground.data }], guard := none }) (v := ?_) rfl (by kernel_rfl) (by kernel_rfl) (by kernel_rfl) (by kernel_rfl) (fun _ _ _ h => h) (Or.inl ⟨by rfl, ?_⟩) hHeld ?_
      rotate_left 1
      · (intro w hSw; have f0 := F0 w hSw; have f1 := F1 w hSw; go_simp; first | done | with_reducible rfl)
      try simp only [Act.put, List.setIfInBounds_toArray, List.set_cons_zero, List.set_cons_succ]
      refine Bz.wpAnyE_take (i := 5) (oi := { dst := some 40, op := Go.Op.load 5 (Go.Operand.tmp 39), type := 5, pos := "law.go:178", after := #[{ on := 4, ground := Go.Ground.data }], guard := none }) (v := ?_) rfl (by kernel_rfl) (by kernel_rfl) (by kernel_rfl) (by kernel_rfl) (fun _ _ _ h => h) (Or.inl ⟨by rfl, ?_⟩) hHeld ?_
      rotate_left 1
      · (intro w hSw; have f0 := F0 w hSw; have f1 := F1 w hSw; go_simp; first | done | with_reducible rfl)
      try simp only [Act.put, List.setIfInBounds_toArray, List.set_cons_zero, List.set_cons_succ]
      refine Bz.wpAnyE_take (i := 7) (oi := { dst := some 42, op := Go.Op.move (Go.Operand.tmp 1), type := 22, pos := "law.go:178", after := #[], guard := none }) (v := ?_) rfl (by kernel_rfl) (by kernel_rfl) (by kernel_rfl) (by kernel_rfl) (fun _ _ _ h => h) (Or.inl ⟨by rfl, ?_⟩) hHeld ?_
      rotate_left 1
      · (intro w hSw; have f0 := F0 w hSw; have f1 := F1 w hSw; go_simp; first | done | with_reducible rfl)
      try simp only [Act.put, List.setIfInBounds_toArray, List.set_cons_zero, List.set_cons_succ]
      refine Bz.wpAnyE_take (i := 8) (oi := { dst := some 43, op := Go.Op.move (Go.Operand.tmp 9), type := 3, pos := "law.go:178", after := #[], guard := none }) (v := ?_) rfl (by kernel_rfl) (by kernel_rfl) (by kernel_rfl) (by kernel_rfl) (fun _ _ _ h => h) (Or.inl ⟨by rfl, ?_⟩) hHeld ?_
      rotate_left 1
      · (intro w hSw; have f0 := F0 w hSw; have f1 := F1 w hSw; go_simp; first | done | with_reducible rfl)
      try simp only [Act.put, List.setIfInBounds_toArray, List.set_cons_zero, List.set_cons_succ]
      refine Bz.wpAnyE_take (i := 9) (oi := { dst := some 44, op := Go.Op.indexAddr 22 (Go.Operand.tmp 42) (Go.Operand.tmp 43), type := 0, pos := "law.go:178", after := #[{ on := 7, ground := Go.Ground.data }, { on := 8, ground := Go.Ground.data }], guard := none }) (v := ?_) rfl (by kernel_rfl) (by kernel_rfl) (by kernel_rfl) (by kernel_rfl) (fun _ _ _ h => h) (Or.inl ⟨by rfl, ?_⟩) hHeld ?_
      rotate_left 1
      · (intro w hSw; have f0 := F0 w hSw; have f1 := F1 w hSw; go_simp; first | done | with_reducible rfl)
      try simp only [Act.put, List.setIfInBounds_toArray, List.set_cons_zero, List.set_cons_succ]
      refine Bz.wpAnyE_take (i := 10) (oi := { dst := some 45, op := Go.Op.fieldAddr 35 (Go.Operand.tmp 44) 1, type := 0, pos := "law.go:178", after := #[{ on := 9, ground := Go.Ground.data }], guard := none }) (v := ?_) rfl (by kernel_rfl) (by kernel_rfl) (by kernel_rfl) (by kernel_rfl) (fun _ _ _ h => h) (Or.inl ⟨by rfl, ?_⟩) hHeld ?_
      rotate_left 1
      · (intro w hSw; have f0 := F0 w hSw; have f1 := F1 w hSw; go_simp; first | done | with_reducible rfl)
      try simp only [Act.put, List.setIfInBounds_toArray, List.set_cons_zero, List.set_cons_succ]
      refine Bz.wpAnyE_take (i := 11) (oi := { dst := some 46, op := Go.Op.load 5 (Go.Operand.tmp 45), type := 5, pos := "law.go:178", after := #[{ on := 10, ground := Go.Ground.data }], guard := none }) (v := ?_) rfl (by kernel_rfl) (by kernel_rfl) (by kernel_rfl) (by kernel_rfl) (fun _ _ _ h => h) (Or.inl ⟨by rfl, ?_⟩) hHeld ?_
      rotate_left 1
      · (intro w hSw; have f0 := F0 w hSw; have f1 := F1 w hSw; go_simp; first | done | with_reducible rfl)
      try simp only [Act.put, List.setIfInBounds_toArray, List.set_cons_zero, List.set_cons_succ]
      refine Bz.wpAnyE_ready (rs := [6]) (by kernel_rfl) (by simp) ?_
      refine Bz.AllReadyE.cons (o := { dst := some 41, op := Go.Op.call { callee := Go.Callee.value (Go.Operand.func 11), args := #[Go.Operand.tmp 40], argTypes := #[5] }, type := 29, pos := "law.go:178", after := #[{ on := 5, ground := Go.Ground.data }], guard := none }) rfl (fun K hK => ?_) Bz.AllReadyE.nil
      go_simp
      
      refine (id_any _ _).mono ?_
      rintro e w5 ⟨rfl, hk5⟩
      refine hK.out _ _ (by exact hHeld.trans hk5) ?_
      clear hHeld hK K; intro hHeld
      try simp only [Act.put, List.setIfInBounds_toArray, List.set_cons_zero, List.set_cons_succ]
      refine Bz.wpAnyE_ready (rs := [12]) (by kernel_rfl) (by simp) ?_
      refine Bz.AllReadyE.cons (o := { dst := some 47, op := Go.Op.call { callee := Go.Callee.value (Go.Operand.func 11), args := #[Go.Operand.tmp 46], argTypes := #[5] }, type := 29, pos := "law.go:178", after := #[{ on := 11, ground := Go.Ground.data }, { on := 6, ground := Go.Ground.chain }], guard := none }) rfl (fun K hK => ?_) Bz.AllReadyE.nil
      go_simp
      
      refine (id_any _ _).mono ?_
      rintro e w5 ⟨rfl, hk5⟩
      refine hK.out _ _ (by exact hHeld.trans hk5) ?_
      clear hHeld hK K; intro hHeld
      try simp only [Act.put, List.setIfInBounds_toArray, List.set_cons_zero, List.set_cons_succ]
      refine Bz.wpAnyE_ready (rs := [13]) (by kernel_rfl) (by simp) ?_
      refine Bz.AllReadyE.cons (o := { dst := some 48, op := Go.Op.call { callee := Go.Callee.value (Go.Operand.func 22), args := #[Go.Operand.tmp 35, Go.Operand.tmp 41, Go.Operand.tmp 47], argTypes := #[42, 28, 28] }, type := 51, pos := "law.go:178", after := #[{ on := 0, ground := Go.Ground.data }, { on := 6, ground := Go.Ground.data }, { on := 12, ground := Go.Ground.data }, { on := 12, ground := Go.Ground.chain }], guard := none }) rfl (fun K hK => ?_) Bz.AllReadyE.nil
      go_simp
      
      refine (hadd _ _ (hBX.sl.keep0 hHeld)).mono ?_
      rintro e w6 ⟨V6, rfl, hS6, hk5⟩
      have hS6 : Sl w6 57 16 renc V6 T'.rt.l := hS6
      obtain ⟨A6, cap6, rfl, _⟩ := id hS6
      refine hK.out _ _ (by exact hHeld.trans hk5) ?_
      clear hHeld hK K; intro hHeld
      try simp only [Act.put, List.setIfInBounds_toArray, List.set_cons_zero, List.set_cons_succ]
      refine Bz.wpAnyE_take (i := 14) (oi := { dst := some 34, op := Go.Op.move (Go.Operand.tmp 48), type := 51, pos := "law.go:178", after := #[{ on := 13, ground := Go.Ground.data }], guard := none }) (v := ?_) rfl (by kernel_rfl) (by kernel_rfl) (by kernel_rfl) (by kernel_rfl) (fun _ _ _ h => h) (Or.inl ⟨by rfl, ?_⟩) hHeld ?_
      rotate_left 1
      · (intro w hSw; have f0 := F0 w hSw; have f1 := F1 w hSw; go_simp; first | done | with_reducible rfl)
      try simp only [Act.put, List.setIfInBounds_toArray, List.set_cons_zero, List.set_cons_succ]
      refine Bz.wpAnyE_take (i := 15) (oi := { dst := some 49, op := Go.Op.extract (Go.Operand.tmp 34) 0, type := 42, pos := "law.go:178", after := #[{ on := 14, ground := Go.Ground.data }], guard := none }) (v := ?_) rfl (by kernel_rfl) (by kernel_rfl) (by kernel_rfl) (by kernel_rfl) (fun _ _ _ h => h) (Or.inl ⟨by rfl, ?_⟩) hHeld ?_
      rotate_left 1
      · (intro w hSw; have f0 := F0 w hSw; have f1 := F1 w hSw; go_simp; first | done | with_reducible rfl)
      try simp only [Act.put, List.setIfInBounds_toArray, List.set_cons_zero, List.set_cons_succ]
      refine Bz.wpAnyE_takeT (i := 16) (oi := { dst := some 50, op := Go.Op.extract (Go.Operand.tmp 34) 1, type := 3, pos := "law.go:178", after := #[{ on := 14, ground := Go.Ground.data }, { on := 17, ground := Go.Ground.gcOnly Go.Departure.lateStores }], guard := none }) (v := ?_) rfl (by kernel_rfl) (by kernel_rfl) (by kernel_rfl) (fun _ _ _ h => h) (Or.inl ⟨by rfl, ?_⟩) ?_
      rotate_left 1
      · (intro w _; go_simp; first | done | with_reducible rfl)
      try simp only [Act.put, List.setIfInBounds_toArray, List.set_cons_zero, List.set_cons_succ]
      refine Bz.wpAnyE_ready (rs := [17]) (by kernel_rfl) (by simp) ?_
      refine Bz.AllReadyE.last (o := { dst := none, op := Go.Op.store 42 (Go.Operand.tmp 8) (Go.Operand.tmp 49), type := 0, pos := "law.go:178", after := #[{ on := 15, ground := Go.Ground.data }, { on := 13, ground := Go.Ground.chain }, { on := 0, ground := Go.Ground.phase }, { on := 1, ground := Go.Ground.phase }, { on := 2, ground := Go.Ground.phase }, { on := 3, ground := Go.Ground.phase }, { on := 4, ground := Go.Ground.phase }, { on := 5, ground := Go.Ground.phase }, { on := 6, ground := Go.Ground.phase }, { on := 7, ground := Go.Ground.phase }, { on := 8, ground := Go.Ground.phase }, { on := 9, ground := Go.Ground.phase }, { on := 10, ground := Go.Ground.phase }, { on := 11, ground := Go.Ground.phase }, { on := 12, ground := Go.Ground.phase }, { on := 13, ground := Go.Ground.phase }, { on := 14, ground := Go.Ground.phase }, { on := 15, ground := Go.Ground.phase }, { on := 16, ground := Go.Ground.textOnly Go.Departure.lateStores }], guard := none }) rfl (by rfl) (fun K hK => ?_) Bz.AllReadyE.nil
      
      have f0 := F0 _ hHeld
      have ff := Ff _ hHeld
      go_simp
      refine hK.out _ _ ?_
      clear hK K
      try simp only [Act.put, List.setIfInBounds_toArray, List.set_cons_zero, List.set_cons_succ]
      refine Bz.wpAnyE_done (by kernel_rfl) ?_ _
      refine NoPanic.normal ?_
      obtain ⟨w7, hw7⟩ : ∃ W, W = rtStore w6 b (.slice A6 T'.rt.l.length cap6) T'.rt := ⟨_, rfl⟩
      have hBX' := (hBX.keep0 hHeld).put (U := T') hS6
      have hT' := (hT.keep0 hHeld).keepB (W := T') (hBX.keep0 hHeld) (.slice A6 T'.rt.l.length cap6)
      have hKw' := (hKw.trans hHeld).own (rtStore_over (V := .slice A6 T'.rt.l.length cap6) (R := T'.rt) (hBX.keep0 hHeld).box).2 (by simpa using hb8)
      rw [← hw7] at hBX' hT' hKw'
      unfold rtStore at hw7
      skip
      clear F0 Ff F1 hBX hT hKw hadd
      go_wp2_with fail
      rw [← hw7]
      clear hw7
      have F1 := fun W (hk : Keep [] w W) => hcl W hk
      refine wp_region_noPanic ?_
      refine Bz.wp_region_E (S := (fun w' => w'.cell? ⟨ab, ao + k * 2, none⟩ = some (.int .u8 x) ∧ w'.cell? ⟨ab, ao + k * 2 + 1, none⟩ = some (.int .u8 y))) (E := []) (by kernel_rfl) (by exact hcl _ hKw'.drew) (fun hHeld => ?_)
      refine Bz.wpAnyE_take (i := 0) (oi := { dst := some 51, op := Go.Op.move (Go.Operand.tmp 7), type := 24, pos := "law.go:179", after := #[], guard := none }) (v := ?_) rfl (by kernel_rfl) (by kernel_rfl) (by kernel_rfl) (by kernel_rfl) (fun _ _ _ h => h) (Or.inl ⟨by rfl, ?_⟩) hHeld ?_
      rotate_left 1
      · (intro w hSw; (try dsimp only at hSw); go_simp; first | done | with_reducible rfl)
      try simp only [Act.put, List.setIfInBounds_toArray, List.set_cons_zero, List.set_cons_succ]
      refine Bz.wpAnyE_take (i := 1) (oi := { dst := some 52, op := Go.Op.move (Go.Operand.tmp 1), type := 22, pos := "law.go:179", after := #[], guard := none }) (v := ?_) rfl (by kernel_rfl) (by kernel_rfl) (by kernel_rfl) (by kernel_rfl) (fun _ _ _ h => h) (Or.inl ⟨by rfl, ?_⟩) hHeld ?_
      rotate_left 1
      · (intro w hSw; (try dsimp only at hSw); go_simp; first | done | with_reducible rfl)
      try simp only [Act.put, List.setIfInBounds_toArray, List.set_cons_zero, List.set_cons_succ]
      refine Bz.wpAnyE_take (i := 2) (oi := { dst := some 53, op := Go.Op.move (Go.Operand.tmp 9), type := 3, pos := "law.go:179", after := #[], guard := none }) (v := ?_) rfl (by kernel_rfl) (by kernel_rfl) (by kernel_rfl) (by kernel_rfl) (fun _ _ _ h => h) (Or.inl ⟨by rfl, ?_⟩) hHeld ?_
      rotate_left 1
      · (intro w hSw; (try dsimp only at hSw); go_simp; first | done | with_reducible rfl)
      try simp only [Act.put, List.setIfInBounds_toArray, List.set_cons_zero, List.set_cons_succ]
      refine Bz.wpAnyE_take (i := 3) (oi := { dst := some 54, op := Go.Op.indexAddr 22 (Go.Operand.tmp 52) (Go.Operand.tmp 53), type := 0, pos := "law.go:179", after := #[{ on := 1, ground := Go.Ground.data }, { on := 2, ground := Go.Ground.data }], guard := none }) (v := ?_) rfl (by kernel_rfl) (by kernel_rfl) (by kernel_rfl) (by kernel_rfl) (fun _ _ _ h => h) (Or.inl ⟨by rfl, ?_⟩) hHeld ?_
      rotate_left 1
      · (intro w hSw; (try dsimp only at hSw); go_simp; first | done | with_reducible rfl)
      try simp only [Act.put, List.setIfInBounds_toArray, List.set_cons_zero, List.set_cons_succ]
      refine Bz.wpAnyE_take (i := 4) (oi := { dst := some 55, op := Go.Op.fieldAddr 35 (Go.Operand.tmp 54) 0, type := 0, pos := "law.go:179", after := #[{ on := 3, ground := Go.Ground.data }], guard := none }) (v := ?_) rfl (by kernel_rfl) (by kernel_rfl) (by kernel_rfl) (by kernel_rfl) (fun _ _ _ h => h) (Or.inl ⟨by rfl, ?_⟩) hHeld ?_
      rotate_left 1
      · (intro w hSw; (try dsimp only at hSw); go_simp; first | done | with_reducible rfl)
      try simp only [Act.put, List.setIfInBounds_toArray, List.set_cons_zero, List.set_cons_succ]
      refine Bz.wpAnyE_take (i := 5) (oi := { dst := some 56, op := Go.Op.load 5 (Go.Operand.tmp 55), type := 5, pos := "law.go:179", after := #[{ on := 4, ground := Go.Ground.data }], guard := none }) (v := ?_) rfl (by kernel_rfl) (by kernel_rfl) (by kernel_rfl) (by kernel_rfl) (fun _ _ _ h => h) (Or.inl ⟨by rfl, ?_⟩) hHeld ?_
      rotate_left 1
      · (intro w hSw; (try dsimp only at hSw); go_simp; first | done | with_reducible rfl)
      try simp only [Act.put, List.setIfInBounds_toArray, List.set_cons_zero, List.set_cons_succ]
      refine Bz.wpAnyE_take (i := 7) (oi := { dst := some 58, op := Go.Op.move (Go.Operand.tmp 1), type := 22, pos := "law.go:179", after := #[], guard := none }) (v := ?_) rfl (by kernel_rfl) (by kernel_rfl) (by kernel_rfl) (by kernel_rfl) (fun _ _ _ h => h) (Or.inl ⟨by rfl, ?_⟩) hHeld ?_
      rotate_left 1
      · (intro w hSw; (try dsimp only at hSw); go_simp; first | done | with_reducible rfl)
      try simp only [Act.put, List.setIfInBounds_toArray, List.set_cons_zero, List.set_cons_succ]
      refine Bz.wpAnyE_take (i := 8) (oi := { dst := some 59, op := Go.Op.move (Go.Operand.tmp 9), type := 3, pos := "law.go:179", after := #[], guard := none }) (v := ?_) rfl (by kernel_rfl) (by kernel_rfl) (by kernel_rfl) (by kernel_rfl) (fun _ _ _ h => h) (Or.inl ⟨by rfl, ?_⟩) hHeld ?_
      rotate_left 1
      · (intro w hSw; (try dsimp only at hSw); go_simp; first | done | with_reducible rfl)
      try simp only [Act.put, List.setIfInBounds_toArray, List.set_cons_zero, List.set_cons_succ]
      refine Bz.wpAnyE_take (i := 9) (oi := { dst := some 60, op := Go.Op.indexAddr 22 (Go.Operand.tmp 58) (Go.Operand.tmp 59), type := 0, pos := "law.go:179", after := #[{ on := 7, ground := Go.Ground.data }, { on := 8, ground := Go.Ground.data }], guard := none }) (v := ?_) rfl (by kernel_rfl) (by kernel_rfl) (by kernel_rfl) (by kernel_rfl) (fun _ _ _ h => h) (Or.inl ⟨by rfl, ?_⟩) hHeld ?_
      rotate_left 1
      · (intro w hSw; (try dsimp only at hSw); go_simp; first | done | with_reducible rfl)
      try simp only [Act.put, List.setIfInBounds_toArray, List.set_cons_zero, List.set_cons_succ]
      refine Bz.wpAnyE_take (i := 10) (oi := { dst := some 61, op := Go.Op.fieldAddr 35 (Go.Operand.tmp 60) 1, type := 0, pos := "law.go:179", after := #[{ on := 9, ground := Go.Ground.data }], guard := none }) (v := ?_) rfl (by kernel_rfl) (by kernel_rfl) (by kernel_rfl) (by kernel_rfl) (fun _ _ _ h => h) (Or.inl ⟨by rfl, ?_⟩) hHeld ?_
      rotate_left 1
      · (intro w hSw; (try dsimp only at hSw); go_simp; first | done | with_reducible rfl)
      try simp only [Act.put, List.setIfInBounds_toArray, List.set_cons_zero, List.set_cons_succ]
      refine Bz.wpAnyE_take (i := 11) (oi := { dst := some 62, op := Go.Op.load 5 (Go.Operand.tmp 61), type := 5, pos := "law.go:179", after := #[{ on := 10, ground := Go.Ground.data }], guard := none }) (v := ?_) rfl (by kernel_rfl) (by kernel_rfl) (by kernel_rfl) (by kernel_rfl) (fun _ _ _ h => h) (Or.inl ⟨by rfl, ?_⟩) hHeld ?_
      rotate_left 1
      · (intro w hSw; (try dsimp only at hSw); go_simp; first | done | with_reducible rfl)
      try simp only [Act.put, List.setIfInBounds_toArray, List.set_cons_zero, List.set_cons_succ]
      refine Bz.wpAnyE_ready (rs := [6]) (by kernel_rfl) (by simp) ?_
      refine Bz.AllReadyE.cons (o := { dst := some 57, op := Go.Op.call { callee := Go.Callee.value (Go.Operand.func 11), args := #[Go.Operand.tmp 56], argTypes := #[5] }, type := 29, pos := "law.go:179", after := #[{ on := 5, ground := Go.Ground.data }], guard := none }) rfl (fun K hK => ?_) Bz.AllReadyE.nil
      go_simp
      
      refine (id_any _ _).mono ?_
      rintro e w5 ⟨rfl, hk5⟩
      try have hk5 := hk5.undrew
      have hT' := hT'.keep0 hk5
      have hBX' := hBX'.keep0 hk5
      have hKw' := hKw'.trans hk5
      refine hK.out _ _ (by exact hcl _ hKw') ?_
      clear hHeld hK K; intro hHeld
      try simp only [Act.put, List.setIfInBounds_toArray, List.set_cons_zero, List.set_cons_succ]
      refine Bz.wpAnyE_ready (rs := [12]) (by kernel_rfl) (by simp) ?_
      refine Bz.AllReadyE.cons (o := { dst := some 63, op := Go.Op.call { callee := Go.Callee.value (Go.Operand.func 11), args := #[Go.Operand.tmp 62], argTypes := #[5] }, type := 29, pos := "law.go:179", after := #[{ on := 11, ground := Go.Ground.data }, { on := 6, ground := Go.Ground.chain }], guard := none }) rfl (fun K hK => ?_) Bz.AllReadyE.nil
      go_simp
      
      refine (id_any _ _).mono ?_
      rintro e w5 ⟨rfl, hk5⟩
      try have hk5 := hk5.undrew
      have hT' := hT'.keep0 hk5
      have hBX' := hBX'.keep0 hk5
      have hKw' := hKw'.trans hk5
      refine hK.out _ _ (by exact hcl _ hKw') ?_
      clear hHeld hK K; intro hHeld
      try simp only [Act.put, List.setIfInBounds_toArray, List.set_cons_zero, List.set_cons_succ]
      refine Bz.wpAnyE_ready (rs := [13]) (by kernel_rfl) (by simp) ?_
      refine Bz.AllReadyE.cons (o := { dst := some 64, op := Go.Op.call { callee := Go.Callee.value (Go.Operand.func 14), args := #[Go.Operand.tmp 51, Go.Operand.tmp 57, Go.Operand.tmp 63], argTypes := #[24, 29, 29] }, type := 25, pos := "law.go:179", after := #[{ on := 0, ground := Go.Ground.data }, { on := 6, ground := Go.Ground.data }, { on := 12, ground := Go.Ground.data }, { on := 12, ground := Go.Ground.chain }], guard := none }) rfl (fun K hK => ?_) Bz.AllReadyE.nil
      go_simp
      
      refine (hadd2 _ hT').mono ?_
      rintro e w8 ⟨rfl, hT8, hk8⟩
      have hBX' := hBX'.keepT hT' hk8
      have hKw' := hKw'.own hk8 own
      refine hK.out _ _ (by exact hcl _ hKw') ?_
      clear hHeld hK K; intro hHeld
      try simp only [Act.put, List.setIfInBounds_toArray, List.set_cons_zero, List.set_cons_succ]
      refine Bz.wpAnyE_done (by kernel_rfl) ?_ _
      refine NoPanic.normal ?_
      
      clear hHeld
      go_wp2_with fail
      go_roundg (l.length - (k + 1))
      case measure => omega
      case rel => exact ⟨k + 1, T', _, _, by go_num, by omega, hT8, hWF', hHd', hBX', hKw'⟩
    · rcases hend with ⟨hlt, h80⟩ | hlt
      all_goals
        have mk1 : True := trivial
        have mk2 : True := trivial
        have hss := hWF.same_self
        go_wp2_with (first
          | (go_at_call 28; refine (clone_any hT).mono ?_; rintro e w6 ⟨t', mb', rfl, ht', hmb', hT', hk6⟩; have l1 := hT.1.lt; have l2 := hT.2.lt; have hT := hT.keep0 hk6; have hBX := hBX.keep0 hk6; have hKw := hKw.trans hk6; have hne := tree_ne hT hT' (by omega); have n1 : t ∉ [t', mb'] := (by simp; omega); have n2 : mb ∉ [t', mb'] := (by simp; omega); have ownC : ∀ g ∈ [t', mb'], w.heap.size ≤ g := (by have := hKw.size; intro g hg; simp at hg; rcases hg with rfl | rfl <;> omega); clear l1 l2 ht' hmb' hk6)
          | (go_at_call 29; first
            | (clear mk1; refine (tsame_any hT' hT).mono ?_; rw [hss]; rintro e w7 ⟨rfl, hk7⟩; have hT := hT.keep0 hk7; have hT' := hT'.keep0 hk7; have hBX := hBX.keep0 hk7; have hKw := hKw.trans hk7)
            | (clear mk2; refine (tsame_any hT hT').mono ?_; rw [hss]; rintro e w7 ⟨rfl, hk7⟩; have hT := hT.keep0 hk7; have hT' := hT'.keep0 hk7; have hBX := hBX.keep0 hk7; have hKw := hKw.trans hk7)
            | (refine (same_nil t _).mono ?_; rintro e w7 ⟨rfl, hk7⟩; have hT := hT.keep0 hk7; have hT' := hT'.keep0 hk7; have hBX := hBX.keep0 hk7; have hKw := hKw.trans hk7; have c8 := hBX.box.cell)))
        have lb := hBX.box.lt
        obtain ⟨w8, hw8⟩ : ∃ W, W = w7.alloc (.cells (rcells (.slice AV T.rt.l.length capV) T.rt) 42) := ⟨_, rfl⟩
        obtain ⟨b', hb⟩ : ∃ b', b' = w7.heap.size := ⟨_, rfl⟩
        have hbne : b ≠ b' := by omega
        have hK8 : Keep [] w7 w8 := by rw [hw8]; exact (Keep.refl _ _).alloc _
        have hBY : Box w8 b' AV capV T := ⟨by rw [hw8, hb]; exact Blk.new _ _ _, hBX.sl.keep0 hK8⟩
        have hb9 : w.heap.size ≤ b' := by rw [hb]; exact hKw.size
        have hBX := hBX.keep0 hK8
        have hT := hT.keep0 hK8
        have hT' := hT'.keep0 hK8
        have hKw := hKw.trans hK8
        rw [← hw8, ← hb]
        clear hb hw8 hK8 c8 hk7 hne hss lb
        go_loopg [12] l2.length (fun m i wr => ∃ (k : Nat) (U : FT) (A : Option Addr) (cap : Nat), i = .int .i64 k ∧ m + k = l2.length ∧ TreeAt wr t mb T ∧ Box wr b AV capV T ∧ TreeAt wr t' mb' U ∧ U.WF ∧ U.Hd ∧ Box wr b' A cap U ∧ Keep [] w wr)
        case atStart => exact ⟨0, _, _, _, rfl, rfl, hT, hBX, hT', hWF, hHd, hBY, hKw⟩
        case round =>
          clear hKw hT hBX hT' hBY
          obtain ⟨k, U, AU, capU, rfl, hk, hT, hBX, hT', hWFU, hHdU, hBY, hKw⟩ := hrel
          have hgo : (k < l2.length ∧ k < 30) ∨ (k < l2.length ∧ ¬ k < 30) ∨ ¬ k < l2.length := by omega
          rcases hgo with ⟨hlt, h80⟩ | hend
          · obtain ⟨ab, ao, rfl, hab, x, y, hxy, hcl⟩ := coming hR2 hlt
            have F0 := fun W (hk : Keep [] wr W) => (hBY.box.keep hk (by simp)).cell
            have Ff := fun W (hk : Keep [] wr W) => (hBY.box.keep hk (by simp)).frozen
            have F1 := fun W (hk : Keep [] wr W) => hcl W (hKw.trans hk)
            obtain ⟨U', HU'⟩ : ∃ U', Hid (U' = U.add (idv x) (idv y)) := ⟨_, Lib.hid rfl⟩
            have hWF' : U'.WF := by rw [HU'.out]; exact hWFU.add _ _
            have hHd' : U'.Hd := by rw [HU'.out]; exact hHdU.add _ _
            have hadd := fun w V => radd_any hWFU hHdU (idv x) (idv y) (w := w) (V := V)
            have hadd2 := fun w h => add_any (t := t') (mb := mb') (w := w) h hWFU (idv x) (idv y)
            obtain ⟨er, HE⟩ : ∃ er, Hid (er = U.err (idv x) (idv y)) := ⟨_, Lib.hid rfl⟩
            rw [← HU'.out, ← HE.out] at hadd hadd2
            go_wp2_with fail
            refine wp_region_noPanic ?_
            refine Bz.wp_region_E (S := (fun w' => Keep [] wr w')) (E := [17]) (by kernel_rfl) (by exact (Keep.refl _ _).drew) (fun hHeld => ?_)
            refine Bz.wpAnyE_take (i := 0) (oi := { dst := some 102, op := Go.Op.load 42 (Go.Operand.tmp 11), type := 42, pos := "law.go:187", after := #[], guard := none }) (v := ?_) rfl (by kernel_rfl) (by kernel_rfl) (by kernel_rfl) (by kernel_rfl) (fun _ _ _ h => h) (Or.inl ⟨by rfl, ?_⟩) hHeld ?_
            rotate_left 1
            · (intro w hSw; have f0 := F0 w hSw; have f1 := F1 w hSw; go_simp; first | done | with_reducible rfl)
            try simp only [Act.put, List.setIfInBounds_toArray, List.set_cons_zero, List.set_cons_succ]
            refine Bz.wpAnyE_take (i := 1) (oi := { dst := some 103, op := Go.Op.move (Go.Operand.tmp 2), type := 22, pos := "law.go:187", after := #[], guard := none }) (v := ?_) rfl (by kernel_rfl) (by kernel_rfl) (by kernel_rfl) (by kernel_rfl) (fun _ _ _ h => h) (Or.inl ⟨by rfl, ?_⟩) hHeld ?_
            rotate_left 1
            · (intro w hSw; have f0 := F0 w hSw; have f1 := F1 w hSw; go_simp; first | done | with_reducible rfl)
            try simp only [Act.put, List.setIfInBounds_toArray, List.set_cons_zero, List.set_cons_succ]
            refine Bz.wpAnyE_take (i := 2) (oi := { dst := some 104, op := Go.Op.move (Go.Operand.tmp 12), type := 3, pos := "law.go:187", after := #[], guard := none }) (v := ?_) rfl (by kernel_rfl) (by kernel_rfl) (by kernel_rfl) (by kernel_rfl) (fun _ _ _ h => h) (Or.inl ⟨by rfl, ?_⟩) hHeld ?_
            rotate_left 1
            · (intro w hSw; have f0 := F0 w hSw; have f1 := F1 w hSw; go_simp; first | done | with_reducible rfl)
            try simp only [Act.put, List.setIfInBounds_toArray, List.set_cons_zero, List.set_cons_succ]
            refine Bz.wpAnyE_take (i := 3) (oi := { dst := some 105, op := Go.Op.indexAddr 22 (Go.Operand.tmp 103) (Go.Operand.tmp 104), type := 0, pos := "law.go:187", after := #[{ on := 1, ground := Go.Ground.data }, { on := 2, ground := Go.Ground.data }], guard := none }) (v := ?_) rfl (by kernel_rfl) (by kernel_rfl) (by kernel_rfl) (by kernel_rfl) (fun _ _ _ h => h) (Or.inl ⟨by rfl, ?_⟩) hHeld ?_
            rotate_left 1
            · (intro w hSw; have f0 := F0 w hSw; have f1 := F1 w hSw; go_simp; first | done | with_reducible rfl)
            try simp only [Act.put, List.setIfInBounds_toArray, List.set_cons_zero, List.set_cons_succ]
            refine Bz.wpAnyE_take (i := 4) (oi := { dst := some 106, op := Go.Op.fieldAddr 35 (Go.Operand.tmp 105) 0, type := 0, pos := "law.go:187", after := #[{ on := 3, ground := Go.Ground.data }], guard := none }) (v := ?_) rfl (by kernel_rfl) (by kernel_rfl) (by kernel_rfl) (by kernel_rfl) (fun _ _ _ h => h) (Or.inl ⟨by rfl, ?_⟩) hHeld ?_
            rotate_left 1
            · (intro w hSw; have f0 := F0 w hSw; have f1 := F1 w hSw; go_simp; first | done | with_reducible rfl)
            try simp only [Act.put, List.setIfInBounds_toArray, List.set_cons_zero, List.set_cons_succ]
            refine Bz.wpAnyE_take (i := 5) (oi := { dst := some 107, op := Go.Op.load 5 (Go.Operand.tmp 106), type := 5, pos := "law.go:187", after := #[{ on := 4, ground := Go.Ground.data }], guard := none }) (v := ?_) rfl (by kernel_rfl) (by kernel_rfl) (by kernel_rfl) (by kernel_rfl) (fun _ _ _ h => h) (Or.inl ⟨by rfl, ?_⟩) hHeld ?_
            rotate_left 1
            · (intro w hSw; have f0 := F0 w hSw; have f1 := F1 w hSw; go_simp; first | done | with_reducible rfl)
            try simp only [Act.put, List.setIfInBounds_toArray, List.set_cons_zero, List.set_cons_succ]
            refine Bz.wpAnyE_take (i := 7) (oi := { dst := some 109, op := Go.Op.move (Go.Operand.tmp 2), type := 22, pos := "law.go:187", after := #[], guard := none }) (v := ?_) rfl (by kernel_rfl) (by kernel_rfl) (by kernel_rfl) (by kernel_rfl) (fun _ _ _ h => h) (Or.inl ⟨by rfl, ?_⟩) hHeld ?_
            rotate_left 1
            · (intro w hSw; have f0 := F0 w hSw; have f1 := F1 w hSw; go_simp; first | done | with_reducible rfl)
            try simp only [Act.put, List.setIfInBounds_toArray, List.set_cons_zero, List.set_cons_succ]
            refine Bz.wpAnyE_take (i := 8) (oi := { dst := some 110, op := Go.Op.move (Go.Operand.tmp 12), type := 3, pos := "law.go:187", after := #[], guard := none }) (v := ?_) rfl (by kernel_rfl) (by kernel_rfl) (by kernel_rfl) (by kernel_rfl) (fun _ _ _ h => h) (Or.inl ⟨by rfl, ?_⟩) hHeld ?_
            rotate_left 1
            · (intro w hSw; have f0 := F0 w hSw; have f1 := F1 w hSw; go_simp; first | done | with_reducible rfl)
            try simp only [Act.put, List.setIfInBounds_toArray, List.set_cons_zero, List.set_cons_succ]
            refine Bz.wpAnyE_take (i := 9) (oi := { dst := some 111, op := Go.Op.indexAddr 22 (Go.Operand.tmp 109) (Go.Operand.tmp 110), type := 0, pos := "law.go:187", after := #[{ on := 7, ground := Go.Ground.data }, { on := 8, ground := Go.Ground.data }], guard := none }) (v := ?_) rfl (by kernel_rfl) (by kernel_rfl) (by kernel_rfl) (by kernel_rfl) (fun _ _ _ h => h) (Or.inl ⟨by rfl, ?_⟩) hHeld ?_
            rotate_left 1
            · (intro w hSw; have f0 := F0 w hSw; have f1 := F1 w hSw; go_simp; first | done | with_reducible rfl)
            try simp only [Act.put, List.setIfInBounds_toArray, List.set_cons_zero, List.set_cons_succ]
            refine Bz.wpAnyE_take (i := 10) (oi := { dst := some 112, op := Go.Op.fieldAddr 35 (Go.Operand.tmp 111) 1, type := 0, pos := "law.go:187", after := #[{ on := 9, ground := Go.Ground.data }], guard := none }) (v := ?_) rfl (by kernel_rfl) (by kernel_rfl) (by kernel_rfl) (by kernel_rfl) (fun _ _ _ h => h) (Or.inl ⟨by rfl, ?_⟩) hHeld ?_
            rotate_left 1
            · (intro w hSw; have f0 := F0 w hSw; have f1 := F1 w hSw; go_simp; first | done | with_reducible rfl)
            try simp only [Act.put, List.setIfInBounds_toArray, List.set_cons_zero, List.set_cons_succ]
            refine Bz.wpAnyE_take (i := 11) (oi := { dst := some 113, op := Go.Op.load 5 (Go.Operand.tmp 112), type := 5, pos := "law.go:187", after := #[{ on := 10, ground := Go.Ground.data }], guard := none }) (v := ?_) rfl (by kernel_rfl) (by kernel_rfl) (by kernel_rfl) (by kernel_rfl) (fun _ _ _ h => h) (Or.inl ⟨by rfl, ?_⟩) hHeld ?_
            rotate_left 1
            · (intro w hSw; have f0 := F0 w hSw; have f1 := F1 w hSw; go_simp; first | done | with_reducible rfl)
            try simp only [Act.put, List.setIfInBounds_toArray, List.set_cons_zero, List.set_cons_succ]
            refine Bz.wpAnyE_ready (rs := [6]) (by kernel_rfl) (by simp) ?_
            refine Bz.AllReadyE.cons (o := { dst := some 108, op := Go.Op.call { callee := Go.Callee.value (Go.Operand.func 11), args := #[Go.Operand.tmp 107], argTypes := #[5] }, type := 29, pos := "law.go:187", after := #[{ on := 5, ground := Go.Ground.data }], guard := none }) rfl (fun K hK => ?_) Bz.AllReadyE.nil
            go_simp
            
            refine (id_any _ _).mono ?_
            rintro e w5 ⟨rfl, hk5⟩
            refine hK.out _ _ (by exact hHeld.trans hk5) ?_
            clear hHeld hK K; intro hHeld
            try simp only [Act.put, List.setIfInBounds_toArray, List.set_cons_zero, List.set_cons_succ]
            refine Bz.wpAnyE_ready (rs := [12]) (by kernel_rfl) (by simp) ?_
            refine Bz.AllReadyE.cons (o := { dst := some 114, op := Go.Op.call { callee := Go.Callee.value (Go.Operand.func 11), args := #[Go.Operand.tmp 113], argTypes := #[5] }, type := 29, pos := "law.go:187", after := #[{ on := 11, ground := Go.Ground.data }, { on := 6, ground := Go.Ground.chain }], guard := none }) rfl (fun K hK => ?_) Bz.AllReadyE.nil
            go_simp
            
            refine (id_any _ _).mono ?_
            rintro e w5 ⟨rfl, hk5⟩
            refine hK.out _ _ (by exact hHeld.trans hk5) ?_
            clear hHeld hK K; intro hHeld
            try simp only [Act.put, List.setIfInBounds_toArray, List.set_cons_zero, List.set_cons_succ]
            refine Bz.wpAnyE_ready (rs := [13]) (by kernel_rfl) (by simp) ?_
            refine Bz.AllReadyE.cons (o := { dst := some 115, op := Go.Op.call { callee := Go.Callee.value (Go.Operand.func 22), args := #[Go.Operand.tmp 102, Go.Operand.tmp 108, Go.Operand.tmp 114], argTypes := #[42, 28, 28] }, type := 51, pos := "law.go:187", after := #[{ on := 0, ground := Go.Ground.data }, { on := 6, ground := Go.Ground.data }, { on := 12, ground := Go.Ground.data }, { on := 12, ground := Go.Ground.chain }], guard := none }) rfl (fun K hK => ?_) Bz.AllReadyE.nil
            go_simp
            
            refine (hadd _ _ (hBY.sl.keep0 hHeld)).mono ?_
            rintro e w6 ⟨V6, rfl, hS6, hk5⟩
            have hS6 : Sl w6 57 16 renc V6 U'.rt.l := hS6
            obtain ⟨A6, cap6, rfl, _⟩ := id hS6
            refine hK.out _ _ (by exact hHeld.trans hk5) ?_
            clear hHeld hK K; intro hHeld
            try simp only [Act.put, List.setIfInBounds_toArray, List.set_cons_zero, List.set_cons_succ]
            refine Bz.wpAnyE_take (i := 14) (oi := { dst := some 101, op := Go.Op.move (Go.Operand.tmp 115), type := 51, pos := "law.go:187", after := #[{ on := 13, ground := Go.Ground.data }], guard := none }) (v := ?_) rfl (by kernel_rfl) (by kernel_rfl) (by kernel_rfl) (by kernel_rfl) (fun _ _ _ h => h) (Or.inl ⟨by rfl, ?_⟩) hHeld ?_
            rotate_left 1
            · (intro w hSw; have f0 := F0 w hSw; have f1 := F1 w hSw; go_simp; first | done | with_reducible rfl)
            try simp only [Act.put, List.setIfInBounds_toArray, List.set_cons_zero, List.set_cons_succ]
            refine Bz.wpAnyE_take (i := 15) (oi := { dst := some 116, op := Go.Op.extract (Go.Operand.tmp 101) 0, type := 42, pos := "law.go:187", after := #[{ on := 14, ground := Go.Ground.data }], guard := none }) (v := ?_) rfl (by kernel_rfl) (by kernel_rfl) (by kernel_rfl) (by kernel_rfl) (fun _ _ _ h => h) (Or.inl ⟨by rfl, ?_⟩) hHeld ?_
            rotate_left 1
            · (intro w hSw; have f0 := F0 w hSw; have f1 := F1 w hSw; go_simp; first | done | with_reducible rfl)
            try simp only [Act.put, List.setIfInBounds_toArray, List.set_cons_zero, List.set_cons_succ]
            refine Bz.wpAnyE_takeT (i := 16) (oi := { dst := some 117, op := Go.Op.extract (Go.Operand.tmp 101) 1, type := 3, pos := "law.go:187", after := #[{ on := 14, ground := Go.Ground.data }, { on := 17, ground := Go.Ground.gcOnly Go.Departure.lateStores }], guard := none }) (v := ?_) rfl (by kernel_rfl) (by kernel_rfl) (by kernel_rfl) (fun _ _ _ h => h) (Or.inl ⟨by rfl, ?_⟩) ?_
            rotate_left 1
            · (intro w _; go_simp; first | done | with_reducible rfl)
            try simp only [Act.put, List.setIfInBounds_toArray, List.set_cons_zero, List.set_cons_succ]
            refine Bz.wpAnyE_ready (rs := [17]) (by kernel_rfl) (by simp) ?_
            refine Bz.AllReadyE.last (o := { dst := none, op := Go.Op.store 42 (Go.Operand.tmp 11) (Go.Operand.tmp 116), type := 0, pos := "law.go:187", after := #[{ on := 15, ground := Go.Ground.data }, { on := 13, ground := Go.Ground.chain }, { on := 0, ground := Go.Ground.phase }, { on := 1, ground := Go.Ground.phase }, { on := 2, ground := Go.Ground.phase }, { on := 3, ground := Go.Ground.phase }, { on := 4, ground := Go.Ground.phase }, { on := 5, ground := Go.Ground.phase }, { on := 6, ground := Go.Ground.phase }, { on := 7, ground := Go.Ground.phase }, { on := 8, ground := Go.Ground.phase }, { on := 9, ground := Go.Ground.phase }, { on := 10, ground := Go.Ground.phase }, { on := 11, ground := Go.Ground.phase }, { on := 12, ground := Go.Ground.phase }, { on := 13, ground := Go.Ground.phase }, { on := 14, ground := Go.Ground.phase }, { on := 15, ground := Go.Ground.phase }, { on := 16, ground := Go.Ground.textOnly Go.Departure.lateStores }], guard := none }) rfl (by rfl) (fun K hK => ?_) Bz.AllReadyE.nil
            
            have f0 := F0 _ hHeld
            have ff := Ff _ hHeld
            go_simp
            refine hK.out _ _ ?_
            clear hK K
            try simp only [Act.put, List.setIfInBounds_toArray, List.set_cons_zero, List.set_cons_succ]
            refine Bz.wpAnyE_done (by kernel_rfl) ?_ _
            refine NoPanic.normal ?_
            obtain ⟨w7, hw7⟩ : ∃ W, W = rtStore w6 b' (.slice A6 U'.rt.l.length cap6) U'.rt := ⟨_, rfl⟩
            have hBY' := (hBY.keep0 hHeld).put (U := U') hS6
            have hBX' := (hBX.keep0 hHeld).other (U := U') (hBY.keep0 hHeld) hbne (.slice A6 U'.rt.l.length cap6)
            have hT'' := (hT'.keep0 hHeld).keepB (W := U') (hBY.keep0 hHeld) (.slice A6 U'.rt.l.length cap6)
            have hTT := (hT.keep0 hHeld).keepB (W := U') (hBY.keep0 hHeld) (.slice A6 U'.rt.l.length cap6)
            have hKw' := (hKw.trans hHeld).own (rtStore_over (V := .slice A6 U'.rt.l.length cap6) (R := U'.rt) (hBY.keep0 hHeld).box).2 (by simpa using hb9)
            rw [← hw7] at hBY' hBX' hT'' hTT hKw'
            unfold rtStore at hw7
            skip
            clear F0 Ff F1 hBX hBY hT hT' hKw hadd
            go_wp2_with fail
            rw [← hw7]
            clear hw7
            refine wp_region_noPanic ?_
            refine Bz.wp_region_E (S := (fun w' => w'.cell? ⟨ab, ao + k * 2, none⟩ = some (.int .u8 x) ∧ w'.cell? ⟨ab, ao + k * 2 + 1, none⟩ = some (.int .u8 y))) (E := []) (by kernel_rfl) (by exact hcl _ hKw'.drew) (fun hHeld => ?_)
            refine Bz.wpAnyE_take (i := 0) (oi := { dst := some 118, op := Go.Op.move (Go.Operand.tmp 10), type := 24, pos := "law.go:188", after := #[], guard := none }) (v := ?_) rfl (by kernel_rfl) (by kernel_rfl) (by kernel_rfl) (by kernel_rfl) (fun _ _ _ h => h) (Or.inl ⟨by rfl, ?_⟩) hHeld ?_
            rotate_left 1
            · (intro w hSw; (try dsimp only at hSw); go_simp; first | done | with_reducible rfl)
            try simp only [Act.put, List.setIfInBounds_toArray, List.set_cons_zero, List.set_cons_succ]
            refine Bz.wpAnyE_take (i := 1) (oi := { dst := some 119, op := Go.Op.move (Go.Operand.tmp 2), type := 22, pos := "law.go:188", after := #[], guard := none }) (v := ?_) rfl (by kernel_rfl) (by kernel_rfl) (by kernel_rfl) (by kernel_rfl) (fun _ _ _ h => h) (Or.inl ⟨by rfl, ?_⟩) hHeld ?_
            rotate_left 1
            · (intro w hSw; (try dsimp only at hSw); go_simp; first | done | with_reducible rfl)
            try simp only [Act.put, List.setIfInBounds_toArray, List.set_cons_zero, List.set_cons_succ]
            refine Bz.wpAnyE_take (i := 2) (oi := { dst := some 120, op := Go.Op.move (Go.Operand.tmp 12), type := 3, pos := "law.go:188", after := #[], guard := none }) (v := ?_) rfl (by kernel_rfl) (by kernel_rfl) (by kernel_rfl) (by kernel_rfl) (fun _ _ _ h => h) (Or.inl ⟨by rfl, ?_⟩) hHeld ?_
            rotate_left 1
            · (intro w hSw; (try dsimp only at hSw); go_simp; first | done | with_reducible rfl)
            try simp only [Act.put, List.setIfInBounds_toArray, List.set_cons_zero, List.set_cons_succ]
            refine Bz.wpAnyE_take (i := 3) (oi := { dst := some 121, op := Go.Op.indexAddr 22 (Go.Operand.tmp 119) (Go.Operand.tmp 120), type := 0, pos := "law.go:188", after := #[{ on := 1, ground := Go.Ground.data }, { on := 2, ground := Go.Ground.data }], guard := none }) (v := ?_) rfl (by kernel_rfl) (by kernel_rfl) (by kernel_rfl) (by kernel_rfl) (fun _ _ _ h => h) (Or.inl ⟨by rfl, ?_⟩) hHeld ?_
            rotate_left 1
            · (intro w hSw; (try dsimp only at hSw); go_simp; first | done | with_reducible rfl)
            try simp only [Act.put, List.setIfInBounds_toArray, List.set_cons_zero, List.set_cons_succ]
            refine Bz.wpAnyE_take (i := 4) (oi := { dst := some 122, op := Go.Op.fieldAddr 35 (Go.Operand.tmp 121) 0, type := 0, pos := "law.go:188", after := #[{ on := 3, ground := Go.Ground.data }], guard := none }) (v := ?_) rfl (by kernel_rfl) (by kernel_rfl) (by kernel_rfl) (by kernel_rfl) (fun _ _ _ h => h) (Or.inl ⟨by rfl, ?_⟩) hHeld ?_
            rotate_left 1
            · (intro w hSw; (try dsimp only at hSw); go_simp; first | done | with_reducible rfl)
            try simp only [Act.put, List.setIfInBounds_toArray, List.set_cons_zero, List.set_cons_succ]
            refine Bz.wpAnyE_take (i := 5) (oi := { dst := some 123, op := Go.Op.load 5 (Go.Operand.tmp 122), type := 5, pos := "law.go:188", after := #[{ on := 4, ground := Go.Ground.data }], guard := none }) (v := ?_) rfl (by kernel_rfl) (by kernel_rfl) (by kernel_rfl) (by kernel_rfl) (fun _ _ _ h => h) (Or.inl ⟨by rfl, ?_⟩) hHeld ?_
            rotate_left 1
            · (intro w hSw; (try dsimp only at hSw); go_simp; first | done | with_reducible rfl)
            try simp only [Act.put, List.setIfInBounds_toArray, List.set_cons_zero, List.set_cons_succ]
            refine Bz.wpAnyE_take (i := 7) (oi := { dst := some 125, op := Go.Op.move (Go.Operand.tmp 2), type := 22, pos := "law.go:188", after := #[], guard := none }) (v := ?_) rfl (by kernel_rfl) (by kernel_rfl) (by kernel_rfl) (by kernel_rfl) (fun _ _ _ h => h) (Or.inl ⟨by rfl, ?_⟩) hHeld ?_
            rotate_left 1
            · (intro w hSw; (try dsimp only at hSw); go_simp; first | done | with_reducible rfl)
            try simp only [Act.put, List.setIfInBounds_toArray, List.set_cons_zero, List.set_cons_succ]
            refine Bz.wpAnyE_take (i := 8) (oi := { dst := some 126, op := Go.Op.move (Go.Operand.tmp 12), type := 3, pos := "law.go:188", after := #[], guard := none }) (v := ?_) rfl (by kernel_rfl) (by kernel_rfl) (by kernel_rfl) (by kernel_rfl) (fun _ _ _ h => h) (Or.inl ⟨by rfl, ?_⟩) hHeld ?_
            rotate_left 1
            · (intro w hSw; (try dsimp only at hSw); go_simp; first | done | with_reducible rfl)
            try simp only [Act.put, List.setIfInBounds_toArray, List.set_cons_zero, List.set_cons_succ]
            refine Bz.wpAnyE_take (i := 9) (oi := { dst := some 127, op := Go.Op.indexAddr 22 (Go.Operand.tmp 125) (Go.Operand.tmp 126), type := 0, pos := "law.go:188", after := #[{ on := 7, ground := Go.Ground.data }, { on := 8, ground := Go.Ground.data }], guard := none }) (v := ?_) rfl (by kernel_rfl) (by kernel_rfl) (by kernel_rfl) (by kernel_rfl) (fun _ _ _ h => h) (Or.inl ⟨by rfl, ?_⟩) hHeld ?_
            rotate_left 1
            · (intro w hSw; (try dsimp only at hSw); go_simp; first | done | with_reducible rfl)
            try simp only [Act.put, List.setIfInBounds_toArray, List.set_cons_zero, List.set_cons_succ]
            refine Bz.wpAnyE_take (i := 10) (oi := { dst := some 128, op := Go.Op.fieldAddr 35 (Go.Operand.tmp 127) 1, type := 0, pos := "law.go:188", after := #[{ on := 9, ground := Go.Ground.data }], guard := none }) (v := ?_) rfl (by kernel_rfl) (by kernel_rfl) (by kernel_rfl) (by kernel_rfl) (fun _ _ _ h => h) (Or.inl ⟨by rfl, ?_⟩) hHeld ?_
            rotate_left 1
            · (intro w hSw; (try dsimp only at hSw); go_simp; first | done | with_reducible rfl)
            try simp only [Act.put, List.setIfInBounds_toArray, List.set_cons_zero, List.set_cons_succ]
            refine Bz.wpAnyE_take (i := 11) (oi := { dst := some 129, op := Go.Op.load 5 (Go.Operand.tmp 128), type := 5, pos := "law.go:188", after := #[{ on := 10, ground := Go.Ground.data }], guard := none }) (v := ?_) rfl (by kernel_rfl) (by kernel_rfl) (by kernel_rfl) (by kernel_rfl) (fun _ _ _ h => h) (Or.inl ⟨by rfl, ?_⟩) hHeld ?_
            rotate_left 1
            · (intro w hSw; (try dsimp only at hSw); go_simp; first | done | with_reducible rfl)
            try simp only [Act.put, List.setIfInBounds_toArray, List.set_cons_zero, List.set_cons_succ]
            refine Bz.wpAnyE_ready (rs := [6]) (by kernel_rfl) (by simp) ?_
            refine Bz.AllReadyE.cons (o := { dst := some 124, op := Go.Op.call { callee := Go.Callee.value (Go.Operand.func 11), args := #[Go.Operand.tmp 123], argTypes := #[5] }, type := 29, pos := "law.go:188", after := #[{ on := 5, ground := Go.Ground.data }], guard := none }) rfl (fun K hK => ?_) Bz.AllReadyE.nil
            go_simp
            
            refine (id_any _ _).mono ?_
            rintro e w5 ⟨rfl, hk5⟩
            try have hk5 := hk5.undrew
            have hT'' := hT''.keep0 hk5
            have hTT := hTT.keep0 hk5
            have hBX' := hBX'.keep0 hk5
            have hBY' := hBY'.keep0 hk5
            have hKw' := hKw'.trans hk5
            refine hK.out _ _ (by exact hcl _ hKw') ?_
            clear hHeld hK K; intro hHeld
            try simp only [Act.put, List.setIfInBounds_toArray, List.set_cons_zero, List.set_cons_succ]
            refine Bz.wpAnyE_ready (rs := [12]) (by kernel_rfl) (by simp) ?_
            refine Bz.AllReadyE.cons (o := { dst := some 130, op := Go.Op.call { callee := Go.Callee.value (Go.Operand.func 11), args := #[Go.Operand.tmp 129], argTypes := #[5] }, type := 29, pos := "law.go:188", after := #[{ on := 11, ground := Go.Ground.data }, { on := 6, ground := Go.Ground.chain }], guard := none }) rfl (fun K hK => ?_) Bz.AllReadyE.nil
            go_simp
            
            refine (id_any _ _).mono ?_
            rintro e w5 ⟨rfl, hk5⟩
            try have hk5 := hk5.undrew
            have hT'' := hT''.keep0 hk5
            have hTT := hTT.keep0 hk5
            have hBX' := hBX'.keep0 hk5
            have hBY' := hBY'.keep0 hk5
            have hKw' := hKw'.trans hk5
            refine hK.out _ _ (by exact hcl _ hKw') ?_
            clear hHeld hK K; intro hHeld
            try simp only [Act.put, List.setIfInBounds_toArray, List.set_cons_zero, List.set_cons_succ]
            refine Bz.wpAnyE_ready (rs := [13]) (by kernel_rfl) (by simp) ?_
            refine Bz.AllReadyE.cons (o := { dst := some 131, op := Go.Op.call { callee := Go.Callee.value (Go.Operand.func 14), args := #[Go.Operand.tmp 118, Go.Operand.tmp 124, Go.Operand.tmp 130], argTypes := #[24, 29, 29] }, type := 25, pos := "law.go:188", after := #[{ on := 0, ground := Go.Ground.data }, { on := 6, ground := Go.Ground.data }, { on := 12, ground := Go.Ground.data }, { on := 12, ground := Go.Ground.chain }], guard := none }) rfl (fun K hK => ?_) Bz.AllReadyE.nil
            go_simp
            
            refine (hadd2 _ hT'').mono ?_
            rintro e w8 ⟨rfl, hT8, hk8⟩
            have hBX' := hBX'.keepT hT'' hk8
            have hBY' := hBY'.keepT hT'' hk8
            have hTT := hTT.keep hk8 n1 n2
            have hKw' := hKw'.own hk8 ownC
            refine hK.out _ _ (by exact hcl _ hKw') ?_
            clear hHeld hK K; intro hHeld
            try simp only [Act.put, List.setIfInBounds_toArray, List.set_cons_zero, List.set_cons_succ]
            refine Bz.wpAnyE_done (by kernel_rfl) ?_ _
            refine NoPanic.normal ?_
            
            clear hHeld
            have F0 := fun W (hk : Keep [] w8 W) => (hBX'.box.keep hk (by simp)).cell
            have F1 := fun W (hk : Keep [] w8 W) => (hBY'.box.keep hk (by simp)).cell
            have hsa := hWF.same_alike hWF' hHd
            obtain ⟨sb, HSB⟩ : ∃ sb, Hid (sb = T.same U') := ⟨_, Lib.hid rfl⟩
            have c13 := fun w h h' => tsame_any (t := t) (mb := mb) (t' := t') (mb' := mb') (w := w) (T := T) (U := U') h h'
            have c16 := fun w V V' h h' => ralike_any hWF hWF' hHd hHd' (w := w) (V := V) (V' := V') h h'
            rw [← hsa, ← HSB.out] at c16
            rw [← HSB.out] at c13
            clear hsa
            go_wp2_with fail
            refine wp_region_noPanic ?_
            refine Bz.wp_region_E (S := (fun w' => Keep [] w8 w')) (E := []) (by kernel_rfl) (by exact (Keep.refl _ _).drew) (fun hHeld => ?_)
            refine Bz.wpAnyE_take (i := 0) (oi := { dst := some 132, op := Go.Op.move (Go.Operand.tmp 7), type := 24, pos := "law.go:189", after := #[], guard := none }) (v := ?_) rfl (by kernel_rfl) (by kernel_rfl) (by kernel_rfl) (by kernel_rfl) (fun _ _ _ h => h) (Or.inl ⟨by rfl, ?_⟩) hHeld ?_
            rotate_left 1
            · (intro w hSw; have f0 := F0 w hSw; have f1 := F1 w hSw; go_simp; first | done | with_reducible rfl)
            try simp only [Act.put, List.setIfInBounds_toArray, List.set_cons_zero, List.set_cons_succ]
            refine Bz.wpAnyE_take (i := 1) (oi := { dst := some 133, op := Go.Op.load 42 (Go.Operand.tmp 8), type := 42, pos := "law.go:189", after := #[], guard := none }) (v := ?_) rfl (by kernel_rfl) (by kernel_rfl) (by kernel_rfl) (by kernel_rfl) (fun _ _ _ h => h) (Or.inl ⟨by rfl, ?_⟩) hHeld ?_
            rotate_left 1
            · (intro w hSw; have f0 := F0 w hSw; have f1 := F1 w hSw; go_simp; first | done | with_reducible rfl)
            try simp only [Act.put, List.setIfInBounds_toArray, List.set_cons_zero, List.set_cons_succ]
            refine Bz.wpAnyE_ready (rs := [2]) (by kernel_rfl) (by simp) ?_
            refine Bz.AllReadyE.cons (o := { dst := some 134, op := Go.Op.call { callee := Go.Callee.value (Go.Operand.func 30), args := #[Go.Operand.tmp 132, Go.Operand.tmp 133], argTypes := #[24, 42] }, type := 4, pos := "law.go:189", after := #[{ on := 0, ground := Go.Ground.data }, { on := 1, ground := Go.Ground.data }], guard := none }) rfl (fun K hK => ?_) Bz.AllReadyE.nil
            go_simp
            
            refine (lsame_any hWF hHd (hTT.keep0 hHeld) (hBX'.sl.keep0 hHeld)).mono ?_
            rintro e w5 ⟨rfl, hk5⟩
            refine hK.out _ _ (by exact hHeld.trans hk5) ?_
            clear hHeld hK K; intro hHeld
            try simp only [Act.put, List.setIfInBounds_toArray, List.set_cons_zero, List.set_cons_succ]
            refine Bz.wpAnyE_take (i := 3) (oi := { dst := some 135, op := Go.Op.unOp Go.UnOp.not 4 (Go.Operand.tmp 134), type := 4, pos := "law.go:189", after := #[{ on := 2, ground := Go.Ground.data }], guard := none }) (v := ?_) rfl (by kernel_rfl) (by kernel_rfl) (by kernel_rfl) (by kernel_rfl) (fun _ _ _ h => h) (Or.inl ⟨by rfl, ?_⟩) hHeld ?_
            rotate_left 1
            · (intro w hSw; have f0 := F0 w hSw; have f1 := F1 w hSw; go_simp; first | done | with_reducible rfl)
            try simp only [Act.put, List.setIfInBounds_toArray, List.set_cons_zero, List.set_cons_succ]
            refine Bz.wpAnyE_take (i := 4) (oi := { dst := some 136, op := Go.Op.move (Go.Operand.tmp 135), type := 4, pos := "law.go:189", after := #[{ on := 3, ground := Go.Ground.data }, { on := 2, ground := Go.Ground.chain }], guard := none }) (v := ?_) rfl (by kernel_rfl) (by kernel_rfl) (by kernel_rfl) (by kernel_rfl) (fun _ _ _ h => h) (Or.inl ⟨by rfl, ?_⟩) hHeld ?_
            rotate_left 1
            · (intro w hSw; have f0 := F0 w hSw; have f1 := F1 w hSw; go_simp; first | done | with_reducible rfl)
            try simp only [Act.put, List.setIfInBounds_toArray, List.set_cons_zero, List.set_cons_succ]
            refine Bz.wpAnyE_take (i := 5) (oi := { dst := some 137, op := Go.Op.move (Go.Operand.tmp 10), type := 24, pos := "law.go:189", after := #[{ on := 4, ground := Go.Ground.guard }], guard := some (4, false) }) (v := ?_) rfl (by kernel_rfl) (by kernel_rfl) (by kernel_rfl) (by kernel_rfl) (fun _ _ _ h => h) (Or.inl ⟨by rfl, ?_⟩) hHeld ?_
            rotate_left 1
            · (intro w hSw; have f0 := F0 w hSw; have f1 := F1 w hSw; go_simp; first | done | with_reducible rfl)
            try simp only [Act.put, List.setIfInBounds_toArray, List.set_cons_zero, List.set_cons_succ]
            refine Bz.wpAnyE_take (i := 6) (oi := { dst := some 138, op := Go.Op.load 42 (Go.Operand.tmp 11), type := 42, pos := "law.go:189", after := #[{ on := 4, ground := Go.Ground.guard }], guard := some (4, false) }) (v := ?_) rfl (by kernel_rfl) (by kernel_rfl) (by kernel_rfl) (by kernel_rfl) (fun _ _ _ h => h) (Or.inl ⟨by rfl, ?_⟩) hHeld ?_
            rotate_left 1
            · (intro w hSw; have f0 := F0 w hSw; have f1 := F1 w hSw; go_simp; first | done | with_reducible rfl)
            try simp only [Act.put, List.setIfInBounds_toArray, List.set_cons_zero, List.set_cons_succ]
            refine Bz.wpAnyE_ready (rs := [7]) (by kernel_rfl) (by simp) ?_
            refine Bz.AllReadyE.cons (o := { dst := some 139, op := Go.Op.call { callee := Go.Callee.value (Go.Operand.func 30), args := #[Go.Operand.tmp 137, Go.Operand.tmp 138], argTypes := #[24, 42] }, type := 4, pos := "law.go:189", after := #[{ on := 5, ground := Go.Ground.data }, { on := 6, ground := Go.Ground.data }, { on := 4, ground := Go.Ground.chain }, { on := 4, ground := Go.Ground.guard }], guard := some (4, false) }) rfl (fun K hK => ?_) Bz.AllReadyE.nil
            go_simp
            
            refine (lsame_any hWF' hHd' (hT8.keep0 hHeld) (hBY'.sl.keep0 hHeld)).mono ?_
            rintro e w5 ⟨rfl, hk5⟩
            refine hK.out _ _ (by exact hHeld.trans hk5) ?_
            clear hHeld hK K; intro hHeld
            try simp only [Act.put, List.setIfInBounds_toArray, List.set_cons_zero, List.set_cons_succ]
            refine Bz.wpAnyE_take (i := 8) (oi := { dst := some 140, op := Go.Op.unOp Go.UnOp.not 4 (Go.Operand.tmp 139), type := 4, pos := "law.go:189", after := #[{ on := 7, ground := Go.Ground.data }, { on := 4, ground := Go.Ground.guard }], guard := some (4, false) }) (v := ?_) rfl (by kernel_rfl) (by kernel_rfl) (by kernel_rfl) (by kernel_rfl) (fun _ _ _ h => h) (Or.inl ⟨by rfl, ?_⟩) hHeld ?_
            rotate_left 1
            · (intro w hSw; have f0 := F0 w hSw; have f1 := F1 w hSw; go_simp; first | done | with_reducible rfl)
            try simp only [Act.put, List.setIfInBounds_toArray, List.set_cons_zero, List.set_cons_succ]
            refine Bz.wpAnyE_take (i := 9) (oi := { dst := some 141, op := Go.Op.pick (Go.Operand.tmp 136) (Go.Operand.const (Go.Value.bool true)) (Go.Operand.tmp 140), type := 4, pos := "law.go:189", after := #[{ on := 4, ground := Go.Ground.data }, { on := 8, ground := Go.Ground.data }], guard := none }) (v := ?_) rfl (by kernel_rfl) (by kernel_rfl) (by kernel_rfl) (by kernel_rfl) (fun _ _ _ h => h) (Or.inl ⟨by rfl, ?_⟩) hHeld ?_
            rotate_left 1
            · (intro w hSw; have f0 := F0 w hSw; have f1 := F1 w hSw; go_simp; first | done | with_reducible rfl)
            try simp only [Act.put, List.setIfInBounds_toArray, List.set_cons_zero, List.set_cons_succ]
            refine Bz.wpAnyE_take (i := 10) (oi := { dst := some 142, op := Go.Op.move (Go.Operand.tmp 141), type := 4, pos := "law.go:189", after := #[{ on := 9, ground := Go.Ground.data }, { on := 7, ground := Go.Ground.chain }], guard := none }) (v := ?_) rfl (by kernel_rfl) (by kernel_rfl) (by kernel_rfl) (by kernel_rfl) (fun _ _ _ h => h) (Or.inl ⟨by rfl, ?_⟩) hHeld ?_
            rotate_left 1
            · (intro w hSw; have f0 := F0 w hSw; have f1 := F1 w hSw; go_simp; first | done | with_reducible rfl)
            try simp only [Act.put, List.setIfInBounds_toArray, List.set_cons_zero, List.set_cons_succ]
            refine Bz.wpAnyE_take (i := 11) (oi := { dst := some 143, op := Go.Op.move (Go.Operand.tmp 7), type := 24, pos := "law.go:189", after := #[{ on := 10, ground := Go.Ground.guard }], guard := some (10, false) }) (v := ?_) rfl (by kernel_rfl) (by kernel_rfl) (by kernel_rfl) (by kernel_rfl) (fun _ _ _ h => h) (Or.inl ⟨by rfl, ?_⟩) hHeld ?_
            rotate_left 1
            · (intro w hSw; have f0 := F0 w hSw; have f1 := F1 w hSw; go_simp; first | done | with_reducible rfl)
            try simp only [Act.put, List.setIfInBounds_toArray, List.set_cons_zero, List.set_cons_succ]
            refine Bz.wpAnyE_take (i := 12) (oi := { dst := some 144, op := Go.Op.move (Go.Operand.tmp 10), type := 24, pos := "law.go:189", after := #[{ on := 10, ground := Go.Ground.guard }], guard := some (10, false) }) (v := ?_) rfl (by kernel_rfl) (by kernel_rfl) (by kernel_rfl) (by kernel_rfl) (fun _ _ _ h => h) (Or.inl ⟨by rfl, ?_⟩) hHeld ?_
            rotate_left 1
            · (intro w hSw; have f0 := F0 w hSw; have f1 := F1 w hSw; go_simp; first | done | with_reducible rfl)
            try simp only [Act.put, List.setIfInBounds_toArray, List.set_cons_zero, List.set_cons_succ]
            refine Bz.wpAnyE_take (i := 14) (oi := { dst := some 146, op := Go.Op.load 42 (Go.Operand.tmp 8), type := 42, pos := "law.go:189", after := #[{ on := 10, ground := Go.Ground.guard }], guard := some (10, false) }) (v := ?_) rfl (by kernel_rfl) (by kernel_rfl) (by kernel_rfl) (by kernel_rfl) (fun _ _ _ h => h) (Or.inl ⟨by rfl, ?_⟩) hHeld ?_
            rotate_left 1
            · (intro w hSw; have f0 := F0 w hSw; have f1 := F1 w hSw; go_simp; first | done | with_reducible rfl)
            try simp only [Act.put, List.setIfInBounds_toArray, List.set_cons_zero, List.set_cons_succ]
            refine Bz.wpAnyE_take (i := 15) (oi := { dst := some 147, op := Go.Op.load 42 (Go.Operand.tmp 11), type := 42, pos := "law.go:189", after := #[{ on := 10, ground := Go.Ground.guard }], guard := some (10, false) }) (v := ?_) rfl (by kernel_rfl) (by kernel_rfl) (by kernel_rfl) (by kernel_rfl) (fun _ _ _ h => h) (Or.inl ⟨by rfl, ?_⟩) hHeld ?_
            rotate_left 1
            · (intro w hSw; have f0 := F0 w hSw; have f1 := F1 w hSw; go_simp; first | done | with_reducible rfl)
            try simp only [Act.put, List.setIfInBounds_toArray, List.set_cons_zero, List.set_cons_succ]
            refine Bz.wpAnyE_ready (rs := [13]) (by kernel_rfl) (by simp) ?_
            refine Bz.AllReadyE.cons (o := { dst := some 145, op := Go.Op.call { callee := Go.Callee.value (Go.Operand.func 29), args := #[Go.Operand.tmp 143, Go.Operand.tmp 144], argTypes := #[24, 24] }, type := 4, pos := "law.go:189", after := #[{ on := 11, ground := Go.Ground.data }, { on := 12, ground := Go.Ground.data }, { on := 10, ground := Go.Ground.chain }, { on := 10, ground := Go.Ground.guard }], guard := some (10, false) }) rfl (fun K hK => ?_) Bz.AllReadyE.nil
            go_simp
            
            refine (c13 _ (hTT.keep0 hHeld) (hT8.keep0 hHeld)).mono ?_
            rintro e w5 ⟨rfl, hk5⟩
            refine hK.out _ _ (by exact hHeld.trans hk5) ?_
            clear hHeld hK K; intro hHeld
            try simp only [Act.put, List.setIfInBounds_toArray, List.set_cons_zero, List.set_cons_succ]
            refine Bz.wpAnyE_ready (rs := [16]) (by kernel_rfl) (by simp) ?_
            refine Bz.AllReadyE.cons (o := { dst := some 148, op := Go.Op.call { callee := Go.Callee.value (Go.Operand.func 31), args := #[Go.Operand.tmp 146, Go.Operand.tmp 147], argTypes := #[42, 42] }, type := 4, pos := "law.go:189", after := #[{ on := 14, ground := Go.Ground.data }, { on := 15, ground := Go.Ground.data }, { on := 13, ground := Go.Ground.chain }, { on := 10, ground := Go.Ground.guard }], guard := some (10, false) }) rfl (fun K hK => ?_) Bz.AllReadyE.nil
            go_simp
            
            refine (c16 _ _ _ (hBX'.sl.keep0 hHeld) (hBY'.sl.keep0 hHeld)).mono ?_
            rintro e w5 ⟨rfl, hk5⟩
            refine hK.out _ _ (by exact hHeld.trans hk5) ?_
            clear hHeld hK K; intro hHeld
            try simp only [Act.put, List.setIfInBounds_toArray, List.set_cons_zero, List.set_cons_succ]
            refine Bz.wpAnyE_take (i := 17) (oi := { dst := some 149, op := Go.Op.binOp Go.BinOp.neq 4 (Go.Operand.tmp 145) (Go.Operand.tmp 148) 4, type := 4, pos := "law.go:189", after := #[{ on := 13, ground := Go.Ground.data }, { on := 16, ground := Go.Ground.data }, { on := 10, ground := Go.Ground.guard }], guard := some (10, false) }) (v := ?_) rfl (by kernel_rfl) (by kernel_rfl) (by kernel_rfl) (by kernel_rfl) (fun _ _ _ h => h) (Or.inl ⟨by rfl, ?_⟩) hHeld ?_
            rotate_left 1
            · (intro w hSw; have f0 := F0 w hSw; have f1 := F1 w hSw; go_simp; first | done | with_reducible rfl)
            try simp only [Act.put, List.setIfInBounds_toArray, List.set_cons_zero, List.set_cons_succ]
            refine Bz.wpAnyE_take (i := 18) (oi := { dst := some 150, op := Go.Op.pick (Go.Operand.tmp 142) (Go.Operand.const (Go.Value.bool true)) (Go.Operand.tmp 149), type := 4, pos := "law.go:189", after := #[{ on := 10, ground := Go.Ground.data }, { on := 17, ground := Go.Ground.data }], guard := none }) (v := ?_) rfl (by kernel_rfl) (by kernel_rfl) (by kernel_rfl) (by kernel_rfl) (fun _ _ _ h => h) (Or.inl ⟨by rfl, ?_⟩) hHeld ?_
            rotate_left 1
            · (intro w hSw; have f0 := F0 w hSw; have f1 := F1 w hSw; go_simp; first | done | with_reducible rfl)
            try simp only [Act.put, List.setIfInBounds_toArray, List.set_cons_zero, List.set_cons_succ]
            refine Bz.wpAnyE_done (by kernel_rfl) ?_ _
            refine NoPanic.normal ?_
            
            go_wp2_with fail
            go_roundg (l2.length - (k + 1))
            case measure => omega
            case rel => exact ⟨k + 1, U', _, _, by go_num, by omega, hTT.keep0 hHeld, hBX'.keep0 hHeld, hT8.keep0 hHeld, hWF', hHd', hBY'.keep0 hHeld, hKw'.trans hHeld⟩
          · rcases hend with ⟨hlt, h80⟩ | hlt
            all_goals
              go_wp2_with fail
              go_ret
              exact ⟨rfl, hKw⟩
end Go.Proofs.Ytbkchniomhdieaa
