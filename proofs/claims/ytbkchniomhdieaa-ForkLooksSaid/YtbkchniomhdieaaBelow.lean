/- fork.Tree.below walked: where two lines part. -/
import Derived.Test.YtbkchniomhdieaaTree
namespace Go.Proofs.Ytbkchniomhdieaa
open Go.RowKit Go.Bz

set_option maxHeartbeats 400000 in
theorem below_any {t mb : Nat} {T : FT} {w : World} (h : TreeAt w t mb T) (hW : T.WF) (a b : D8) (ha : T.is a = true) (hb : T.is b = true) :
    Calls Try.prog 32 #[.pointer (some ⟨t, 0, none⟩), dv a, dv b] w (fun e w' => e = .returned (.int .i64 (T.below a b)) ∧ Keep [] w w') := by
  go_enter Try.func32, Try.ntmps32
  go_wp2
  go_loopg [] ((T.get a).2 + (T.get b).2).toNat (fun k wr => ∃ x y : D8, T.is x = true ∧ T.is y = true ∧ T.below x y = T.below a b ∧ k = ((T.get x).2 + (T.get y).2).toNat ∧
    Blk wr w.heap.size 29 (dcells x) ∧ Blk wr (w.heap.size + 1) 29 (dcells y) ∧ TreeAt wr t mb T ∧ Keep [] w wr)
  case atStart =>
    exact ⟨a, b, ha, hb, rfl, rfl, (Blk.new_ rfl).alloc _, Blk.new_ (by simp), (h.keep0 ((Keep.refl _ _).alloc _)).keep0 ((Keep.refl _ _).alloc _), ((Keep.refl _ _).alloc _).alloc _⟩
  case round =>
    obtain ⟨x, y, hx, hy, hbel, hk, hB1, hB2, hT, hK⟩ := hrel
    have c1 := hB1.cell
    have c2 := hB2.cell
    have f1 := hB1.frozen
    have f2 := hB2.frozen
    have ct := hT.1.cell
    have hlt := hT.1.lt
    have hl1 := hB1.lt
    have hl2 := hB2.lt
    have heq := fun W => run_eqD8 (P := Try.prog) W dt29 9998 x y
    have HK := Lib.hid (And.intro hk hbel)
    clear hk hbel
    by_cases hxy : x = y
    · rw [decide_eq_true hxy] at heq
      subst hxy
      have hl := hT.drew.look_one x
      have hfd := field69
      go_wp2
      go_region
      go_wp2
      go_ret
      obtain ⟨hk, hbel⟩ := HK.out
      rw [hW.below_self hx] at hbel
      exact ⟨ret_int hbel, hK.drew⟩
    · rw [decide_eq_false hxy] at heq
      have S0 : ∀ W : World, TreeAt W t mb T → Blk W w.heap.size 29 (dcells x) → Blk W (w.heap.size + 1) 29 (dcells y) →
          (∀ z, (Instr.lookup 70 (.map (some mb)) (dv z) false).run Try.prog W = .ok (benc (T.get z)) W) ∧ W.cell? ⟨t, 17, none⟩ = some (.map (some mb)) ∧
          (∀ i, W.cell? ⟨w.heap.size, i, none⟩ = (dcells x)[i]?) ∧ (∀ i, W.cell? ⟨w.heap.size + 1, i, none⟩ = (dcells y)[i]?) := fun W h1 h2 h3 => ⟨h1.look_one, h1.1.cell 17, h2.cell, h3.cell⟩
      have K0 := S0 wr.drew hT hB1 hB2
      have K1 := fun o => S0 (wr.alloc o).drew (hT.alloc o) (hB1.alloc o) (hB2.alloc o)
      have K2 := fun o o' => S0 ((wr.alloc o).alloc o').drew ((hT.alloc o).alloc o') ((hB1.alloc o).alloc o') ((hB2.alloc o).alloc o')
      clear S0
      have htS : t ∉ [w.heap.size, w.heap.size + 1] := by simp; exact ⟨hT.1.ne_ hB1 (by decide), hT.1.ne_ hB2 (by decide)⟩
      have hmS : mb ∉ [w.heap.size, w.heap.size + 1] := by simp; exact ⟨hT.2.ne_blk hB1, hT.2.ne_blk hB2⟩
      go_wp2
      refine wp_region_noPanic ?_
      refine Bz.wp_region_E (S := (fun w' => (∀ z, (Instr.lookup 70 (.map (some mb)) (dv z) false).run Try.prog w' = .ok (benc (T.get z)) w') ∧ w'.cell? ⟨t, 17, none⟩ = some (.map (some mb)) ∧ (∀ i, w'.cell? ⟨w.heap.size, i, none⟩ = (dcells x)[i]?) ∧ (∀ i, w'.cell? ⟨w.heap.size + 1, i, none⟩ = (dcells y)[i]?))) (E := []) (by kernel_rfl) (by exact K0) (fun hHeld => ?_)
      refine Bz.wpAnyE_take (i := 0) (oi := { dst := some 12, op := Go.Op.move (Go.Operand.tmp 0), type := 24, pos := "fork.go:42", after := #[], guard := none }) (v := ?_) rfl (by kernel_rfl) (by kernel_rfl) (by kernel_rfl) (by kernel_rfl) (fun _ _ _ h => h) (Or.inl ⟨by rfl, ?_⟩) hHeld ?_
      rotate_left 1
      · (intro w hSw; (try dsimp only at hSw); go_simp; first | done | with_reducible rfl)
      try simp only [Act.put, List.setIfInBounds_toArray, List.set_cons_zero, List.set_cons_succ]
      refine Bz.wpAnyE_take (i := 1) (oi := { dst := some 13, op := Go.Op.nilCheck (Go.Operand.tmp 12), type := 0, pos := "fork.go:42", after := #[{ on := 0, ground := Go.Ground.data }], guard := none }) (v := ?_) rfl (by kernel_rfl) (by kernel_rfl) (by kernel_rfl) (by kernel_rfl) (fun _ _ _ h => h) (Or.inl ⟨by rfl, ?_⟩) hHeld ?_
      rotate_left 1
      · (intro w hSw; (try dsimp only at hSw); go_simp; first | done | with_reducible rfl)
      try simp only [Act.put, List.setIfInBounds_toArray, List.set_cons_zero, List.set_cons_succ]
      refine Bz.wpAnyE_take (i := 2) (oi := { dst := some 14, op := Go.Op.fieldAddr 72 (Go.Operand.tmp 13) 3, type := 0, pos := "fork.go:42", after := #[{ on := 1, ground := Go.Ground.data }], guard := none }) (v := ?_) rfl (by kernel_rfl) (by kernel_rfl) (by kernel_rfl) (by kernel_rfl) (fun _ _ _ h => h) (Or.inl ⟨by rfl, ?_⟩) hHeld ?_
      rotate_left 1
      · (intro w hSw; (try dsimp only at hSw); go_simp; first | done | with_reducible rfl)
      try simp only [Act.put, List.setIfInBounds_toArray, List.set_cons_zero, List.set_cons_succ]
      refine Bz.wpAnyE_take (i := 3) (oi := { dst := some 15, op := Go.Op.load 70 (Go.Operand.tmp 14), type := 70, pos := "fork.go:42", after := #[{ on := 2, ground := Go.Ground.data }], guard := none }) (v := ?_) rfl (by kernel_rfl) (by kernel_rfl) (by kernel_rfl) (by kernel_rfl) (fun _ _ _ h => h) (Or.inl ⟨by rfl, ?_⟩) hHeld ?_
      rotate_left 1
      · (intro w hSw; (try dsimp only at hSw); go_simp; first | done | with_reducible rfl)
      try simp only [Act.put, List.setIfInBounds_toArray, List.set_cons_zero, List.set_cons_succ]
      refine Bz.wpAnyE_take (i := 4) (oi := { dst := some 16, op := Go.Op.load 29 (Go.Operand.tmp 4), type := 29, pos := "fork.go:42", after := #[], guard := none }) (v := ?_) rfl (by kernel_rfl) (by kernel_rfl) (by kernel_rfl) (by kernel_rfl) (fun _ _ _ h => h) (Or.inl ⟨by rfl, ?_⟩) hHeld ?_
      rotate_left 1
      · (intro w hSw; (try dsimp only at hSw); go_simp; first | done | with_reducible rfl)
      try simp only [Act.put, List.setIfInBounds_toArray, List.set_cons_zero, List.set_cons_succ]
      refine Bz.wpAnyE_take (i := 5) (oi := { dst := some 17, op := Go.Op.lookup 70 (Go.Operand.tmp 15) (Go.Operand.tmp 16) false, type := 69, pos := "fork.go:42", after := #[{ on := 3, ground := Go.Ground.data }, { on := 4, ground := Go.Ground.data }], guard := none }) (v := ?_) rfl (by kernel_rfl) (by kernel_rfl) (by kernel_rfl) (by kernel_rfl) (fun _ _ _ h => h) (Or.inl ⟨by rfl, ?_⟩) hHeld ?_
      rotate_left 1
      · (intro w hSw; (try dsimp only at hSw); go_simp; first | done | with_reducible rfl)
      try simp only [Act.put, List.setIfInBounds_toArray, List.set_cons_zero, List.set_cons_succ]
      refine Bz.wpAnyE_take (i := 6) (oi := { dst := some 18, op := Go.Op.move (Go.Operand.tmp 0), type := 24, pos := "fork.go:42", after := #[{ on := 14, ground := Go.Ground.gcOnly Go.Departure.lateStores }], guard := none }) (v := ?_) rfl (by kernel_rfl) (by kernel_rfl) (by kernel_rfl) (by kernel_rfl) (fun _ _ _ h => h) (Or.inl ⟨by rfl, ?_⟩) hHeld ?_
      rotate_left 1
      · (intro w hSw; (try dsimp only at hSw); go_simp; first | done | with_reducible rfl)
      try simp only [Act.put, List.setIfInBounds_toArray, List.set_cons_zero, List.set_cons_succ]
      refine Bz.wpAnyE_take (i := 7) (oi := { dst := some 19, op := Go.Op.nilCheck (Go.Operand.tmp 18), type := 0, pos := "fork.go:42", after := #[{ on := 6, ground := Go.Ground.data }, { on := 14, ground := Go.Ground.gcOnly Go.Departure.lateStores }], guard := none }) (v := ?_) rfl (by kernel_rfl) (by kernel_rfl) (by kernel_rfl) (by kernel_rfl) (fun _ _ _ h => h) (Or.inl ⟨by rfl, ?_⟩) hHeld ?_
      rotate_left 1
      · (intro w hSw; (try dsimp only at hSw); go_simp; first | done | with_reducible rfl)
      try simp only [Act.put, List.setIfInBounds_toArray, List.set_cons_zero, List.set_cons_succ]
      refine Bz.wpAnyE_take (i := 8) (oi := { dst := some 20, op := Go.Op.fieldAddr 72 (Go.Operand.tmp 19) 3, type := 0, pos := "fork.go:42", after := #[{ on := 7, ground := Go.Ground.data }, { on := 14, ground := Go.Ground.gcOnly Go.Departure.lateStores }], guard := none }) (v := ?_) rfl (by kernel_rfl) (by kernel_rfl) (by kernel_rfl) (by kernel_rfl) (fun _ _ _ h => h) (Or.inl ⟨by rfl, ?_⟩) hHeld ?_
      rotate_left 1
      · (intro w hSw; (try dsimp only at hSw); go_simp; first | done | with_reducible rfl)
      try simp only [Act.put, List.setIfInBounds_toArray, List.set_cons_zero, List.set_cons_succ]
      refine Bz.wpAnyE_take (i := 9) (oi := { dst := some 21, op := Go.Op.load 70 (Go.Operand.tmp 20), type := 70, pos := "fork.go:42", after := #[{ on := 8, ground := Go.Ground.data }, { on := 14, ground := Go.Ground.gcOnly Go.Departure.lateStores }], guard := none }) (v := ?_) rfl (by kernel_rfl) (by kernel_rfl) (by kernel_rfl) (by kernel_rfl) (fun _ _ _ h => h) (Or.inl ⟨by rfl, ?_⟩) hHeld ?_
      rotate_left 1
      · (intro w hSw; (try dsimp only at hSw); go_simp; first | done | with_reducible rfl)
      try simp only [Act.put, List.setIfInBounds_toArray, List.set_cons_zero, List.set_cons_succ]
      refine Bz.wpAnyE_take (i := 10) (oi := { dst := some 22, op := Go.Op.load 29 (Go.Operand.tmp 5), type := 29, pos := "fork.go:42", after := #[{ on := 14, ground := Go.Ground.gcOnly Go.Departure.lateStores }], guard := none }) (v := ?_) rfl (by kernel_rfl) (by kernel_rfl) (by kernel_rfl) (by kernel_rfl) (fun _ _ _ h => h) (Or.inl ⟨by rfl, ?_⟩) hHeld ?_
      rotate_left 1
      · (intro w hSw; (try dsimp only at hSw); go_simp; first | done | with_reducible rfl)
      try simp only [Act.put, List.setIfInBounds_toArray, List.set_cons_zero, List.set_cons_succ]
      refine Bz.wpAnyE_take (i := 11) (oi := { dst := some 23, op := Go.Op.lookup 70 (Go.Operand.tmp 21) (Go.Operand.tmp 22) false, type := 69, pos := "fork.go:42", after := #[{ on := 9, ground := Go.Ground.data }, { on := 10, ground := Go.Ground.data }, { on := 14, ground := Go.Ground.gcOnly Go.Departure.lateStores }], guard := none }) (v := ?_) rfl (by kernel_rfl) (by kernel_rfl) (by kernel_rfl) (by kernel_rfl) (fun _ _ _ h => h) (Or.inl ⟨by rfl, ?_⟩) hHeld ?_
      rotate_left 1
      · (intro w hSw; (try dsimp only at hSw); go_simp; first | done | with_reducible rfl)
      try simp only [Act.put, List.setIfInBounds_toArray, List.set_cons_zero, List.set_cons_succ]
      refine Bz.wpAnyE_ready (rs := [12, 13]) (by kernel_rfl) (by simp) ?_
      refine Bz.AllReadyE.cons (o := { dst := some 7, op := Go.Op.alloc 69, type := 0, pos := "fork.go:42", after := #[], guard := none }) rfl (fun K hK => ?_) ?_
      · skip
        go_simp
        refine hK.out _ _ (by first | exact K1 _ | exact K2 _ _) ?_
        clear hHeld hK K; intro hHeld
        try simp only [Act.put, List.setIfInBounds_toArray, List.set_cons_zero, List.set_cons_succ]
        refine Bz.wpAnyE_ready (rs := [13]) (by kernel_rfl) (by simp) ?_
        refine Bz.AllReadyE.cons (o := { dst := some 8, op := Go.Op.alloc 69, type := 0, pos := "fork.go:42", after := #[], guard := none }) rfl (fun K hK => ?_) Bz.AllReadyE.nil
        go_simp
        refine hK.out _ _ (by first | exact K1 _ | exact K2 _ _) ?_
        clear hHeld hK K; intro hHeld
        try simp only [Act.put, List.setIfInBounds_toArray, List.set_cons_zero, List.set_cons_succ]
        refine Bz.wpAnyE_ready (rs := [14]) (by kernel_rfl) (by simp) ?_
        refine Bz.AllReadyE.cons (o := { dst := none, op := Go.Op.store 69 (Go.Operand.tmp 7) (Go.Operand.tmp 17), type := 0, pos := "fork.go:42", after := #[{ on := 12, ground := Go.Ground.data }, { on := 5, ground := Go.Ground.data }, { on := 0, ground := Go.Ground.phase }, { on := 1, ground := Go.Ground.phase }, { on := 2, ground := Go.Ground.phase }, { on := 3, ground := Go.Ground.phase }, { on := 4, ground := Go.Ground.phase }, { on := 5, ground := Go.Ground.phase }, { on := 6, ground := Go.Ground.textOnly Go.Departure.lateStores }, { on := 7, ground := Go.Ground.textOnly Go.Departure.lateStores }, { on := 8, ground := Go.Ground.textOnly Go.Departure.lateStores }, { on := 9, ground := Go.Ground.textOnly Go.Departure.lateStores }, { on := 10, ground := Go.Ground.textOnly Go.Departure.lateStores }, { on := 11, ground := Go.Ground.textOnly Go.Departure.lateStores }, { on := 12, ground := Go.Ground.phase }, { on := 13, ground := Go.Ground.phase }], guard := none }) rfl (fun K hK => ?_) Bz.AllReadyE.nil
        go_simp
        refine hK.out _ _ (by first | exact K1 _ | exact K2 _ _) ?_
        clear hHeld hK K; intro hHeld
        try simp only [Act.put, List.setIfInBounds_toArray, List.set_cons_zero, List.set_cons_succ]
        refine Bz.wpAnyE_ready (rs := [15]) (by kernel_rfl) (by simp) ?_
        refine Bz.AllReadyE.cons (o := { dst := none, op := Go.Op.store 69 (Go.Operand.tmp 8) (Go.Operand.tmp 23), type := 0, pos := "fork.go:42", after := #[{ on := 13, ground := Go.Ground.data }, { on := 11, ground := Go.Ground.data }, { on := 14, ground := Go.Ground.chain }, { on := 0, ground := Go.Ground.phase }, { on := 1, ground := Go.Ground.phase }, { on := 2, ground := Go.Ground.phase }, { on := 3, ground := Go.Ground.phase }, { on := 4, ground := Go.Ground.phase }, { on := 5, ground := Go.Ground.phase }, { on := 6, ground := Go.Ground.phase }, { on := 7, ground := Go.Ground.phase }, { on := 8, ground := Go.Ground.phase }, { on := 9, ground := Go.Ground.phase }, { on := 10, ground := Go.Ground.phase }, { on := 11, ground := Go.Ground.phase }, { on := 12, ground := Go.Ground.phase }, { on := 13, ground := Go.Ground.phase }, { on := 14, ground := Go.Ground.phase }], guard := none }) rfl (fun K hK => ?_) Bz.AllReadyE.nil
        go_simp
        refine hK.out _ _ (by first | exact K1 _ | exact K2 _ _) ?_
        clear hHeld hK K; intro hHeld
        try simp only [Act.put, List.setIfInBounds_toArray, List.set_cons_zero, List.set_cons_succ]
        refine Bz.wpAnyE_done (by kernel_rfl) ?_ _
        refine NoPanic.normal ?_
        clear hHeld K0 K1 K2
        go_wp2
        all_goals obtain ⟨hk, hbel⟩ := HK.out
        · obtain ⟨m1, m2, m3, m4⟩ := hW.round_eq hx hy hxy (by omega)
          go_roundg ((T.get (T.get x).1).2 + (T.get (T.get y).1).2).toNat
          case measure => omega
          case rel => exact ⟨_, _, m1, m2, m3.trans hbel, rfl, ((((hB1.put8 _).keep ((Keep.refl _ _).put8 (S := [w.heap.size + 1]) (by simp) _) (by simp)).alloc _).alloc _).drew, ((((hB2.keep ((Keep.refl _ _).put8 (S := [w.heap.size]) (by simp) _) (by simp)).put8 _).alloc _).alloc _).drew, (((hT.keep (((Keep.refl _ _).put8 (S := [w.heap.size, w.heap.size + 1]) (by simp) _).put8 (by simp) _) htS hmS).alloc _).alloc _).drew, ((((hK.put8 (by simp) _).put8 (by simp) _).alloc _).alloc _).drew⟩
        · obtain ⟨m1, m3, m4⟩ := hW.round_hi hx hy hxy (by assumption)
          go_roundg ((T.get (T.get x).1).2 + (T.get y).2).toNat
          case measure => omega
          case rel => exact ⟨_, _, m1, hy, m3.trans hbel, rfl, (((hB1.put8 _).alloc _).alloc _).drew, (((hB2.keep ((Keep.refl _ _).put8 (S := [w.heap.size]) (by simp) _) (by simp)).alloc _).alloc _).drew, (((hT.keep ((Keep.refl _ _).put8 (S := [w.heap.size, w.heap.size + 1]) (by simp) _) htS hmS).alloc _).alloc _).drew, (((hK.put8 (by simp) _).alloc _).alloc _).drew⟩
        · obtain ⟨m1, m3, m4⟩ := hW.round_lo hx hy hxy (by assumption)
          go_roundg ((T.get x).2 + (T.get (T.get y).1).2).toNat
          case measure => omega
          case rel => exact ⟨_, _, hx, m1, m3.trans hbel, rfl, (((hB1.keep ((Keep.refl _ _).put8 (S := [w.heap.size + 1]) (by simp) _) (by simp)).alloc _).alloc _).drew, (((hB2.put8 _).alloc _).alloc _).drew, (((hT.keep ((Keep.refl _ _).put8 (S := [w.heap.size, w.heap.size + 1]) (by simp) _) htS hmS).alloc _).alloc _).drew, (((hK.put8 (by simp) _).alloc _).alloc _).drew⟩
      refine Bz.AllReadyE.cons (o := { dst := some 8, op := Go.Op.alloc 69, type := 0, pos := "fork.go:42", after := #[], guard := none }) rfl (fun K hK => ?_) ?_
      · skip
        go_simp
        refine hK.out _ _ (by first | exact K1 _ | exact K2 _ _) ?_
        clear hHeld hK K; intro hHeld
        try simp only [Act.put, List.setIfInBounds_toArray, List.set_cons_zero, List.set_cons_succ]
        refine Bz.wpAnyE_ready (rs := [12]) (by kernel_rfl) (by simp) ?_
        refine Bz.AllReadyE.cons (o := { dst := some 7, op := Go.Op.alloc 69, type := 0, pos := "fork.go:42", after := #[], guard := none }) rfl (fun K hK => ?_) Bz.AllReadyE.nil
        go_simp
        refine hK.out _ _ (by first | exact K1 _ | exact K2 _ _) ?_
        clear hHeld hK K; intro hHeld
        try simp only [Act.put, List.setIfInBounds_toArray, List.set_cons_zero, List.set_cons_succ]
        refine Bz.wpAnyE_ready (rs := [14]) (by kernel_rfl) (by simp) ?_
        refine Bz.AllReadyE.cons (o := { dst := none, op := Go.Op.store 69 (Go.Operand.tmp 7) (Go.Operand.tmp 17), type := 0, pos := "fork.go:42", after := #[{ on := 12, ground := Go.Ground.data }, { on := 5, ground := Go.Ground.data }, { on := 0, ground := Go.Ground.phase }, { on := 1, ground := Go.Ground.phase }, { on := 2, ground := Go.Ground.phase }, { on := 3, ground := Go.Ground.phase }, { on := 4, ground := Go.Ground.phase }, { on := 5, ground := Go.Ground.phase }, { on := 6, ground := Go.Ground.textOnly Go.Departure.lateStores }, { on := 7, ground := Go.Ground.textOnly Go.Departure.lateStores }, { on := 8, ground := Go.Ground.textOnly Go.Departure.lateStores }, { on := 9, ground := Go.Ground.textOnly Go.Departure.lateStores }, { on := 10, ground := Go.Ground.textOnly Go.Departure.lateStores }, { on := 11, ground := Go.Ground.textOnly Go.Departure.lateStores }, { on := 12, ground := Go.Ground.phase }, { on := 13, ground := Go.Ground.phase }], guard := none }) rfl (fun K hK => ?_) Bz.AllReadyE.nil
        go_simp
        refine hK.out _ _ (by first | exact K1 _ | exact K2 _ _) ?_
        clear hHeld hK K; intro hHeld
        try simp only [Act.put, List.setIfInBounds_toArray, List.set_cons_zero, List.set_cons_succ]
        refine Bz.wpAnyE_ready (rs := [15]) (by kernel_rfl) (by simp) ?_
        refine Bz.AllReadyE.cons (o := { dst := none, op := Go.Op.store 69 (Go.Operand.tmp 8) (Go.Operand.tmp 23), type := 0, pos := "fork.go:42", after := #[{ on := 13, ground := Go.Ground.data }, { on := 11, ground := Go.Ground.data }, { on := 14, ground := Go.Ground.chain }, { on := 0, ground := Go.Ground.phase }, { on := 1, ground := Go.Ground.phase }, { on := 2, ground := Go.Ground.phase }, { on := 3, ground := Go.Ground.phase }, { on := 4, ground := Go.Ground.phase }, { on := 5, ground := Go.Ground.phase }, { on := 6, ground := Go.Ground.phase }, { on := 7, ground := Go.Ground.phase }, { on := 8, ground := Go.Ground.phase }, { on := 9, ground := Go.Ground.phase }, { on := 10, ground := Go.Ground.phase }, { on := 11, ground := Go.Ground.phase }, { on := 12, ground := Go.Ground.phase }, { on := 13, ground := Go.Ground.phase }, { on := 14, ground := Go.Ground.phase }], guard := none }) rfl (fun K hK => ?_) Bz.AllReadyE.nil
        go_simp
        refine hK.out _ _ (by first | exact K1 _ | exact K2 _ _) ?_
        clear hHeld hK K; intro hHeld
        try simp only [Act.put, List.setIfInBounds_toArray, List.set_cons_zero, List.set_cons_succ]
        refine Bz.wpAnyE_done (by kernel_rfl) ?_ _
        refine NoPanic.normal ?_
        clear hHeld K0 K1 K2
        go_wp2
        all_goals obtain ⟨hk, hbel⟩ := HK.out
        · obtain ⟨m1, m2, m3, m4⟩ := hW.round_eq hx hy hxy (by omega)
          go_roundg ((T.get (T.get x).1).2 + (T.get (T.get y).1).2).toNat
          case measure => omega
          case rel => exact ⟨_, _, m1, m2, m3.trans hbel, rfl, ((((hB1.put8 _).keep ((Keep.refl _ _).put8 (S := [w.heap.size + 1]) (by simp) _) (by simp)).alloc _).alloc _).drew, ((((hB2.keep ((Keep.refl _ _).put8 (S := [w.heap.size]) (by simp) _) (by simp)).put8 _).alloc _).alloc _).drew, (((hT.keep (((Keep.refl _ _).put8 (S := [w.heap.size, w.heap.size + 1]) (by simp) _).put8 (by simp) _) htS hmS).alloc _).alloc _).drew, ((((hK.put8 (by simp) _).put8 (by simp) _).alloc _).alloc _).drew⟩
        · obtain ⟨m1, m3, m4⟩ := hW.round_hi hx hy hxy (by assumption)
          go_roundg ((T.get (T.get x).1).2 + (T.get y).2).toNat
          case measure => omega
          case rel => exact ⟨_, _, m1, hy, m3.trans hbel, rfl, (((hB1.put8 _).alloc _).alloc _).drew, (((hB2.keep ((Keep.refl _ _).put8 (S := [w.heap.size]) (by simp) _) (by simp)).alloc _).alloc _).drew, (((hT.keep ((Keep.refl _ _).put8 (S := [w.heap.size, w.heap.size + 1]) (by simp) _) htS hmS).alloc _).alloc _).drew, (((hK.put8 (by simp) _).alloc _).alloc _).drew⟩
        · obtain ⟨m1, m3, m4⟩ := hW.round_lo hx hy hxy (by assumption)
          go_roundg ((T.get x).2 + (T.get (T.get y).1).2).toNat
          case measure => omega
          case rel => exact ⟨_, _, hx, m1, m3.trans hbel, rfl, (((hB1.keep ((Keep.refl _ _).put8 (S := [w.heap.size + 1]) (by simp) _) (by simp)).alloc _).alloc _).drew, (((hB2.put8 _).alloc _).alloc _).drew, (((hT.keep ((Keep.refl _ _).put8 (S := [w.heap.size, w.heap.size + 1]) (by simp) _) htS hmS).alloc _).alloc _).drew, (((hK.put8 (by simp) _).alloc _).alloc _).drew⟩
      exact Bz.AllReadyE.nil
end Go.Proofs.Ytbkchniomhdieaa
