/- NetOnce walked. -/
import Derived.Test.YtcjbmbljmmakfaaOnceLaw
namespace Go.Proofs.Ytcjbmbljmmakfaa
open Go.RowKit Go.Bz

theorem app29 : AppT Try.prog 29 3 1 8 (.int .i64 0) := ⟨Try.underlying29, by kernel_rfl, rfl, by decide⟩
theorem ienc_one : ∀ x : Int, ∀ u ∈ (ienc x).toList, u.oneCell' = true := by intro x u hu; simp at hu; subst hu; rfl
@[reducible] def qenc (e : Q4) : Array Value := #[.int .u8 e.a, .int .u8 e.b, .int .u8 e.c, .int .u8 e.d]
theorem qAt {w : World} {V : Value} {E : List Q4} (h : RdV w 4 qenc V E) {k : Nat} {e : Q4} (hk : E[k]? = some e) : ∃ ab ao cp, V = .slice (some ⟨ab, ao, none⟩) E.length cp ∧ ∀ W, Keep [] w W → W.cell? ⟨ab, ao + k * 4, none⟩ = some (.int .u8 e.a) ∧ W.cell? ⟨ab, ao + k * 4 + 1, none⟩ = some (.int .u8 e.b) ∧ W.cell? ⟨ab, ao + k * 4 + 2, none⟩ = some (.int .u8 e.c) ∧ W.cell? ⟨ab, ao + k * 4 + 3, none⟩ = some (.int .u8 e.d) := by
  obtain ⟨ab, ao, cp, hv, hlt, hc⟩ := h.at_ hk
  refine ⟨ab, ao, cp, hv, fun W hW => ?_⟩
  exact ⟨hW.cell (by simpa using hc 0 (by decide)) (by simp), hW.cell (by simpa using hc 1 (by decide)) (by simp), hW.cell (by simpa using hc 2 (by decide)) (by simp), hW.cell (by simpa using hc 3 (by decide)) (by simp)⟩
/-- What came, one by one. -/
theorem once_at {E : List Q4} {j : Int} {outs : List LRaw} (h : outs.map LRaw.lt = onceAt E j) : outs.length = (wants j E).length ∧ ∀ (q i : Nat), (wants j E)[q]? = some i → ∃ (e : Q4) (V : Value), E[i]? = some e ∧ outs[q]? = some (⟨e.a % 3, e.b % 3, V, [(i : Int)]⟩ : LRaw) := by
  unfold onceAt at h
  have hl := congrArg List.length h
  rw [List.length_map, List.length_map] at hl
  refine ⟨hl, fun q i hi => ?_⟩
  have hlt : i < E.length := wants_lt j E i (List.mem_of_getElem? hi)
  have hq := congrArg (fun l => l[q]?) h
  simp only [List.getElem?_map, hi, Option.map_some, List.getElem?_eq_getElem hlt, Option.getD_some] at hq
  obtain ⟨r, hr, he⟩ := Option.map_eq_some_iff.1 hq
  refine ⟨E[i], r.V, List.getElem?_eq_getElem hlt, ?_⟩
  rw [hr]
  obtain ⟨rf, rt, rV, rb⟩ := r
  simp only [LRaw.lt, Q4.lt, Lt.mk.injEq] at he
  obtain ⟨rfl, rfl, rfl⟩ := he
  rfl
set_option maxRecDepth 100000 in
set_option maxHeartbeats 8000000 in
theorem once_any (A : Option Addr) (E : List Q4) (cap : Nat) (w : World) (hlen : E.length ≤ 9223372036854775807) (hV : RdV w 4 qenc (.slice A E.length cap) E) (hok : ∀ e ∈ E, e.ok) :
    Calls Try.prog 3 #[.slice A E.length cap] w (fun e w' => e = .returned (.bool true) ∧ Keep [] w w') := by
  by_cases h30 : 30 < E.length
  · have h' : (30 : Int) < (E.length : Int) := by omega
    clear h30
    go_enter Try.func3, Try.ntmps3
    go_wp2_with (first
      | (go_at_call 11; refine (new_any 3 _ (by decide)).mono ?_; rintro e w1 ⟨t, mb, rfl, ht, hmb, hN, hk1⟩)
      | (go_at_call 12; refine (told_any _).mono ?_; rintro e w2 ⟨rfl, hk2⟩)
      | fail)
    go_ret
    exact ⟨rfl, hk1.trans hk2⟩
  · have h' : decide ((30 : Int) < (E.length : Int)) = false := by simp; omega
    have hb63 : (E.length : Int) ≤ 30 := by omega
    clear h30
    go_enter Try.func3, Try.ntmps3
    go_wp2_with (first
      | (go_at_call 11; refine (new_any 3 _ (by decide)).mono ?_; rintro e w1 ⟨t, mb, rfl, ht, hmb, hN, hk1⟩)
      | fail)
    go_loopg [5] E.length (fun m i wr => ∃ (k : Nat) (S : NS) (R B : List Nat), i = .int .i64 k ∧ m + k = E.length ∧ NetAt wr t mb S R B ∧ Hid (OnceS S E k 0) ∧ (∀ g ∈ R, w.heap.size ≤ g) ∧ Keep [] w wr)
    case atStart => exact ⟨0, _, [], [], rfl, rfl, hN, Lib.hid (OnceS.new E), by simp, hk1⟩
    case round =>
      clear hN hk1
      obtain ⟨k, S, R, B, rfl, hk, hN, HS, hR, hKw⟩ := hrel
      by_cases hlt : k < E.length
      · obtain ⟨e, he⟩ : ∃ e, E[k]? = some e := ⟨_, List.getElem?_eq_getElem hlt⟩
        have hq := hok e (List.mem_of_getElem? he)
        obtain ⟨ab, ao, cp, hv, hcl⟩ := qAt (hV.keep0 hKw) he
        cases hv
        obtain ⟨ea, eb, ec, ed⟩ := e
        obtain ⟨herr, hS2⟩ := HS.out.send he hq (by omega)
        unfold Q4.ok at hq
        simp only at hq herr hS2
        have qa : IntKind.i64.wrap (ea.tmod 3) = ea % 3 := by rw [Int.tmod_eq_emod_of_nonneg (by omega), IntWalk.i64_in _ (by omega)]
        have qb : IntKind.i64.wrap (eb.tmod 3) = eb % 3 := by rw [Int.tmod_eq_emod_of_nonneg (by omega), IntWalk.i64_in _ (by omega)]
        have qc : IntKind.i64.wrap (ec.tmod 50) = ec % 50 := by rw [Int.tmod_eq_emod_of_nonneg (by omega), IntWalk.i64_in _ (by omega)]
        have qd : IntKind.i64.wrap (ed.tmod 50) = ed % 50 := by rw [Int.tmod_eq_emod_of_nonneg (by omega), IntWalk.i64_in _ (by omega)]
        have qk : IntKind.u8.wrap (k : Int) = (k : Int) := IntWalk.u8_in _ (by omega)
        have HE := Lib.hid he
        have HK := Lib.hid hk
        clear he hk
        go_upto_region 7 with fail
        go_cut [6] from 35 to 78 (fun v6 wx => ∃ g6 g7 : Nat, v6 = .pointer (some ⟨g6, 0, none⟩) ∧ Blk wx g6 31 #[.slice (some ⟨g7, 0, none⟩) 2 2] ∧ Blk wx g7 3 (([ec % 50, ed % 50] : List Int).map (Value.int .i64)).toArray ∧ Keep [] wr wx)
        case first =>
          refine wp_region_noPanic ?_
          refine Bz.wp_region_E (S := (fun w' => Keep [] wr w')) (E := [17]) (by kernel_rfl) (by exact (Keep.refl _ _).drew) (fun hHeld => ?_)
          refine Bz.wpAnyE_take (i := 0) (oi := { dst := some 41, op := Go.Op.move (Go.Operand.tmp 0), type := 22, pos := "law.go:110", after := #[], guard := none }) (v := ?_) rfl (by kernel_rfl) (by kernel_rfl) (by kernel_rfl) (by kernel_rfl) (fun _ _ _ h => h) (Or.inl ⟨by rfl, ?_⟩) hHeld ?_
          rotate_left 1
          · (intro w hSw; have f1 := hcl w hSw; go_simp; first | done | with_reducible rfl)
          try simp only [Act.put, List.setIfInBounds_toArray, List.set_cons_zero, List.set_cons_succ]
          refine Bz.wpAnyE_take (i := 1) (oi := { dst := some 42, op := Go.Op.move (Go.Operand.tmp 5), type := 3, pos := "law.go:110", after := #[], guard := none }) (v := ?_) rfl (by kernel_rfl) (by kernel_rfl) (by kernel_rfl) (by kernel_rfl) (fun _ _ _ h => h) (Or.inl ⟨by rfl, ?_⟩) hHeld ?_
          rotate_left 1
          · (intro w hSw; have f1 := hcl w hSw; go_simp; first | done | with_reducible rfl)
          try simp only [Act.put, List.setIfInBounds_toArray, List.set_cons_zero, List.set_cons_succ]
          refine Bz.wpAnyE_take (i := 2) (oi := { dst := some 43, op := Go.Op.indexAddr 22 (Go.Operand.tmp 41) (Go.Operand.tmp 42), type := 0, pos := "law.go:110", after := #[{ on := 0, ground := Go.Ground.data }, { on := 1, ground := Go.Ground.data }], guard := none }) (v := ?_) rfl (by kernel_rfl) (by kernel_rfl) (by kernel_rfl) (by kernel_rfl) (fun _ _ _ h => h) (Or.inl ⟨by rfl, ?_⟩) hHeld ?_
          rotate_left 1
          · (intro w hSw; have f1 := hcl w hSw; go_simp; first | done | with_reducible rfl)
          try simp only [Act.put, List.setIfInBounds_toArray, List.set_cons_zero, List.set_cons_succ]
          refine Bz.wpAnyE_take (i := 3) (oi := { dst := some 44, op := Go.Op.indexAddr 28 (Go.Operand.tmp 43) (Go.Operand.const (Go.Value.int Go.IntKind.i64 2)), type := 0, pos := "law.go:110", after := #[{ on := 2, ground := Go.Ground.data }], guard := none }) (v := ?_) rfl (by kernel_rfl) (by kernel_rfl) (by kernel_rfl) (by kernel_rfl) (fun _ _ _ h => h) (Or.inl ⟨by rfl, ?_⟩) hHeld ?_
          rotate_left 1
          · (intro w hSw; have f1 := hcl w hSw; go_simp; first | done | with_reducible rfl)
          try simp only [Act.put, List.setIfInBounds_toArray, List.set_cons_zero, List.set_cons_succ]
          refine Bz.wpAnyE_take (i := 4) (oi := { dst := some 45, op := Go.Op.load 5 (Go.Operand.tmp 44), type := 5, pos := "law.go:110", after := #[{ on := 3, ground := Go.Ground.data }], guard := none }) (v := ?_) rfl (by kernel_rfl) (by kernel_rfl) (by kernel_rfl) (by kernel_rfl) (fun _ _ _ h => h) (Or.inl ⟨by rfl, ?_⟩) hHeld ?_
          rotate_left 1
          · (intro w hSw; have f1 := hcl w hSw; go_simp; first | done | with_reducible rfl)
          try simp only [Act.put, List.setIfInBounds_toArray, List.set_cons_zero, List.set_cons_succ]
          refine Bz.wpAnyE_take (i := 5) (oi := { dst := some 46, op := Go.Op.binOp Go.BinOp.rem 5 (Go.Operand.tmp 45) (Go.Operand.const (Go.Value.int Go.IntKind.u8 50)) 5, type := 5, pos := "law.go:110", after := #[{ on := 4, ground := Go.Ground.data }], guard := none }) (v := ?_) rfl (by kernel_rfl) (by kernel_rfl) (by kernel_rfl) (by kernel_rfl) (fun _ _ _ h => h) (Or.inl ⟨by rfl, ?_⟩) hHeld ?_
          rotate_left 1
          · (intro w hSw; have f1 := hcl w hSw; go_simp; first | done | with_reducible rfl)
          try simp only [Act.put, List.setIfInBounds_toArray, List.set_cons_zero, List.set_cons_succ]
          refine Bz.wpAnyE_take (i := 6) (oi := { dst := some 47, op := Go.Op.convert 5 3 (Go.Operand.tmp 46), type := 3, pos := "law.go:110", after := #[{ on := 5, ground := Go.Ground.data }], guard := none }) (v := ?_) rfl (by kernel_rfl) (by kernel_rfl) (by kernel_rfl) (by kernel_rfl) (fun _ _ _ h => h) (Or.inl ⟨by rfl, ?_⟩) hHeld ?_
          rotate_left 1
          · (intro w hSw; have f1 := hcl w hSw; go_simp; first | done | with_reducible rfl)
          try simp only [Act.put, List.setIfInBounds_toArray, List.set_cons_zero, List.set_cons_succ]
          refine Bz.wpAnyE_take (i := 7) (oi := { dst := some 48, op := Go.Op.move (Go.Operand.tmp 0), type := 22, pos := "law.go:110", after := #[], guard := none }) (v := ?_) rfl (by kernel_rfl) (by kernel_rfl) (by kernel_rfl) (by kernel_rfl) (fun _ _ _ h => h) (Or.inl ⟨by rfl, ?_⟩) hHeld ?_
          rotate_left 1
          · (intro w hSw; have f1 := hcl w hSw; go_simp; first | done | with_reducible rfl)
          try simp only [Act.put, List.setIfInBounds_toArray, List.set_cons_zero, List.set_cons_succ]
          refine Bz.wpAnyE_take (i := 8) (oi := { dst := some 49, op := Go.Op.move (Go.Operand.tmp 5), type := 3, pos := "law.go:110", after := #[], guard := none }) (v := ?_) rfl (by kernel_rfl) (by kernel_rfl) (by kernel_rfl) (by kernel_rfl) (fun _ _ _ h => h) (Or.inl ⟨by rfl, ?_⟩) hHeld ?_
          rotate_left 1
          · (intro w hSw; have f1 := hcl w hSw; go_simp; first | done | with_reducible rfl)
          try simp only [Act.put, List.setIfInBounds_toArray, List.set_cons_zero, List.set_cons_succ]
          refine Bz.wpAnyE_take (i := 9) (oi := { dst := some 50, op := Go.Op.indexAddr 22 (Go.Operand.tmp 48) (Go.Operand.tmp 49), type := 0, pos := "law.go:110", after := #[{ on := 7, ground := Go.Ground.data }, { on := 8, ground := Go.Ground.data }], guard := none }) (v := ?_) rfl (by kernel_rfl) (by kernel_rfl) (by kernel_rfl) (by kernel_rfl) (fun _ _ _ h => h) (Or.inl ⟨by rfl, ?_⟩) hHeld ?_
          rotate_left 1
          · (intro w hSw; have f1 := hcl w hSw; go_simp; first | done | with_reducible rfl)
          try simp only [Act.put, List.setIfInBounds_toArray, List.set_cons_zero, List.set_cons_succ]
          refine Bz.wpAnyE_take (i := 10) (oi := { dst := some 51, op := Go.Op.indexAddr 28 (Go.Operand.tmp 50) (Go.Operand.const (Go.Value.int Go.IntKind.i64 3)), type := 0, pos := "law.go:110", after := #[{ on := 9, ground := Go.Ground.data }], guard := none }) (v := ?_) rfl (by kernel_rfl) (by kernel_rfl) (by kernel_rfl) (by kernel_rfl) (fun _ _ _ h => h) (Or.inl ⟨by rfl, ?_⟩) hHeld ?_
          rotate_left 1
          · (intro w hSw; have f1 := hcl w hSw; go_simp; first | done | with_reducible rfl)
          try simp only [Act.put, List.setIfInBounds_toArray, List.set_cons_zero, List.set_cons_succ]
          refine Bz.wpAnyE_take (i := 11) (oi := { dst := some 52, op := Go.Op.load 5 (Go.Operand.tmp 51), type := 5, pos := "law.go:110", after := #[{ on := 10, ground := Go.Ground.data }], guard := none }) (v := ?_) rfl (by kernel_rfl) (by kernel_rfl) (by kernel_rfl) (by kernel_rfl) (fun _ _ _ h => h) (Or.inl ⟨by rfl, ?_⟩) hHeld ?_
          rotate_left 1
          · (intro w hSw; have f1 := hcl w hSw; go_simp; first | done | with_reducible rfl)
          try simp only [Act.put, List.setIfInBounds_toArray, List.set_cons_zero, List.set_cons_succ]
          refine Bz.wpAnyE_take (i := 12) (oi := { dst := some 53, op := Go.Op.binOp Go.BinOp.rem 5 (Go.Operand.tmp 52) (Go.Operand.const (Go.Value.int Go.IntKind.u8 50)) 5, type := 5, pos := "law.go:110", after := #[{ on := 11, ground := Go.Ground.data }], guard := none }) (v := ?_) rfl (by kernel_rfl) (by kernel_rfl) (by kernel_rfl) (by kernel_rfl) (fun _ _ _ h => h) (Or.inl ⟨by rfl, ?_⟩) hHeld ?_
          rotate_left 1
          · (intro w hSw; have f1 := hcl w hSw; go_simp; first | done | with_reducible rfl)
          try simp only [Act.put, List.setIfInBounds_toArray, List.set_cons_zero, List.set_cons_succ]
          refine Bz.wpAnyE_take (i := 13) (oi := { dst := some 54, op := Go.Op.convert 5 3 (Go.Operand.tmp 53), type := 3, pos := "law.go:110", after := #[{ on := 12, ground := Go.Ground.data }], guard := none }) (v := ?_) rfl (by kernel_rfl) (by kernel_rfl) (by kernel_rfl) (by kernel_rfl) (fun _ _ _ h => h) (Or.inl ⟨by rfl, ?_⟩) hHeld ?_
          rotate_left 1
          · (intro w hSw; have f1 := hcl w hSw; go_simp; first | done | with_reducible rfl)
          try simp only [Act.put, List.setIfInBounds_toArray, List.set_cons_zero, List.set_cons_succ]
          refine Bz.wpAnyE_ready (rs := [14, 16]) (by kernel_rfl) (by simp) ?_
          refine Bz.AllReadyE.cons (o := { dst := some 55, op := Go.Op.buildSlice 29 2 #[(0, Go.Operand.tmp 47), (1, Go.Operand.tmp 54)], type := 29, pos := "law.go:110", after := #[{ on := 6, ground := Go.Ground.data }, { on := 13, ground := Go.Ground.data }], guard := none }) rfl (fun K hK => ?_) ?_
          · skip
            go_simp
            refine hK.out _ _ (by exact hHeld.alloc _) ?_
            clear hHeld hK K; intro hHeld
            try simp only [Act.put, List.setIfInBounds_toArray, List.set_cons_zero, List.set_cons_succ]
            refine Bz.wpAnyE_take (i := 15) (oi := { dst := some 56, op := Go.Op.build 31 #[(0, Go.Operand.tmp 55)], type := 31, pos := "law.go:110", after := #[{ on := 14, ground := Go.Ground.data }], guard := none }) (v := ?_) rfl (by kernel_rfl) (by kernel_rfl) (by kernel_rfl) (by kernel_rfl) (fun _ _ _ h => h) (Or.inl ⟨by rfl, ?_⟩) hHeld ?_
            rotate_left 1
            · (intro w hSw; have f1 := hcl w hSw; go_simp; first | done | with_reducible rfl)
            try simp only [Act.put, List.setIfInBounds_toArray, List.set_cons_zero, List.set_cons_succ]
            refine Bz.wpAnyE_ready (rs := [16]) (by kernel_rfl) (by simp) ?_
            refine Bz.AllReadyE.cons (o := { dst := some 6, op := Go.Op.alloc 31, type := 0, pos := "law.go:110", after := #[], guard := none }) rfl (fun K hK => ?_) Bz.AllReadyE.nil
            go_simp
            refine hK.out _ _ (by exact hHeld.alloc _) ?_
            clear hHeld hK K; intro hHeld
            try simp only [Act.put, List.setIfInBounds_toArray, List.set_cons_zero, List.set_cons_succ]
            refine Bz.wpAnyE_ready (rs := [17]) (by kernel_rfl) (by simp) ?_
            refine Bz.AllReadyE.last (o := { dst := none, op := Go.Op.store 31 (Go.Operand.tmp 6) (Go.Operand.tmp 56), type := 0, pos := "law.go:110", after := #[{ on := 16, ground := Go.Ground.data }, { on := 15, ground := Go.Ground.data }, { on := 0, ground := Go.Ground.phase }, { on := 1, ground := Go.Ground.phase }, { on := 2, ground := Go.Ground.phase }, { on := 3, ground := Go.Ground.phase }, { on := 4, ground := Go.Ground.phase }, { on := 5, ground := Go.Ground.phase }, { on := 6, ground := Go.Ground.phase }, { on := 7, ground := Go.Ground.phase }, { on := 8, ground := Go.Ground.phase }, { on := 9, ground := Go.Ground.phase }, { on := 10, ground := Go.Ground.phase }, { on := 11, ground := Go.Ground.phase }, { on := 12, ground := Go.Ground.phase }, { on := 13, ground := Go.Ground.phase }, { on := 14, ground := Go.Ground.phase }, { on := 15, ground := Go.Ground.phase }, { on := 16, ground := Go.Ground.phase }], guard := none }) rfl (by rfl) (fun K hK => ?_) Bz.AllReadyE.nil
            go_simp
            refine hK.out _ _ ?_
            clear hK K
            try simp only [Act.put, List.setIfInBounds_toArray, List.set_cons_zero, List.set_cons_succ]
            refine Bz.wpAnyE_done (by kernel_rfl) ?_ _
            refine NoPanic.normal ?_
            go_wp2_with fail
            go_meet
            first
              | exact ⟨wr.heap.size + 1, wr.heap.size, rfl, Blk.drew (Blk.new_ (by simp)), ((Blk.new _ _ _).alloc _).drew, (((Keep.refl _ wr).alloc _).alloc _).drew⟩
              | exact ⟨wr.heap.size, wr.heap.size + 1, rfl, ((Blk.new _ _ _).alloc _).drew, Blk.drew (Blk.new_ (by simp)), (((Keep.refl _ wr).alloc _).alloc _).drew⟩
          refine Bz.AllReadyE.cons (o := { dst := some 6, op := Go.Op.alloc 31, type := 0, pos := "law.go:110", after := #[], guard := none }) rfl (fun K hK => ?_) ?_
          · skip
            go_simp
            refine hK.out _ _ (by exact hHeld.alloc _) ?_
            clear hHeld hK K; intro hHeld
            try simp only [Act.put, List.setIfInBounds_toArray, List.set_cons_zero, List.set_cons_succ]
            refine Bz.wpAnyE_ready (rs := [14]) (by kernel_rfl) (by simp) ?_
            refine Bz.AllReadyE.cons (o := { dst := some 55, op := Go.Op.buildSlice 29 2 #[(0, Go.Operand.tmp 47), (1, Go.Operand.tmp 54)], type := 29, pos := "law.go:110", after := #[{ on := 6, ground := Go.Ground.data }, { on := 13, ground := Go.Ground.data }], guard := none }) rfl (fun K hK => ?_) Bz.AllReadyE.nil
            go_simp
            refine hK.out _ _ (by exact hHeld.alloc _) ?_
            clear hHeld hK K; intro hHeld
            try simp only [Act.put, List.setIfInBounds_toArray, List.set_cons_zero, List.set_cons_succ]
            refine Bz.wpAnyE_take (i := 15) (oi := { dst := some 56, op := Go.Op.build 31 #[(0, Go.Operand.tmp 55)], type := 31, pos := "law.go:110", after := #[{ on := 14, ground := Go.Ground.data }], guard := none }) (v := ?_) rfl (by kernel_rfl) (by kernel_rfl) (by kernel_rfl) (by kernel_rfl) (fun _ _ _ h => h) (Or.inl ⟨by rfl, ?_⟩) hHeld ?_
            rotate_left 1
            · (intro w hSw; have f1 := hcl w hSw; go_simp; first | done | with_reducible rfl)
            try simp only [Act.put, List.setIfInBounds_toArray, List.set_cons_zero, List.set_cons_succ]
            refine Bz.wpAnyE_ready (rs := [17]) (by kernel_rfl) (by simp) ?_
            refine Bz.AllReadyE.last (o := { dst := none, op := Go.Op.store 31 (Go.Operand.tmp 6) (Go.Operand.tmp 56), type := 0, pos := "law.go:110", after := #[{ on := 16, ground := Go.Ground.data }, { on := 15, ground := Go.Ground.data }, { on := 0, ground := Go.Ground.phase }, { on := 1, ground := Go.Ground.phase }, { on := 2, ground := Go.Ground.phase }, { on := 3, ground := Go.Ground.phase }, { on := 4, ground := Go.Ground.phase }, { on := 5, ground := Go.Ground.phase }, { on := 6, ground := Go.Ground.phase }, { on := 7, ground := Go.Ground.phase }, { on := 8, ground := Go.Ground.phase }, { on := 9, ground := Go.Ground.phase }, { on := 10, ground := Go.Ground.phase }, { on := 11, ground := Go.Ground.phase }, { on := 12, ground := Go.Ground.phase }, { on := 13, ground := Go.Ground.phase }, { on := 14, ground := Go.Ground.phase }, { on := 15, ground := Go.Ground.phase }, { on := 16, ground := Go.Ground.phase }], guard := none }) rfl (by rfl) (fun K hK => ?_) Bz.AllReadyE.nil
            go_simp
            refine hK.out _ _ ?_
            clear hK K
            try simp only [Act.put, List.setIfInBounds_toArray, List.set_cons_zero, List.set_cons_succ]
            refine Bz.wpAnyE_done (by kernel_rfl) ?_ _
            refine NoPanic.normal ?_
            go_wp2_with fail
            go_meet
            first
              | exact ⟨wr.heap.size + 1, wr.heap.size, rfl, Blk.drew (Blk.new_ (by simp)), ((Blk.new _ _ _).alloc _).drew, (((Keep.refl _ wr).alloc _).alloc _).drew⟩
              | exact ⟨wr.heap.size, wr.heap.size + 1, rfl, ((Blk.new _ _ _).alloc _).drew, Blk.drew (Blk.new_ (by simp)), (((Keep.refl _ wr).alloc _).alloc _).drew⟩
          exact Bz.AllReadyE.nil
        case rest =>
          obtain ⟨g6, g7, rfl, B6, B7, hKx⟩ := hcut
          have hNx := hN.keep0 hKx
          have hcl := fun W (hk : Keep [] wc W) => hcl W (hKx.trans hk)
          have hKx := hKw.trans hKx
          have n6 := hNx.notIn B6 (by decide) (by decide)
          have hold : ∀ g, g < w.heap.size → g ∉ t :: mb :: R := fun g hg => by
            simp only [List.mem_cons, not_or]
            exact ⟨by omega, by omega, fun hm => by have := hR g hm; omega⟩
          have hRV := hV.keep0 hKw
          have FQ : ∀ W, Keep (t :: mb :: R) wc W → W.cell? ⟨ab, ao + k * 4, none⟩ = some (.int .u8 ea) ∧ W.cell? ⟨ab, ao + k * 4 + 1, none⟩ = some (.int .u8 eb) := fun W hk => by
            have hc := hcl wc (Keep.refl _ _)
            have hab := hold ab (hV.lt (by intro e0; rw [e0] at hlt; simp at hlt) ab (by simp [ownB, Value.ownBlock]))
            exact ⟨hk.cell hc.1 hab, hk.cell hc.2.1 hab⟩
          have F6 := fun W (hk : Keep (t :: mb :: R) wc W) => (B6.keep hk n6).cell
          have hsc := fun w5 (hk : Keep [] wc w5) V (hVb : RdV w5 1 benc V [(k : Int)]) (hVn : ([(k : Int)] : List Int) ≠ [] → ∀ g ∈ ownB V, g ∉ t :: mb :: R) => send_any (hNx.keep0 hk) HS.out.wf (by rw [HS.out.now]; decide) (by rw [HS.out.next]; omega) (f := ea % 3) (dst := eb % 3) (V := V) (L := .slice (some ⟨g7, 0, none⟩) 2 2) (b := [(k : Int)]) (l := [ec % 50, ed % 50]) hVb hVn (ints_lit (B7.keep hk (by simp)) (show (2 : Nat) ≤ maxLen from by decide)).rd (fun _ g hg => by
            simp [ownB, Value.ownBlock] at hg; subst hg; exact hNx.notIn B7 (by decide) (by decide))
          have herr' : S.err (ea % 3) (eb % 3) ([(k : Int)] : List Int).length [ec % 50, ed % 50] = 0 := herr
          rw [herr'] at hsc
          clear herr herr' hcl
          go_upto_region 8 with fail
          refine wp_region_noPanic ?_
          refine Bz.wp_region_E (S := (fun w' => Keep (t :: mb :: R) wc w')) (E := []) (by kernel_rfl) (by exact (Keep.refl _ _).drew) (fun hHeld => ?_)
          refine Bz.wpAnyE_take (i := 0) (oi := { dst := some 57, op := Go.Op.move (Go.Operand.tmp 3), type := 23, pos := "law.go:111", after := #[], guard := none }) (v := ?_) rfl (by kernel_rfl) (by kernel_rfl) (by kernel_rfl) (by kernel_rfl) (fun _ _ _ h => h) (Or.inl ⟨by rfl, ?_⟩) hHeld ?_
          rotate_left 1
          · (intro w hSw; have f1 := FQ w hSw; have f2 := F6 w hSw; go_simp; first | done | with_reducible rfl)
          try simp only [Act.put, List.setIfInBounds_toArray, List.set_cons_zero, List.set_cons_succ]
          refine Bz.wpAnyE_take (i := 1) (oi := { dst := some 58, op := Go.Op.move (Go.Operand.tmp 0), type := 22, pos := "law.go:111", after := #[], guard := none }) (v := ?_) rfl (by kernel_rfl) (by kernel_rfl) (by kernel_rfl) (by kernel_rfl) (fun _ _ _ h => h) (Or.inl ⟨by rfl, ?_⟩) hHeld ?_
          rotate_left 1
          · (intro w hSw; have f1 := FQ w hSw; have f2 := F6 w hSw; go_simp; first | done | with_reducible rfl)
          try simp only [Act.put, List.setIfInBounds_toArray, List.set_cons_zero, List.set_cons_succ]
          refine Bz.wpAnyE_take (i := 2) (oi := { dst := some 59, op := Go.Op.move (Go.Operand.tmp 5), type := 3, pos := "law.go:111", after := #[], guard := none }) (v := ?_) rfl (by kernel_rfl) (by kernel_rfl) (by kernel_rfl) (by kernel_rfl) (fun _ _ _ h => h) (Or.inl ⟨by rfl, ?_⟩) hHeld ?_
          rotate_left 1
          · (intro w hSw; have f1 := FQ w hSw; have f2 := F6 w hSw; go_simp; first | done | with_reducible rfl)
          try simp only [Act.put, List.setIfInBounds_toArray, List.set_cons_zero, List.set_cons_succ]
          refine Bz.wpAnyE_take (i := 3) (oi := { dst := some 60, op := Go.Op.indexAddr 22 (Go.Operand.tmp 58) (Go.Operand.tmp 59), type := 0, pos := "law.go:111", after := #[{ on := 1, ground := Go.Ground.data }, { on := 2, ground := Go.Ground.data }], guard := none }) (v := ?_) rfl (by kernel_rfl) (by kernel_rfl) (by kernel_rfl) (by kernel_rfl) (fun _ _ _ h => h) (Or.inl ⟨by rfl, ?_⟩) hHeld ?_
          rotate_left 1
          · (intro w hSw; have f1 := FQ w hSw; have f2 := F6 w hSw; go_simp; first | done | with_reducible rfl)
          try simp only [Act.put, List.setIfInBounds_toArray, List.set_cons_zero, List.set_cons_succ]
          refine Bz.wpAnyE_take (i := 4) (oi := { dst := some 61, op := Go.Op.indexAddr 28 (Go.Operand.tmp 60) (Go.Operand.const (Go.Value.int Go.IntKind.i64 0)), type := 0, pos := "law.go:111", after := #[{ on := 3, ground := Go.Ground.data }], guard := none }) (v := ?_) rfl (by kernel_rfl) (by kernel_rfl) (by kernel_rfl) (by kernel_rfl) (fun _ _ _ h => h) (Or.inl ⟨by rfl, ?_⟩) hHeld ?_
          rotate_left 1
          · (intro w hSw; have f1 := FQ w hSw; have f2 := F6 w hSw; go_simp; first | done | with_reducible rfl)
          try simp only [Act.put, List.setIfInBounds_toArray, List.set_cons_zero, List.set_cons_succ]
          refine Bz.wpAnyE_take (i := 5) (oi := { dst := some 62, op := Go.Op.load 5 (Go.Operand.tmp 61), type := 5, pos := "law.go:111", after := #[{ on := 4, ground := Go.Ground.data }], guard := none }) (v := ?_) rfl (by kernel_rfl) (by kernel_rfl) (by kernel_rfl) (by kernel_rfl) (fun _ _ _ h => h) (Or.inl ⟨by rfl, ?_⟩) hHeld ?_
          rotate_left 1
          · (intro w hSw; have f1 := FQ w hSw; have f2 := F6 w hSw; go_simp; first | done | with_reducible rfl)
          try simp only [Act.put, List.setIfInBounds_toArray, List.set_cons_zero, List.set_cons_succ]
          refine Bz.wpAnyE_take (i := 6) (oi := { dst := some 63, op := Go.Op.binOp Go.BinOp.rem 5 (Go.Operand.tmp 62) (Go.Operand.const (Go.Value.int Go.IntKind.u8 3)) 5, type := 5, pos := "law.go:111", after := #[{ on := 5, ground := Go.Ground.data }], guard := none }) (v := ?_) rfl (by kernel_rfl) (by kernel_rfl) (by kernel_rfl) (by kernel_rfl) (fun _ _ _ h => h) (Or.inl ⟨by rfl, ?_⟩) hHeld ?_
          rotate_left 1
          · (intro w hSw; have f1 := FQ w hSw; have f2 := F6 w hSw; go_simp; first | done | with_reducible rfl)
          try simp only [Act.put, List.setIfInBounds_toArray, List.set_cons_zero, List.set_cons_succ]
          refine Bz.wpAnyE_take (i := 7) (oi := { dst := some 64, op := Go.Op.convert 5 3 (Go.Operand.tmp 63), type := 3, pos := "law.go:111", after := #[{ on := 6, ground := Go.Ground.data }], guard := none }) (v := ?_) rfl (by kernel_rfl) (by kernel_rfl) (by kernel_rfl) (by kernel_rfl) (fun _ _ _ h => h) (Or.inl ⟨by rfl, ?_⟩) hHeld ?_
          rotate_left 1
          · (intro w hSw; have f1 := FQ w hSw; have f2 := F6 w hSw; go_simp; first | done | with_reducible rfl)
          try simp only [Act.put, List.setIfInBounds_toArray, List.set_cons_zero, List.set_cons_succ]
          refine Bz.wpAnyE_take (i := 8) (oi := { dst := some 65, op := Go.Op.move (Go.Operand.tmp 0), type := 22, pos := "law.go:111", after := #[], guard := none }) (v := ?_) rfl (by kernel_rfl) (by kernel_rfl) (by kernel_rfl) (by kernel_rfl) (fun _ _ _ h => h) (Or.inl ⟨by rfl, ?_⟩) hHeld ?_
          rotate_left 1
          · (intro w hSw; have f1 := FQ w hSw; have f2 := F6 w hSw; go_simp; first | done | with_reducible rfl)
          try simp only [Act.put, List.setIfInBounds_toArray, List.set_cons_zero, List.set_cons_succ]
          refine Bz.wpAnyE_take (i := 9) (oi := { dst := some 66, op := Go.Op.move (Go.Operand.tmp 5), type := 3, pos := "law.go:111", after := #[], guard := none }) (v := ?_) rfl (by kernel_rfl) (by kernel_rfl) (by kernel_rfl) (by kernel_rfl) (fun _ _ _ h => h) (Or.inl ⟨by rfl, ?_⟩) hHeld ?_
          rotate_left 1
          · (intro w hSw; have f1 := FQ w hSw; have f2 := F6 w hSw; go_simp; first | done | with_reducible rfl)
          try simp only [Act.put, List.setIfInBounds_toArray, List.set_cons_zero, List.set_cons_succ]
          refine Bz.wpAnyE_take (i := 10) (oi := { dst := some 67, op := Go.Op.indexAddr 22 (Go.Operand.tmp 65) (Go.Operand.tmp 66), type := 0, pos := "law.go:111", after := #[{ on := 8, ground := Go.Ground.data }, { on := 9, ground := Go.Ground.data }], guard := none }) (v := ?_) rfl (by kernel_rfl) (by kernel_rfl) (by kernel_rfl) (by kernel_rfl) (fun _ _ _ h => h) (Or.inl ⟨by rfl, ?_⟩) hHeld ?_
          rotate_left 1
          · (intro w hSw; have f1 := FQ w hSw; have f2 := F6 w hSw; go_simp; first | done | with_reducible rfl)
          try simp only [Act.put, List.setIfInBounds_toArray, List.set_cons_zero, List.set_cons_succ]
          refine Bz.wpAnyE_take (i := 11) (oi := { dst := some 68, op := Go.Op.indexAddr 28 (Go.Operand.tmp 67) (Go.Operand.const (Go.Value.int Go.IntKind.i64 1)), type := 0, pos := "law.go:111", after := #[{ on := 10, ground := Go.Ground.data }], guard := none }) (v := ?_) rfl (by kernel_rfl) (by kernel_rfl) (by kernel_rfl) (by kernel_rfl) (fun _ _ _ h => h) (Or.inl ⟨by rfl, ?_⟩) hHeld ?_
          rotate_left 1
          · (intro w hSw; have f1 := FQ w hSw; have f2 := F6 w hSw; go_simp; first | done | with_reducible rfl)
          try simp only [Act.put, List.setIfInBounds_toArray, List.set_cons_zero, List.set_cons_succ]
          refine Bz.wpAnyE_take (i := 12) (oi := { dst := some 69, op := Go.Op.load 5 (Go.Operand.tmp 68), type := 5, pos := "law.go:111", after := #[{ on := 11, ground := Go.Ground.data }], guard := none }) (v := ?_) rfl (by kernel_rfl) (by kernel_rfl) (by kernel_rfl) (by kernel_rfl) (fun _ _ _ h => h) (Or.inl ⟨by rfl, ?_⟩) hHeld ?_
          rotate_left 1
          · (intro w hSw; have f1 := FQ w hSw; have f2 := F6 w hSw; go_simp; first | done | with_reducible rfl)
          try simp only [Act.put, List.setIfInBounds_toArray, List.set_cons_zero, List.set_cons_succ]
          refine Bz.wpAnyE_take (i := 13) (oi := { dst := some 70, op := Go.Op.binOp Go.BinOp.rem 5 (Go.Operand.tmp 69) (Go.Operand.const (Go.Value.int Go.IntKind.u8 3)) 5, type := 5, pos := "law.go:111", after := #[{ on := 12, ground := Go.Ground.data }], guard := none }) (v := ?_) rfl (by kernel_rfl) (by kernel_rfl) (by kernel_rfl) (by kernel_rfl) (fun _ _ _ h => h) (Or.inl ⟨by rfl, ?_⟩) hHeld ?_
          rotate_left 1
          · (intro w hSw; have f1 := FQ w hSw; have f2 := F6 w hSw; go_simp; first | done | with_reducible rfl)
          try simp only [Act.put, List.setIfInBounds_toArray, List.set_cons_zero, List.set_cons_succ]
          refine Bz.wpAnyE_take (i := 14) (oi := { dst := some 71, op := Go.Op.convert 5 3 (Go.Operand.tmp 70), type := 3, pos := "law.go:111", after := #[{ on := 13, ground := Go.Ground.data }], guard := none }) (v := ?_) rfl (by kernel_rfl) (by kernel_rfl) (by kernel_rfl) (by kernel_rfl) (fun _ _ _ h => h) (Or.inl ⟨by rfl, ?_⟩) hHeld ?_
          rotate_left 1
          · (intro w hSw; have f1 := FQ w hSw; have f2 := F6 w hSw; go_simp; first | done | with_reducible rfl)
          try simp only [Act.put, List.setIfInBounds_toArray, List.set_cons_zero, List.set_cons_succ]
          refine Bz.wpAnyE_take (i := 15) (oi := { dst := some 72, op := Go.Op.move (Go.Operand.tmp 5), type := 3, pos := "law.go:111", after := #[], guard := none }) (v := ?_) rfl (by kernel_rfl) (by kernel_rfl) (by kernel_rfl) (by kernel_rfl) (fun _ _ _ h => h) (Or.inl ⟨by rfl, ?_⟩) hHeld ?_
          rotate_left 1
          · (intro w hSw; have f1 := FQ w hSw; have f2 := F6 w hSw; go_simp; first | done | with_reducible rfl)
          try simp only [Act.put, List.setIfInBounds_toArray, List.set_cons_zero, List.set_cons_succ]
          refine Bz.wpAnyE_take (i := 16) (oi := { dst := some 73, op := Go.Op.convert 3 5 (Go.Operand.tmp 72), type := 5, pos := "law.go:111", after := #[{ on := 15, ground := Go.Ground.data }], guard := none }) (v := ?_) rfl (by kernel_rfl) (by kernel_rfl) (by kernel_rfl) (by kernel_rfl) (fun _ _ _ h => h) (Or.inl ⟨by rfl, ?_⟩) hHeld ?_
          rotate_left 1
          · (intro w hSw; have f1 := FQ w hSw; have f2 := F6 w hSw; go_simp; first | done | with_reducible rfl)
          try simp only [Act.put, List.setIfInBounds_toArray, List.set_cons_zero, List.set_cons_succ]
          refine Bz.wpAnyE_take (i := 19) (oi := { dst := some 76, op := Go.Op.load 31 (Go.Operand.tmp 6), type := 31, pos := "law.go:111", after := #[], guard := none }) (v := ?_) rfl (by kernel_rfl) (by kernel_rfl) (by kernel_rfl) (by kernel_rfl) (fun _ _ _ h => h) (Or.inl ⟨by rfl, ?_⟩) hHeld ?_
          rotate_left 1
          · (intro w hSw; have f1 := FQ w hSw; have f2 := F6 w hSw; go_simp; first | done | with_reducible rfl)
          try simp only [Act.put, List.setIfInBounds_toArray, List.set_cons_zero, List.set_cons_succ]
          refine Bz.wpAnyE_ready (rs := [17]) (by kernel_rfl) (by simp) ?_
          refine Bz.AllReadyE.cons (o := { dst := some 74, op := Go.Op.buildSlice 33 1 #[(0, Go.Operand.tmp 73)], type := 33, pos := "law.go:111", after := #[{ on := 16, ground := Go.Ground.data }], guard := none }) rfl (fun K hK => ?_) Bz.AllReadyE.nil
          
          go_simp
          have hBy : Blk (wc.alloc (.cells #[.int .u8 k] 5)).drew wc.heap.size 5 (([(k : Int)] : List Int).map (Value.int .u8)).toArray := Blk.drew (Blk.new _ _ _)
          have hk17 : Keep [] wc (wc.alloc (.cells #[.int .u8 k] 5)).drew := ((Keep.refl _ _).alloc _).drew
          refine hK.out _ _ (by exact hHeld.alloc _) ?_
          clear hHeld hK K; intro hHeld
          try simp only [Act.put, List.setIfInBounds_toArray, List.set_cons_zero, List.set_cons_succ]
          refine Bz.wpAnyE_take (i := 18) (oi := { dst := some 75, op := Go.Op.build 35 #[(0, Go.Operand.tmp 64), (1, Go.Operand.tmp 71), (2, Go.Operand.tmp 74)], type := 35, pos := "law.go:111", after := #[{ on := 7, ground := Go.Ground.data }, { on := 14, ground := Go.Ground.data }, { on := 17, ground := Go.Ground.data }], guard := none }) (v := ?_) rfl (by kernel_rfl) (by kernel_rfl) (by kernel_rfl) (by kernel_rfl) (fun _ _ _ h => h) (Or.inl ⟨by rfl, ?_⟩) hHeld ?_
          rotate_left 1
          · (intro w hSw; have f1 := FQ w hSw; have f2 := F6 w hSw; go_simp; first | done | with_reducible rfl)
          try simp only [Act.put, List.setIfInBounds_toArray, List.set_cons_zero, List.set_cons_succ]
          refine Bz.wpAnyE_ready (rs := [20]) (by kernel_rfl) (by simp) ?_
          refine Bz.AllReadyE.cons (o := { dst := some 77, op := Go.Op.call { callee := Go.Callee.value (Go.Operand.func 13), args := #[Go.Operand.tmp 57, Go.Operand.tmp 75, Go.Operand.tmp 76], argTypes := #[23, 35, 31] }, type := 24, pos := "law.go:111", after := #[{ on := 0, ground := Go.Ground.data }, { on := 18, ground := Go.Ground.data }, { on := 19, ground := Go.Ground.data }], guard := none }) rfl (fun K hK => ?_) Bz.AllReadyE.nil
          go_simp
          
          have hlt := hNx.lt
          refine (hsc _ hk17 (.slice (some ⟨wc.heap.size, 0, none⟩) 1 1) (ints_lit hBy (show (1 : Nat) ≤ maxLen from by decide)).rd (fun _ g hg => by
            simp [ownB, Value.ownBlock] at hg
            subst hg
            simp only [List.mem_cons, not_or]
            exact ⟨by omega, by omega, fun hm => by have := hlt.2.2.1 _ hm; omega⟩)).mono ?_
          rintro e w5 ⟨rfl, R', B', hN5, hR5, hB5, hk5⟩
          refine hK.out _ _ (by exact hHeld.trans hk5) ?_
          clear hHeld hK K; intro hHeld
          try simp only [Act.put, List.setIfInBounds_toArray, List.set_cons_zero, List.set_cons_succ]
          refine Bz.wpAnyE_take (i := 21) (oi := { dst := some 78, op := Go.Op.binOp Go.BinOp.neq 24 (Go.Operand.tmp 77) (Go.Operand.const (Go.Value.int Go.IntKind.i64 0)) 24, type := 4, pos := "law.go:111", after := #[{ on := 20, ground := Go.Ground.data }], guard := none }) (v := ?_) rfl (by kernel_rfl) (by kernel_rfl) (by kernel_rfl) (by kernel_rfl) (fun _ _ _ h => h) (Or.inl ⟨by rfl, ?_⟩) hHeld ?_
          rotate_left 1
          · (intro w hSw; have f1 := FQ w hSw; have f2 := F6 w hSw; go_simp; first | done | with_reducible rfl)
          try simp only [Act.put, List.setIfInBounds_toArray, List.set_cons_zero, List.set_cons_succ]
          refine Bz.wpAnyE_done (by kernel_rfl) ?_ _
          refine NoPanic.normal ?_
          have hKw5 := hKx.own hHeld (fun g hg => by
            simp only [List.mem_cons] at hg
            rcases hg with rfl | rfl | hg
            · exact ht
            · exact hmb
            · exact hR g hg)
          have hR5' : ∀ g ∈ R', w.heap.size ≤ g := fun g hg => by
            rcases hR5 g hg with h1 | h1
            · exact hR g h1
            · have := hKx.size; have := hk17.size; omega
          have HS2 := Lib.hid hS2
          clear hsc FQ F6 hold hS2 hR5 hB5 hRV
          go_wp2_with fail
          have hk := HK.out
          go_roundg (E.length - (k + 1))
          case measure => omega
          case rel => exact ⟨k + 1, _, R', B', by go_num, by omega, hN5, HS2, hR5', hKw5⟩
      · have hkl : k = E.length := by omega
        subst hkl
        clear hk hlt
        have own : ∀ g ∈ [t, mb], w.heap.size ≤ g := by intro g hg; simp at hg; rcases hg with rfl | rfl <;> assumption
        go_wp2_with fail
        go_loopg [7] 50 (fun m i wr => ∃ (j : Nat) (S : NS), i = .int .i64 j ∧ Hid (m + j = 50) ∧ NetAt wr t mb S R B ∧ Hid (OnceS S E E.length j) ∧ Keep [] w wr)
        case atStart => exact ⟨0, S, rfl, Lib.hid rfl, hN, HS, hKw⟩
        case round =>
          clear hN HS hKw
          obtain ⟨j, S, rfl, HJ, hN, HS, hKw⟩ := hrel
          by_cases hj : (j : Int) < 50
          · obtain ⟨w3, hw3⟩ : ∃ W, W = wr := ⟨_, rfl⟩
            subst hw3
            go_wp2_with fail
            go_loopg [8, 9] E.length (fun m v i wr => ∃ (k : Nat), i = .int .i64 k ∧ m + k = E.length ∧ Own wr w3.heap.size 3 1 ienc v ((wants j (E.take k)).map fun (q : Nat) => (q : Int)) ∧ Keep [] w3 wr)
            case atStart => exact ⟨0, rfl, rfl, Own.nil .., Keep.refl _ _⟩
            case round =>
              obtain ⟨k, rfl, hk, hO, hKx⟩ := hrel
              by_cases hlt : k < E.length
              · obtain ⟨e, he⟩ : ∃ e, E[k]? = some e := ⟨_, List.getElem?_eq_getElem hlt⟩
                have hq := hok e (List.mem_of_getElem? he)
                obtain ⟨ab, ao, cp, hv, hcl⟩ := qAt hV he
                cases hv
                have htk : E.take (k + 1) = E.take k ++ [e] := by rw [List.take_add_one, he]; rfl
                have hlen' : (E.take k).length = k := by rw [List.length_take]; omega
                have hwl := wants_len j (E.take k)
                rw [hlen'] at hwl
                obtain ⟨L0, HL0⟩ : ∃ L0, Hid (L0 = (wants j (E.take k)).map fun (q : Nat) => (q : Int)) := ⟨_, Lib.hid rfl⟩
                have hL0 : L0.length ≤ 2 * k := by rw [HL0.out, List.length_map]; exact hwl
                rw [← HL0.out] at hO
                obtain ⟨ea, eb, ec, ed⟩ := e
                have HN : Hid ((wants j (E.take (k + 1))).map (fun (q : Nat) => (q : Int)) = L0 ++ (if ec % 50 = j then [(k : Int)] else []) ++ (if ed % 50 = j then [(k : Int)] else [])) := Lib.hid (by
                  rw [htk, wants_snoc, List.map_append, ← HL0.out, hlen', List.append_assoc]
                  congr 1
                  unfold Q4.fate
                  simp only [List.filter_cons, List.filter_nil, decide_eq_true_eq]
                  by_cases h1 : ec % 50 = j <;> by_cases h2 : ed % 50 = j <;> simp [h1, h2])
                unfold Q4.ok at hq
                simp only at hq
                have qc : IntKind.i64.wrap (ec.tmod 50) = ec % 50 := by rw [Int.tmod_eq_emod_of_nonneg (by omega), IntWalk.i64_in _ (by omega)]
                have qd : IntKind.i64.wrap (ed.tmod 50) = ed % 50 := by rw [Int.tmod_eq_emod_of_nonneg (by omega), IntWalk.i64_in _ (by omega)]
                have HQ := Lib.hid hq
                have HK := Lib.hid (And.intro hk hL0)
                have hz3 : w3.heap.size ≤ wr.heap.size := hKx.size
                obtain ⟨w4, hw4⟩ : ∃ W, W = wr := ⟨_, rfl⟩
                subst hw4
                clear he hq hk hL0 htk hlen' hwl
                go_wp2_with fail
                go_loopg [8, 10] 2 (fun m v i wr => ∃ (q : Nat) (L : List Int), i = .int .i64 q ∧ Hid (m + q = 4 ∧ 2 ≤ q ∧ L.length ≤ 2 * k + 2 ∧ L = (if q = 2 then L0 else if q = 3 then L0 ++ (if ec % 50 = j then [(k : Int)] else []) else L0 ++ (if ec % 50 = j then [(k : Int)] else []) ++ (if ed % 50 = j then [(k : Int)] else []))) ∧ Own wr w3.heap.size 3 1 ienc v L ∧ Keep [] w3 wr)
                case atStart => exact ⟨2, L0, rfl, Lib.hid ⟨rfl, Nat.le_refl _, by have := HK.out; omega, rfl⟩, hO, hKx⟩
                case round =>
                  obtain ⟨q, L, rfl, HQ2, hO, hKx⟩ := hrel
                  have hcase : q = 2 ∨ q = 3 ∨ q = 4 := by have := HQ2.out; omega
                  have hL0' : L0.length ≤ 2 * k + 0 := by have := HK.out.2; omega
                  rcases hcase with hq2 | hq3 | hq4
                  · subst hq2
                    have hc := (hcl _ (hKw.trans hKx)).2.2.1
                    have hLL := HQ2.out.2.2
                    by_cases heq : ec % 50 = j
                    · have heq' : (ec % 50 == (j : Int)) = true := by simp [heq]
                      have HEQ := Lib.hid heq
                      have hLl : L.length ≤ 2 * k + 2 := hLL.1
                      have hLl2 : L.length ≤ 2 * k + 0 := by
                        rw [hLL.2]
                        exact hL0'
                      have HLL := Lib.hid (And.intro hLL.2 hLl2)
                      clear heq hLL hLl hLl2
                      go_wp2_with (first
                        | (at_builtin; refine wpList_append1 (y := (k : Int)) rfl _ _ 29 rfl app29 rfl (hO.alloc _) rfl (Blk.new_ rfl) rfl (ienc_one _) ?q1 ?q2 ?q3 ?q4)
                        | fail)
                      case q1 => have := HLL.out.2; omega
                      case q2 => have := HLL.out.2; unfold maxLen; omega
                      case q3 => have := hKx.size; simp; omega
                      case q4 =>
                        intro v' w' hO2 hk2
                        have hK2 := ((hKx.alloc (.cells (ienc (k : Int)) 3))).andThen hk2 (fun g hg => .inr (hO.lt g hg).1)
                        clear hk2
                        go_wp2_with fail
                        go_roundg 1
                        case measure => have := HQ2.out.1; omega
                        case rel => exact ⟨3, _, rfl, Lib.hid ⟨rfl, by decide, by have := HLL.out.2; simp; omega, by rw [HLL.out.1]; simp [HEQ.out]⟩, hO2, hK2⟩
                    · have heq' : (ec % 50 == (j : Int)) = false := by simp [heq]
                      have HEQ := Lib.hid heq
                      have HLL := Lib.hid hLL
                      clear heq hLL
                      go_wp2_with fail
                      go_roundg 1
                      case measure => have := HQ2.out.1; omega
                      case rel => exact ⟨3, L, rfl, Lib.hid ⟨rfl, by decide, HLL.out.1, by rw [HLL.out.2]; simp [HEQ.out]⟩, hO, hKx⟩
                  · subst hq3
                    have hc := (hcl _ (hKw.trans hKx)).2.2.2
                    have hLL := HQ2.out.2.2
                    by_cases heq : ed % 50 = j
                    · have heq' : (ed % 50 == (j : Int)) = true := by simp [heq]
                      have HEQ := Lib.hid heq
                      have hLl : L.length ≤ 2 * k + 2 := hLL.1
                      have hLl2 : L.length ≤ 2 * k + 1 := by
                        rw [hLL.2]
                        simp only [if_neg (show ¬ (3 : Nat) = 2 by decide), if_pos]; rw [List.length_append]; split <;> simp <;> omega
                      have HLL := Lib.hid (And.intro hLL.2 hLl2)
                      clear heq hLL hLl hLl2
                      go_wp2_with (first
                        | (at_builtin; refine wpList_append1 (y := (k : Int)) rfl _ _ 29 rfl app29 rfl (hO.alloc _) rfl (Blk.new_ rfl) rfl (ienc_one _) ?q1 ?q2 ?q3 ?q4)
                        | fail)
                      case q1 => have := HLL.out.2; omega
                      case q2 => have := HLL.out.2; unfold maxLen; omega
                      case q3 => have := hKx.size; simp; omega
                      case q4 =>
                        intro v' w' hO2 hk2
                        have hK2 := ((hKx.alloc (.cells (ienc (k : Int)) 3))).andThen hk2 (fun g hg => .inr (hO.lt g hg).1)
                        clear hk2
                        go_wp2_with fail
                        go_roundg 0
                        case measure => have := HQ2.out.1; omega
                        case rel => exact ⟨4, _, rfl, Lib.hid ⟨rfl, by decide, by have := HLL.out.2; simp; omega, by rw [HLL.out.1]; simp [HEQ.out]⟩, hO2, hK2⟩
                    · have heq' : (ed % 50 == (j : Int)) = false := by simp [heq]
                      have HEQ := Lib.hid heq
                      have HLL := Lib.hid hLL
                      clear heq hLL
                      go_wp2_with fail
                      go_roundg 0
                      case measure => have := HQ2.out.1; omega
                      case rel => exact ⟨4, L, rfl, Lib.hid ⟨rfl, by decide, HLL.out.1, by rw [HLL.out.2]; simp [HEQ.out]⟩, hO, hKx⟩
                  · subst hq4
                    have HLL := HQ2.out.2.2.2
                    have HLf : Hid (L = (wants j (E.take (k + 1))).map fun (q : Nat) => (q : Int)) := Lib.hid (by rw [HLL, HN.out]; rfl)
                    clear HLL
                    go_wp2_with fail
                    have hk := HK.out.1
                    go_roundg (E.length - (k + 1))
                    case measure => omega
                    case rel => exact ⟨k + 1, by go_num, by omega, by rw [← HLf.out]; exact hO, hKx⟩
              · have hkl : k = E.length := by omega
                subst hkl
                rw [List.take_length] at hO
                have hNx := hN.keep0 hKx
                have hst := step_any hNx HS.out.wf (by rw [HS.out.now]; have := HJ.out; omega) HS.out.small
                rw [HS.out.come, List.take_length] at hst
                have hS' := Lib.hid HS.out.step
                have hKx' := hKw.trans hKx
                clear hlt hk
                go_upto_region 23 with (first
                  | (go_at_call 14; refine hst.mono ?_; rintro e w7 ⟨v7, o7, rfl, hC7, hO7, hN7, hk7⟩)
                  | fail)
                have hKw7 := hKx'.own hk7 own
                obtain ⟨hol, hoe⟩ := once_at hO7
                obtain ⟨Ag, cg, hv7, hg1, hg2, hg3⟩ := hC7.own.sl lenc_sz
                have hW7 := (hO.sl ienc_sz).keepTy hk7 (fun s hs => hNx.ty (by decide) (by decide) s (by simp at hs ⊢; rcases hs with h | h <;> simp [h]))
                obtain ⟨Aw, cw, hv8, hw1, hw2, hw3⟩ := hW7
                rw [List.length_map] at hv8 hw1
                rw [hol] at hv7 hg1
                obtain ⟨WL, HWL⟩ : ∃ WL, Hid (WL = wants j E) := ⟨_, Lib.hid rfl⟩
                have hwl := wants_len j E
                rw [← HWL.out] at hv7 hv8 hoe hol hw1 hw3 hg1 hwl
                obtain ⟨n, Hn⟩ : ∃ n, Hid (n = WL.length) := ⟨_, Lib.hid rfl⟩
                rw [← Hn.out] at hv7 hv8 hw1 hg1 hwl
                have hn63 : (n : Int) ≤ 60 := by omega
                have hC7b := hC7.bytes
                subst hv7
                subst hv8
                clear hO hwl hst hC7 hO7 hol
                go_wp2_with fail
                go_loopg [12] n (fun m i wr => ∃ q : Nat, i = .int .i64 q ∧ m + q = n ∧ Keep [] w7 wr)
                case atStart => exact ⟨0, rfl, rfl, Keep.refl _ _⟩
                case round =>
                  obtain ⟨q, rfl, hq, hKy⟩ := hrel
                  by_cases hqn : q < n
                  · obtain ⟨wi, hwi⟩ : ∃ wi, WL[q]? = some wi := ⟨_, List.getElem?_eq_getElem (by rw [← Hn.out]; exact hqn)⟩
                    obtain ⟨e, V9, he, ho⟩ := hoe q wi hwi
                    have hq4 := hok e (List.mem_of_getElem? he)
                    have hwE : wi < E.length := (List.getElem?_eq_some_iff.1 he).1
                    obtain ⟨ab, ao, cp, hv, hcl⟩ := qAt hV he
                    cases hv
                    obtain ⟨gw, ow, rfl, hsw⟩ := hw3 (by intro e0; have := congrArg List.length e0; rw [List.length_map, ← Hn.out] at this; simp at this; omega)
                    obtain ⟨gg, og, rfl, hsg⟩ := hg3 (by intro e0; rw [e0] at ho; simp at ho)
                    have FW : ∀ W, Keep [] w7 W → W.cell? ⟨gw, ow + q, none⟩ = some (.int .i64 wi) := fun W hk => hk.cell (by simpa using hsw.cell (i := q) (x := (wi : Int)) (by rw [List.getElem?_map, hwi]; rfl) (j := 0) (by decide)) (by simp)
                    obtain ⟨ea, eb, ec, ed⟩ := e
                    obtain ⟨A9, c9, hV9, _⟩ := (hC7b _ (List.mem_of_getElem? ho)).sl benc_sz
                    simp only at hV9
                    subst hV9
                    have FG : ∀ W, Keep [] w7 W → W.cell? ⟨gg, og + q * 3, none⟩ = some (.int .i64 (ea % 3)) ∧ W.cell? ⟨gg, og + q * 3 + 1, none⟩ = some (.int .i64 (eb % 3)) ∧ W.cell? ⟨gg, og + q * 3 + 2, none⟩ = some (.slice A9 1 c9) := fun W hk =>
                      ⟨hk.cell (by simpa using hsg.cell ho (j := 0) (by decide)) (by simp), hk.cell (by simpa using hsg.cell ho (j := 1) (by decide)) (by simp), hk.cell (by simpa using hsg.cell ho (j := 2) (by decide)) (by simp)⟩
                    have FS : ∀ W, Keep [] w7 W → (convert 33 9 (.slice A9 1 c9)).run Try.prog W = .ok (.string (strOfNums [(wi : Int)])) W := fun W hk => run_str Try.underlying33 Try.underlying5 (((hC7b _ (List.mem_of_getElem? ho)).sl benc_sz).keep0 hk) 9 Try.underlying9
                    unfold Q4.ok at hq4
                    simp only at hq4
                    have qa : IntKind.i64.wrap (ea.tmod 3) = ea % 3 := by rw [Int.tmod_eq_emod_of_nonneg (by omega), IntWalk.i64_in _ (by omega)]
                    have qb : IntKind.i64.wrap (eb.tmod 3) = eb % 3 := by rw [Int.tmod_eq_emod_of_nonneg (by omega), IntWalk.i64_in _ (by omega)]
                    have qk : IntKind.u8.wrap (wi : Int) = (wi : Int) := IntWalk.u8_in _ (by omega)
                    have f1 := FW _ hKy
                    have f2 := hcl _ (hKw7.trans hKy)
                    have HX := Lib.hid (And.intro hq hq4)
                    clear hq hq4 he ho hwi hsw hsg
                    go_upto_region 29 with fail
                    obtain ⟨w9, hw9⟩ : ∃ W, W = wr.alloc (.cells (qenc ⟨ea, eb, ec, ed⟩) 28) := ⟨_, rfl⟩
                    have B13 : Blk w9 wr.heap.size 28 (qenc ⟨ea, eb, ec, ed⟩) := by rw [hw9]; exact Blk.new _ _ _
                    have hK9 : Keep [] w7 w9 := by rw [hw9]; exact hKy.alloc _
                    rw [← hw9]
                    clear hw9
                    have F13 := fun W (hk : Keep [] w9 W) => (B13.keep hk (by simp)).cell
                    have FW := fun W (hk : Keep [] w9 W) => FW W (hK9.trans hk)
                    have FG := fun W (hk : Keep [] w9 W) => FG W (hK9.trans hk)
                    have FS := fun W (hk : Keep [] w9 W) => FS W (hK9.trans hk)
                    clear f1 f2 hcl hKy B13 hoe hw3 hg3
                    refine wp_region_noPanic ?_
                    refine Bz.wp_region_E (S := (fun w' => Keep [] w9 w')) (E := []) (by kernel_rfl) (by exact (Keep.refl _ _).drew) (fun hHeld => ?_)
                    refine Bz.wpAnyE_take (i := 0) (oi := { dst := some 127, op := Go.Op.move (Go.Operand.tmp 11), type := 36, pos := "law.go:130", after := #[], guard := none }) (v := ?_) rfl (by kernel_rfl) (by kernel_rfl) (by kernel_rfl) (by kernel_rfl) (fun _ _ _ h => h) (Or.inl ⟨by rfl, ?_⟩) hHeld ?_
                    rotate_left 1
                    · (intro w hSw; have f1 := FW w hSw; have f2 := FG w hSw; have f3 := F13 w hSw; have f4 := FS w hSw; go_simp; first | done | with_reducible rfl)
                    try simp only [Act.put, List.setIfInBounds_toArray, List.set_cons_zero, List.set_cons_succ]
                    refine Bz.wpAnyE_take (i := 1) (oi := { dst := some 128, op := Go.Op.move (Go.Operand.tmp 12), type := 3, pos := "law.go:130", after := #[], guard := none }) (v := ?_) rfl (by kernel_rfl) (by kernel_rfl) (by kernel_rfl) (by kernel_rfl) (fun _ _ _ h => h) (Or.inl ⟨by rfl, ?_⟩) hHeld ?_
                    rotate_left 1
                    · (intro w hSw; have f1 := FW w hSw; have f2 := FG w hSw; have f3 := F13 w hSw; have f4 := FS w hSw; go_simp; first | done | with_reducible rfl)
                    try simp only [Act.put, List.setIfInBounds_toArray, List.set_cons_zero, List.set_cons_succ]
                    refine Bz.wpAnyE_take (i := 2) (oi := { dst := some 129, op := Go.Op.indexAddr 36 (Go.Operand.tmp 127) (Go.Operand.tmp 128), type := 0, pos := "law.go:130", after := #[{ on := 0, ground := Go.Ground.data }, { on := 1, ground := Go.Ground.data }], guard := none }) (v := ?_) rfl (by kernel_rfl) (by kernel_rfl) (by kernel_rfl) (by kernel_rfl) (fun _ _ _ h => h) (Or.inl ⟨by rfl, ?_⟩) hHeld ?_
                    rotate_left 1
                    · (intro w hSw; have f1 := FW w hSw; have f2 := FG w hSw; have f3 := F13 w hSw; have f4 := FS w hSw; go_simp; first | done | with_reducible rfl)
                    try simp only [Act.put, List.setIfInBounds_toArray, List.set_cons_zero, List.set_cons_succ]
                    refine Bz.wpAnyE_take (i := 3) (oi := { dst := some 130, op := Go.Op.fieldAddr 35 (Go.Operand.tmp 129) 2, type := 0, pos := "law.go:130", after := #[{ on := 2, ground := Go.Ground.data }], guard := none }) (v := ?_) rfl (by kernel_rfl) (by kernel_rfl) (by kernel_rfl) (by kernel_rfl) (fun _ _ _ h => h) (Or.inl ⟨by rfl, ?_⟩) hHeld ?_
                    rotate_left 1
                    · (intro w hSw; have f1 := FW w hSw; have f2 := FG w hSw; have f3 := F13 w hSw; have f4 := FS w hSw; go_simp; first | done | with_reducible rfl)
                    try simp only [Act.put, List.setIfInBounds_toArray, List.set_cons_zero, List.set_cons_succ]
                    refine Bz.wpAnyE_take (i := 4) (oi := { dst := some 131, op := Go.Op.load 33 (Go.Operand.tmp 130), type := 33, pos := "law.go:130", after := #[{ on := 3, ground := Go.Ground.data }], guard := none }) (v := ?_) rfl (by kernel_rfl) (by kernel_rfl) (by kernel_rfl) (by kernel_rfl) (fun _ _ _ h => h) (Or.inl ⟨by rfl, ?_⟩) hHeld ?_
                    rotate_left 1
                    · (intro w hSw; have f1 := FW w hSw; have f2 := FG w hSw; have f3 := F13 w hSw; have f4 := FS w hSw; go_simp; first | done | with_reducible rfl)
                    try simp only [Act.put, List.setIfInBounds_toArray, List.set_cons_zero, List.set_cons_succ]
                    refine Bz.wpAnyE_take (i := 5) (oi := { dst := some 132, op := Go.Op.convert 33 9 (Go.Operand.tmp 131), type := 9, pos := "law.go:130", after := #[{ on := 4, ground := Go.Ground.data }], guard := none }) (v := ?_) rfl (by kernel_rfl) (by kernel_rfl) (by kernel_rfl) (by kernel_rfl) (fun _ _ _ h => h) (Or.inl ⟨by rfl, ?_⟩) hHeld ?_
                    rotate_left 1
                    · (intro w hSw; have f1 := FW w hSw; have f2 := FG w hSw; have f3 := F13 w hSw; have f4 := FS w hSw; go_simp; first | done | with_reducible rfl)
                    try simp only [Act.put, List.setIfInBounds_toArray, List.set_cons_zero, List.set_cons_succ]
                    refine Bz.wpAnyE_take (i := 6) (oi := { dst := some 133, op := Go.Op.move (Go.Operand.tmp 8), type := 29, pos := "law.go:130", after := #[], guard := none }) (v := ?_) rfl (by kernel_rfl) (by kernel_rfl) (by kernel_rfl) (by kernel_rfl) (fun _ _ _ h => h) (Or.inl ⟨by rfl, ?_⟩) hHeld ?_
                    rotate_left 1
                    · (intro w hSw; have f1 := FW w hSw; have f2 := FG w hSw; have f3 := F13 w hSw; have f4 := FS w hSw; go_simp; first | done | with_reducible rfl)
                    try simp only [Act.put, List.setIfInBounds_toArray, List.set_cons_zero, List.set_cons_succ]
                    refine Bz.wpAnyE_take (i := 7) (oi := { dst := some 134, op := Go.Op.move (Go.Operand.tmp 12), type := 3, pos := "law.go:130", after := #[], guard := none }) (v := ?_) rfl (by kernel_rfl) (by kernel_rfl) (by kernel_rfl) (by kernel_rfl) (fun _ _ _ h => h) (Or.inl ⟨by rfl, ?_⟩) hHeld ?_
                    rotate_left 1
                    · (intro w hSw; have f1 := FW w hSw; have f2 := FG w hSw; have f3 := F13 w hSw; have f4 := FS w hSw; go_simp; first | done | with_reducible rfl)
                    try simp only [Act.put, List.setIfInBounds_toArray, List.set_cons_zero, List.set_cons_succ]
                    refine Bz.wpAnyE_take (i := 8) (oi := { dst := some 135, op := Go.Op.indexAddr 29 (Go.Operand.tmp 133) (Go.Operand.tmp 134), type := 0, pos := "law.go:130", after := #[{ on := 6, ground := Go.Ground.data }, { on := 7, ground := Go.Ground.data }], guard := none }) (v := ?_) rfl (by kernel_rfl) (by kernel_rfl) (by kernel_rfl) (by kernel_rfl) (fun _ _ _ h => h) (Or.inl ⟨by rfl, ?_⟩) hHeld ?_
                    rotate_left 1
                    · (intro w hSw; have f1 := FW w hSw; have f2 := FG w hSw; have f3 := F13 w hSw; have f4 := FS w hSw; go_simp; first | done | with_reducible rfl)
                    try simp only [Act.put, List.setIfInBounds_toArray, List.set_cons_zero, List.set_cons_succ]
                    refine Bz.wpAnyE_take (i := 9) (oi := { dst := some 136, op := Go.Op.load 3 (Go.Operand.tmp 135), type := 3, pos := "law.go:130", after := #[{ on := 8, ground := Go.Ground.data }], guard := none }) (v := ?_) rfl (by kernel_rfl) (by kernel_rfl) (by kernel_rfl) (by kernel_rfl) (fun _ _ _ h => h) (Or.inl ⟨by rfl, ?_⟩) hHeld ?_
                    rotate_left 1
                    · (intro w hSw; have f1 := FW w hSw; have f2 := FG w hSw; have f3 := F13 w hSw; have f4 := FS w hSw; go_simp; first | done | with_reducible rfl)
                    try simp only [Act.put, List.setIfInBounds_toArray, List.set_cons_zero, List.set_cons_succ]
                    refine Bz.wpAnyE_take (i := 10) (oi := { dst := some 137, op := Go.Op.convert 3 5 (Go.Operand.tmp 136), type := 5, pos := "law.go:130", after := #[{ on := 9, ground := Go.Ground.data }], guard := none }) (v := ?_) rfl (by kernel_rfl) (by kernel_rfl) (by kernel_rfl) (by kernel_rfl) (fun _ _ _ h => h) (Or.inl ⟨by rfl, ?_⟩) hHeld ?_
                    rotate_left 1
                    · (intro w hSw; have f1 := FW w hSw; have f2 := FG w hSw; have f3 := F13 w hSw; have f4 := FS w hSw; go_simp; first | done | with_reducible rfl)
                    try simp only [Act.put, List.setIfInBounds_toArray, List.set_cons_zero, List.set_cons_succ]
                    refine Bz.wpAnyE_ready (rs := [11]) (by kernel_rfl) (by simp) ?_
                    refine Bz.AllReadyE.cons (o := { dst := some 138, op := Go.Op.buildSlice 33 1 #[(0, Go.Operand.tmp 137)], type := 33, pos := "law.go:130", after := #[{ on := 10, ground := Go.Ground.data }], guard := none }) rfl (fun K hK => ?_) Bz.AllReadyE.nil
                    
                    go_simp
                    have hBy : Blk (w9.alloc (.cells #[.int .u8 wi] 5)).drew w9.heap.size 5 (([(wi : Int)] : List Int).map (Value.int .u8)).toArray := Blk.drew (Blk.new _ _ _)
                    refine hK.out _ _ (by exact hHeld.alloc _) ?_
                    clear hHeld hK K; intro hHeld
                    try simp only [Act.put, List.setIfInBounds_toArray, List.set_cons_zero, List.set_cons_succ]
                    refine Bz.wpAnyE_ready (rs := [12]) (by kernel_rfl) (by simp) ?_
                    refine Bz.AllReadyE.cons (o := { dst := some 139, op := Go.Op.convert 33 9 (Go.Operand.tmp 138), type := 9, pos := "law.go:130", after := #[{ on := 11, ground := Go.Ground.data }], guard := none }) rfl (fun K hK => ?_) Bz.AllReadyE.nil
                    
                    have hcv : (convert 33 9 (.slice (some ⟨w9.heap.size, 0, none⟩) 1 1)).run Try.prog (w9.alloc (.cells #[.int .u8 wi] 5)).drew = .ok (.string (strOfNums [(wi : Int)])) (w9.alloc (.cells #[.int .u8 wi] 5)).drew := run_str Try.underlying33 Try.underlying5 (ints_lit hBy (show (1 : Nat) ≤ maxLen from by decide)) 9 Try.underlying9
                    go_simp
                    refine hK.out _ _ (by exact hHeld) ?_
                    clear hHeld hK K; intro hHeld
                    try simp only [Act.put, List.setIfInBounds_toArray, List.set_cons_zero, List.set_cons_succ]
                    refine Bz.wpAnyE_take (i := 13) (oi := { dst := some 140, op := Go.Op.binOp Go.BinOp.neq 9 (Go.Operand.tmp 132) (Go.Operand.tmp 139) 9, type := 4, pos := "law.go:130", after := #[{ on := 5, ground := Go.Ground.data }, { on := 12, ground := Go.Ground.data }], guard := none }) (v := ?_) rfl (by kernel_rfl) (by kernel_rfl) (by kernel_rfl) (by kernel_rfl) (fun _ _ _ h => h) (Or.inl ⟨by rfl, ?_⟩) hHeld ?_
                    rotate_left 1
                    · (intro w hSw; have f1 := FW w hSw; have f2 := FG w hSw; have f3 := F13 w hSw; have f4 := FS w hSw; go_simp; first | done | with_reducible rfl)
                    try simp only [Act.put, List.setIfInBounds_toArray, List.set_cons_zero, List.set_cons_succ]
                    refine Bz.wpAnyE_take (i := 14) (oi := { dst := some 141, op := Go.Op.move (Go.Operand.tmp 140), type := 4, pos := "law.go:130", after := #[{ on := 13, ground := Go.Ground.data }], guard := none }) (v := ?_) rfl (by kernel_rfl) (by kernel_rfl) (by kernel_rfl) (by kernel_rfl) (fun _ _ _ h => h) (Or.inl ⟨by rfl, ?_⟩) hHeld ?_
                    rotate_left 1
                    · (intro w hSw; have f1 := FW w hSw; have f2 := FG w hSw; have f3 := F13 w hSw; have f4 := FS w hSw; go_simp; first | done | with_reducible rfl)
                    try simp only [Act.put, List.setIfInBounds_toArray, List.set_cons_zero, List.set_cons_succ]
                    refine Bz.wpAnyE_take (i := 15) (oi := { dst := some 142, op := Go.Op.move (Go.Operand.tmp 11), type := 36, pos := "law.go:130", after := #[{ on := 14, ground := Go.Ground.guard }], guard := some (14, false) }) (v := ?_) rfl (by kernel_rfl) (by kernel_rfl) (by kernel_rfl) (by kernel_rfl) (fun _ _ _ h => h) (Or.inl ⟨by rfl, ?_⟩) hHeld ?_
                    rotate_left 1
                    · (intro w hSw; have f1 := FW w hSw; have f2 := FG w hSw; have f3 := F13 w hSw; have f4 := FS w hSw; go_simp; first | done | with_reducible rfl)
                    try simp only [Act.put, List.setIfInBounds_toArray, List.set_cons_zero, List.set_cons_succ]
                    refine Bz.wpAnyE_take (i := 16) (oi := { dst := some 143, op := Go.Op.move (Go.Operand.tmp 12), type := 3, pos := "law.go:130", after := #[{ on := 14, ground := Go.Ground.guard }], guard := some (14, false) }) (v := ?_) rfl (by kernel_rfl) (by kernel_rfl) (by kernel_rfl) (by kernel_rfl) (fun _ _ _ h => h) (Or.inl ⟨by rfl, ?_⟩) hHeld ?_
                    rotate_left 1
                    · (intro w hSw; have f1 := FW w hSw; have f2 := FG w hSw; have f3 := F13 w hSw; have f4 := FS w hSw; go_simp; first | done | with_reducible rfl)
                    try simp only [Act.put, List.setIfInBounds_toArray, List.set_cons_zero, List.set_cons_succ]
                    refine Bz.wpAnyE_take (i := 17) (oi := { dst := some 144, op := Go.Op.indexAddr 36 (Go.Operand.tmp 142) (Go.Operand.tmp 143), type := 0, pos := "law.go:130", after := #[{ on := 15, ground := Go.Ground.data }, { on := 16, ground := Go.Ground.data }, { on := 14, ground := Go.Ground.guard }], guard := some (14, false) }) (v := ?_) rfl (by kernel_rfl) (by kernel_rfl) (by kernel_rfl) (by kernel_rfl) (fun _ _ _ h => h) (Or.inl ⟨by rfl, ?_⟩) hHeld ?_
                    rotate_left 1
                    · (intro w hSw; have f1 := FW w hSw; have f2 := FG w hSw; have f3 := F13 w hSw; have f4 := FS w hSw; go_simp; first | done | with_reducible rfl)
                    try simp only [Act.put, List.setIfInBounds_toArray, List.set_cons_zero, List.set_cons_succ]
                    refine Bz.wpAnyE_take (i := 18) (oi := { dst := some 145, op := Go.Op.fieldAddr 35 (Go.Operand.tmp 144) 0, type := 0, pos := "law.go:130", after := #[{ on := 17, ground := Go.Ground.data }, { on := 14, ground := Go.Ground.guard }], guard := some (14, false) }) (v := ?_) rfl (by kernel_rfl) (by kernel_rfl) (by kernel_rfl) (by kernel_rfl) (fun _ _ _ h => h) (Or.inl ⟨by rfl, ?_⟩) hHeld ?_
                    rotate_left 1
                    · (intro w hSw; have f1 := FW w hSw; have f2 := FG w hSw; have f3 := F13 w hSw; have f4 := FS w hSw; go_simp; first | done | with_reducible rfl)
                    try simp only [Act.put, List.setIfInBounds_toArray, List.set_cons_zero, List.set_cons_succ]
                    refine Bz.wpAnyE_take (i := 19) (oi := { dst := some 146, op := Go.Op.load 3 (Go.Operand.tmp 145), type := 3, pos := "law.go:130", after := #[{ on := 18, ground := Go.Ground.data }, { on := 14, ground := Go.Ground.guard }], guard := some (14, false) }) (v := ?_) rfl (by kernel_rfl) (by kernel_rfl) (by kernel_rfl) (by kernel_rfl) (fun _ _ _ h => h) (Or.inl ⟨by rfl, ?_⟩) hHeld ?_
                    rotate_left 1
                    · (intro w hSw; have f1 := FW w hSw; have f2 := FG w hSw; have f3 := F13 w hSw; have f4 := FS w hSw; go_simp; first | done | with_reducible rfl)
                    try simp only [Act.put, List.setIfInBounds_toArray, List.set_cons_zero, List.set_cons_succ]
                    refine Bz.wpAnyE_take (i := 20) (oi := { dst := some 147, op := Go.Op.indexAddr 28 (Go.Operand.tmp 13) (Go.Operand.const (Go.Value.int Go.IntKind.i64 0)), type := 0, pos := "law.go:130", after := #[{ on := 14, ground := Go.Ground.guard }], guard := some (14, false) }) (v := ?_) rfl (by kernel_rfl) (by kernel_rfl) (by kernel_rfl) (by kernel_rfl) (fun _ _ _ h => h) (Or.inl ⟨by rfl, ?_⟩) hHeld ?_
                    rotate_left 1
                    · (intro w hSw; have f1 := FW w hSw; have f2 := FG w hSw; have f3 := F13 w hSw; have f4 := FS w hSw; go_simp; first | done | with_reducible rfl)
                    try simp only [Act.put, List.setIfInBounds_toArray, List.set_cons_zero, List.set_cons_succ]
                    refine Bz.wpAnyE_take (i := 21) (oi := { dst := some 148, op := Go.Op.load 5 (Go.Operand.tmp 147), type := 5, pos := "law.go:130", after := #[{ on := 20, ground := Go.Ground.data }, { on := 14, ground := Go.Ground.guard }], guard := some (14, false) }) (v := ?_) rfl (by kernel_rfl) (by kernel_rfl) (by kernel_rfl) (by kernel_rfl) (fun _ _ _ h => h) (Or.inl ⟨by rfl, ?_⟩) hHeld ?_
                    rotate_left 1
                    · (intro w hSw; have f1 := FW w hSw; have f2 := FG w hSw; have f3 := F13 w hSw; have f4 := FS w hSw; go_simp; first | done | with_reducible rfl)
                    try simp only [Act.put, List.setIfInBounds_toArray, List.set_cons_zero, List.set_cons_succ]
                    refine Bz.wpAnyE_take (i := 22) (oi := { dst := some 149, op := Go.Op.binOp Go.BinOp.rem 5 (Go.Operand.tmp 148) (Go.Operand.const (Go.Value.int Go.IntKind.u8 3)) 5, type := 5, pos := "law.go:130", after := #[{ on := 21, ground := Go.Ground.data }, { on := 14, ground := Go.Ground.guard }], guard := some (14, false) }) (v := ?_) rfl (by kernel_rfl) (by kernel_rfl) (by kernel_rfl) (by kernel_rfl) (fun _ _ _ h => h) (Or.inl ⟨by rfl, ?_⟩) hHeld ?_
                    rotate_left 1
                    · (intro w hSw; have f1 := FW w hSw; have f2 := FG w hSw; have f3 := F13 w hSw; have f4 := FS w hSw; go_simp; first | done | with_reducible rfl)
                    try simp only [Act.put, List.setIfInBounds_toArray, List.set_cons_zero, List.set_cons_succ]
                    refine Bz.wpAnyE_take (i := 23) (oi := { dst := some 150, op := Go.Op.convert 5 3 (Go.Operand.tmp 149), type := 3, pos := "law.go:130", after := #[{ on := 22, ground := Go.Ground.data }, { on := 14, ground := Go.Ground.guard }], guard := some (14, false) }) (v := ?_) rfl (by kernel_rfl) (by kernel_rfl) (by kernel_rfl) (by kernel_rfl) (fun _ _ _ h => h) (Or.inl ⟨by rfl, ?_⟩) hHeld ?_
                    rotate_left 1
                    · (intro w hSw; have f1 := FW w hSw; have f2 := FG w hSw; have f3 := F13 w hSw; have f4 := FS w hSw; go_simp; first | done | with_reducible rfl)
                    try simp only [Act.put, List.setIfInBounds_toArray, List.set_cons_zero, List.set_cons_succ]
                    refine Bz.wpAnyE_take (i := 24) (oi := { dst := some 151, op := Go.Op.binOp Go.BinOp.neq 3 (Go.Operand.tmp 146) (Go.Operand.tmp 150) 3, type := 4, pos := "law.go:130", after := #[{ on := 19, ground := Go.Ground.data }, { on := 23, ground := Go.Ground.data }, { on := 14, ground := Go.Ground.guard }], guard := some (14, false) }) (v := ?_) rfl (by kernel_rfl) (by kernel_rfl) (by kernel_rfl) (by kernel_rfl) (fun _ _ _ h => h) (Or.inl ⟨by rfl, ?_⟩) hHeld ?_
                    rotate_left 1
                    · (intro w hSw; have f1 := FW w hSw; have f2 := FG w hSw; have f3 := F13 w hSw; have f4 := FS w hSw; go_simp; first | done | with_reducible rfl)
                    try simp only [Act.put, List.setIfInBounds_toArray, List.set_cons_zero, List.set_cons_succ]
                    refine Bz.wpAnyE_take (i := 25) (oi := { dst := some 152, op := Go.Op.pick (Go.Operand.tmp 141) (Go.Operand.const (Go.Value.bool true)) (Go.Operand.tmp 151), type := 4, pos := "law.go:130", after := #[{ on := 14, ground := Go.Ground.data }, { on := 24, ground := Go.Ground.data }], guard := none }) (v := ?_) rfl (by kernel_rfl) (by kernel_rfl) (by kernel_rfl) (by kernel_rfl) (fun _ _ _ h => h) (Or.inl ⟨by rfl, ?_⟩) hHeld ?_
                    rotate_left 1
                    · (intro w hSw; have f1 := FW w hSw; have f2 := FG w hSw; have f3 := F13 w hSw; have f4 := FS w hSw; go_simp; first | done | with_reducible rfl)
                    try simp only [Act.put, List.setIfInBounds_toArray, List.set_cons_zero, List.set_cons_succ]
                    refine Bz.wpAnyE_take (i := 26) (oi := { dst := some 153, op := Go.Op.move (Go.Operand.tmp 152), type := 4, pos := "law.go:130", after := #[{ on := 25, ground := Go.Ground.data }, { on := 14, ground := Go.Ground.chain }], guard := none }) (v := ?_) rfl (by kernel_rfl) (by kernel_rfl) (by kernel_rfl) (by kernel_rfl) (fun _ _ _ h => h) (Or.inl ⟨by rfl, ?_⟩) hHeld ?_
                    rotate_left 1
                    · (intro w hSw; have f1 := FW w hSw; have f2 := FG w hSw; have f3 := F13 w hSw; have f4 := FS w hSw; go_simp; first | done | with_reducible rfl)
                    try simp only [Act.put, List.setIfInBounds_toArray, List.set_cons_zero, List.set_cons_succ]
                    refine Bz.wpAnyE_take (i := 27) (oi := { dst := some 154, op := Go.Op.move (Go.Operand.tmp 11), type := 36, pos := "law.go:130", after := #[{ on := 26, ground := Go.Ground.guard }], guard := some (26, false) }) (v := ?_) rfl (by kernel_rfl) (by kernel_rfl) (by kernel_rfl) (by kernel_rfl) (fun _ _ _ h => h) (Or.inl ⟨by rfl, ?_⟩) hHeld ?_
                    rotate_left 1
                    · (intro w hSw; have f1 := FW w hSw; have f2 := FG w hSw; have f3 := F13 w hSw; have f4 := FS w hSw; go_simp; first | done | with_reducible rfl)
                    try simp only [Act.put, List.setIfInBounds_toArray, List.set_cons_zero, List.set_cons_succ]
                    refine Bz.wpAnyE_take (i := 28) (oi := { dst := some 155, op := Go.Op.move (Go.Operand.tmp 12), type := 3, pos := "law.go:130", after := #[{ on := 26, ground := Go.Ground.guard }], guard := some (26, false) }) (v := ?_) rfl (by kernel_rfl) (by kernel_rfl) (by kernel_rfl) (by kernel_rfl) (fun _ _ _ h => h) (Or.inl ⟨by rfl, ?_⟩) hHeld ?_
                    rotate_left 1
                    · (intro w hSw; have f1 := FW w hSw; have f2 := FG w hSw; have f3 := F13 w hSw; have f4 := FS w hSw; go_simp; first | done | with_reducible rfl)
                    try simp only [Act.put, List.setIfInBounds_toArray, List.set_cons_zero, List.set_cons_succ]
                    refine Bz.wpAnyE_take (i := 29) (oi := { dst := some 156, op := Go.Op.indexAddr 36 (Go.Operand.tmp 154) (Go.Operand.tmp 155), type := 0, pos := "law.go:130", after := #[{ on := 27, ground := Go.Ground.data }, { on := 28, ground := Go.Ground.data }, { on := 26, ground := Go.Ground.guard }], guard := some (26, false) }) (v := ?_) rfl (by kernel_rfl) (by kernel_rfl) (by kernel_rfl) (by kernel_rfl) (fun _ _ _ h => h) (Or.inl ⟨by rfl, ?_⟩) hHeld ?_
                    rotate_left 1
                    · (intro w hSw; have f1 := FW w hSw; have f2 := FG w hSw; have f3 := F13 w hSw; have f4 := FS w hSw; go_simp; first | done | with_reducible rfl)
                    try simp only [Act.put, List.setIfInBounds_toArray, List.set_cons_zero, List.set_cons_succ]
                    refine Bz.wpAnyE_take (i := 30) (oi := { dst := some 157, op := Go.Op.fieldAddr 35 (Go.Operand.tmp 156) 1, type := 0, pos := "law.go:130", after := #[{ on := 29, ground := Go.Ground.data }, { on := 26, ground := Go.Ground.guard }], guard := some (26, false) }) (v := ?_) rfl (by kernel_rfl) (by kernel_rfl) (by kernel_rfl) (by kernel_rfl) (fun _ _ _ h => h) (Or.inl ⟨by rfl, ?_⟩) hHeld ?_
                    rotate_left 1
                    · (intro w hSw; have f1 := FW w hSw; have f2 := FG w hSw; have f3 := F13 w hSw; have f4 := FS w hSw; go_simp; first | done | with_reducible rfl)
                    try simp only [Act.put, List.setIfInBounds_toArray, List.set_cons_zero, List.set_cons_succ]
                    refine Bz.wpAnyE_take (i := 31) (oi := { dst := some 158, op := Go.Op.load 3 (Go.Operand.tmp 157), type := 3, pos := "law.go:130", after := #[{ on := 30, ground := Go.Ground.data }, { on := 26, ground := Go.Ground.guard }], guard := some (26, false) }) (v := ?_) rfl (by kernel_rfl) (by kernel_rfl) (by kernel_rfl) (by kernel_rfl) (fun _ _ _ h => h) (Or.inl ⟨by rfl, ?_⟩) hHeld ?_
                    rotate_left 1
                    · (intro w hSw; have f1 := FW w hSw; have f2 := FG w hSw; have f3 := F13 w hSw; have f4 := FS w hSw; go_simp; first | done | with_reducible rfl)
                    try simp only [Act.put, List.setIfInBounds_toArray, List.set_cons_zero, List.set_cons_succ]
                    refine Bz.wpAnyE_take (i := 32) (oi := { dst := some 159, op := Go.Op.indexAddr 28 (Go.Operand.tmp 13) (Go.Operand.const (Go.Value.int Go.IntKind.i64 1)), type := 0, pos := "law.go:130", after := #[{ on := 26, ground := Go.Ground.guard }], guard := some (26, false) }) (v := ?_) rfl (by kernel_rfl) (by kernel_rfl) (by kernel_rfl) (by kernel_rfl) (fun _ _ _ h => h) (Or.inl ⟨by rfl, ?_⟩) hHeld ?_
                    rotate_left 1
                    · (intro w hSw; have f1 := FW w hSw; have f2 := FG w hSw; have f3 := F13 w hSw; have f4 := FS w hSw; go_simp; first | done | with_reducible rfl)
                    try simp only [Act.put, List.setIfInBounds_toArray, List.set_cons_zero, List.set_cons_succ]
                    refine Bz.wpAnyE_take (i := 33) (oi := { dst := some 160, op := Go.Op.load 5 (Go.Operand.tmp 159), type := 5, pos := "law.go:130", after := #[{ on := 32, ground := Go.Ground.data }, { on := 26, ground := Go.Ground.guard }], guard := some (26, false) }) (v := ?_) rfl (by kernel_rfl) (by kernel_rfl) (by kernel_rfl) (by kernel_rfl) (fun _ _ _ h => h) (Or.inl ⟨by rfl, ?_⟩) hHeld ?_
                    rotate_left 1
                    · (intro w hSw; have f1 := FW w hSw; have f2 := FG w hSw; have f3 := F13 w hSw; have f4 := FS w hSw; go_simp; first | done | with_reducible rfl)
                    try simp only [Act.put, List.setIfInBounds_toArray, List.set_cons_zero, List.set_cons_succ]
                    refine Bz.wpAnyE_take (i := 34) (oi := { dst := some 161, op := Go.Op.binOp Go.BinOp.rem 5 (Go.Operand.tmp 160) (Go.Operand.const (Go.Value.int Go.IntKind.u8 3)) 5, type := 5, pos := "law.go:130", after := #[{ on := 33, ground := Go.Ground.data }, { on := 26, ground := Go.Ground.guard }], guard := some (26, false) }) (v := ?_) rfl (by kernel_rfl) (by kernel_rfl) (by kernel_rfl) (by kernel_rfl) (fun _ _ _ h => h) (Or.inl ⟨by rfl, ?_⟩) hHeld ?_
                    rotate_left 1
                    · (intro w hSw; have f1 := FW w hSw; have f2 := FG w hSw; have f3 := F13 w hSw; have f4 := FS w hSw; go_simp; first | done | with_reducible rfl)
                    try simp only [Act.put, List.setIfInBounds_toArray, List.set_cons_zero, List.set_cons_succ]
                    refine Bz.wpAnyE_take (i := 35) (oi := { dst := some 162, op := Go.Op.convert 5 3 (Go.Operand.tmp 161), type := 3, pos := "law.go:130", after := #[{ on := 34, ground := Go.Ground.data }, { on := 26, ground := Go.Ground.guard }], guard := some (26, false) }) (v := ?_) rfl (by kernel_rfl) (by kernel_rfl) (by kernel_rfl) (by kernel_rfl) (fun _ _ _ h => h) (Or.inl ⟨by rfl, ?_⟩) hHeld ?_
                    rotate_left 1
                    · (intro w hSw; have f1 := FW w hSw; have f2 := FG w hSw; have f3 := F13 w hSw; have f4 := FS w hSw; go_simp; first | done | with_reducible rfl)
                    try simp only [Act.put, List.setIfInBounds_toArray, List.set_cons_zero, List.set_cons_succ]
                    refine Bz.wpAnyE_take (i := 36) (oi := { dst := some 163, op := Go.Op.binOp Go.BinOp.neq 3 (Go.Operand.tmp 158) (Go.Operand.tmp 162) 3, type := 4, pos := "law.go:130", after := #[{ on := 31, ground := Go.Ground.data }, { on := 35, ground := Go.Ground.data }, { on := 26, ground := Go.Ground.guard }], guard := some (26, false) }) (v := ?_) rfl (by kernel_rfl) (by kernel_rfl) (by kernel_rfl) (by kernel_rfl) (fun _ _ _ h => h) (Or.inl ⟨by rfl, ?_⟩) hHeld ?_
                    rotate_left 1
                    · (intro w hSw; have f1 := FW w hSw; have f2 := FG w hSw; have f3 := F13 w hSw; have f4 := FS w hSw; go_simp; first | done | with_reducible rfl)
                    try simp only [Act.put, List.setIfInBounds_toArray, List.set_cons_zero, List.set_cons_succ]
                    refine Bz.wpAnyE_take (i := 37) (oi := { dst := some 164, op := Go.Op.pick (Go.Operand.tmp 153) (Go.Operand.const (Go.Value.bool true)) (Go.Operand.tmp 163), type := 4, pos := "law.go:130", after := #[{ on := 26, ground := Go.Ground.data }, { on := 36, ground := Go.Ground.data }], guard := none }) (v := ?_) rfl (by kernel_rfl) (by kernel_rfl) (by kernel_rfl) (by kernel_rfl) (fun _ _ _ h => h) (Or.inl ⟨by rfl, ?_⟩) hHeld ?_
                    rotate_left 1
                    · (intro w hSw; have f1 := FW w hSw; have f2 := FG w hSw; have f3 := F13 w hSw; have f4 := FS w hSw; go_simp; first | done | with_reducible rfl)
                    try simp only [Act.put, List.setIfInBounds_toArray, List.set_cons_zero, List.set_cons_succ]
                    refine Bz.wpAnyE_done (by kernel_rfl) ?_ _
                    refine NoPanic.normal ?_
                    
                    go_wp2_with fail
                    have hq := HX.out.1
                    go_roundg (n - (q + 1))
                    case measure => omega
                    case rel => exact ⟨q + 1, by go_num, by omega, hK9.trans hHeld⟩
                  · go_wp2_with fail
                    go_roundg (50 - (j + 1))
                    case measure => have := HJ.out; omega
                    case rel => exact ⟨j + 1, _, by go_num, Lib.hid (by have := HJ.out; omega), hN7.keep0 hKy, hS', hKw7.trans hKy⟩
          · have hjj : j = 50 := by have := HJ.out; omega
            subst hjj
            have hw0 : S.way = 0 := HS.out.done hok
            have wc := way_any hN
            rw [hw0] at wc
            clear hw0
            go_wp2_with (first
              | (go_at_call 15; refine wc.mono ?_; rintro e w8 ⟨rfl, hk8⟩)
              | (go_at_call 12; refine (told_any _).mono ?_; rintro e w9 ⟨rfl, hk9⟩)
              | fail)
            go_ret
            exact ⟨rfl, (hKw.trans hk8).trans hk9⟩
end Go.Proofs.Ytcjbmbljmmakfaa
