/- The law's fair and both walked. -/
import Derived.Test.YtcjbmbljmmakfaaDo2
namespace Go.Proofs.Ytcjbmbljmmakfaa
open Go.RowKit Go.Bz

/-- Deeds that came in. -/
structure DsAt (w : World) (V : Value) (D : List Deed) : Prop where
  rd : RdV w 5 denc V D
  each : ∀ d ∈ D, RdV w 1 ienc d.L d.l ∧ SomeOr d.L ∧ 0 ≤ d.w ∧ d.w ≤ 255
theorem DsAt.keep0 {w w' : World} {V : Value} {D : List Deed} (h : DsAt w V D) (hk : Keep [] w w') : DsAt w' V D :=
  ⟨h.rd.keep0 hk, fun d hd => ⟨(h.each d hd).1.keep0 hk, (h.each d hd).2⟩⟩
/-- What fair says. -/
def FairRes (D : List Deed) (e : Ending) : Prop := ∃ b, e = .returned (.bool b) ∧ (b = true → D.length ≤ 60 ∧ ∀ d ∈ D, d.s.size ≤ 100 ∧ d.l.length ≤ 20)
def Fair (D : List Deed) : Prop := D.length ≤ 60 ∧ ∀ d ∈ D, d.s.size ≤ 100 ∧ d.l.length ≤ 20
theorem dAt {w : World} {V : Value} {D : List Deed} (h : RdV w 5 denc V D) {k : Nat} {e : Deed} (hk : D[k]? = some e) : ∃ ab ao cp, V = .slice (some ⟨ab, ao, none⟩) D.length cp ∧ ab < w.heap.size ∧
    (w.cell? ⟨ab, ao + k * 5, none⟩ = some (.int .u8 e.w) ∧ w.cell? ⟨ab, ao + k * 5 + 1, none⟩ = some (.int .i64 e.a) ∧ w.cell? ⟨ab, ao + k * 5 + 2, none⟩ = some (.int .i64 e.b) ∧ w.cell? ⟨ab, ao + k * 5 + 3, none⟩ = some (.string e.s) ∧ w.cell? ⟨ab, ao + k * 5 + 4, none⟩ = some e.L) := by
  obtain ⟨ab, ao, cp, hv, hlt, hc⟩ := h.at_ hk
  exact ⟨ab, ao, cp, hv, hlt, by simpa using hc 0 (by decide), by simpa using hc 1 (by decide), by simpa using hc 2 (by decide), by simpa using hc 3 (by decide), by simpa using hc 4 (by decide)⟩
set_option maxRecDepth 100000 in
set_option maxHeartbeats 1000000 in
theorem fair_any {w : World} {V : Value} {D : List Deed} (h : DsAt w V D) : Calls Try.prog 16 #[V] w (fun e w' => FairRes D e ∧ Keep [] w w') := by
  obtain ⟨A, cap, rfl, hc1, hc2, _⟩ := id h.rd
  unfold maxLen at hc2
  go_enter Try.func16, Try.ntmps16
  go_wp2_with fail
  go_loopg [3] D.length (fun m i wr => ∃ k : Nat, i = .int .i64 k ∧ m + k = D.length ∧ Hid (∀ d ∈ D.take k, d.s.size ≤ 100 ∧ d.l.length ≤ 20) ∧ wr = w)
  case atStart => exact ⟨0, rfl, rfl, Lib.hid (by simp), rfl⟩
  case round =>
    obtain ⟨k, rfl, hk, HF, rfl⟩ := hrel
    by_cases hlt : k < D.length
    · obtain ⟨d, hd⟩ : ∃ d, D[k]? = some d := ⟨_, List.getElem?_eq_getElem hlt⟩
      obtain ⟨ab, ao, cp, hv, _, hcl⟩ := dAt h.rd hd
      cases hv
      obtain ⟨hL, _, hw⟩ := h.each d (List.mem_of_getElem? hd)
      have HT := Lib.hid (show D.take (k + 1) = D.take k ++ [d] by rw [List.take_add_one, hd]; rfl)
      obtain ⟨AL, cL, hL', _⟩ := hL
      obtain ⟨dw, da, db, ds, L, l⟩ := d
      simp only at hcl hL'
      subst hL'
      clear hd
      by_cases h1 : (100 : Int) < (ds.size : Int)
      · go_wp2_with fail
        go_ret
        exact ⟨⟨_, rfl, fun h => by cases h⟩, Keep.refl _ _⟩
      · have h1' : decide ((100 : Int) < (ds.size : Int)) = false := by simp; omega
        by_cases h2 : (20 : Int) < (l.length : Int)
        · go_wp2_with fail
          go_ret
          exact ⟨⟨_, rfl, fun h => by cases h⟩, Keep.refl _ _⟩
        · have h2' : decide ((20 : Int) < (l.length : Int)) = false := by simp; omega
          have HB := Lib.hid (And.intro h1 h2)
          clear h1 h2
          go_wp2_with fail
          go_roundg (D.length - (k + 1))
          case measure => omega
          case rel =>
            refine ⟨k + 1, by go_num, by omega, Lib.hid (fun d hd => ?_), rfl⟩
            rw [HT.out, List.mem_append] at hd
            rcases hd with hd | hd
            · exact HF.out d hd
            · simp at hd
              subst hd
              have := HB.out
              exact ⟨by show ds.size ≤ 100; omega, by show l.length ≤ 20; omega⟩
    · have HF : Hid (∀ d ∈ D, d.s.size ≤ 100 ∧ d.l.length ≤ 20) := Lib.hid (by rw [← List.take_of_length_le (l := D) (i := k) (by omega)]; exact HF.out)
      go_wp2_with fail
      go_ret
      exact ⟨⟨_, rfl, fun hb => ⟨by simp at hb; omega, HF.out⟩⟩, Keep.refl _ _⟩
/-- What both leaves. -/
structure BothPost (w w' : World) (t : Nat) (N : RN) (V C : Value) (n : Nat) (mb : Nat) (S : NS) (R B : List Nat) : Prop where
  net : NetAt w' t mb S R B
  rn : RnAt w' N V C
  act : ActS S N n
  cuts : N.cuts.length ≤ n
  ht : w.heap.size ≤ t
  hmb : w.heap.size ≤ mb
  hR : ∀ r ∈ R, w.heap.size ≤ r
  k : Keep [] w w'
set_option maxRecDepth 100000 in
set_option maxHeartbeats 1000000 in
theorem both_no {w : World} {p : Int} {V : Value} {D : List Deed} (h : DsAt w V D) (hp : p < 1 ∨ 16 < p) :
    Calls Try.prog 17 #[.int .i64 p, V] w (fun e w' => e = .returned (.tuple #[.pointer none, .agg (rcells ⟨0, 0, [], []⟩ (.slice none 0 0) (.slice none 0 0)), .bool true]) ∧ Keep [] w w') := by
  obtain ⟨A, cap, rfl, hc1, hc2, _⟩ := id h.rd
  unfold maxLen at hc2
  go_enter Try.func17, Try.ntmps17
  go_upto_region 5 with (first
    | (go_at_call 11; refine (new_bad p _ hp).mono ?_; rintro e w1 ⟨rfl, hk1⟩)
    | (go_at_call 28; refine (rnew_no p _ hp).mono ?_; rintro e w2 ⟨rfl, hk2⟩)
    | fail)
  obtain ⟨w3, hw3⟩ : ∃ W, W = w2.alloc (.cells #[.int .i64 0, .int .i64 0, .slice none 0 0, .slice none 0 0] 47) := ⟨_, rfl⟩
  have hka : Keep [] w2 w3 := by rw [hw3]; exact (Keep.refl _ _).alloc _
  have B9 : Blk w3 w2.heap.size 47 #[.int .i64 0, .int .i64 0, .slice none 0 0, .slice none 0 0] := by rw [hw3]; exact Blk.new _ _ _
  have hk13 := (hk1.trans hk2).trans hka
  have B5 : Blk w3 w.heap.size 47 #[.int .i64 0, .int .i64 0, .slice none 0 0, .slice none 0 0] := (Blk.new w 47 _).keep hk13 (by simp)
  have kw : Keep [] w w3 := ((Keep.refl _ _).alloc _).trans hk13
  rw [← hw3]
  clear hw3 hk1 hk2 hka hk13 h
  obtain ⟨g9, HG⟩ : ∃ g, Hid (g = w2.heap.size) := ⟨_, Lib.hid rfl⟩
  rw [← HG.out] at B9 ⊢
  have F9 := fun W (hk : Keep [] w3 W) => (B9.keep hk (by simp)).cell
  have fin : ∀ W, Keep [] w3 W → Blk W w.heap.size 47 #[.int .i64 0, .int .i64 0, .slice none 0 0, .slice none 0 0] ∧ Keep [] w W := fun W hk => ⟨B5.keep hk (by simp), kw.trans hk⟩
  clear B5 kw
  go_upto_region 6 with fail
  go_loopg [11] 0 (fun m i wr => m = 0 ∧ i = .int .i64 0 ∧ wr = w3)
  case atStart => exact ⟨rfl, rfl, rfl⟩
  case round =>
    obtain ⟨rfl, rfl, rfl⟩ := hrel
    obtain ⟨w3, rfl⟩ : ∃ W, W = wr := ⟨_, rfl⟩
    clear B9
    have key : (0 < D.length) ∨ D.length = 0 := by omega
    have done : ∀ W, Keep [] w3 W → ∃ W', W' = ((((W.setCell ⟨w.heap.size, 0, none⟩ (.int .i64 0)).setCell ⟨w.heap.size, 1, none⟩ (.int .i64 0)).setCell ⟨w.heap.size, 2, none⟩ (.slice none 0 0)).setCell ⟨w.heap.size, 3, none⟩ (.slice none 0 0)) ∧ Blk W' w.heap.size 47 #[.int .i64 0, .int .i64 0, .slice none 0 0, .slice none 0 0] ∧ Keep [] w W' := fun W hk => by
      obtain ⟨h1, h2⟩ := fin W hk
      obtain ⟨q1, q2, _⟩ := put4 h1 h2 (Nat.le_refl _) (.int .i64 0) (.int .i64 0) (.slice none 0 0) (.slice none 0 0)
      exact ⟨_, rfl, q1, q2⟩
    rcases key with h0 | h0
    · go_upto_region 10 with fail
      refine wp_region_noPanic ?_
      refine Bz.wp_region_E (S := (fun w' => Keep [] w3 w')) (E := [3]) (by kernel_rfl) (by exact (Keep.refl _ _).drew) (fun hHeld => ?_)
      obtain ⟨wd, hwd⟩ : ∃ W, W = w3.drew := ⟨_, rfl⟩
      rw [← hwd] at hHeld ⊢
      clear hwd
      refine Bz.wpAnyE_take (i := 0) (oi := { dst := some 73, op := Go.Op.move (Go.Operand.tmp 7), type := 23, pos := "law.go:91", after := #[], guard := none }) (v := ?_) rfl (by kernel_rfl) (by kernel_rfl) (by kernel_rfl) (by kernel_rfl) (fun _ _ _ h => h) (Or.inl ⟨by rfl, ?_⟩) hHeld ?_
      rotate_left 1
      · (intro w hSw; have q0 := F9 w hSw; go_simp; first | done | with_reducible rfl)
      try simp only [Act.put, List.setIfInBounds_toArray, List.set_cons_zero, List.set_cons_succ]
      refine Bz.wpAnyE_take (i := 1) (oi := { dst := some 74, op := Go.Op.load 47 (Go.Operand.tmp 9), type := 47, pos := "law.go:91", after := #[{ on := 2, ground := Go.Ground.gcOnly Go.Departure.lateStores }], guard := none }) (v := ?_) rfl (by kernel_rfl) (by kernel_rfl) (by kernel_rfl) (by kernel_rfl) (fun _ _ _ h => h) (Or.inl ⟨by rfl, ?_⟩) hHeld ?_
      rotate_left 1
      · (intro w hSw; have q0 := F9 w hSw; go_simp; first | done | with_reducible rfl)
      try simp only [Act.put, List.setIfInBounds_toArray, List.set_cons_zero, List.set_cons_succ]
      refine Bz.wpAnyE_take (i := 2) (oi := { dst := some 4, op := Go.Op.assign (Go.Operand.tmp 73), type := 23, pos := "law.go:91", after := #[{ on := 0, ground := Go.Ground.data }, { on := 0, ground := Go.Ground.phase }, { on := 1, ground := Go.Ground.textOnly Go.Departure.lateStores }], guard := none }) (v := ?_) rfl (by kernel_rfl) (by kernel_rfl) (by kernel_rfl) (by kernel_rfl) (fun _ _ _ h => h) (Or.inl ⟨by rfl, ?_⟩) hHeld ?_
      rotate_left 1
      · (intro w hSw; have q0 := F9 w hSw; go_simp; first | done | with_reducible rfl)
      try simp only [Act.put, List.setIfInBounds_toArray, List.set_cons_zero, List.set_cons_succ]
      refine Bz.wpAnyE_ready (rs := [3]) (by kernel_rfl) (by simp) ?_
      refine Bz.AllReadyE.last (o := { dst := none, op := Go.Op.store 47 (Go.Operand.tmp 5) (Go.Operand.tmp 74), type := 0, pos := "law.go:91", after := #[{ on := 1, ground := Go.Ground.data }, { on := 2, ground := Go.Ground.chain }, { on := 0, ground := Go.Ground.phase }, { on := 1, ground := Go.Ground.phase }, { on := 2, ground := Go.Ground.phase }], guard := none }) rfl (by rfl) (fun K hK => ?_) Bz.AllReadyE.nil
      
      have z0 := (fin _ hHeld).1.cell
      have z1 := (fin _ hHeld).1.frozen
      go_simp
      refine hK.out _ _ ?_
      clear hK K
      try simp only [Act.put, List.setIfInBounds_toArray, List.set_cons_zero, List.set_cons_succ]
      refine Bz.wpAnyE_takeT (i := 4) (oi := { dst := some 6, op := Go.Op.assign (Go.Operand.const (Go.Value.bool true)), type := 4, pos := "law.go:91", after := #[{ on := 3, ground := Go.Ground.chain }, { on := 0, ground := Go.Ground.phase }, { on := 1, ground := Go.Ground.phase }, { on := 2, ground := Go.Ground.phase }, { on := 3, ground := Go.Ground.phase }], guard := none }) (v := ?_) rfl (by kernel_rfl) (by kernel_rfl) (by kernel_rfl) (fun _ _ _ h => h) (Or.inl ⟨by rfl, ?_⟩) ?_
      rotate_left 1
      · (intro w _; go_simp; first | done | with_reducible rfl)
      try simp only [Act.put, List.setIfInBounds_toArray, List.set_cons_zero, List.set_cons_succ]
      refine Bz.wpAnyE_done (by kernel_rfl) ?_ _
      refine NoPanic.normal ?_
      
      obtain ⟨W', hW', hS, hk9⟩ := done _ hHeld
      have cS := hS.cell
      go_wp2_with fail
      rw [← hW']
      clear hW'
      exact bodyPost_ret (v := .tuple #[.pointer none, .agg #[.int .i64 0, .int .i64 0, .slice none 0 0, .slice none 0 0], .bool true]) (by simp [results, Try.results17, go_sem, cS]) rfl ⟨rfl, hk9⟩
    · rw [h0]
      go_upto_region 10 with fail
      refine wp_region_noPanic ?_
      refine Bz.wp_region_E (S := (fun w' => Keep [] w3 w')) (E := [3]) (by kernel_rfl) (by exact (Keep.refl _ _).drew) (fun hHeld => ?_)
      obtain ⟨wd, hwd⟩ : ∃ W, W = w3.drew := ⟨_, rfl⟩
      rw [← hwd] at hHeld ⊢
      clear hwd
      refine Bz.wpAnyE_take (i := 0) (oi := { dst := some 73, op := Go.Op.move (Go.Operand.tmp 7), type := 23, pos := "law.go:91", after := #[], guard := none }) (v := ?_) rfl (by kernel_rfl) (by kernel_rfl) (by kernel_rfl) (by kernel_rfl) (fun _ _ _ h => h) (Or.inl ⟨by rfl, ?_⟩) hHeld ?_
      rotate_left 1
      · (intro w hSw; have q0 := F9 w hSw; go_simp; first | done | with_reducible rfl)
      try simp only [Act.put, List.setIfInBounds_toArray, List.set_cons_zero, List.set_cons_succ]
      refine Bz.wpAnyE_take (i := 1) (oi := { dst := some 74, op := Go.Op.load 47 (Go.Operand.tmp 9), type := 47, pos := "law.go:91", after := #[{ on := 2, ground := Go.Ground.gcOnly Go.Departure.lateStores }], guard := none }) (v := ?_) rfl (by kernel_rfl) (by kernel_rfl) (by kernel_rfl) (by kernel_rfl) (fun _ _ _ h => h) (Or.inl ⟨by rfl, ?_⟩) hHeld ?_
      rotate_left 1
      · (intro w hSw; have q0 := F9 w hSw; go_simp; first | done | with_reducible rfl)
      try simp only [Act.put, List.setIfInBounds_toArray, List.set_cons_zero, List.set_cons_succ]
      refine Bz.wpAnyE_take (i := 2) (oi := { dst := some 4, op := Go.Op.assign (Go.Operand.tmp 73), type := 23, pos := "law.go:91", after := #[{ on := 0, ground := Go.Ground.data }, { on := 0, ground := Go.Ground.phase }, { on := 1, ground := Go.Ground.textOnly Go.Departure.lateStores }], guard := none }) (v := ?_) rfl (by kernel_rfl) (by kernel_rfl) (by kernel_rfl) (by kernel_rfl) (fun _ _ _ h => h) (Or.inl ⟨by rfl, ?_⟩) hHeld ?_
      rotate_left 1
      · (intro w hSw; have q0 := F9 w hSw; go_simp; first | done | with_reducible rfl)
      try simp only [Act.put, List.setIfInBounds_toArray, List.set_cons_zero, List.set_cons_succ]
      refine Bz.wpAnyE_ready (rs := [3]) (by kernel_rfl) (by simp) ?_
      refine Bz.AllReadyE.last (o := { dst := none, op := Go.Op.store 47 (Go.Operand.tmp 5) (Go.Operand.tmp 74), type := 0, pos := "law.go:91", after := #[{ on := 1, ground := Go.Ground.data }, { on := 2, ground := Go.Ground.chain }, { on := 0, ground := Go.Ground.phase }, { on := 1, ground := Go.Ground.phase }, { on := 2, ground := Go.Ground.phase }], guard := none }) rfl (by rfl) (fun K hK => ?_) Bz.AllReadyE.nil
      
      have z0 := (fin _ hHeld).1.cell
      have z1 := (fin _ hHeld).1.frozen
      go_simp
      refine hK.out _ _ ?_
      clear hK K
      try simp only [Act.put, List.setIfInBounds_toArray, List.set_cons_zero, List.set_cons_succ]
      refine Bz.wpAnyE_takeT (i := 4) (oi := { dst := some 6, op := Go.Op.assign (Go.Operand.const (Go.Value.bool true)), type := 4, pos := "law.go:91", after := #[{ on := 3, ground := Go.Ground.chain }, { on := 0, ground := Go.Ground.phase }, { on := 1, ground := Go.Ground.phase }, { on := 2, ground := Go.Ground.phase }, { on := 3, ground := Go.Ground.phase }], guard := none }) (v := ?_) rfl (by kernel_rfl) (by kernel_rfl) (by kernel_rfl) (fun _ _ _ h => h) (Or.inl ⟨by rfl, ?_⟩) ?_
      rotate_left 1
      · (intro w _; go_simp; first | done | with_reducible rfl)
      try simp only [Act.put, List.setIfInBounds_toArray, List.set_cons_zero, List.set_cons_succ]
      refine Bz.wpAnyE_done (by kernel_rfl) ?_ _
      refine NoPanic.normal ?_
      
      obtain ⟨W', hW', hS, hk9⟩ := done _ hHeld
      have cS := hS.cell
      go_wp2_with fail
      rw [← hW']
      clear hW'
      exact bodyPost_ret (v := .tuple #[.pointer none, .agg #[.int .i64 0, .int .i64 0, .slice none 0 0, .slice none 0 0], .bool true]) (by simp [results, Try.results17, go_sem, cS]) rfl ⟨rfl, hk9⟩
set_option maxRecDepth 100000 in
set_option maxHeartbeats 2000000 in
theorem both_any {w : World} {p : Int} {V : Value} {D : List Deed} (h : DsAt w V D) (hF : Fair D) (hp : 1 ≤ p ∧ p ≤ 16) :
    Calls Try.prog 17 #[.int .i64 p, V] w (fun e w' => ∃ t mb S R B N V' C', e = .returned (.tuple #[.pointer (some ⟨t, 0, none⟩), .agg (rcells N V' C'), .bool true]) ∧ BothPost w w' t N V' C' D.length mb S R B) := by
  obtain ⟨A, cap, rfl, hc1, hc2, _⟩ := id h.rd
  unfold maxLen at hc2
  go_enter Try.func17, Try.ntmps17
  go_upto_region 5 with (first
    | (go_at_call 11; refine (new_any p _ hp).mono ?_; rintro e w1 ⟨t, mb, rfl, ht, hmb, hN, hk1⟩)
    | (go_at_call 28; refine (rnew_any p _ hp).mono ?_; rintro e w2 ⟨rfl, hk2⟩)
    | fail)
  obtain ⟨w3, hw3⟩ : ∃ W, W = w2.alloc (.cells #[.int .i64 (RN.new p).P, .int .i64 (RN.new p).now, .slice none 0 0, .slice none 0 0] 47) := ⟨_, rfl⟩
  have hka : Keep [] w2 w3 := by rw [hw3]; exact (Keep.refl _ _).alloc _
  have B9 : Blk w3 w2.heap.size 47 (rcells (RN.new p) (.slice none 0 0) (.slice none 0 0)) := by rw [hw3]; exact Blk.new _ _ _
  have hk13 := (hk1.trans hk2).trans hka
  have B5 : Blk w3 w.heap.size 47 #[.int .i64 0, .int .i64 0, .slice none 0 0, .slice none 0 0] := (Blk.new w 47 _).keep hk13 (by simp)
  have kw : Keep [] w w3 := ((Keep.refl _ _).alloc _).trans hk13
  have hz2 := (hk1.trans hk2).size
  rw [← hw3]
  clear hw3
  have hz : w.heap.size < w2.heap.size := by simp at hz2; omega
  obtain ⟨g9, HG⟩ : ∃ g, Hid (g = w2.heap.size) := ⟨_, Lib.hid rfl⟩
  rw [← HG.out] at B9 hz ⊢
  have hb : BothAt w w3 t mb g9 (NS.new p) [] [] (RN.new p) (.slice none 0 0) (.slice none 0 0) :=
    ⟨(hN.keep0 hk2).keep0 hka, B9, RnAt.new w3 p, by simp at ht; omega, by simp at hmb; omega, by simp, by omega, kw⟩
  clear hk1 hk2 hka hk13 B9 kw hz2 hN ht hmb
  go_upto_region 6 with fail
  go_loopg [11] D.length (fun m i wr => ∃ (k : Nat) (S : NS) (R B : List Nat) (N : RN) (V C : Value), i = .int .i64 k ∧ m + k = D.length ∧ BothAt w wr t mb g9 S R B N V C ∧ Hid (ActS S N k ∧ N.cuts.length ≤ k) ∧ Blk wr w.heap.size 47 #[.int .i64 0, .int .i64 0, .slice none 0 0, .slice none 0 0])
  case atStart => exact ⟨0, _, _, _, _, _, _, rfl, rfl, hb, Lib.hid ⟨ActS.new hp, Nat.le_refl _⟩, B5⟩
  case round =>
    clear hb B5
    obtain ⟨k, S, R, B, N, V, C, rfl, hk, hB, HA, B5⟩ := hrel
    by_cases hlt : k < D.length
    · obtain ⟨d, hd⟩ : ∃ d, D[k]? = some d := ⟨_, List.getElem?_eq_getElem hlt⟩
      obtain ⟨ab, ao, cp, hv, hab, hcl⟩ := dAt h.rd hd
      cases hv
      obtain ⟨hL, hLs, hw⟩ := h.each d (List.mem_of_getElem? hd)
      obtain ⟨hs, hll⟩ := hF.2 d (List.mem_of_getElem? hd)
      have own0 : ∀ x ∈ g9 :: t :: mb :: R, w.heap.size ≤ x := fun x hx => by
        simp only [List.mem_cons] at hx
        rcases hx with rfl | rfl | rfl | hx
        · exact hB.hg
        · exact hB.ht
        · exact hB.hmb
        · exact hB.hR x hx
      have n5 : w.heap.size ∉ g9 :: t :: mb :: R := by
        have := hB.net.notIn B5 (by decide) (by decide)
        simp only [List.mem_cons, not_or] at this ⊢
        exact ⟨by omega, this⟩
      have FD := fun W (hk : Keep (g9 :: t :: mb :: R) wr W) => by
        have hkk : Keep [] w W := hB.k.own hk own0
        exact And.intro (hkk.cell hcl.1 (by simp)) (And.intro (hkk.cell hcl.2.1 (by simp)) (And.intro (hkk.cell hcl.2.2.1 (by simp)) (And.intro (hkk.cell hcl.2.2.2.1 (by simp)) (hkk.cell hcl.2.2.2.2 (by simp)))))
      have hk60 : k ≤ 100 := by have := hF.1; omega
      have hdo := fun W (hk : Keep [] wr W) => do_any (hB.keep0 hk) HA.out.1 hk60 HA.out.2 d hL hLs hs hw hll
      obtain ⟨AL, cL, hL', _⟩ := id hL
      obtain ⟨dw, da, db, ds, L, l⟩ := d
      simp only at FD hL'
      subst hL'
      simp only [denc] at hdo
      clear hd hL hLs hs hll hw hcl
      go_upto_region 8 with fail
      refine wp_region_noPanic ?_
      refine Bz.wp_region_E (S := (fun w' => Keep (g9 :: t :: mb :: R) wr w')) (E := []) (by kernel_rfl) (by exact (Keep.refl _ _).drew) (fun hHeld => ?_)
      obtain ⟨wd, hwd⟩ : ∃ W, W = wr.drew := ⟨_, rfl⟩
      have hP : Keep [] wr wd := by rw [hwd]; exact (Keep.refl _ _).drew
      rw [← hwd] at hHeld ⊢
      clear hwd
      refine Bz.wpAnyE_take (i := 0) (oi := { dst := some 50, op := Go.Op.move (Go.Operand.tmp 7), type := 23, pos := "law.go:87", after := #[], guard := none }) (v := ?_) rfl (by kernel_rfl) (by kernel_rfl) (by kernel_rfl) (by kernel_rfl) (fun _ _ _ h => h) (Or.inl ⟨by rfl, ?_⟩) hHeld ?_
      rotate_left 1
      · (intro w hSw; have q0 := FD w hSw; go_simp; first | done | with_reducible rfl)
      try simp only [Act.put, List.setIfInBounds_toArray, List.set_cons_zero, List.set_cons_succ]
      refine Bz.wpAnyE_take (i := 1) (oi := { dst := some 51, op := Go.Op.move (Go.Operand.tmp 1), type := 42, pos := "law.go:87", after := #[], guard := none }) (v := ?_) rfl (by kernel_rfl) (by kernel_rfl) (by kernel_rfl) (by kernel_rfl) (fun _ _ _ h => h) (Or.inl ⟨by rfl, ?_⟩) hHeld ?_
      rotate_left 1
      · (intro w hSw; have q0 := FD w hSw; go_simp; first | done | with_reducible rfl)
      try simp only [Act.put, List.setIfInBounds_toArray, List.set_cons_zero, List.set_cons_succ]
      refine Bz.wpAnyE_take (i := 2) (oi := { dst := some 52, op := Go.Op.move (Go.Operand.tmp 11), type := 3, pos := "law.go:87", after := #[], guard := none }) (v := ?_) rfl (by kernel_rfl) (by kernel_rfl) (by kernel_rfl) (by kernel_rfl) (fun _ _ _ h => h) (Or.inl ⟨by rfl, ?_⟩) hHeld ?_
      rotate_left 1
      · (intro w hSw; have q0 := FD w hSw; go_simp; first | done | with_reducible rfl)
      try simp only [Act.put, List.setIfInBounds_toArray, List.set_cons_zero, List.set_cons_succ]
      refine Bz.wpAnyE_take (i := 3) (oi := { dst := some 53, op := Go.Op.indexAddr 42 (Go.Operand.tmp 51) (Go.Operand.tmp 52), type := 0, pos := "law.go:87", after := #[{ on := 1, ground := Go.Ground.data }, { on := 2, ground := Go.Ground.data }], guard := none }) (v := ?_) rfl (by kernel_rfl) (by kernel_rfl) (by kernel_rfl) (by kernel_rfl) (fun _ _ _ h => h) (Or.inl ⟨by rfl, ?_⟩) hHeld ?_
      rotate_left 1
      · (intro w hSw; have q0 := FD w hSw; go_simp; first | done | with_reducible rfl)
      try simp only [Act.put, List.setIfInBounds_toArray, List.set_cons_zero, List.set_cons_succ]
      refine Bz.wpAnyE_take (i := 4) (oi := { dst := some 54, op := Go.Op.load 58 (Go.Operand.tmp 53), type := 58, pos := "law.go:87", after := #[{ on := 3, ground := Go.Ground.data }], guard := none }) (v := ?_) rfl (by kernel_rfl) (by kernel_rfl) (by kernel_rfl) (by kernel_rfl) (fun _ _ _ h => h) (Or.inl ⟨by rfl, ?_⟩) hHeld ?_
      rotate_left 1
      · (intro w hSw; have q0 := FD w hSw; go_simp; first | done | with_reducible rfl)
      try simp only [Act.put, List.setIfInBounds_toArray, List.set_cons_zero, List.set_cons_succ]
      refine Bz.wpAnyE_ready (rs := [5]) (by kernel_rfl) (by simp) ?_
      refine Bz.AllReadyE.cons (o := { dst := some 55, op := Go.Op.call { callee := Go.Callee.value (Go.Operand.func 23), args := #[Go.Operand.tmp 50, Go.Operand.tmp 9, Go.Operand.tmp 54], argTypes := #[23, 65, 58] }, type := 4, pos := "law.go:87", after := #[{ on := 0, ground := Go.Ground.data }, { on := 4, ground := Go.Ground.data }], guard := none }) rfl (fun K hK => ?_) Bz.AllReadyE.nil
      go_simp
      
      refine (hdo _ hP).mono ?_
      rintro e w5 ⟨rfl, S', R', B', N', V', C', hB5, hA5, hc5, hR5, hk5⟩
      obtain ⟨⟨A', c', rfl⟩, A'', c'', rfl⟩ := hB5.rn.sl
      have e1 := hA5.sim.now
      have e2 := hA5.sim.way
      refine hK.out _ _ (by exact hHeld.trans hk5) ?_
      clear hHeld hK K; intro hHeld
      try simp only [Act.put, List.setIfInBounds_toArray, List.set_cons_zero, List.set_cons_succ]
      refine Bz.wpAnyE_take (i := 6) (oi := { dst := some 56, op := Go.Op.unOp Go.UnOp.not 4 (Go.Operand.tmp 55), type := 4, pos := "law.go:87", after := #[{ on := 5, ground := Go.Ground.data }], guard := none }) (v := ?_) rfl (by kernel_rfl) (by kernel_rfl) (by kernel_rfl) (by kernel_rfl) (fun _ _ _ h => h) (Or.inl ⟨by rfl, ?_⟩) hHeld ?_
      rotate_left 1
      · (intro w hSw; have q0 := FD w hSw; go_simp; first | done | with_reducible rfl)
      try simp only [Act.put, List.setIfInBounds_toArray, List.set_cons_zero, List.set_cons_succ]
      refine Bz.wpAnyE_take (i := 7) (oi := { dst := some 57, op := Go.Op.move (Go.Operand.tmp 56), type := 4, pos := "law.go:87", after := #[{ on := 6, ground := Go.Ground.data }, { on := 5, ground := Go.Ground.chain }], guard := none }) (v := ?_) rfl (by kernel_rfl) (by kernel_rfl) (by kernel_rfl) (by kernel_rfl) (fun _ _ _ h => h) (Or.inl ⟨by rfl, ?_⟩) hHeld ?_
      rotate_left 1
      · (intro w hSw; have q0 := FD w hSw; go_simp; first | done | with_reducible rfl)
      try simp only [Act.put, List.setIfInBounds_toArray, List.set_cons_zero, List.set_cons_succ]
      refine Bz.wpAnyE_take (i := 8) (oi := { dst := some 58, op := Go.Op.move (Go.Operand.tmp 7), type := 23, pos := "law.go:87", after := #[{ on := 7, ground := Go.Ground.guard }], guard := some (7, false) }) (v := ?_) rfl (by kernel_rfl) (by kernel_rfl) (by kernel_rfl) (by kernel_rfl) (fun _ _ _ h => h) (Or.inl ⟨by rfl, ?_⟩) hHeld ?_
      rotate_left 1
      · (intro w hSw; have q0 := FD w hSw; go_simp; first | done | with_reducible rfl)
      try simp only [Act.put, List.setIfInBounds_toArray, List.set_cons_zero, List.set_cons_succ]
      refine Bz.wpAnyE_take (i := 10) (oi := { dst := some 60, op := Go.Op.fieldAddr 47 (Go.Operand.tmp 9) 1, type := 0, pos := "law.go:87", after := #[{ on := 7, ground := Go.Ground.guard }], guard := some (7, false) }) (v := ?_) rfl (by kernel_rfl) (by kernel_rfl) (by kernel_rfl) (by kernel_rfl) (fun _ _ _ h => h) (Or.inl ⟨by rfl, ?_⟩) hHeld ?_
      rotate_left 1
      · (intro w hSw; have q0 := FD w hSw; go_simp; first | done | with_reducible rfl)
      try simp only [Act.put, List.setIfInBounds_toArray, List.set_cons_zero, List.set_cons_succ]
      refine Bz.wpAnyE_ready (rs := [9, 11]) (by kernel_rfl) (by simp) ?_
      refine Bz.AllReadyE.cons (o := { dst := some 59, op := Go.Op.call { callee := Go.Callee.value (Go.Operand.func 24), args := #[Go.Operand.tmp 58], argTypes := #[23] }, type := 3, pos := "law.go:87", after := #[{ on := 8, ground := Go.Ground.data }, { on := 7, ground := Go.Ground.chain }, { on := 7, ground := Go.Ground.guard }], guard := some (7, false) }) rfl (fun K hK => ?_) ?_
      · skip
        go_simp
        
        refine (now_any hB5.net).mono ?_
        rintro e w6 ⟨rfl, hk6⟩
        have hB5 := hB5.keep0 hk6
        refine hK.out _ _ (by exact hHeld.trans hk6.sub) ?_
        clear hHeld hK K; intro hHeld
        try simp only [Act.put, List.setIfInBounds_toArray, List.set_cons_zero, List.set_cons_succ]
        refine Bz.wpAnyE_ready (rs := [11]) (by kernel_rfl) (by simp) ?_
        refine Bz.AllReadyE.cons (o := { dst := some 61, op := Go.Op.load 3 (Go.Operand.tmp 60), type := 3, pos := "law.go:87", after := #[{ on := 10, ground := Go.Ground.data }, { on := 7, ground := Go.Ground.guard }], guard := some (7, false) }) rfl (fun K hK => ?_) Bz.AllReadyE.nil
        
        have cg := hB5.blk.cell
        go_simp
        refine hK.out _ _ (by exact hHeld) ?_
        clear hHeld hK K; intro hHeld
        try simp only [Act.put, List.setIfInBounds_toArray, List.set_cons_zero, List.set_cons_succ]
        refine Bz.wpAnyE_take (i := 12) (oi := { dst := some 62, op := Go.Op.binOp Go.BinOp.neq 3 (Go.Operand.tmp 59) (Go.Operand.tmp 61) 3, type := 4, pos := "law.go:87", after := #[{ on := 9, ground := Go.Ground.data }, { on := 11, ground := Go.Ground.data }, { on := 7, ground := Go.Ground.guard }], guard := some (7, false) }) (v := ?_) rfl (by kernel_rfl) (by kernel_rfl) (by kernel_rfl) (by kernel_rfl) (fun _ _ _ h => h) (Or.inl ⟨by rfl, ?_⟩) hHeld ?_
        rotate_left 1
        · (intro w hSw; have q0 := FD w hSw; go_simp; first | done | with_reducible rfl)
        try simp only [Act.put, List.setIfInBounds_toArray, List.set_cons_zero, List.set_cons_succ]
        refine Bz.wpAnyE_take (i := 13) (oi := { dst := some 63, op := Go.Op.pick (Go.Operand.tmp 57) (Go.Operand.const (Go.Value.bool true)) (Go.Operand.tmp 62), type := 4, pos := "law.go:87", after := #[{ on := 7, ground := Go.Ground.data }, { on := 12, ground := Go.Ground.data }], guard := none }) (v := ?_) rfl (by kernel_rfl) (by kernel_rfl) (by kernel_rfl) (by kernel_rfl) (fun _ _ _ h => h) (Or.inl ⟨by rfl, ?_⟩) hHeld ?_
        rotate_left 1
        · (intro w hSw; have q0 := FD w hSw; go_simp; first | done | with_reducible rfl)
        try simp only [Act.put, List.setIfInBounds_toArray, List.set_cons_zero, List.set_cons_succ]
        refine Bz.wpAnyE_take (i := 14) (oi := { dst := some 64, op := Go.Op.move (Go.Operand.tmp 63), type := 4, pos := "law.go:87", after := #[{ on := 13, ground := Go.Ground.data }, { on := 9, ground := Go.Ground.chain }], guard := none }) (v := ?_) rfl (by kernel_rfl) (by kernel_rfl) (by kernel_rfl) (by kernel_rfl) (fun _ _ _ h => h) (Or.inl ⟨by rfl, ?_⟩) hHeld ?_
        rotate_left 1
        · (intro w hSw; have q0 := FD w hSw; go_simp; first | done | with_reducible rfl)
        try simp only [Act.put, List.setIfInBounds_toArray, List.set_cons_zero, List.set_cons_succ]
        refine Bz.wpAnyE_take (i := 15) (oi := { dst := some 65, op := Go.Op.move (Go.Operand.tmp 7), type := 23, pos := "law.go:87", after := #[{ on := 14, ground := Go.Ground.guard }], guard := some (14, false) }) (v := ?_) rfl (by kernel_rfl) (by kernel_rfl) (by kernel_rfl) (by kernel_rfl) (fun _ _ _ h => h) (Or.inl ⟨by rfl, ?_⟩) hHeld ?_
        rotate_left 1
        · (intro w hSw; have q0 := FD w hSw; go_simp; first | done | with_reducible rfl)
        try simp only [Act.put, List.setIfInBounds_toArray, List.set_cons_zero, List.set_cons_succ]
        refine Bz.wpAnyE_take (i := 17) (oi := { dst := some 67, op := Go.Op.fieldAddr 47 (Go.Operand.tmp 9) 2, type := 0, pos := "law.go:87", after := #[{ on := 14, ground := Go.Ground.guard }], guard := some (14, false) }) (v := ?_) rfl (by kernel_rfl) (by kernel_rfl) (by kernel_rfl) (by kernel_rfl) (fun _ _ _ h => h) (Or.inl ⟨by rfl, ?_⟩) hHeld ?_
        rotate_left 1
        · (intro w hSw; have q0 := FD w hSw; go_simp; first | done | with_reducible rfl)
        try simp only [Act.put, List.setIfInBounds_toArray, List.set_cons_zero, List.set_cons_succ]
        refine Bz.wpAnyE_ready (rs := [16, 18]) (by kernel_rfl) (by simp) ?_
        refine Bz.AllReadyE.cons (o := { dst := some 66, op := Go.Op.call { callee := Go.Callee.value (Go.Operand.func 15), args := #[Go.Operand.tmp 65], argTypes := #[23] }, type := 3, pos := "law.go:87", after := #[{ on := 15, ground := Go.Ground.data }, { on := 14, ground := Go.Ground.chain }, { on := 14, ground := Go.Ground.guard }], guard := some (14, false) }) rfl (fun K hK => ?_) ?_
        · skip
          go_simp
          
          refine (way_any hB5.net).mono ?_
          rintro e w7 ⟨rfl, hk7⟩
          have hB5 := hB5.keep0 hk7
          refine hK.out _ _ (by exact hHeld.trans hk7.sub) ?_
          clear hHeld hK K; intro hHeld
          try simp only [Act.put, List.setIfInBounds_toArray, List.set_cons_zero, List.set_cons_succ]
          refine Bz.wpAnyE_ready (rs := [18]) (by kernel_rfl) (by simp) ?_
          refine Bz.AllReadyE.cons (o := { dst := some 68, op := Go.Op.load 44 (Go.Operand.tmp 67), type := 44, pos := "law.go:87", after := #[{ on := 17, ground := Go.Ground.data }, { on := 14, ground := Go.Ground.guard }], guard := some (14, false) }) rfl (fun K hK => ?_) Bz.AllReadyE.nil
          
          have cg := hB5.blk.cell
          go_simp
          refine hK.out _ _ (by exact hHeld) ?_
          clear hHeld hK K; intro hHeld
          try simp only [Act.put, List.setIfInBounds_toArray, List.set_cons_zero, List.set_cons_succ]
          refine Bz.wpAnyE_take (i := 19) (oi := { dst := some 69, op := Go.Op.call { callee := Go.Callee.builtin Go.Builtin.len, args := #[Go.Operand.tmp 68], argTypes := #[44] }, type := 3, pos := "law.go:87", after := #[{ on := 18, ground := Go.Ground.data }, { on := 14, ground := Go.Ground.guard }], guard := some (14, false) }) (v := ?_) rfl (by kernel_rfl) (by kernel_rfl) (by kernel_rfl) (by kernel_rfl) (fun _ _ _ h => h) (Or.inl ⟨by rfl, ?_⟩) hHeld ?_
          rotate_left 1
          · (intro w hSw; have q0 := FD w hSw; go_simp; first | done | with_reducible rfl)
          try simp only [Act.put, List.setIfInBounds_toArray, List.set_cons_zero, List.set_cons_succ]
          refine Bz.wpAnyE_take (i := 20) (oi := { dst := some 70, op := Go.Op.binOp Go.BinOp.neq 3 (Go.Operand.tmp 66) (Go.Operand.tmp 69) 3, type := 4, pos := "law.go:87", after := #[{ on := 16, ground := Go.Ground.data }, { on := 19, ground := Go.Ground.data }, { on := 14, ground := Go.Ground.guard }], guard := some (14, false) }) (v := ?_) rfl (by kernel_rfl) (by kernel_rfl) (by kernel_rfl) (by kernel_rfl) (fun _ _ _ h => h) (Or.inl ⟨by rfl, ?_⟩) hHeld ?_
          rotate_left 1
          · (intro w hSw; have q0 := FD w hSw; go_simp; first | done | with_reducible rfl)
          try simp only [Act.put, List.setIfInBounds_toArray, List.set_cons_zero, List.set_cons_succ]
          refine Bz.wpAnyE_take (i := 21) (oi := { dst := some 71, op := Go.Op.pick (Go.Operand.tmp 64) (Go.Operand.const (Go.Value.bool true)) (Go.Operand.tmp 70), type := 4, pos := "law.go:87", after := #[{ on := 14, ground := Go.Ground.data }, { on := 20, ground := Go.Ground.data }], guard := none }) (v := ?_) rfl (by kernel_rfl) (by kernel_rfl) (by kernel_rfl) (by kernel_rfl) (fun _ _ _ h => h) (Or.inl ⟨by rfl, ?_⟩) hHeld ?_
          rotate_left 1
          · (intro w hSw; have q0 := FD w hSw; go_simp; first | done | with_reducible rfl)
          try simp only [Act.put, List.setIfInBounds_toArray, List.set_cons_zero, List.set_cons_succ]
          refine Bz.wpAnyE_done (by kernel_rfl) ?_ _
          refine NoPanic.normal ?_
          have hA5' := Lib.hid (And.intro hA5 hc5)
          have B5' := B5.keep hHeld n5
          clear FD hdo hA5 e1 e2 hR5
          go_wp2_with fail
          go_roundg (D.length - (k + 1))
          case measure => omega
          case rel => exact ⟨k + 1, S', R', B', N', _, _, by go_num, by omega, hB5, hA5', B5'⟩
        refine Bz.AllReadyE.cons (o := { dst := some 68, op := Go.Op.load 44 (Go.Operand.tmp 67), type := 44, pos := "law.go:87", after := #[{ on := 17, ground := Go.Ground.data }, { on := 14, ground := Go.Ground.guard }], guard := some (14, false) }) rfl (fun K hK => ?_) ?_
        · skip
          
          have cg := hB5.blk.cell
          go_simp
          refine hK.out _ _ (by exact hHeld) ?_
          clear hHeld hK K; intro hHeld
          try simp only [Act.put, List.setIfInBounds_toArray, List.set_cons_zero, List.set_cons_succ]
          refine Bz.wpAnyE_take (i := 19) (oi := { dst := some 69, op := Go.Op.call { callee := Go.Callee.builtin Go.Builtin.len, args := #[Go.Operand.tmp 68], argTypes := #[44] }, type := 3, pos := "law.go:87", after := #[{ on := 18, ground := Go.Ground.data }, { on := 14, ground := Go.Ground.guard }], guard := some (14, false) }) (v := ?_) rfl (by kernel_rfl) (by kernel_rfl) (by kernel_rfl) (by kernel_rfl) (fun _ _ _ h => h) (Or.inl ⟨by rfl, ?_⟩) hHeld ?_
          rotate_left 1
          · (intro w hSw; have q0 := FD w hSw; go_simp; first | done | with_reducible rfl)
          try simp only [Act.put, List.setIfInBounds_toArray, List.set_cons_zero, List.set_cons_succ]
          refine Bz.wpAnyE_ready (rs := [16]) (by kernel_rfl) (by simp) ?_
          refine Bz.AllReadyE.cons (o := { dst := some 66, op := Go.Op.call { callee := Go.Callee.value (Go.Operand.func 15), args := #[Go.Operand.tmp 65], argTypes := #[23] }, type := 3, pos := "law.go:87", after := #[{ on := 15, ground := Go.Ground.data }, { on := 14, ground := Go.Ground.chain }, { on := 14, ground := Go.Ground.guard }], guard := some (14, false) }) rfl (fun K hK => ?_) Bz.AllReadyE.nil
          go_simp
          
          refine (way_any hB5.net).mono ?_
          rintro e w7 ⟨rfl, hk7⟩
          have hB5 := hB5.keep0 hk7
          refine hK.out _ _ (by exact hHeld.trans hk7.sub) ?_
          clear hHeld hK K; intro hHeld
          try simp only [Act.put, List.setIfInBounds_toArray, List.set_cons_zero, List.set_cons_succ]
          refine Bz.wpAnyE_take (i := 20) (oi := { dst := some 70, op := Go.Op.binOp Go.BinOp.neq 3 (Go.Operand.tmp 66) (Go.Operand.tmp 69) 3, type := 4, pos := "law.go:87", after := #[{ on := 16, ground := Go.Ground.data }, { on := 19, ground := Go.Ground.data }, { on := 14, ground := Go.Ground.guard }], guard := some (14, false) }) (v := ?_) rfl (by kernel_rfl) (by kernel_rfl) (by kernel_rfl) (by kernel_rfl) (fun _ _ _ h => h) (Or.inl ⟨by rfl, ?_⟩) hHeld ?_
          rotate_left 1
          · (intro w hSw; have q0 := FD w hSw; go_simp; first | done | with_reducible rfl)
          try simp only [Act.put, List.setIfInBounds_toArray, List.set_cons_zero, List.set_cons_succ]
          refine Bz.wpAnyE_take (i := 21) (oi := { dst := some 71, op := Go.Op.pick (Go.Operand.tmp 64) (Go.Operand.const (Go.Value.bool true)) (Go.Operand.tmp 70), type := 4, pos := "law.go:87", after := #[{ on := 14, ground := Go.Ground.data }, { on := 20, ground := Go.Ground.data }], guard := none }) (v := ?_) rfl (by kernel_rfl) (by kernel_rfl) (by kernel_rfl) (by kernel_rfl) (fun _ _ _ h => h) (Or.inl ⟨by rfl, ?_⟩) hHeld ?_
          rotate_left 1
          · (intro w hSw; have q0 := FD w hSw; go_simp; first | done | with_reducible rfl)
          try simp only [Act.put, List.setIfInBounds_toArray, List.set_cons_zero, List.set_cons_succ]
          refine Bz.wpAnyE_done (by kernel_rfl) ?_ _
          refine NoPanic.normal ?_
          have hA5' := Lib.hid (And.intro hA5 hc5)
          have B5' := B5.keep hHeld n5
          clear FD hdo hA5 e1 e2 hR5
          go_wp2_with fail
          go_roundg (D.length - (k + 1))
          case measure => omega
          case rel => exact ⟨k + 1, S', R', B', N', _, _, by go_num, by omega, hB5, hA5', B5'⟩
        exact Bz.AllReadyE.nil
      refine Bz.AllReadyE.cons (o := { dst := some 61, op := Go.Op.load 3 (Go.Operand.tmp 60), type := 3, pos := "law.go:87", after := #[{ on := 10, ground := Go.Ground.data }, { on := 7, ground := Go.Ground.guard }], guard := some (7, false) }) rfl (fun K hK => ?_) ?_
      · skip
        
        have cg := hB5.blk.cell
        go_simp
        refine hK.out _ _ (by exact hHeld) ?_
        clear hHeld hK K; intro hHeld
        try simp only [Act.put, List.setIfInBounds_toArray, List.set_cons_zero, List.set_cons_succ]
        refine Bz.wpAnyE_ready (rs := [9]) (by kernel_rfl) (by simp) ?_
        refine Bz.AllReadyE.cons (o := { dst := some 59, op := Go.Op.call { callee := Go.Callee.value (Go.Operand.func 24), args := #[Go.Operand.tmp 58], argTypes := #[23] }, type := 3, pos := "law.go:87", after := #[{ on := 8, ground := Go.Ground.data }, { on := 7, ground := Go.Ground.chain }, { on := 7, ground := Go.Ground.guard }], guard := some (7, false) }) rfl (fun K hK => ?_) Bz.AllReadyE.nil
        go_simp
        
        refine (now_any hB5.net).mono ?_
        rintro e w6 ⟨rfl, hk6⟩
        have hB5 := hB5.keep0 hk6
        refine hK.out _ _ (by exact hHeld.trans hk6.sub) ?_
        clear hHeld hK K; intro hHeld
        try simp only [Act.put, List.setIfInBounds_toArray, List.set_cons_zero, List.set_cons_succ]
        refine Bz.wpAnyE_take (i := 12) (oi := { dst := some 62, op := Go.Op.binOp Go.BinOp.neq 3 (Go.Operand.tmp 59) (Go.Operand.tmp 61) 3, type := 4, pos := "law.go:87", after := #[{ on := 9, ground := Go.Ground.data }, { on := 11, ground := Go.Ground.data }, { on := 7, ground := Go.Ground.guard }], guard := some (7, false) }) (v := ?_) rfl (by kernel_rfl) (by kernel_rfl) (by kernel_rfl) (by kernel_rfl) (fun _ _ _ h => h) (Or.inl ⟨by rfl, ?_⟩) hHeld ?_
        rotate_left 1
        · (intro w hSw; have q0 := FD w hSw; go_simp; first | done | with_reducible rfl)
        try simp only [Act.put, List.setIfInBounds_toArray, List.set_cons_zero, List.set_cons_succ]
        refine Bz.wpAnyE_take (i := 13) (oi := { dst := some 63, op := Go.Op.pick (Go.Operand.tmp 57) (Go.Operand.const (Go.Value.bool true)) (Go.Operand.tmp 62), type := 4, pos := "law.go:87", after := #[{ on := 7, ground := Go.Ground.data }, { on := 12, ground := Go.Ground.data }], guard := none }) (v := ?_) rfl (by kernel_rfl) (by kernel_rfl) (by kernel_rfl) (by kernel_rfl) (fun _ _ _ h => h) (Or.inl ⟨by rfl, ?_⟩) hHeld ?_
        rotate_left 1
        · (intro w hSw; have q0 := FD w hSw; go_simp; first | done | with_reducible rfl)
        try simp only [Act.put, List.setIfInBounds_toArray, List.set_cons_zero, List.set_cons_succ]
        refine Bz.wpAnyE_take (i := 14) (oi := { dst := some 64, op := Go.Op.move (Go.Operand.tmp 63), type := 4, pos := "law.go:87", after := #[{ on := 13, ground := Go.Ground.data }, { on := 9, ground := Go.Ground.chain }], guard := none }) (v := ?_) rfl (by kernel_rfl) (by kernel_rfl) (by kernel_rfl) (by kernel_rfl) (fun _ _ _ h => h) (Or.inl ⟨by rfl, ?_⟩) hHeld ?_
        rotate_left 1
        · (intro w hSw; have q0 := FD w hSw; go_simp; first | done | with_reducible rfl)
        try simp only [Act.put, List.setIfInBounds_toArray, List.set_cons_zero, List.set_cons_succ]
        refine Bz.wpAnyE_take (i := 15) (oi := { dst := some 65, op := Go.Op.move (Go.Operand.tmp 7), type := 23, pos := "law.go:87", after := #[{ on := 14, ground := Go.Ground.guard }], guard := some (14, false) }) (v := ?_) rfl (by kernel_rfl) (by kernel_rfl) (by kernel_rfl) (by kernel_rfl) (fun _ _ _ h => h) (Or.inl ⟨by rfl, ?_⟩) hHeld ?_
        rotate_left 1
        · (intro w hSw; have q0 := FD w hSw; go_simp; first | done | with_reducible rfl)
        try simp only [Act.put, List.setIfInBounds_toArray, List.set_cons_zero, List.set_cons_succ]
        refine Bz.wpAnyE_take (i := 17) (oi := { dst := some 67, op := Go.Op.fieldAddr 47 (Go.Operand.tmp 9) 2, type := 0, pos := "law.go:87", after := #[{ on := 14, ground := Go.Ground.guard }], guard := some (14, false) }) (v := ?_) rfl (by kernel_rfl) (by kernel_rfl) (by kernel_rfl) (by kernel_rfl) (fun _ _ _ h => h) (Or.inl ⟨by rfl, ?_⟩) hHeld ?_
        rotate_left 1
        · (intro w hSw; have q0 := FD w hSw; go_simp; first | done | with_reducible rfl)
        try simp only [Act.put, List.setIfInBounds_toArray, List.set_cons_zero, List.set_cons_succ]
        refine Bz.wpAnyE_ready (rs := [16, 18]) (by kernel_rfl) (by simp) ?_
        refine Bz.AllReadyE.cons (o := { dst := some 66, op := Go.Op.call { callee := Go.Callee.value (Go.Operand.func 15), args := #[Go.Operand.tmp 65], argTypes := #[23] }, type := 3, pos := "law.go:87", after := #[{ on := 15, ground := Go.Ground.data }, { on := 14, ground := Go.Ground.chain }, { on := 14, ground := Go.Ground.guard }], guard := some (14, false) }) rfl (fun K hK => ?_) ?_
        · skip
          go_simp
          
          refine (way_any hB5.net).mono ?_
          rintro e w7 ⟨rfl, hk7⟩
          have hB5 := hB5.keep0 hk7
          refine hK.out _ _ (by exact hHeld.trans hk7.sub) ?_
          clear hHeld hK K; intro hHeld
          try simp only [Act.put, List.setIfInBounds_toArray, List.set_cons_zero, List.set_cons_succ]
          refine Bz.wpAnyE_ready (rs := [18]) (by kernel_rfl) (by simp) ?_
          refine Bz.AllReadyE.cons (o := { dst := some 68, op := Go.Op.load 44 (Go.Operand.tmp 67), type := 44, pos := "law.go:87", after := #[{ on := 17, ground := Go.Ground.data }, { on := 14, ground := Go.Ground.guard }], guard := some (14, false) }) rfl (fun K hK => ?_) Bz.AllReadyE.nil
          
          have cg := hB5.blk.cell
          go_simp
          refine hK.out _ _ (by exact hHeld) ?_
          clear hHeld hK K; intro hHeld
          try simp only [Act.put, List.setIfInBounds_toArray, List.set_cons_zero, List.set_cons_succ]
          refine Bz.wpAnyE_take (i := 19) (oi := { dst := some 69, op := Go.Op.call { callee := Go.Callee.builtin Go.Builtin.len, args := #[Go.Operand.tmp 68], argTypes := #[44] }, type := 3, pos := "law.go:87", after := #[{ on := 18, ground := Go.Ground.data }, { on := 14, ground := Go.Ground.guard }], guard := some (14, false) }) (v := ?_) rfl (by kernel_rfl) (by kernel_rfl) (by kernel_rfl) (by kernel_rfl) (fun _ _ _ h => h) (Or.inl ⟨by rfl, ?_⟩) hHeld ?_
          rotate_left 1
          · (intro w hSw; have q0 := FD w hSw; go_simp; first | done | with_reducible rfl)
          try simp only [Act.put, List.setIfInBounds_toArray, List.set_cons_zero, List.set_cons_succ]
          refine Bz.wpAnyE_take (i := 20) (oi := { dst := some 70, op := Go.Op.binOp Go.BinOp.neq 3 (Go.Operand.tmp 66) (Go.Operand.tmp 69) 3, type := 4, pos := "law.go:87", after := #[{ on := 16, ground := Go.Ground.data }, { on := 19, ground := Go.Ground.data }, { on := 14, ground := Go.Ground.guard }], guard := some (14, false) }) (v := ?_) rfl (by kernel_rfl) (by kernel_rfl) (by kernel_rfl) (by kernel_rfl) (fun _ _ _ h => h) (Or.inl ⟨by rfl, ?_⟩) hHeld ?_
          rotate_left 1
          · (intro w hSw; have q0 := FD w hSw; go_simp; first | done | with_reducible rfl)
          try simp only [Act.put, List.setIfInBounds_toArray, List.set_cons_zero, List.set_cons_succ]
          refine Bz.wpAnyE_take (i := 21) (oi := { dst := some 71, op := Go.Op.pick (Go.Operand.tmp 64) (Go.Operand.const (Go.Value.bool true)) (Go.Operand.tmp 70), type := 4, pos := "law.go:87", after := #[{ on := 14, ground := Go.Ground.data }, { on := 20, ground := Go.Ground.data }], guard := none }) (v := ?_) rfl (by kernel_rfl) (by kernel_rfl) (by kernel_rfl) (by kernel_rfl) (fun _ _ _ h => h) (Or.inl ⟨by rfl, ?_⟩) hHeld ?_
          rotate_left 1
          · (intro w hSw; have q0 := FD w hSw; go_simp; first | done | with_reducible rfl)
          try simp only [Act.put, List.setIfInBounds_toArray, List.set_cons_zero, List.set_cons_succ]
          refine Bz.wpAnyE_done (by kernel_rfl) ?_ _
          refine NoPanic.normal ?_
          have hA5' := Lib.hid (And.intro hA5 hc5)
          have B5' := B5.keep hHeld n5
          clear FD hdo hA5 e1 e2 hR5
          go_wp2_with fail
          go_roundg (D.length - (k + 1))
          case measure => omega
          case rel => exact ⟨k + 1, S', R', B', N', _, _, by go_num, by omega, hB5, hA5', B5'⟩
        refine Bz.AllReadyE.cons (o := { dst := some 68, op := Go.Op.load 44 (Go.Operand.tmp 67), type := 44, pos := "law.go:87", after := #[{ on := 17, ground := Go.Ground.data }, { on := 14, ground := Go.Ground.guard }], guard := some (14, false) }) rfl (fun K hK => ?_) ?_
        · skip
          
          have cg := hB5.blk.cell
          go_simp
          refine hK.out _ _ (by exact hHeld) ?_
          clear hHeld hK K; intro hHeld
          try simp only [Act.put, List.setIfInBounds_toArray, List.set_cons_zero, List.set_cons_succ]
          refine Bz.wpAnyE_take (i := 19) (oi := { dst := some 69, op := Go.Op.call { callee := Go.Callee.builtin Go.Builtin.len, args := #[Go.Operand.tmp 68], argTypes := #[44] }, type := 3, pos := "law.go:87", after := #[{ on := 18, ground := Go.Ground.data }, { on := 14, ground := Go.Ground.guard }], guard := some (14, false) }) (v := ?_) rfl (by kernel_rfl) (by kernel_rfl) (by kernel_rfl) (by kernel_rfl) (fun _ _ _ h => h) (Or.inl ⟨by rfl, ?_⟩) hHeld ?_
          rotate_left 1
          · (intro w hSw; have q0 := FD w hSw; go_simp; first | done | with_reducible rfl)
          try simp only [Act.put, List.setIfInBounds_toArray, List.set_cons_zero, List.set_cons_succ]
          refine Bz.wpAnyE_ready (rs := [16]) (by kernel_rfl) (by simp) ?_
          refine Bz.AllReadyE.cons (o := { dst := some 66, op := Go.Op.call { callee := Go.Callee.value (Go.Operand.func 15), args := #[Go.Operand.tmp 65], argTypes := #[23] }, type := 3, pos := "law.go:87", after := #[{ on := 15, ground := Go.Ground.data }, { on := 14, ground := Go.Ground.chain }, { on := 14, ground := Go.Ground.guard }], guard := some (14, false) }) rfl (fun K hK => ?_) Bz.AllReadyE.nil
          go_simp
          
          refine (way_any hB5.net).mono ?_
          rintro e w7 ⟨rfl, hk7⟩
          have hB5 := hB5.keep0 hk7
          refine hK.out _ _ (by exact hHeld.trans hk7.sub) ?_
          clear hHeld hK K; intro hHeld
          try simp only [Act.put, List.setIfInBounds_toArray, List.set_cons_zero, List.set_cons_succ]
          refine Bz.wpAnyE_take (i := 20) (oi := { dst := some 70, op := Go.Op.binOp Go.BinOp.neq 3 (Go.Operand.tmp 66) (Go.Operand.tmp 69) 3, type := 4, pos := "law.go:87", after := #[{ on := 16, ground := Go.Ground.data }, { on := 19, ground := Go.Ground.data }, { on := 14, ground := Go.Ground.guard }], guard := some (14, false) }) (v := ?_) rfl (by kernel_rfl) (by kernel_rfl) (by kernel_rfl) (by kernel_rfl) (fun _ _ _ h => h) (Or.inl ⟨by rfl, ?_⟩) hHeld ?_
          rotate_left 1
          · (intro w hSw; have q0 := FD w hSw; go_simp; first | done | with_reducible rfl)
          try simp only [Act.put, List.setIfInBounds_toArray, List.set_cons_zero, List.set_cons_succ]
          refine Bz.wpAnyE_take (i := 21) (oi := { dst := some 71, op := Go.Op.pick (Go.Operand.tmp 64) (Go.Operand.const (Go.Value.bool true)) (Go.Operand.tmp 70), type := 4, pos := "law.go:87", after := #[{ on := 14, ground := Go.Ground.data }, { on := 20, ground := Go.Ground.data }], guard := none }) (v := ?_) rfl (by kernel_rfl) (by kernel_rfl) (by kernel_rfl) (by kernel_rfl) (fun _ _ _ h => h) (Or.inl ⟨by rfl, ?_⟩) hHeld ?_
          rotate_left 1
          · (intro w hSw; have q0 := FD w hSw; go_simp; first | done | with_reducible rfl)
          try simp only [Act.put, List.setIfInBounds_toArray, List.set_cons_zero, List.set_cons_succ]
          refine Bz.wpAnyE_done (by kernel_rfl) ?_ _
          refine NoPanic.normal ?_
          have hA5' := Lib.hid (And.intro hA5 hc5)
          have B5' := B5.keep hHeld n5
          clear FD hdo hA5 e1 e2 hR5
          go_wp2_with fail
          go_roundg (D.length - (k + 1))
          case measure => omega
          case rel => exact ⟨k + 1, S', R', B', N', _, _, by go_num, by omega, hB5, hA5', B5'⟩
        exact Bz.AllReadyE.nil
      exact Bz.AllReadyE.nil
    · have hkD : k = D.length := by omega
      subst hkD
      obtain ⟨⟨AV, cV, rfl⟩, AC, cC, rfl⟩ := hB.rn.sl
      have FG := fun W (hk : Keep [] wr W) => (hB.blk.keep hk (by simp)).cell
      have F5 := fun W (hk : Keep [] wr W) => (B5.keep hk (by simp)).cell
      have G5 := fun W (hk : Keep [] wr W) => (B5.keep hk (by simp)).frozen
      obtain ⟨NP, Nn, Nw, Nc⟩ := N
      simp only [rcells] at FG
      clear hk hlt
      go_upto_region 10 with fail
      refine wp_region_noPanic ?_
      refine Bz.wp_region_E (S := (fun w' => Keep [] wr w')) (E := [3]) (by kernel_rfl) (by exact (Keep.refl _ _).drew) (fun hHeld => ?_)
      obtain ⟨wd, hwd⟩ : ∃ W, W = wr.drew := ⟨_, rfl⟩
      rw [← hwd] at hHeld ⊢
      clear hwd
      refine Bz.wpAnyE_take (i := 0) (oi := { dst := some 73, op := Go.Op.move (Go.Operand.tmp 7), type := 23, pos := "law.go:91", after := #[], guard := none }) (v := ?_) rfl (by kernel_rfl) (by kernel_rfl) (by kernel_rfl) (by kernel_rfl) (fun _ _ _ h => h) (Or.inl ⟨by rfl, ?_⟩) hHeld ?_
      rotate_left 1
      · (intro w hSw; have q0 := FG w hSw; go_simp; first | done | with_reducible rfl)
      try simp only [Act.put, List.setIfInBounds_toArray, List.set_cons_zero, List.set_cons_succ]
      refine Bz.wpAnyE_take (i := 1) (oi := { dst := some 74, op := Go.Op.load 47 (Go.Operand.tmp 9), type := 47, pos := "law.go:91", after := #[{ on := 2, ground := Go.Ground.gcOnly Go.Departure.lateStores }], guard := none }) (v := ?_) rfl (by kernel_rfl) (by kernel_rfl) (by kernel_rfl) (by kernel_rfl) (fun _ _ _ h => h) (Or.inl ⟨by rfl, ?_⟩) hHeld ?_
      rotate_left 1
      · (intro w hSw; have q0 := FG w hSw; go_simp; first | done | with_reducible rfl)
      try simp only [Act.put, List.setIfInBounds_toArray, List.set_cons_zero, List.set_cons_succ]
      refine Bz.wpAnyE_take (i := 2) (oi := { dst := some 4, op := Go.Op.assign (Go.Operand.tmp 73), type := 23, pos := "law.go:91", after := #[{ on := 0, ground := Go.Ground.data }, { on := 0, ground := Go.Ground.phase }, { on := 1, ground := Go.Ground.textOnly Go.Departure.lateStores }], guard := none }) (v := ?_) rfl (by kernel_rfl) (by kernel_rfl) (by kernel_rfl) (by kernel_rfl) (fun _ _ _ h => h) (Or.inl ⟨by rfl, ?_⟩) hHeld ?_
      rotate_left 1
      · (intro w hSw; have q0 := FG w hSw; go_simp; first | done | with_reducible rfl)
      try simp only [Act.put, List.setIfInBounds_toArray, List.set_cons_zero, List.set_cons_succ]
      refine Bz.wpAnyE_ready (rs := [3]) (by kernel_rfl) (by simp) ?_
      refine Bz.AllReadyE.last (o := { dst := none, op := Go.Op.store 47 (Go.Operand.tmp 5) (Go.Operand.tmp 74), type := 0, pos := "law.go:91", after := #[{ on := 1, ground := Go.Ground.data }, { on := 2, ground := Go.Ground.chain }, { on := 0, ground := Go.Ground.phase }, { on := 1, ground := Go.Ground.phase }, { on := 2, ground := Go.Ground.phase }], guard := none }) rfl (by rfl) (fun K hK => ?_) Bz.AllReadyE.nil
      
      have z0 := F5 _ hHeld
      have z1 := G5 _ hHeld
      go_simp
      refine hK.out _ _ ?_
      clear hK K
      try simp only [Act.put, List.setIfInBounds_toArray, List.set_cons_zero, List.set_cons_succ]
      refine Bz.wpAnyE_takeT (i := 4) (oi := { dst := some 6, op := Go.Op.assign (Go.Operand.const (Go.Value.bool true)), type := 4, pos := "law.go:91", after := #[{ on := 3, ground := Go.Ground.chain }, { on := 0, ground := Go.Ground.phase }, { on := 1, ground := Go.Ground.phase }, { on := 2, ground := Go.Ground.phase }, { on := 3, ground := Go.Ground.phase }], guard := none }) (v := ?_) rfl (by kernel_rfl) (by kernel_rfl) (by kernel_rfl) (fun _ _ _ h => h) (Or.inl ⟨by rfl, ?_⟩) ?_
      rotate_left 1
      · (intro w _; go_simp; first | done | with_reducible rfl)
      try simp only [Act.put, List.setIfInBounds_toArray, List.set_cons_zero, List.set_cons_succ]
      refine Bz.wpAnyE_done (by kernel_rfl) ?_ _
      refine NoPanic.normal ?_
      
      have hB6 := hB.keep0 hHeld
      have B6 := B5.keep hHeld (by simp)
      obtain ⟨hS, hk8, hk9⟩ := put4 B6 hB6.k (Nat.le_refl _) (.int .i64 NP) (.int .i64 Nn) (.slice AV Nw.length cV) (.slice AC Nc.length cC)
      have hn1 := hB6.net.notIn B6 (by decide) (by decide)
      have hn2 := hB6.net.notB B6 (by decide)
      simp only [List.mem_cons, not_or] at hn1
      have hN9 := hB6.net.keep hk9 (by simp; exact fun e => hn1.1 e.symm) (by simp; exact fun e => hn1.2.1 e.symm) (fun r hr hm => by simp at hm; exact hn1.2.2 (hm ▸ hr)) (fun r hr hm => by simp at hm; exact hn2 (hm ▸ hr))
      have hR9 := hB6.rn.far B6 hk9
      have cS := hS.cell
      go_wp2_with fail
      exact bodyPost_ret (v := .tuple #[.pointer (some ⟨t, 0, none⟩), .agg #[.int .i64 NP, .int .i64 Nn, .slice AV Nw.length cV, .slice AC Nc.length cC], .bool true]) (by simp [results, Try.results17, go_sem, cS]) rfl
        ⟨t, mb, S, R, B, ⟨NP, Nn, Nw, Nc⟩, _, _, rfl, hN9, hR9, HA.out.1, HA.out.2, hB.ht, hB.hmb, hB.hR, hk8⟩
end Go.Proofs.Ytcjbmbljmmakfaa
