/- NetCuts walked. -/
import Derived.Test.YtcjbmbljmmakfaaCutsLaw
import Derived.Test.YtcjbmbljmmakfaaDig
namespace Go.Proofs.Ytcjbmbljmmakfaa
open Go.RowKit Go.Bz

@[reducible] def tenc (e : T3) : Array Value := #[.int .u8 e.a, .int .u8 e.b, .int .u8 e.c]
theorem tAt {w : World} {V : Value} {E : List T3} (h : RdV w 3 tenc V E) {k : Nat} {e : T3} (hk : E[k]? = some e) : ∃ ab ao cp, V = .slice (some ⟨ab, ao, none⟩) E.length cp ∧ ab < w.heap.size ∧ ∀ W, Keep [] w W →
    W.cell? ⟨ab, ao + k * 3, none⟩ = some (.int .u8 e.a) ∧ W.cell? ⟨ab, ao + k * 3 + 1, none⟩ = some (.int .u8 e.b) ∧ W.cell? ⟨ab, ao + k * 3 + 2, none⟩ = some (.int .u8 e.c) := by
  obtain ⟨ab, ao, cp, hv, hlt, hc⟩ := h.at_ hk
  refine ⟨ab, ao, cp, hv, hlt, fun W hW => ?_⟩
  exact ⟨hW.cell (by simpa using hc 0 (by decide)) (by simp), hW.cell (by simpa using hc 1 (by decide)) (by simp), hW.cell (by simpa using hc 2 (by decide)) (by simp)⟩
theorem leAt3 {w : World} {v : Value} {outs : List LRaw} (h : RdV w 3 lenc v outs) {k : Nat} {r : LRaw} (hk : outs[k]? = some r) : ∃ ab ao cp, v = .slice (some ⟨ab, ao, none⟩) outs.length cp ∧ w.cell? ⟨ab, ao + k * 3 + 2, none⟩ = some r.V := by
  obtain ⟨ab, ao, cp, hv, hlt, hc⟩ := h.at_ hk
  exact ⟨ab, ao, cp, hv, by simpa using hc 2 (by decide)⟩
theorem lit_keep {S : List Nat} {a U : World} (_ : Keep S a U) (ty : TypeId) (cs : Array Value) : ∃ (W : World) (g : Nat), W = U.alloc (.cells cs ty) ∧ g = U.heap.size ∧ Blk W g ty cs ∧ Keep [] U W :=
  ⟨_, _, rfl, rfl, Blk.new _ _ _, (Keep.refl _ _).alloc _⟩
theorem zero4 (W : World) : (zeroValue 4).run Try.prog W = .ok (.bool false) W := by kernel_rfl
/-- The map says who came. -/
def CameM (M : List (Int × Bool)) (l : List Nat) : Prop := ∀ x : Nat, mlook (x : Int) M = if x ∈ l then some true else none
theorem CameM.put {M : List (Int × Bool)} {l : List Nat} (h : CameM M l) (i : Nat) : CameM (mput (i : Int) true M) (l ++ [i]) := by
  intro x
  rw [look_put, h x]
  by_cases hx : i = x
  · subst hx; simp
  · have h1 : ¬ (i : Int) = (x : Int) := by omega
    have h2 : ¬ x = i := fun e => hx e.symm
    simp [h1, h2]
theorem ix_at {E : List T3} {ix : List Nat} {outs : List LRaw} (h : outs.map LRaw.lt = ix.map (fun i => (eAt3 E i).lt i)) : outs.length = ix.length ∧ ∀ (p i : Nat), ix[p]? = some i → ∃ r, outs[p]? = some r ∧ r.b = [(i : Int)] := by
  have hl := congrArg List.length h
  rw [List.length_map, List.length_map] at hl
  refine ⟨hl, fun p i hi => ?_⟩
  have hq := congrArg (fun l => l[p]?) h
  simp only [List.getElem?_map, hi, Option.map_some] at hq
  obtain ⟨r, hr, he⟩ := Option.map_eq_some_iff.1 hq
  refine ⟨r, hr, ?_⟩
  unfold LRaw.lt T3.lt at he
  injection he
theorem cameIx_len (E : List T3) (q : Way) (n j : Nat) : (cameIx E q n j).length ≤ n := by
  have h1 := List.length_filter_le (fun i => !q.lost (eAt3 E i)) (dueIx E n j)
  have h2 := List.length_filter_le (fun i => decide ((eAt3 E i).c % 40 = j)) (List.range n)
  rw [List.length_range] at h2
  unfold cameIx
  unfold dueIx at h1 ⊢
  omega
set_option maxRecDepth 100000 in
set_option maxHeartbeats 4000000 in
theorem cuts_any (A : Option Addr) (E : List T3) (cap : Nat) (w : World) (hlen : E.length ≤ 9223372036854775807) (hV : RdV w 3 tenc (.slice A E.length cap) E) (hok : ∀ e ∈ E, e.ok) (x y s u : Int) (hx : 0 ≤ x ∧ x ≤ 255) (hy : 0 ≤ y ∧ y ≤ 255) (hs : 0 ≤ s ∧ s ≤ 255) (hu : 0 ≤ u ∧ u ≤ 255) :
    Calls Try.prog 7 #[.slice A E.length cap, .agg #[.int .u8 x, .int .u8 y], .agg #[.int .u8 s, .int .u8 u]] w (fun e w' => e = .returned (.bool true) ∧ Keep [] w w') := by
  by_cases h30 : 30 < E.length
  · have h' : (30 : Int) < (E.length : Int) := by omega
    clear h30
    go_enter Try.func7, Try.ntmps7
    go_wp2_with (first
      | (go_at_call 11; refine (new_any 3 _ (by decide)).mono ?_; rintro e w1 ⟨t, mb, rfl, ht, hmb, hN, hk1⟩)
      | (go_at_call 12; refine (told_any _).mono ?_; rintro e w2 ⟨rfl, hk2⟩)
      | fail)
    go_ret
    exact ⟨rfl, ((((Keep.refl _ _).alloc _).alloc _).trans hk1).trans hk2⟩
  · have h' : decide ((30 : Int) < (E.length : Int)) = false := by simp; omega
    have hb63 : (E.length : Int) ≤ 30 := by omega
    clear h30
    obtain ⟨w1, hw1⟩ : ∃ W, W = (w.alloc (.cells #[.int .u8 x, .int .u8 y] 52)).alloc (.cells #[.int .u8 s, .int .u8 u] 52) := ⟨_, rfl⟩
    have Bx : Blk w1 w.heap.size 52 #[.int .u8 x, .int .u8 y] := by rw [hw1]; exact (Blk.new _ _ _).alloc _
    have Bs : Blk w1 (w.heap.size + 1) 52 #[.int .u8 s, .int .u8 u] := by rw [hw1]; exact Blk.new_ (by simp)
    have hk1 : Keep [] w w1 := by rw [hw1]; exact ((Keep.refl _ _).alloc _).alloc _
    have hV := hV.keep0 hk1
    go_enter Try.func7, Try.ntmps7
    go_upto_region 1 with fail
    rw [← hw1]
    clear hw1
    go_wp2_with (first
      | (go_at_call 11; refine (new_any 3 _ (by decide)).mono ?_; rintro e w2 ⟨t, mb, rfl, ht, hmb, hN, hk2⟩)
      | fail)
    obtain ⟨q, HQ⟩ : ∃ q : Way, Hid (q = ⟨x % 3, y % 3, s % 40, u % 40⟩) := ⟨_, Lib.hid rfl⟩
    have hqok : q.ok := by rw [HQ.out]; unfold Way.ok; simp only; omega
    have qa : IntKind.i64.wrap (x.tmod 3) = q.a := by rw [Int.tmod_eq_emod_of_nonneg (by omega), IntWalk.i64_in _ (by omega), HQ.out]
    have qb : IntKind.i64.wrap (y.tmod 3) = q.b := by rw [Int.tmod_eq_emod_of_nonneg (by omega), IntWalk.i64_in _ (by omega), HQ.out]
    have qs : IntKind.i64.wrap (s.tmod 40) = q.s := by rw [Int.tmod_eq_emod_of_nonneg (by omega), IntWalk.i64_in _ (by omega), HQ.out]
    have qt : IntKind.i64.wrap (u.tmod 40) = q.t := by rw [Int.tmod_eq_emod_of_nonneg (by omega), IntWalk.i64_in _ (by omega), HQ.out]
    clear hx hy hs hu HQ
    go_loopg [9] E.length (fun m i wr => ∃ (k : Nat) (S : NS) (R B : List Nat), i = .int .i64 k ∧ m + k = E.length ∧ NetAt wr t mb S R B ∧ Hid (CutS S E q k 0) ∧ (∀ g ∈ R, w1.heap.size ≤ g) ∧ Keep [] w1 wr)
    case atStart => exact ⟨0, _, [], [], rfl, rfl, hN, Lib.hid (CutS.new E q), by simp, hk2⟩
    case round =>
      clear hN hk2
      obtain ⟨k, S, R, B, rfl, hk, hN, HS, hR, hKw⟩ := hrel
      have own0 : ∀ g ∈ t :: mb :: R, w1.heap.size ≤ g := fun g hg => by
        simp only [List.mem_cons] at hg
        rcases hg with rfl | rfl | hg
        · exact ht
        · exact hmb
        · exact hR g hg
      by_cases hlt : k < E.length
      · obtain ⟨e, he⟩ : ∃ e, E[k]? = some e := ⟨_, List.getElem?_eq_getElem hlt⟩
        have hq := hok e (List.mem_of_getElem? he)
        obtain ⟨ab, ao, cp, hv, hab, hcl⟩ := tAt hV he
        cases hv
        obtain ⟨ea, eb, ec⟩ := e
        obtain ⟨herr, hS2⟩ := HS.out.send he hq (by omega)
        unfold T3.ok at hq
        simp only at hq herr hS2 hcl
        have pa : IntKind.i64.wrap (ea.tmod 3) = ea % 3 := by rw [Int.tmod_eq_emod_of_nonneg (by omega), IntWalk.i64_in _ (by omega)]
        have pb : IntKind.i64.wrap (eb.tmod 3) = eb % 3 := by rw [Int.tmod_eq_emod_of_nonneg (by omega), IntWalk.i64_in _ (by omega)]
        have pc : IntKind.i64.wrap (ec.tmod 40) = ec % 40 := by rw [Int.tmod_eq_emod_of_nonneg (by omega), IntWalk.i64_in _ (by omega)]
        have qk : IntKind.u8.wrap (k : Int) = (k : Int) := IntWalk.u8_in _ (by omega)
        have HS2 := Lib.hid hS2
        have hnlt := hN.lt
        have FQ := fun W (hk : Keep (t :: mb :: R) wr W) => hcl W (hKw.own hk own0)
        have hsc := fun W (hk : Keep [] wr W) V L hVb hVn hL hLn => send_any (hN.keep0 hk) HS.out.wf (by rw [HS.out.now]; decide) (by rw [HS.out.next]; omega) (f := ea % 3) (dst := eb % 3) (V := V) (L := L) (b := [(k : Int)]) (l := [ec % 40]) hVb hVn hL hLn
        rw [herr] at hsc
        have hnew : ∀ g, wr.heap.size ≤ g → g ∉ t :: mb :: R := fun g hg hm => by
          simp only [List.mem_cons] at hm
          rcases hm with rfl | rfl | hm
          · omega
          · omega
          · have := hnlt.2.2.1 g hm; omega
        clear he herr hS2 hq hcl
        go_upto_region 7 with fail
        refine wp_region_noPanic ?_
        refine Bz.wp_region_E (S := (fun w' => Keep (t :: mb :: R) wr w')) (E := []) (by kernel_rfl) (by exact (Keep.refl _ _).drew) (fun hHeld => ?_)
        obtain ⟨wd, hwd⟩ : ∃ W, W = wr.drew := ⟨_, rfl⟩
        have hP : Keep [] wr wd := by rw [hwd]; exact (Keep.refl _ _).drew
        rw [← hwd] at hHeld ⊢
        clear hwd
        refine Bz.wpAnyE_take (i := 0) (oi := { dst := some 48, op := Go.Op.move (Go.Operand.tmp 7), type := 23, pos := "law.go:145", after := #[], guard := none }) (v := ?_) rfl (by kernel_rfl) (by kernel_rfl) (by kernel_rfl) (by kernel_rfl) (fun _ _ _ h => h) (Or.inl ⟨by rfl, ?_⟩) hHeld ?_
        rotate_left 1
        · (intro w hSw; have f1 := FQ w hSw; go_simp; first | done | with_reducible rfl)
        try simp only [Act.put, List.setIfInBounds_toArray, List.set_cons_zero, List.set_cons_succ]
        refine Bz.wpAnyE_take (i := 1) (oi := { dst := some 49, op := Go.Op.move (Go.Operand.tmp 0), type := 51, pos := "law.go:145", after := #[], guard := none }) (v := ?_) rfl (by kernel_rfl) (by kernel_rfl) (by kernel_rfl) (by kernel_rfl) (fun _ _ _ h => h) (Or.inl ⟨by rfl, ?_⟩) hHeld ?_
        rotate_left 1
        · (intro w hSw; have f1 := FQ w hSw; go_simp; first | done | with_reducible rfl)
        try simp only [Act.put, List.setIfInBounds_toArray, List.set_cons_zero, List.set_cons_succ]
        refine Bz.wpAnyE_take (i := 2) (oi := { dst := some 50, op := Go.Op.move (Go.Operand.tmp 9), type := 3, pos := "law.go:145", after := #[], guard := none }) (v := ?_) rfl (by kernel_rfl) (by kernel_rfl) (by kernel_rfl) (by kernel_rfl) (fun _ _ _ h => h) (Or.inl ⟨by rfl, ?_⟩) hHeld ?_
        rotate_left 1
        · (intro w hSw; have f1 := FQ w hSw; go_simp; first | done | with_reducible rfl)
        try simp only [Act.put, List.setIfInBounds_toArray, List.set_cons_zero, List.set_cons_succ]
        refine Bz.wpAnyE_take (i := 3) (oi := { dst := some 51, op := Go.Op.indexAddr 51 (Go.Operand.tmp 49) (Go.Operand.tmp 50), type := 0, pos := "law.go:145", after := #[{ on := 1, ground := Go.Ground.data }, { on := 2, ground := Go.Ground.data }], guard := none }) (v := ?_) rfl (by kernel_rfl) (by kernel_rfl) (by kernel_rfl) (by kernel_rfl) (fun _ _ _ h => h) (Or.inl ⟨by rfl, ?_⟩) hHeld ?_
        rotate_left 1
        · (intro w hSw; have f1 := FQ w hSw; go_simp; first | done | with_reducible rfl)
        try simp only [Act.put, List.setIfInBounds_toArray, List.set_cons_zero, List.set_cons_succ]
        refine Bz.wpAnyE_take (i := 4) (oi := { dst := some 52, op := Go.Op.indexAddr 53 (Go.Operand.tmp 51) (Go.Operand.const (Go.Value.int Go.IntKind.i64 0)), type := 0, pos := "law.go:145", after := #[{ on := 3, ground := Go.Ground.data }], guard := none }) (v := ?_) rfl (by kernel_rfl) (by kernel_rfl) (by kernel_rfl) (by kernel_rfl) (fun _ _ _ h => h) (Or.inl ⟨by rfl, ?_⟩) hHeld ?_
        rotate_left 1
        · (intro w hSw; have f1 := FQ w hSw; go_simp; first | done | with_reducible rfl)
        try simp only [Act.put, List.setIfInBounds_toArray, List.set_cons_zero, List.set_cons_succ]
        refine Bz.wpAnyE_take (i := 5) (oi := { dst := some 53, op := Go.Op.load 5 (Go.Operand.tmp 52), type := 5, pos := "law.go:145", after := #[{ on := 4, ground := Go.Ground.data }], guard := none }) (v := ?_) rfl (by kernel_rfl) (by kernel_rfl) (by kernel_rfl) (by kernel_rfl) (fun _ _ _ h => h) (Or.inl ⟨by rfl, ?_⟩) hHeld ?_
        rotate_left 1
        · (intro w hSw; have f1 := FQ w hSw; go_simp; first | done | with_reducible rfl)
        try simp only [Act.put, List.setIfInBounds_toArray, List.set_cons_zero, List.set_cons_succ]
        refine Bz.wpAnyE_take (i := 6) (oi := { dst := some 54, op := Go.Op.binOp Go.BinOp.rem 5 (Go.Operand.tmp 53) (Go.Operand.const (Go.Value.int Go.IntKind.u8 3)) 5, type := 5, pos := "law.go:145", after := #[{ on := 5, ground := Go.Ground.data }], guard := none }) (v := ?_) rfl (by kernel_rfl) (by kernel_rfl) (by kernel_rfl) (by kernel_rfl) (fun _ _ _ h => h) (Or.inl ⟨by rfl, ?_⟩) hHeld ?_
        rotate_left 1
        · (intro w hSw; have f1 := FQ w hSw; go_simp; first | done | with_reducible rfl)
        try simp only [Act.put, List.setIfInBounds_toArray, List.set_cons_zero, List.set_cons_succ]
        refine Bz.wpAnyE_take (i := 7) (oi := { dst := some 55, op := Go.Op.convert 5 3 (Go.Operand.tmp 54), type := 3, pos := "law.go:145", after := #[{ on := 6, ground := Go.Ground.data }], guard := none }) (v := ?_) rfl (by kernel_rfl) (by kernel_rfl) (by kernel_rfl) (by kernel_rfl) (fun _ _ _ h => h) (Or.inl ⟨by rfl, ?_⟩) hHeld ?_
        rotate_left 1
        · (intro w hSw; have f1 := FQ w hSw; go_simp; first | done | with_reducible rfl)
        try simp only [Act.put, List.setIfInBounds_toArray, List.set_cons_zero, List.set_cons_succ]
        refine Bz.wpAnyE_take (i := 8) (oi := { dst := some 56, op := Go.Op.move (Go.Operand.tmp 0), type := 51, pos := "law.go:145", after := #[], guard := none }) (v := ?_) rfl (by kernel_rfl) (by kernel_rfl) (by kernel_rfl) (by kernel_rfl) (fun _ _ _ h => h) (Or.inl ⟨by rfl, ?_⟩) hHeld ?_
        rotate_left 1
        · (intro w hSw; have f1 := FQ w hSw; go_simp; first | done | with_reducible rfl)
        try simp only [Act.put, List.setIfInBounds_toArray, List.set_cons_zero, List.set_cons_succ]
        refine Bz.wpAnyE_take (i := 9) (oi := { dst := some 57, op := Go.Op.move (Go.Operand.tmp 9), type := 3, pos := "law.go:145", after := #[], guard := none }) (v := ?_) rfl (by kernel_rfl) (by kernel_rfl) (by kernel_rfl) (by kernel_rfl) (fun _ _ _ h => h) (Or.inl ⟨by rfl, ?_⟩) hHeld ?_
        rotate_left 1
        · (intro w hSw; have f1 := FQ w hSw; go_simp; first | done | with_reducible rfl)
        try simp only [Act.put, List.setIfInBounds_toArray, List.set_cons_zero, List.set_cons_succ]
        refine Bz.wpAnyE_take (i := 10) (oi := { dst := some 58, op := Go.Op.indexAddr 51 (Go.Operand.tmp 56) (Go.Operand.tmp 57), type := 0, pos := "law.go:145", after := #[{ on := 8, ground := Go.Ground.data }, { on := 9, ground := Go.Ground.data }], guard := none }) (v := ?_) rfl (by kernel_rfl) (by kernel_rfl) (by kernel_rfl) (by kernel_rfl) (fun _ _ _ h => h) (Or.inl ⟨by rfl, ?_⟩) hHeld ?_
        rotate_left 1
        · (intro w hSw; have f1 := FQ w hSw; go_simp; first | done | with_reducible rfl)
        try simp only [Act.put, List.setIfInBounds_toArray, List.set_cons_zero, List.set_cons_succ]
        refine Bz.wpAnyE_take (i := 11) (oi := { dst := some 59, op := Go.Op.indexAddr 53 (Go.Operand.tmp 58) (Go.Operand.const (Go.Value.int Go.IntKind.i64 1)), type := 0, pos := "law.go:145", after := #[{ on := 10, ground := Go.Ground.data }], guard := none }) (v := ?_) rfl (by kernel_rfl) (by kernel_rfl) (by kernel_rfl) (by kernel_rfl) (fun _ _ _ h => h) (Or.inl ⟨by rfl, ?_⟩) hHeld ?_
        rotate_left 1
        · (intro w hSw; have f1 := FQ w hSw; go_simp; first | done | with_reducible rfl)
        try simp only [Act.put, List.setIfInBounds_toArray, List.set_cons_zero, List.set_cons_succ]
        refine Bz.wpAnyE_take (i := 12) (oi := { dst := some 60, op := Go.Op.load 5 (Go.Operand.tmp 59), type := 5, pos := "law.go:145", after := #[{ on := 11, ground := Go.Ground.data }], guard := none }) (v := ?_) rfl (by kernel_rfl) (by kernel_rfl) (by kernel_rfl) (by kernel_rfl) (fun _ _ _ h => h) (Or.inl ⟨by rfl, ?_⟩) hHeld ?_
        rotate_left 1
        · (intro w hSw; have f1 := FQ w hSw; go_simp; first | done | with_reducible rfl)
        try simp only [Act.put, List.setIfInBounds_toArray, List.set_cons_zero, List.set_cons_succ]
        refine Bz.wpAnyE_take (i := 13) (oi := { dst := some 61, op := Go.Op.binOp Go.BinOp.rem 5 (Go.Operand.tmp 60) (Go.Operand.const (Go.Value.int Go.IntKind.u8 3)) 5, type := 5, pos := "law.go:145", after := #[{ on := 12, ground := Go.Ground.data }], guard := none }) (v := ?_) rfl (by kernel_rfl) (by kernel_rfl) (by kernel_rfl) (by kernel_rfl) (fun _ _ _ h => h) (Or.inl ⟨by rfl, ?_⟩) hHeld ?_
        rotate_left 1
        · (intro w hSw; have f1 := FQ w hSw; go_simp; first | done | with_reducible rfl)
        try simp only [Act.put, List.setIfInBounds_toArray, List.set_cons_zero, List.set_cons_succ]
        refine Bz.wpAnyE_take (i := 14) (oi := { dst := some 62, op := Go.Op.convert 5 3 (Go.Operand.tmp 61), type := 3, pos := "law.go:145", after := #[{ on := 13, ground := Go.Ground.data }], guard := none }) (v := ?_) rfl (by kernel_rfl) (by kernel_rfl) (by kernel_rfl) (by kernel_rfl) (fun _ _ _ h => h) (Or.inl ⟨by rfl, ?_⟩) hHeld ?_
        rotate_left 1
        · (intro w hSw; have f1 := FQ w hSw; go_simp; first | done | with_reducible rfl)
        try simp only [Act.put, List.setIfInBounds_toArray, List.set_cons_zero, List.set_cons_succ]
        refine Bz.wpAnyE_take (i := 15) (oi := { dst := some 63, op := Go.Op.move (Go.Operand.tmp 9), type := 3, pos := "law.go:145", after := #[], guard := none }) (v := ?_) rfl (by kernel_rfl) (by kernel_rfl) (by kernel_rfl) (by kernel_rfl) (fun _ _ _ h => h) (Or.inl ⟨by rfl, ?_⟩) hHeld ?_
        rotate_left 1
        · (intro w hSw; have f1 := FQ w hSw; go_simp; first | done | with_reducible rfl)
        try simp only [Act.put, List.setIfInBounds_toArray, List.set_cons_zero, List.set_cons_succ]
        refine Bz.wpAnyE_take (i := 16) (oi := { dst := some 64, op := Go.Op.convert 3 5 (Go.Operand.tmp 63), type := 5, pos := "law.go:145", after := #[{ on := 15, ground := Go.Ground.data }], guard := none }) (v := ?_) rfl (by kernel_rfl) (by kernel_rfl) (by kernel_rfl) (by kernel_rfl) (fun _ _ _ h => h) (Or.inl ⟨by rfl, ?_⟩) hHeld ?_
        rotate_left 1
        · (intro w hSw; have f1 := FQ w hSw; go_simp; first | done | with_reducible rfl)
        try simp only [Act.put, List.setIfInBounds_toArray, List.set_cons_zero, List.set_cons_succ]
        refine Bz.wpAnyE_take (i := 19) (oi := { dst := some 67, op := Go.Op.move (Go.Operand.tmp 0), type := 51, pos := "law.go:145", after := #[], guard := none }) (v := ?_) rfl (by kernel_rfl) (by kernel_rfl) (by kernel_rfl) (by kernel_rfl) (fun _ _ _ h => h) (Or.inl ⟨by rfl, ?_⟩) hHeld ?_
        rotate_left 1
        · (intro w hSw; have f1 := FQ w hSw; go_simp; first | done | with_reducible rfl)
        try simp only [Act.put, List.setIfInBounds_toArray, List.set_cons_zero, List.set_cons_succ]
        refine Bz.wpAnyE_take (i := 20) (oi := { dst := some 68, op := Go.Op.move (Go.Operand.tmp 9), type := 3, pos := "law.go:145", after := #[], guard := none }) (v := ?_) rfl (by kernel_rfl) (by kernel_rfl) (by kernel_rfl) (by kernel_rfl) (fun _ _ _ h => h) (Or.inl ⟨by rfl, ?_⟩) hHeld ?_
        rotate_left 1
        · (intro w hSw; have f1 := FQ w hSw; go_simp; first | done | with_reducible rfl)
        try simp only [Act.put, List.setIfInBounds_toArray, List.set_cons_zero, List.set_cons_succ]
        refine Bz.wpAnyE_take (i := 21) (oi := { dst := some 69, op := Go.Op.indexAddr 51 (Go.Operand.tmp 67) (Go.Operand.tmp 68), type := 0, pos := "law.go:145", after := #[{ on := 19, ground := Go.Ground.data }, { on := 20, ground := Go.Ground.data }], guard := none }) (v := ?_) rfl (by kernel_rfl) (by kernel_rfl) (by kernel_rfl) (by kernel_rfl) (fun _ _ _ h => h) (Or.inl ⟨by rfl, ?_⟩) hHeld ?_
        rotate_left 1
        · (intro w hSw; have f1 := FQ w hSw; go_simp; first | done | with_reducible rfl)
        try simp only [Act.put, List.setIfInBounds_toArray, List.set_cons_zero, List.set_cons_succ]
        refine Bz.wpAnyE_take (i := 22) (oi := { dst := some 70, op := Go.Op.indexAddr 53 (Go.Operand.tmp 69) (Go.Operand.const (Go.Value.int Go.IntKind.i64 2)), type := 0, pos := "law.go:145", after := #[{ on := 21, ground := Go.Ground.data }], guard := none }) (v := ?_) rfl (by kernel_rfl) (by kernel_rfl) (by kernel_rfl) (by kernel_rfl) (fun _ _ _ h => h) (Or.inl ⟨by rfl, ?_⟩) hHeld ?_
        rotate_left 1
        · (intro w hSw; have f1 := FQ w hSw; go_simp; first | done | with_reducible rfl)
        try simp only [Act.put, List.setIfInBounds_toArray, List.set_cons_zero, List.set_cons_succ]
        refine Bz.wpAnyE_take (i := 23) (oi := { dst := some 71, op := Go.Op.load 5 (Go.Operand.tmp 70), type := 5, pos := "law.go:145", after := #[{ on := 22, ground := Go.Ground.data }], guard := none }) (v := ?_) rfl (by kernel_rfl) (by kernel_rfl) (by kernel_rfl) (by kernel_rfl) (fun _ _ _ h => h) (Or.inl ⟨by rfl, ?_⟩) hHeld ?_
        rotate_left 1
        · (intro w hSw; have f1 := FQ w hSw; go_simp; first | done | with_reducible rfl)
        try simp only [Act.put, List.setIfInBounds_toArray, List.set_cons_zero, List.set_cons_succ]
        refine Bz.wpAnyE_take (i := 24) (oi := { dst := some 72, op := Go.Op.binOp Go.BinOp.rem 5 (Go.Operand.tmp 71) (Go.Operand.const (Go.Value.int Go.IntKind.u8 40)) 5, type := 5, pos := "law.go:145", after := #[{ on := 23, ground := Go.Ground.data }], guard := none }) (v := ?_) rfl (by kernel_rfl) (by kernel_rfl) (by kernel_rfl) (by kernel_rfl) (fun _ _ _ h => h) (Or.inl ⟨by rfl, ?_⟩) hHeld ?_
        rotate_left 1
        · (intro w hSw; have f1 := FQ w hSw; go_simp; first | done | with_reducible rfl)
        try simp only [Act.put, List.setIfInBounds_toArray, List.set_cons_zero, List.set_cons_succ]
        refine Bz.wpAnyE_take (i := 25) (oi := { dst := some 73, op := Go.Op.convert 5 3 (Go.Operand.tmp 72), type := 3, pos := "law.go:145", after := #[{ on := 24, ground := Go.Ground.data }], guard := none }) (v := ?_) rfl (by kernel_rfl) (by kernel_rfl) (by kernel_rfl) (by kernel_rfl) (fun _ _ _ h => h) (Or.inl ⟨by rfl, ?_⟩) hHeld ?_
        rotate_left 1
        · (intro w hSw; have f1 := FQ w hSw; go_simp; first | done | with_reducible rfl)
        try simp only [Act.put, List.setIfInBounds_toArray, List.set_cons_zero, List.set_cons_succ]
        refine Bz.wpAnyE_ready (rs := [17, 26]) (by kernel_rfl) (by simp) ?_
        refine Bz.AllReadyE.cons (o := { dst := some 65, op := Go.Op.buildSlice 33 1 #[(0, Go.Operand.tmp 64)], type := 33, pos := "law.go:145", after := #[{ on := 16, ground := Go.Ground.data }], guard := none }) rfl (fun K hK => ?_) ?_
        · skip
          
          obtain ⟨wb, gb, hwb, hgb, hBy, hkb⟩ := lit_keep hHeld 5 (([(k : Int)] : List Int).map (Value.int .u8)).toArray
          simp only [List.map_cons, List.map_nil] at hwb
          go_simp
          rw [← hwb, ← hgb]
          have hgb0 : wr.heap.size ≤ gb := by rw [hgb]; exact hP.size
          clear hwb hgb
          try have hLa := hLa.keep hkb (by simp)
          have hP := hP.trans hkb
          refine hK.out _ _ (by exact hHeld.trans hkb.sub) ?_
          clear hHeld hK K; intro hHeld
          try simp only [Act.put, List.setIfInBounds_toArray, List.set_cons_zero, List.set_cons_succ]
          refine Bz.wpAnyE_take (i := 18) (oi := { dst := some 66, op := Go.Op.build 35 #[(0, Go.Operand.tmp 55), (1, Go.Operand.tmp 62), (2, Go.Operand.tmp 65)], type := 35, pos := "law.go:145", after := #[{ on := 7, ground := Go.Ground.data }, { on := 14, ground := Go.Ground.data }, { on := 17, ground := Go.Ground.data }], guard := none }) (v := ?_) rfl (by kernel_rfl) (by kernel_rfl) (by kernel_rfl) (by kernel_rfl) (fun _ _ _ h => h) (Or.inl ⟨by rfl, ?_⟩) hHeld ?_
          rotate_left 1
          · (intro w hSw; have f1 := FQ w hSw; go_simp; first | done | with_reducible rfl)
          try simp only [Act.put, List.setIfInBounds_toArray, List.set_cons_zero, List.set_cons_succ]
          refine Bz.wpAnyE_ready (rs := [26]) (by kernel_rfl) (by simp) ?_
          refine Bz.AllReadyE.cons (o := { dst := some 74, op := Go.Op.buildSlice 29 1 #[(0, Go.Operand.tmp 73)], type := 29, pos := "law.go:145", after := #[{ on := 25, ground := Go.Ground.data }], guard := none }) rfl (fun K hK => ?_) Bz.AllReadyE.nil
          
          obtain ⟨wc', gc, hwc, hgc, hLa, hkc⟩ := lit_keep hHeld 3 (([ec % 40] : List Int).map (Value.int .i64)).toArray
          simp only [List.map_cons, List.map_nil] at hwc
          go_simp
          rw [← hwc, ← hgc]
          have hgc0 : wr.heap.size ≤ gc := by rw [hgc]; exact hP.size
          clear hwc hgc
          try have hBy := hBy.keep hkc (by simp)
          have hP := hP.trans hkc
          refine hK.out _ _ (by exact hHeld.trans hkc.sub) ?_
          clear hHeld hK K; intro hHeld
          try simp only [Act.put, List.setIfInBounds_toArray, List.set_cons_zero, List.set_cons_succ]
          refine Bz.wpAnyE_take (i := 27) (oi := { dst := some 75, op := Go.Op.build 31 #[(0, Go.Operand.tmp 74)], type := 31, pos := "law.go:145", after := #[{ on := 26, ground := Go.Ground.data }], guard := none }) (v := ?_) rfl (by kernel_rfl) (by kernel_rfl) (by kernel_rfl) (by kernel_rfl) (fun _ _ _ h => h) (Or.inl ⟨by rfl, ?_⟩) hHeld ?_
          rotate_left 1
          · (intro w hSw; have f1 := FQ w hSw; go_simp; first | done | with_reducible rfl)
          try simp only [Act.put, List.setIfInBounds_toArray, List.set_cons_zero, List.set_cons_succ]
          refine Bz.wpAnyE_ready (rs := [28]) (by kernel_rfl) (by simp) ?_
          refine Bz.AllReadyE.cons (o := { dst := some 76, op := Go.Op.call { callee := Go.Callee.value (Go.Operand.func 13), args := #[Go.Operand.tmp 48, Go.Operand.tmp 66, Go.Operand.tmp 75], argTypes := #[23, 35, 31] }, type := 24, pos := "law.go:145", after := #[{ on := 0, ground := Go.Ground.data }, { on := 18, ground := Go.Ground.data }, { on := 27, ground := Go.Ground.data }], guard := none }) rfl (fun K hK => ?_) Bz.AllReadyE.nil
          go_simp
          
          refine (hsc _ hP (.slice (some ⟨gb, 0, none⟩) 1 1) (.slice (some ⟨gc, 0, none⟩) 1 1) (ints_lit hBy (show (1 : Nat) ≤ maxLen from by decide)).rd (fun _ g hg => by simp [ownB, Value.ownBlock] at hg; subst hg; exact hnew _ hgb0) (ints_lit hLa (show (1 : Nat) ≤ maxLen from by decide)).rd (fun _ g hg => by simp [ownB, Value.ownBlock] at hg; subst hg; exact hnew _ hgc0)).mono ?_
          rintro e w5 ⟨rfl, R', B', hN5, hR5, hB5, hk5⟩
          have hz5 := hP.size
          refine hK.out _ _ (by exact hHeld.trans hk5) ?_
          clear hHeld hK K; intro hHeld
          try simp only [Act.put, List.setIfInBounds_toArray, List.set_cons_zero, List.set_cons_succ]
          refine Bz.wpAnyE_take (i := 29) (oi := { dst := some 77, op := Go.Op.binOp Go.BinOp.neq 24 (Go.Operand.tmp 76) (Go.Operand.const (Go.Value.int Go.IntKind.i64 0)) 24, type := 4, pos := "law.go:145", after := #[{ on := 28, ground := Go.Ground.data }], guard := none }) (v := ?_) rfl (by kernel_rfl) (by kernel_rfl) (by kernel_rfl) (by kernel_rfl) (fun _ _ _ h => h) (Or.inl ⟨by rfl, ?_⟩) hHeld ?_
          rotate_left 1
          · (intro w hSw; have f1 := FQ w hSw; go_simp; first | done | with_reducible rfl)
          try simp only [Act.put, List.setIfInBounds_toArray, List.set_cons_zero, List.set_cons_succ]
          refine Bz.wpAnyE_done (by kernel_rfl) ?_ _
          refine NoPanic.normal ?_
          have hKw5 := hKw.own hHeld own0
          have hR5' : ∀ g ∈ R', w1.heap.size ≤ g := fun g hg => by
            rcases hR5 g hg with h1 | h1
            · exact hR g h1
            · have := hKw.size; omega
          clear hsc FQ hnew hR5 hB5
          go_wp2_with fail
          go_roundg (E.length - (k + 1))
          case measure => omega
          case rel => exact ⟨k + 1, _, R', B', by go_num, by omega, hN5, HS2, hR5', hKw5⟩
        refine Bz.AllReadyE.cons (o := { dst := some 74, op := Go.Op.buildSlice 29 1 #[(0, Go.Operand.tmp 73)], type := 29, pos := "law.go:145", after := #[{ on := 25, ground := Go.Ground.data }], guard := none }) rfl (fun K hK => ?_) ?_
        · skip
          
          obtain ⟨wc', gc, hwc, hgc, hLa, hkc⟩ := lit_keep hHeld 3 (([ec % 40] : List Int).map (Value.int .i64)).toArray
          simp only [List.map_cons, List.map_nil] at hwc
          go_simp
          rw [← hwc, ← hgc]
          have hgc0 : wr.heap.size ≤ gc := by rw [hgc]; exact hP.size
          clear hwc hgc
          try have hBy := hBy.keep hkc (by simp)
          have hP := hP.trans hkc
          refine hK.out _ _ (by exact hHeld.trans hkc.sub) ?_
          clear hHeld hK K; intro hHeld
          try simp only [Act.put, List.setIfInBounds_toArray, List.set_cons_zero, List.set_cons_succ]
          refine Bz.wpAnyE_take (i := 27) (oi := { dst := some 75, op := Go.Op.build 31 #[(0, Go.Operand.tmp 74)], type := 31, pos := "law.go:145", after := #[{ on := 26, ground := Go.Ground.data }], guard := none }) (v := ?_) rfl (by kernel_rfl) (by kernel_rfl) (by kernel_rfl) (by kernel_rfl) (fun _ _ _ h => h) (Or.inl ⟨by rfl, ?_⟩) hHeld ?_
          rotate_left 1
          · (intro w hSw; have f1 := FQ w hSw; go_simp; first | done | with_reducible rfl)
          try simp only [Act.put, List.setIfInBounds_toArray, List.set_cons_zero, List.set_cons_succ]
          refine Bz.wpAnyE_ready (rs := [17]) (by kernel_rfl) (by simp) ?_
          refine Bz.AllReadyE.cons (o := { dst := some 65, op := Go.Op.buildSlice 33 1 #[(0, Go.Operand.tmp 64)], type := 33, pos := "law.go:145", after := #[{ on := 16, ground := Go.Ground.data }], guard := none }) rfl (fun K hK => ?_) Bz.AllReadyE.nil
          
          obtain ⟨wb, gb, hwb, hgb, hBy, hkb⟩ := lit_keep hHeld 5 (([(k : Int)] : List Int).map (Value.int .u8)).toArray
          simp only [List.map_cons, List.map_nil] at hwb
          go_simp
          rw [← hwb, ← hgb]
          have hgb0 : wr.heap.size ≤ gb := by rw [hgb]; exact hP.size
          clear hwb hgb
          try have hLa := hLa.keep hkb (by simp)
          have hP := hP.trans hkb
          refine hK.out _ _ (by exact hHeld.trans hkb.sub) ?_
          clear hHeld hK K; intro hHeld
          try simp only [Act.put, List.setIfInBounds_toArray, List.set_cons_zero, List.set_cons_succ]
          refine Bz.wpAnyE_take (i := 18) (oi := { dst := some 66, op := Go.Op.build 35 #[(0, Go.Operand.tmp 55), (1, Go.Operand.tmp 62), (2, Go.Operand.tmp 65)], type := 35, pos := "law.go:145", after := #[{ on := 7, ground := Go.Ground.data }, { on := 14, ground := Go.Ground.data }, { on := 17, ground := Go.Ground.data }], guard := none }) (v := ?_) rfl (by kernel_rfl) (by kernel_rfl) (by kernel_rfl) (by kernel_rfl) (fun _ _ _ h => h) (Or.inl ⟨by rfl, ?_⟩) hHeld ?_
          rotate_left 1
          · (intro w hSw; have f1 := FQ w hSw; go_simp; first | done | with_reducible rfl)
          try simp only [Act.put, List.setIfInBounds_toArray, List.set_cons_zero, List.set_cons_succ]
          refine Bz.wpAnyE_ready (rs := [28]) (by kernel_rfl) (by simp) ?_
          refine Bz.AllReadyE.cons (o := { dst := some 76, op := Go.Op.call { callee := Go.Callee.value (Go.Operand.func 13), args := #[Go.Operand.tmp 48, Go.Operand.tmp 66, Go.Operand.tmp 75], argTypes := #[23, 35, 31] }, type := 24, pos := "law.go:145", after := #[{ on := 0, ground := Go.Ground.data }, { on := 18, ground := Go.Ground.data }, { on := 27, ground := Go.Ground.data }], guard := none }) rfl (fun K hK => ?_) Bz.AllReadyE.nil
          go_simp
          
          refine (hsc _ hP (.slice (some ⟨gb, 0, none⟩) 1 1) (.slice (some ⟨gc, 0, none⟩) 1 1) (ints_lit hBy (show (1 : Nat) ≤ maxLen from by decide)).rd (fun _ g hg => by simp [ownB, Value.ownBlock] at hg; subst hg; exact hnew _ hgb0) (ints_lit hLa (show (1 : Nat) ≤ maxLen from by decide)).rd (fun _ g hg => by simp [ownB, Value.ownBlock] at hg; subst hg; exact hnew _ hgc0)).mono ?_
          rintro e w5 ⟨rfl, R', B', hN5, hR5, hB5, hk5⟩
          have hz5 := hP.size
          refine hK.out _ _ (by exact hHeld.trans hk5) ?_
          clear hHeld hK K; intro hHeld
          try simp only [Act.put, List.setIfInBounds_toArray, List.set_cons_zero, List.set_cons_succ]
          refine Bz.wpAnyE_take (i := 29) (oi := { dst := some 77, op := Go.Op.binOp Go.BinOp.neq 24 (Go.Operand.tmp 76) (Go.Operand.const (Go.Value.int Go.IntKind.i64 0)) 24, type := 4, pos := "law.go:145", after := #[{ on := 28, ground := Go.Ground.data }], guard := none }) (v := ?_) rfl (by kernel_rfl) (by kernel_rfl) (by kernel_rfl) (by kernel_rfl) (fun _ _ _ h => h) (Or.inl ⟨by rfl, ?_⟩) hHeld ?_
          rotate_left 1
          · (intro w hSw; have f1 := FQ w hSw; go_simp; first | done | with_reducible rfl)
          try simp only [Act.put, List.setIfInBounds_toArray, List.set_cons_zero, List.set_cons_succ]
          refine Bz.wpAnyE_done (by kernel_rfl) ?_ _
          refine NoPanic.normal ?_
          have hKw5 := hKw.own hHeld own0
          have hR5' : ∀ g ∈ R', w1.heap.size ≤ g := fun g hg => by
            rcases hR5 g hg with h1 | h1
            · exact hR g h1
            · have := hKw.size; omega
          clear hsc FQ hnew hR5 hB5
          go_wp2_with fail
          go_roundg (E.length - (k + 1))
          case measure => omega
          case rel => exact ⟨k + 1, _, R', B', by go_num, by omega, hN5, HS2, hR5', hKw5⟩
        exact Bz.AllReadyE.nil
      · have hkl : k = E.length := by omega
        subst hkl
        have FX := fun W (hk : Keep [] w1 W) => (Bx.keep hk (by simp)).cell
        have FS := fun W (hk : Keep [] w1 W) => (Bs.keep hk (by simp)).cell
        clear hk hlt Bx Bs
        go_upto_region 9 with fail
        refine wp_region_noPanic ?_
        refine Bz.wp_region_E (S := (fun w' => Keep [] wr w')) (E := []) (by kernel_rfl) (by exact (Keep.refl _ _).drew) (fun hHeld => ?_)
        refine Bz.wpAnyE_take (i := 0) (oi := { dst := some 78, op := Go.Op.indexAddr 52 (Go.Operand.tmp 4) (Go.Operand.const (Go.Value.int Go.IntKind.i64 0)), type := 0, pos := "law.go:149", after := #[], guard := none }) (v := ?_) rfl (by kernel_rfl) (by kernel_rfl) (by kernel_rfl) (by kernel_rfl) (fun _ _ _ h => h) (Or.inl ⟨by rfl, ?_⟩) hHeld ?_
        rotate_left 1
        · (intro w hSw; have f1 := FX w (hKw.trans hSw); go_simp; first | done | with_reducible rfl)
        try simp only [Act.put, List.setIfInBounds_toArray, List.set_cons_zero, List.set_cons_succ]
        refine Bz.wpAnyE_take (i := 1) (oi := { dst := some 79, op := Go.Op.load 5 (Go.Operand.tmp 78), type := 5, pos := "law.go:149", after := #[{ on := 0, ground := Go.Ground.data }], guard := none }) (v := ?_) rfl (by kernel_rfl) (by kernel_rfl) (by kernel_rfl) (by kernel_rfl) (fun _ _ _ h => h) (Or.inl ⟨by rfl, ?_⟩) hHeld ?_
        rotate_left 1
        · (intro w hSw; have f1 := FX w (hKw.trans hSw); go_simp; first | done | with_reducible rfl)
        try simp only [Act.put, List.setIfInBounds_toArray, List.set_cons_zero, List.set_cons_succ]
        refine Bz.wpAnyE_take (i := 2) (oi := { dst := some 80, op := Go.Op.binOp Go.BinOp.rem 5 (Go.Operand.tmp 79) (Go.Operand.const (Go.Value.int Go.IntKind.u8 3)) 5, type := 5, pos := "law.go:149", after := #[{ on := 1, ground := Go.Ground.data }], guard := none }) (v := ?_) rfl (by kernel_rfl) (by kernel_rfl) (by kernel_rfl) (by kernel_rfl) (fun _ _ _ h => h) (Or.inl ⟨by rfl, ?_⟩) hHeld ?_
        rotate_left 1
        · (intro w hSw; have f1 := FX w (hKw.trans hSw); go_simp; first | done | with_reducible rfl)
        try simp only [Act.put, List.setIfInBounds_toArray, List.set_cons_zero, List.set_cons_succ]
        refine Bz.wpAnyE_take (i := 3) (oi := { dst := some 81, op := Go.Op.convert 5 3 (Go.Operand.tmp 80), type := 3, pos := "law.go:149", after := #[{ on := 2, ground := Go.Ground.data }], guard := none }) (v := ?_) rfl (by kernel_rfl) (by kernel_rfl) (by kernel_rfl) (by kernel_rfl) (fun _ _ _ h => h) (Or.inl ⟨by rfl, ?_⟩) hHeld ?_
        rotate_left 1
        · (intro w hSw; have f1 := FX w (hKw.trans hSw); go_simp; first | done | with_reducible rfl)
        try simp only [Act.put, List.setIfInBounds_toArray, List.set_cons_zero, List.set_cons_succ]
        refine Bz.wpAnyE_take (i := 4) (oi := { dst := some 82, op := Go.Op.indexAddr 52 (Go.Operand.tmp 4) (Go.Operand.const (Go.Value.int Go.IntKind.i64 1)), type := 0, pos := "law.go:149", after := #[{ on := 8, ground := Go.Ground.gcOnly Go.Departure.lateStores }], guard := none }) (v := ?_) rfl (by kernel_rfl) (by kernel_rfl) (by kernel_rfl) (by kernel_rfl) (fun _ _ _ h => h) (Or.inl ⟨by rfl, ?_⟩) hHeld ?_
        rotate_left 1
        · (intro w hSw; have f1 := FX w (hKw.trans hSw); go_simp; first | done | with_reducible rfl)
        try simp only [Act.put, List.setIfInBounds_toArray, List.set_cons_zero, List.set_cons_succ]
        refine Bz.wpAnyE_take (i := 5) (oi := { dst := some 83, op := Go.Op.load 5 (Go.Operand.tmp 82), type := 5, pos := "law.go:149", after := #[{ on := 4, ground := Go.Ground.data }, { on := 8, ground := Go.Ground.gcOnly Go.Departure.lateStores }], guard := none }) (v := ?_) rfl (by kernel_rfl) (by kernel_rfl) (by kernel_rfl) (by kernel_rfl) (fun _ _ _ h => h) (Or.inl ⟨by rfl, ?_⟩) hHeld ?_
        rotate_left 1
        · (intro w hSw; have f1 := FX w (hKw.trans hSw); go_simp; first | done | with_reducible rfl)
        try simp only [Act.put, List.setIfInBounds_toArray, List.set_cons_zero, List.set_cons_succ]
        refine Bz.wpAnyE_take (i := 6) (oi := { dst := some 84, op := Go.Op.binOp Go.BinOp.rem 5 (Go.Operand.tmp 83) (Go.Operand.const (Go.Value.int Go.IntKind.u8 3)) 5, type := 5, pos := "law.go:149", after := #[{ on := 5, ground := Go.Ground.data }, { on := 8, ground := Go.Ground.gcOnly Go.Departure.lateStores }], guard := none }) (v := ?_) rfl (by kernel_rfl) (by kernel_rfl) (by kernel_rfl) (by kernel_rfl) (fun _ _ _ h => h) (Or.inl ⟨by rfl, ?_⟩) hHeld ?_
        rotate_left 1
        · (intro w hSw; have f1 := FX w (hKw.trans hSw); go_simp; first | done | with_reducible rfl)
        try simp only [Act.put, List.setIfInBounds_toArray, List.set_cons_zero, List.set_cons_succ]
        refine Bz.wpAnyE_take (i := 7) (oi := { dst := some 85, op := Go.Op.convert 5 3 (Go.Operand.tmp 84), type := 3, pos := "law.go:149", after := #[{ on := 6, ground := Go.Ground.data }, { on := 8, ground := Go.Ground.gcOnly Go.Departure.lateStores }], guard := none }) (v := ?_) rfl (by kernel_rfl) (by kernel_rfl) (by kernel_rfl) (by kernel_rfl) (fun _ _ _ h => h) (Or.inl ⟨by rfl, ?_⟩) hHeld ?_
        rotate_left 1
        · (intro w hSw; have f1 := FX w (hKw.trans hSw); go_simp; first | done | with_reducible rfl)
        try simp only [Act.put, List.setIfInBounds_toArray, List.set_cons_zero, List.set_cons_succ]
        refine Bz.wpAnyE_take (i := 8) (oi := { dst := some 10, op := Go.Op.assign (Go.Operand.tmp 81), type := 3, pos := "law.go:149", after := #[{ on := 3, ground := Go.Ground.data }, { on := 0, ground := Go.Ground.phase }, { on := 1, ground := Go.Ground.phase }, { on := 2, ground := Go.Ground.phase }, { on := 3, ground := Go.Ground.phase }, { on := 4, ground := Go.Ground.textOnly Go.Departure.lateStores }, { on := 5, ground := Go.Ground.textOnly Go.Departure.lateStores }, { on := 6, ground := Go.Ground.textOnly Go.Departure.lateStores }, { on := 7, ground := Go.Ground.textOnly Go.Departure.lateStores }], guard := none }) (v := ?_) rfl (by kernel_rfl) (by kernel_rfl) (by kernel_rfl) (by kernel_rfl) (fun _ _ _ h => h) (Or.inl ⟨by rfl, ?_⟩) hHeld ?_
        rotate_left 1
        · (intro w hSw; have f1 := FX w (hKw.trans hSw); go_simp; first | done | with_reducible rfl)
        try simp only [Act.put, List.setIfInBounds_toArray, List.set_cons_zero, List.set_cons_succ]
        refine Bz.wpAnyE_take (i := 9) (oi := { dst := some 11, op := Go.Op.assign (Go.Operand.tmp 85), type := 3, pos := "law.go:149", after := #[{ on := 7, ground := Go.Ground.data }, { on := 8, ground := Go.Ground.chain }, { on := 0, ground := Go.Ground.phase }, { on := 1, ground := Go.Ground.phase }, { on := 2, ground := Go.Ground.phase }, { on := 3, ground := Go.Ground.phase }, { on := 4, ground := Go.Ground.phase }, { on := 5, ground := Go.Ground.phase }, { on := 6, ground := Go.Ground.phase }, { on := 7, ground := Go.Ground.phase }, { on := 8, ground := Go.Ground.phase }], guard := none }) (v := ?_) rfl (by kernel_rfl) (by kernel_rfl) (by kernel_rfl) (by kernel_rfl) (fun _ _ _ h => h) (Or.inl ⟨by rfl, ?_⟩) hHeld ?_
        rotate_left 1
        · (intro w hSw; have f1 := FX w (hKw.trans hSw); go_simp; first | done | with_reducible rfl)
        try simp only [Act.put, List.setIfInBounds_toArray, List.set_cons_zero, List.set_cons_succ]
        refine Bz.wpAnyE_done (by kernel_rfl) ?_ _
        refine NoPanic.normal ?_
        
        have hN9 := hN.keep0 hHeld
        have hK9 := hKw.trans hHeld
        clear hHeld
        obtain ⟨w9, hw9⟩ : ∃ W, W = wr.drew := ⟨_, rfl⟩
        rw [← hw9] at hN9 hK9 ⊢
        clear hw9
        go_upto_region 10 with fail
        refine wp_region_noPanic ?_
        refine Bz.wp_region_E (S := (fun w' => Keep [] w9 w')) (E := []) (by kernel_rfl) (by exact (Keep.refl _ _).drew) (fun hHeld => ?_)
        refine Bz.wpAnyE_take (i := 0) (oi := { dst := some 86, op := Go.Op.indexAddr 52 (Go.Operand.tmp 5) (Go.Operand.const (Go.Value.int Go.IntKind.i64 0)), type := 0, pos := "law.go:150", after := #[], guard := none }) (v := ?_) rfl (by kernel_rfl) (by kernel_rfl) (by kernel_rfl) (by kernel_rfl) (fun _ _ _ h => h) (Or.inl ⟨by rfl, ?_⟩) hHeld ?_
        rotate_left 1
        · (intro w hSw; have f1 := FS w (hK9.trans hSw); go_simp; first | done | with_reducible rfl)
        try simp only [Act.put, List.setIfInBounds_toArray, List.set_cons_zero, List.set_cons_succ]
        refine Bz.wpAnyE_take (i := 1) (oi := { dst := some 87, op := Go.Op.load 5 (Go.Operand.tmp 86), type := 5, pos := "law.go:150", after := #[{ on := 0, ground := Go.Ground.data }], guard := none }) (v := ?_) rfl (by kernel_rfl) (by kernel_rfl) (by kernel_rfl) (by kernel_rfl) (fun _ _ _ h => h) (Or.inl ⟨by rfl, ?_⟩) hHeld ?_
        rotate_left 1
        · (intro w hSw; have f1 := FS w (hK9.trans hSw); go_simp; first | done | with_reducible rfl)
        try simp only [Act.put, List.setIfInBounds_toArray, List.set_cons_zero, List.set_cons_succ]
        refine Bz.wpAnyE_take (i := 2) (oi := { dst := some 88, op := Go.Op.binOp Go.BinOp.rem 5 (Go.Operand.tmp 87) (Go.Operand.const (Go.Value.int Go.IntKind.u8 40)) 5, type := 5, pos := "law.go:150", after := #[{ on := 1, ground := Go.Ground.data }], guard := none }) (v := ?_) rfl (by kernel_rfl) (by kernel_rfl) (by kernel_rfl) (by kernel_rfl) (fun _ _ _ h => h) (Or.inl ⟨by rfl, ?_⟩) hHeld ?_
        rotate_left 1
        · (intro w hSw; have f1 := FS w (hK9.trans hSw); go_simp; first | done | with_reducible rfl)
        try simp only [Act.put, List.setIfInBounds_toArray, List.set_cons_zero, List.set_cons_succ]
        refine Bz.wpAnyE_take (i := 3) (oi := { dst := some 89, op := Go.Op.convert 5 3 (Go.Operand.tmp 88), type := 3, pos := "law.go:150", after := #[{ on := 2, ground := Go.Ground.data }], guard := none }) (v := ?_) rfl (by kernel_rfl) (by kernel_rfl) (by kernel_rfl) (by kernel_rfl) (fun _ _ _ h => h) (Or.inl ⟨by rfl, ?_⟩) hHeld ?_
        rotate_left 1
        · (intro w hSw; have f1 := FS w (hK9.trans hSw); go_simp; first | done | with_reducible rfl)
        try simp only [Act.put, List.setIfInBounds_toArray, List.set_cons_zero, List.set_cons_succ]
        refine Bz.wpAnyE_take (i := 4) (oi := { dst := some 90, op := Go.Op.indexAddr 52 (Go.Operand.tmp 5) (Go.Operand.const (Go.Value.int Go.IntKind.i64 1)), type := 0, pos := "law.go:150", after := #[{ on := 8, ground := Go.Ground.gcOnly Go.Departure.lateStores }], guard := none }) (v := ?_) rfl (by kernel_rfl) (by kernel_rfl) (by kernel_rfl) (by kernel_rfl) (fun _ _ _ h => h) (Or.inl ⟨by rfl, ?_⟩) hHeld ?_
        rotate_left 1
        · (intro w hSw; have f1 := FS w (hK9.trans hSw); go_simp; first | done | with_reducible rfl)
        try simp only [Act.put, List.setIfInBounds_toArray, List.set_cons_zero, List.set_cons_succ]
        refine Bz.wpAnyE_take (i := 5) (oi := { dst := some 91, op := Go.Op.load 5 (Go.Operand.tmp 90), type := 5, pos := "law.go:150", after := #[{ on := 4, ground := Go.Ground.data }, { on := 8, ground := Go.Ground.gcOnly Go.Departure.lateStores }], guard := none }) (v := ?_) rfl (by kernel_rfl) (by kernel_rfl) (by kernel_rfl) (by kernel_rfl) (fun _ _ _ h => h) (Or.inl ⟨by rfl, ?_⟩) hHeld ?_
        rotate_left 1
        · (intro w hSw; have f1 := FS w (hK9.trans hSw); go_simp; first | done | with_reducible rfl)
        try simp only [Act.put, List.setIfInBounds_toArray, List.set_cons_zero, List.set_cons_succ]
        refine Bz.wpAnyE_take (i := 6) (oi := { dst := some 92, op := Go.Op.binOp Go.BinOp.rem 5 (Go.Operand.tmp 91) (Go.Operand.const (Go.Value.int Go.IntKind.u8 40)) 5, type := 5, pos := "law.go:150", after := #[{ on := 5, ground := Go.Ground.data }, { on := 8, ground := Go.Ground.gcOnly Go.Departure.lateStores }], guard := none }) (v := ?_) rfl (by kernel_rfl) (by kernel_rfl) (by kernel_rfl) (by kernel_rfl) (fun _ _ _ h => h) (Or.inl ⟨by rfl, ?_⟩) hHeld ?_
        rotate_left 1
        · (intro w hSw; have f1 := FS w (hK9.trans hSw); go_simp; first | done | with_reducible rfl)
        try simp only [Act.put, List.setIfInBounds_toArray, List.set_cons_zero, List.set_cons_succ]
        refine Bz.wpAnyE_take (i := 7) (oi := { dst := some 93, op := Go.Op.convert 5 3 (Go.Operand.tmp 92), type := 3, pos := "law.go:150", after := #[{ on := 6, ground := Go.Ground.data }, { on := 8, ground := Go.Ground.gcOnly Go.Departure.lateStores }], guard := none }) (v := ?_) rfl (by kernel_rfl) (by kernel_rfl) (by kernel_rfl) (by kernel_rfl) (fun _ _ _ h => h) (Or.inl ⟨by rfl, ?_⟩) hHeld ?_
        rotate_left 1
        · (intro w hSw; have f1 := FS w (hK9.trans hSw); go_simp; first | done | with_reducible rfl)
        try simp only [Act.put, List.setIfInBounds_toArray, List.set_cons_zero, List.set_cons_succ]
        refine Bz.wpAnyE_take (i := 8) (oi := { dst := some 12, op := Go.Op.assign (Go.Operand.tmp 89), type := 3, pos := "law.go:150", after := #[{ on := 3, ground := Go.Ground.data }, { on := 0, ground := Go.Ground.phase }, { on := 1, ground := Go.Ground.phase }, { on := 2, ground := Go.Ground.phase }, { on := 3, ground := Go.Ground.phase }, { on := 4, ground := Go.Ground.textOnly Go.Departure.lateStores }, { on := 5, ground := Go.Ground.textOnly Go.Departure.lateStores }, { on := 6, ground := Go.Ground.textOnly Go.Departure.lateStores }, { on := 7, ground := Go.Ground.textOnly Go.Departure.lateStores }], guard := none }) (v := ?_) rfl (by kernel_rfl) (by kernel_rfl) (by kernel_rfl) (by kernel_rfl) (fun _ _ _ h => h) (Or.inl ⟨by rfl, ?_⟩) hHeld ?_
        rotate_left 1
        · (intro w hSw; have f1 := FS w (hK9.trans hSw); go_simp; first | done | with_reducible rfl)
        try simp only [Act.put, List.setIfInBounds_toArray, List.set_cons_zero, List.set_cons_succ]
        refine Bz.wpAnyE_take (i := 9) (oi := { dst := some 13, op := Go.Op.assign (Go.Operand.tmp 93), type := 3, pos := "law.go:150", after := #[{ on := 7, ground := Go.Ground.data }, { on := 8, ground := Go.Ground.chain }, { on := 0, ground := Go.Ground.phase }, { on := 1, ground := Go.Ground.phase }, { on := 2, ground := Go.Ground.phase }, { on := 3, ground := Go.Ground.phase }, { on := 4, ground := Go.Ground.phase }, { on := 5, ground := Go.Ground.phase }, { on := 6, ground := Go.Ground.phase }, { on := 7, ground := Go.Ground.phase }, { on := 8, ground := Go.Ground.phase }], guard := none }) (v := ?_) rfl (by kernel_rfl) (by kernel_rfl) (by kernel_rfl) (by kernel_rfl) (fun _ _ _ h => h) (Or.inl ⟨by rfl, ?_⟩) hHeld ?_
        rotate_left 1
        · (intro w hSw; have f1 := FS w (hK9.trans hSw); go_simp; first | done | with_reducible rfl)
        try simp only [Act.put, List.setIfInBounds_toArray, List.set_cons_zero, List.set_cons_succ]
        refine Bz.wpAnyE_done (by kernel_rfl) ?_ _
        refine NoPanic.normal ?_
        
        have hN10 := hN9.keep0 hHeld
        have hK10 := hK9.trans hHeld
        clear hHeld hN9 hK9 hN hKw FX FS
        obtain ⟨wa, hwa⟩ : ∃ W, W = w9.drew := ⟨_, rfl⟩
        rw [← hwa] at hN10 hK10 ⊢
        clear hwa
        have hmm := @run_makeMap Try.prog
        go_upto_region 12 with fail
        obtain ⟨mc, HMc⟩ : ∃ m, Hid (m = wa.heap.size) := ⟨_, Lib.hid rfl⟩
        obtain ⟨wm, hwm⟩ : ∃ W, W = wa.alloc (.map #[] 0) := ⟨_, rfl⟩
        have hM : MapAt wm mc (Value.int .i64 : Int → Value) Value.bool [] := by rw [hwm, HMc.out]; exact MapAt.made _ _ _
        have hkm : Keep [] wa wm := by rw [hwm]; exact (Keep.refl _ _).alloc _
        have hNm := hN10.keep0 hkm
        have hKm := hK10.trans hkm
        have hltt := hN10.lt
        have hmcR : ∀ g ∈ R, g ≠ mc := fun g hg e => by have := hltt.2.2.1 g hg; have := HMc.out; omega
        have hmcB : ∀ g ∈ B, g ≠ mc := fun g hg e => by have := hltt.2.2.2 g hg; have := HMc.out; omega
        have hmct : t ≠ mc := fun e => by have := hltt.1; have := HMc.out; omega
        have hmcm : mb ≠ mc := fun e => by have := hltt.2.1; have := HMc.out; omega
        have hmc1 : w1.heap.size ≤ mc := by rw [HMc.out]; exact hK10.size
        rw [← hwm, ← HMc.out]
        clear hwm hmm hN10 hK10 hkm hltt
        go_wp2_with fail
        go_loopg [15] 40 (fun m i wr => ∃ (j : Nat) (S : NS) (M : List (Int × Bool)), i = .int .i64 j ∧ Hid (m + j = 40) ∧ NetAt wr t mb S R B ∧ Hid (CutS S E q E.length j) ∧ MapAt wr mc (Value.int .i64 : Int → Value) Value.bool M ∧ Hid (CameM M (allIx E q E.length j)) ∧ Keep [] w1 wr)
        case atStart => exact ⟨0, S, [], rfl, Lib.hid rfl, hNm, HS, hM, Lib.hid (fun x => by simp [allIx, look_nil]), hKm⟩
        case round =>
          clear hNm HS hM hKm
          obtain ⟨j, S, M, rfl, HJ, hN, HS, hM, HC, hKw⟩ := hrel
          by_cases hj : (j : Int) < 40
          · obtain ⟨herr, _⟩ := setCut_facts (S := S) hqok HS.out.par (q.on j)
            have hcu := cut_any hN (by rw [HS.out.par]; decide) q.a q.b (q.on j)
            rw [herr] at hcu
            clear herr
            go_upto_region 15 with fail
            go_cut [111] (fun v wx => v = .bool false ∧ NetAt wx t mb (S.setCut q.a q.b (q.on j)) R B ∧ Keep [t] wr wx)
            case first =>
              by_cases h1 : q.s ≤ (j : Int)
              · by_cases h2 : (j : Int) < q.t
                · have hon : q.on j = true := by unfold Way.on; simp [h1, h2]
                  rw [hon] at hcu
                  go_wp2_with (first
                    | (go_at_call 18; refine hcu.mono ?_; rintro e w5 ⟨rfl, hN5, hk5⟩)
                    | fail)
                  go_meet
                  exact ⟨rfl, by rw [hon]; exact hN5, hk5⟩
                · have hon : q.on j = false := by unfold Way.on; simp [h2]
                  have h2' : decide ((j : Int) < q.t) = false := by simp; omega
                  clear h2
                  rw [hon] at hcu
                  go_wp2_with (first
                    | (go_at_call 18; refine hcu.mono ?_; rintro e w5 ⟨rfl, hN5, hk5⟩)
                    | fail)
                  go_meet
                  exact ⟨rfl, by rw [hon]; exact hN5, hk5⟩
              · have hon : q.on j = false := by unfold Way.on; simp [h1]
                have h1' : decide (q.s ≤ (j : Int)) = false := by simp; omega
                clear h1
                rw [hon] at hcu
                go_wp2_with (first
                  | (go_at_call 18; refine hcu.mono ?_; rintro e w5 ⟨rfl, hN5, hk5⟩)
                  | fail)
                go_meet
                exact ⟨rfl, by rw [hon]; exact hN5, hk5⟩
            case rest =>
              obtain ⟨rfl, hN5, hk5⟩ := hcut
              obtain ⟨w5, rfl⟩ : ∃ W, W = wc := ⟨_, rfl⟩
              have hM5 := hM.keep hk5 (by simp; exact fun e => hmct e.symm)
              have hKw5 := hKw.own hk5 (fun g hg => by simp at hg; subst hg; exact ht)
              obtain ⟨hwf5, hnow5, hsm5, hcome5, hS6⟩ := HS.out.tick hqok hok
              have hst := step_any hN5 hwf5 (by rw [hnow5]; omega) hsm5
              rw [hcome5] at hst
              have HS6 := Lib.hid hS6
              clear hcu hM hN hKw HS hwf5 hnow5 hsm5 hcome5 hS6
              go_upto_region 18 with (first
                | (go_at_call 14; refine hst.mono ?_; rintro e w7 ⟨v7, o7, rfl, hC7, hO7, hN7, hk7⟩)
                | fail)
              have hM7 := hM5.keep hk7 (by simp; exact ⟨fun e => hmct e.symm, fun e => hmcm e.symm⟩)
              have hKw7 := hKw5.own hk7 (fun g hg => by simp at hg; rcases hg with rfl | rfl; exact ht; exact hmb)
              obtain ⟨hol, hoe⟩ := ix_at hO7
              have hcl30 := cameIx_len E q E.length j
              rw [← hol] at hcl30
              obtain ⟨Ag, cg, rfl, _⟩ := hC7.own.sl lenc_sz
              have hRg := (hC7.own.sl lenc_sz).rd
              have hnm := hC7.own.ne_map hM7
              have hnmb := fun x hx => (hC7.bytes x hx).ne_map hM7
              clear hst hM5 hN5 hKw5
              go_wp2_with fail
              go_loopg [17] o7.length (fun m i wr => ∃ (p : Nat) (M' : List (Int × Bool)), i = .int .i64 p ∧ m + p = o7.length ∧ MapAt wr mc (Value.int .i64 : Int → Value) Value.bool M' ∧ Hid (CameM M' (allIx E q E.length j ++ (cameIx E q E.length j).take p)) ∧ Keep [mc] w7 wr)
              case atStart => exact ⟨0, M, rfl, rfl, hM7, Lib.hid (by simpa using HC.out), Keep.refl _ _⟩
              case round =>
                clear hM7
                obtain ⟨p, M', rfl, hp, hM', HC', hKy⟩ := hrel
                by_cases hpl : p < o7.length
                · obtain ⟨ix, hix⟩ : ∃ ix, (cameIx E q E.length j)[p]? = some ix := ⟨_, List.getElem?_eq_getElem (by rw [← hol]; exact hpl)⟩
                  have hi30 : ix < E.length := (mem_cameIx.1 (List.mem_of_getElem? hix)).1
                  obtain ⟨r, hr, hrb⟩ := hoe p ix hix
                  obtain ⟨gg, og, cp, hv, hcl⟩ := leAt3 hRg hr
                  cases hv
                  have hby := hC7.bytes r (List.mem_of_getElem? hr)
                  have hnb := hnmb r (List.mem_of_getElem? hr)
                  have hnew := came_new hix
                  have hlook := hM'.look_one k3 Try.underlying54 zero4 (ix : Int)
                  rw [HC'.out ix, if_neg hnew] at hlook
                  simp only [Option.map_none, Option.getD_none] at hlook
                  obtain ⟨w8, hrun, hM8, hk8⟩ := hM'.update k3 Try.underlying54 (ix : Int) true
                  have HC8 : Hid (CameM (mput (ix : Int) true M') (allIx E q E.length j ++ (cameIx E q E.length j).take (p + 1))) := Lib.hid (by
                    rw [List.take_add_one, hix, ← List.append_assoc]
                    exact HC'.out.put ix)
                  have f1 := hKy.cell hcl (by simp; exact fun e => hnm (by rw [← e]; simp [ownB, Value.ownBlock]))
                  obtain ⟨rf, rt, rV, rb⟩ := r
                  simp only at hrb hby hnb f1
                  subst hrb
                  obtain ⟨A9, c9, rfl, _, _, h93⟩ := hby.sl benc_sz
                  obtain ⟨g9, o9, rfl, hs9⟩ := h93 (by simp)
                  have hc9 : w7.cell? ⟨g9, o9, none⟩ = some (.int .u8 ix) := by simpa using hs9.cell (i := 0) (x := (ix : Int)) rfl (j := 0) (by decide)
                  have f2 := hKy.cell hc9 (by simp; exact fun e => hnb (by rw [← e]; simp [ownB, Value.ownBlock]))
                  have qi : IntKind.i64.wrap (ix : Int) = ix := IntWalk.i64_in _ (by omega)
                  have HP := Lib.hid hp
                  have hix30 : (ix : Int) < 30 := by omega
                  clear hix hr hnew hoe hcl hby hnb hs9 hc9 hp hi30
                  go_wp2_with fail
                  go_roundg (o7.length - (p + 1))
                  case measure => have := HP.out; omega
                  case rel => exact ⟨p + 1, _, by go_num, by have := HP.out; omega, hM8, HC8, hKy.trans hk8⟩
                · have hpe : p = o7.length := by omega
                  have HC9 : Hid (CameM M' (allIx E q E.length (j + 1))) := Lib.hid (by
                    rw [allIx_succ]
                    have := HC'.out
                    rwa [hpe, hol, List.take_length] at this)
                  have hN9 := hN7.keep hKy (by simp; exact hmct) (by simp; exact hmcm) (fun g hg => by simp; exact hmcR g hg) (fun g hg => by simp; exact hmcB g hg)
                  have hK9 := hKw7.own hKy (fun g hg => by simp at hg; subst hg; exact hmc1)
                  clear hp
                  go_wp2_with fail
                  go_roundg (40 - (j + 1))
                  case measure => have := HJ.out; omega
                  case rel => exact ⟨j + 1, _, M', by go_num, Lib.hid (by have := HJ.out; omega), hN9, HS6, hM', HC9, hK9⟩
          · have hj40 : j = 40 := by have := HJ.out; omega
            subst hj40
            have hway := HS.out.done
            clear hj
            obtain ⟨w4, rfl⟩ : ∃ W, W = wr := ⟨_, rfl⟩
            go_wp2_with fail
            go_loopg [18] E.length (fun m i wr => ∃ k : Nat, i = .int .i64 k ∧ m + k = E.length ∧ wr = w4)
            case atStart => exact ⟨0, rfl, rfl, rfl⟩
            case round =>
              obtain ⟨k, rfl, hk, rfl⟩ := hrel
              obtain ⟨w4, rfl⟩ : ∃ W, W = wr := ⟨_, rfl⟩
              by_cases hlt : k < E.length
              · obtain ⟨e, he⟩ : ∃ e, E[k]? = some e := ⟨_, List.getElem?_eq_getElem hlt⟩
                have hq := hok e (List.mem_of_getElem? he)
                obtain ⟨ab, ao, cp, hv, hab, hcl⟩ := tAt hV he
                cases hv
                have hle : eAt3 E k = e := by unfold eAt3; rw [he]; rfl
                have hca := came_all (E := E) (q := q) (n := E.length) (i := k) hlt
                rw [hle] at hca
                have hlook := hM.look_one k3 Try.underlying54 zero4 (k : Int)
                rw [HC.out k] at hlook
                obtain ⟨ea, eb, ec⟩ := e
                unfold T3.ok at hq
                simp only at hq hcl
                have f1 := hcl _ hKw
                have HL : Hid (q.lost ⟨ea, eb, ec⟩ = (decide (ea % 3 = q.a) && decide (eb % 3 = q.b) && (decide (q.s ≤ ec % 40) && decide (ec % 40 < q.t)))) := Lib.hid rfl
                obtain ⟨lo, HLo⟩ : ∃ lo, Hid (lo = q.lost ⟨ea, eb, ec⟩) := ⟨_, Lib.hid rfl⟩
                rw [← HLo.out] at hca HL
                have HK := Lib.hid hk
                clear he hle hcl hk
                go_upto_region 28 with fail
                go_cut [20] (fun v wx => v = .bool lo ∧ wx = w4)
                case first =>
                  by_cases h1 : ea % 3 = q.a
                  · have h1' : (ea % 3 == q.a) = true := by simp [h1]
                    by_cases h2 : eb % 3 = q.b
                    · have h2' : (eb % 3 == q.b) = true := by simp [h2]
                      by_cases h3 : q.s ≤ ec % 40
                      · by_cases h4 : ec % 40 < q.t
                        · have hlo : lo = true := by rw [HL.out]; simp [h1, h2, h3, h4]
                          clear h1 h2
                          go_wp2_with fail
                          go_meet
                          exact ⟨by rw [hlo], rfl⟩
                        · have hlo : lo = false := by rw [HL.out]; simp [h4]
                          have h4' : decide (ec % 40 < q.t) = false := by simp; omega
                          clear h1 h2 h4
                          go_wp2_with fail
                          go_meet
                          exact ⟨by rw [hlo], rfl⟩
                      · have hlo : lo = false := by rw [HL.out]; simp [h3]
                        have h3' : decide (q.s ≤ ec % 40) = false := by simp; omega
                        clear h1 h2 h3
                        go_wp2_with fail
                        go_meet
                        exact ⟨by rw [hlo], rfl⟩
                    · have hlo : lo = false := by rw [HL.out]; simp [h2]
                      have h2' : (eb % 3 == q.b) = false := by simp [h2]
                      clear h1 h2
                      go_wp2_with fail
                      go_meet
                      exact ⟨by rw [hlo], rfl⟩
                  · have hlo : lo = false := by rw [HL.out]; simp [h1]
                    have h1' : (ea % 3 == q.a) = false := by simp [h1]
                    clear h1
                    go_wp2_with fail
                    go_meet
                    exact ⟨by rw [hlo], rfl⟩
                case rest =>
                  obtain ⟨rfl, rfl⟩ := hcut
                  obtain ⟨w4, rfl⟩ : ∃ W, W = wc := ⟨_, rfl⟩
                  cases lo with
                  | true =>
                    have hn : k ∉ allIx E q E.length 40 := by simpa using hca
                    rw [if_neg hn] at hlook
                    simp only [Option.map_none, Option.getD_none] at hlook
                    clear hca hn
                    go_wp2_with fail
                    go_roundg (E.length - (k + 1))
                    case measure => have := HK.out; omega
                    case rel => exact ⟨k + 1, by go_num, by have := HK.out; omega, rfl⟩
                  | false =>
                    have hn : k ∈ allIx E q E.length 40 := by simpa using hca
                    rw [if_pos hn] at hlook
                    simp only [Option.map_some, Option.getD_some] at hlook
                    clear hca hn
                    go_wp2_with fail
                    go_roundg (E.length - (k + 1))
                    case measure => have := HK.out; omega
                    case rel => exact ⟨k + 1, by go_num, by have := HK.out; omega, rfl⟩
              · have hwy := way_any hN
                rw [hway] at hwy
                go_wp2_with (first
                  | (go_at_call 15; refine hwy.mono ?_; rintro e w5 ⟨rfl, hk5⟩)
                  | (go_at_call 12; refine (told_any _).mono ?_; rintro e w6 ⟨rfl, hk6⟩)
                  | fail)
                go_ret
                exact ⟨rfl, ((hk1.trans hKw).trans hk5).trans hk6⟩
end Go.Proofs.Ytcjbmbljmmakfaa
