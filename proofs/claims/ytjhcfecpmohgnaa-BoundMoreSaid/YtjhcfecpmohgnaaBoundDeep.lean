/- BoundDeep walked. -/
import Derived.Test.YtjhcfecpmohgnaaBoundIf
namespace Go.Proofs.Ytjhcfecpmohgnaa
open Go.RowKit Go.Bz

/-- Reads so in each world that keeps all but block g. -/
def ExG (w : World) (g h : Nat) (V : Value) (us : List Int) : Prop := ∀ W, Keep [g] w W → ExL W h V us
theorem ExG.keep {w w' : World} {g h : Nat} {V : Value} {us : List Int} (hx : ExG w g h V us) (hk : Keep [g] w w') : ExG w' g h V us := fun W hW => hx W (hk.trans hW)
theorem ExG.ex {w : World} {g h : Nat} {V : Value} {us : List Int} (hx : ExG w g h V us) : ExL w h V us := hx w (Keep.refl _ _)
theorem ExG.one {w : World} {g g' h : Nat} {r : ERaw} (hb : Blk w g' 35 (eenc r)) (hne : g' ≠ g) (hx : ExG w g h r.L r.ds) : ExG w g (h + 1) (.slice (some ⟨g', 0, none⟩) 1 1) [r.c] :=
  fun W hW => ExL.one (hb.keep hW (by simpa using hne)) (hx W hW)
theorem cost_neg (op c : Int) (h : op = 3 ∨ op = 4) : ecost op [c] = top (2 + c) := by
  unfold ecost tsum
  rw [show total [c] = c by simp [total]]
  rcases h with rfl | rfl <;> rfl
set_option maxRecDepth 100000 in
theorem boundDeep_any {h : Nat} {w : World} {r : ERaw} (hx : ExL w h r.L r.ds) (a : Int) (ha : 0 ≤ a ∧ a ≤ 255) :
    Calls Try.prog 7 #[.agg (eenc r), .int .u8 a] w (fun e w' => e = .returned (.bool true) ∧ Keep [] w w') := by
  obtain ⟨op, n, s, L, ds⟩ := r
  simp only at hx
  obtain ⟨AL, cL, rfl⟩ := hx.sl
  have her := ecost_range (op := op) hx.cs
  have fE := fun W (hk : Keep [] w W) => fewExpr_any (r := ⟨op, n, s, .slice AL ds.length cL, ds⟩) (hx.keep hk)
  have eE := fun W (hk : Keep [] w W) => expr_at (op := op) (n := n) (s := s) (hx.keep hk)
  obtain ⟨ec, HEc⟩ : ∃ t, Hid (t = ecost op ds) := ⟨_, Lib.hid rfl⟩
  rw [← HEc.out] at eE her
  simp only [eenc] at fE ⊢
  obtain ⟨w1, hw1⟩ : ∃ W, W = w.alloc (.cells #[.int .i64 op, .int .i64 n, .string s, .slice AL ds.length cL] 35) := ⟨_, rfl⟩
  have B1 : Blk w1 w.heap.size 35 (eenc ⟨op, n, s, .slice AL ds.length cL, ds⟩) := by rw [hw1]; exact Blk.new _ _ _
  have hk1 : Keep [] w w1 := by rw [hw1]; exact (Keep.refl _ _).alloc _
  have FB := fun W (hk : Keep [] w1 W) => (B1.keep hk (by simp)).cell
  have c0 := FB w1 (Keep.refl _ _)
  go_enter Try.func7, Try.ntmps7
  go_upto_region 1 with fail
  rw [← hw1]
  clear hw1
  go_upto_region 3 with (first
    | (go_at_call 13; refine (fE _ hk1).mono ?_; rintro e w2 ⟨⟨b, rfl⟩, hk2⟩; cases b)
    | (go_at_call 10; refine (known_any _).mono ?_; rintro e wk ⟨rfl, hkk⟩)
    | fail)
  · go_wp2_with fail
    go_ret
    exact ⟨rfl, (hk1.trans hk2).trans hkk⟩
  · clear c0
    have c0 := FB w2 hk2
    go_upto_region 5 with fail
    obtain ⟨K, HK⟩ : ∃ K : Nat, a % 100 = (K : Int) := ⟨(a % 100).toNat, by omega⟩
    have hK100 : K < 100 := by omega
    rw [HK]
    clear HK fE ha
    clear c0
    obtain ⟨w3, hw3⟩ : ∃ W, W = w2.alloc (.cells #[.int .i64 op, .int .i64 n, .string s, .slice AL ds.length cL] 35) := ⟨_, rfl⟩
    have B3 : Blk w3 w2.heap.size 35 (eenc ⟨op, n, s, .slice AL ds.length cL, ds⟩) := by rw [hw3]; exact Blk.new _ _ _
    have hk3 : Keep [] w2 w3 := by rw [hw3]; exact (Keep.refl _ _).alloc _
    have hk13 := hk2.trans hk3
    have hk03 := hk1.trans hk13
    rw [← hw3]
    clear hw3
    obtain ⟨g, HG⟩ : ∃ g, Hid (g = w2.heap.size) := ⟨_, Lib.hid rfl⟩
    have hg := HG.out
    rw [← hg] at B3 ⊢
    have hgw : w.heap.size < g := by rw [hg]; exact Nat.lt_of_lt_of_le B1.lt hk2.size
    have hg1 : w1.heap.size ≤ g := by rw [hg]; exact hk2.size
    have X3 : ExG w3 g h (.slice AL ds.length cL) ds := fun W hW => hx.keep ((hk1.trans (hk13.andThen hW (by simp; omega))))
    clear hg HG
    go_upto_region 6 with fail
    go_loopg [7] K (fun m v wr => ∃ (k : Nat) (q : ERaw) (hh : Nat), v = .int .i64 k ∧ m + k = K ∧ Blk wr g 35 (eenc q) ∧ ExG wr g hh q.L q.ds ∧ Keep [g] w3 wr ∧ Hid (q.c = top (ec + 2 * k)))
    case atStart => exact ⟨0, ⟨op, n, s, .slice AL ds.length cL, ds⟩, h, rfl, rfl, B3, X3, Keep.refl _ _, Lib.hid (by rw [top_of (by omega)]; simp; exact HEc.out.symm)⟩
    case round =>
      obtain ⟨k, ⟨qo, qn, qs, qL, qd⟩, hh, rfl, hk, hB, hX, hKe, HC⟩ := hrel
      simp only at hX
      obtain ⟨qA, qc, rfl⟩ := hX.ex.sl
      have cx := hB.cell
      by_cases hlt : (k : Int) < K
      · have hgr : g ≠ wr.heap.size := Nat.ne_of_lt hB.lt
        have cx5 := (hB.alloc (.cells #[.int .i64 qo, .int .i64 qn, .string qs, .slice qA qd.length qc] 35)).cell
        have cf5 := (hB.alloc (.cells #[.int .i64 qo, .int .i64 qn, .string qs, .slice qA qd.length qc] 35)).frozen
        go_wp2_with fail
        have hodd : (3 + (k : Int) % 2) = 3 ∨ (3 + (k : Int) % 2) = 4 := by omega
        have hset : ∀ {W W' : World} {u : Value} {j : Nat}, Keep [g] W W' → Keep [g] W (W'.setCell ⟨g, j, none⟩ u) := fun h => h.setCell (.inl (by simp)) _
        have ha1 := (Keep.refl [g] wr).alloc (.cells #[.int .i64 qo, .int .i64 qn, .string qs, .slice qA qd.length qc] 35)
        have hX1 := ExG.one (r := ⟨qo, qn, qs, .slice qA qd.length qc, qd⟩) (Blk.new wr 35 #[.int .i64 qo, .int .i64 qn, .string qs, .slice qA qd.length qc]) (fun e => hgr e.symm) (hX.keep ha1)
        go_roundg (K - (k + 1))
        case measure => omega
        case rel =>
          refine ⟨k + 1, ⟨3 + (k : Int) % 2, 0, ⟨#[]⟩, .slice (some ⟨wr.heap.size, 0, none⟩) 1 1, [(⟨qo, qn, qs, .slice qA qd.length qc, qd⟩ : ERaw).c]⟩, hh + 1, by go_num, by omega, ?_, ?_, ?_, Lib.hid ?_⟩
          · exact ((((hB.alloc _).set_ 0 _).set_ 1 _).set_ 2 _).set_ 3 _
          · exact hX1.keep (hset (hset (hset (hset (Keep.refl _ _)))))
          · exact hKe.trans (hset (hset (hset (hset ha1))))
          · show ecost _ _ = _
            rw [cost_neg _ _ hodd, HC.out, Int.add_comm 2, top_top _ _ (by decide)]
            congr 1
            omega
      · have hkK : k = K := by omega
        subst hkK
        have eX := fun W (hk : Keep [] wr W) => expr_at (op := qo) (n := qn) (s := qs) (hX W hk.sub)
        have hC : ecost qo qd = top (ec + 2 * k) := HC.out
        rw [hC] at eX
        have hk1r : Keep [] w1 wr := hk13.andThen hKe (by simp; omega)
        have FX := fun W (hk : Keep [] wr W) => (hB.keep hk (by simp)).cell
        have FB := fun W (hk : Keep [] wr W) => FB W (hk1r.trans hk)
        have eE := fun W (hk : Keep [] wr W) => eE W ((hk1.trans hk1r).trans hk)
        have q1 : IntKind.i64.wrap (2 * (k : Int)) = 2 * k := IntWalk.i64_in _ (by omega)
        have q2 : IntKind.i64.wrap (ec + 2 * (k : Int)) = ec + 2 * k := IntWalk.i64_in _ (by omega)
        have hkw := hk1.trans hk1r
        have HT : Hid (top (ec + 2 * k) = min (ec + 2 * k) 65537) := Lib.hid (by unfold top; split <;> omega)
        obtain ⟨C, HCC⟩ : ∃ C, Hid (C = top (ec + 2 * k)) := ⟨_, Lib.hid rfl⟩
        rw [← HCC.out] at eX HT
        clear cx hC HC hKe hB hX hk1r
        go_upto_region 9 with fail
        refine wp_region_noPanic ?_
        refine Bz.wp_region_E (S := (fun w' => Keep [] wr w')) (E := []) (by kernel_rfl) (by exact (Keep.refl _ _).drew) (fun hHeld => ?_)
        refine Bz.wpAnyE_ready (rs := [0]) (by kernel_rfl) (by simp) ?_
        refine Bz.AllReadyE.cons (o := { dst := some 27, op := Go.Op.call { callee := Go.Callee.value (Go.Operand.func 10), args := #[], argTypes := #[] }, type := 4, pos := "law.go:179", after := #[], guard := none }) rfl (fun K hK => ?_) Bz.AllReadyE.nil
        go_simp
        
        refine (known_any _).mono ?_
        rintro e w5 ⟨rfl, hk5⟩
        refine hK.out _ _ (by exact hHeld.trans hk5) ?_
        clear hHeld hK K; intro hHeld
        try simp only [Act.put, List.setIfInBounds_toArray, List.set_cons_zero, List.set_cons_succ]
        refine Bz.wpAnyE_take (i := 1) (oi := { dst := some 28, op := Go.Op.move (Go.Operand.tmp 27), type := 4, pos := "law.go:179", after := #[{ on := 0, ground := Go.Ground.data }, { on := 0, ground := Go.Ground.chain }], guard := none }) (v := ?_) rfl (by kernel_rfl) (by kernel_rfl) (by kernel_rfl) (by kernel_rfl) (fun _ _ _ h => h) (Or.inl ⟨by rfl, ?_⟩) hHeld ?_
        rotate_left 1
        · (intro w hSw; have f0 := FX w hSw; have f1 := FB w hSw; go_simp; first | done | with_reducible rfl)
        try simp only [Act.put, List.setIfInBounds_toArray, List.set_cons_zero, List.set_cons_succ]
        refine Bz.wpAnyE_take (i := 2) (oi := { dst := some 29, op := Go.Op.load 35 (Go.Operand.tmp 6), type := 35, pos := "law.go:179", after := #[{ on := 1, ground := Go.Ground.guard }], guard := some (1, true) }) (v := ?_) rfl (by kernel_rfl) (by kernel_rfl) (by kernel_rfl) (by kernel_rfl) (fun _ _ _ h => h) (Or.inl ⟨by rfl, ?_⟩) hHeld ?_
        rotate_left 1
        · (intro w hSw; have f0 := FX w hSw; have f1 := FB w hSw; go_simp; first | done | with_reducible rfl)
        try simp only [Act.put, List.setIfInBounds_toArray, List.set_cons_zero, List.set_cons_succ]
        refine Bz.wpAnyE_take (i := 4) (oi := { dst := some 31, op := Go.Op.load 35 (Go.Operand.tmp 2), type := 35, pos := "law.go:179", after := #[{ on := 1, ground := Go.Ground.guard }], guard := some (1, true) }) (v := ?_) rfl (by kernel_rfl) (by kernel_rfl) (by kernel_rfl) (by kernel_rfl) (fun _ _ _ h => h) (Or.inl ⟨by rfl, ?_⟩) hHeld ?_
        rotate_left 1
        · (intro w hSw; have f0 := FX w hSw; have f1 := FB w hSw; go_simp; first | done | with_reducible rfl)
        try simp only [Act.put, List.setIfInBounds_toArray, List.set_cons_zero, List.set_cons_succ]
        refine Bz.wpAnyE_take (i := 6) (oi := { dst := some 33, op := Go.Op.move (Go.Operand.tmp 5), type := 3, pos := "law.go:179", after := #[{ on := 1, ground := Go.Ground.guard }], guard := some (1, true) }) (v := ?_) rfl (by kernel_rfl) (by kernel_rfl) (by kernel_rfl) (by kernel_rfl) (fun _ _ _ h => h) (Or.inl ⟨by rfl, ?_⟩) hHeld ?_
        rotate_left 1
        · (intro w hSw; have f0 := FX w hSw; have f1 := FB w hSw; go_simp; first | done | with_reducible rfl)
        try simp only [Act.put, List.setIfInBounds_toArray, List.set_cons_zero, List.set_cons_succ]
        refine Bz.wpAnyE_take (i := 7) (oi := { dst := some 34, op := Go.Op.binOp Go.BinOp.mul 3 (Go.Operand.const (Go.Value.int Go.IntKind.i64 2)) (Go.Operand.tmp 33) 3, type := 3, pos := "law.go:179", after := #[{ on := 6, ground := Go.Ground.data }, { on := 1, ground := Go.Ground.guard }], guard := some (1, true) }) (v := ?_) rfl (by kernel_rfl) (by kernel_rfl) (by kernel_rfl) (by kernel_rfl) (fun _ _ _ h => h) (Or.inl ⟨by rfl, ?_⟩) hHeld ?_
        rotate_left 1
        · (intro w hSw; have f0 := FX w hSw; have f1 := FB w hSw; go_simp; first | done | with_reducible rfl)
        try simp only [Act.put, List.setIfInBounds_toArray, List.set_cons_zero, List.set_cons_succ]
        refine Bz.wpAnyE_ready (rs := [3]) (by kernel_rfl) (by simp) ?_
        refine Bz.AllReadyE.cons (o := { dst := some 30, op := Go.Op.call { callee := Go.Callee.value (Go.Operand.func 14), args := #[Go.Operand.tmp 29], argTypes := #[35] }, type := 3, pos := "law.go:179", after := #[{ on := 2, ground := Go.Ground.data }, { on := 1, ground := Go.Ground.chain }, { on := 1, ground := Go.Ground.guard }], guard := some (1, true) }) rfl (fun K hK => ?_) Bz.AllReadyE.nil
        go_simp
        
        refine (eX _ hHeld).mono ?_
        rintro e w5 ⟨rfl, hk5⟩
        refine hK.out _ _ (by exact hHeld.trans hk5) ?_
        clear hHeld hK K; intro hHeld
        try simp only [Act.put, List.setIfInBounds_toArray, List.set_cons_zero, List.set_cons_succ]
        refine Bz.wpAnyE_ready (rs := [5]) (by kernel_rfl) (by simp) ?_
        refine Bz.AllReadyE.cons (o := { dst := some 32, op := Go.Op.call { callee := Go.Callee.value (Go.Operand.func 14), args := #[Go.Operand.tmp 31], argTypes := #[35] }, type := 3, pos := "law.go:179", after := #[{ on := 4, ground := Go.Ground.data }, { on := 3, ground := Go.Ground.chain }, { on := 1, ground := Go.Ground.guard }], guard := some (1, true) }) rfl (fun K hK => ?_) Bz.AllReadyE.nil
        go_simp
        
        refine (eE _ hHeld).mono ?_
        rintro e w5 ⟨rfl, hk5⟩
        refine hK.out _ _ (by exact hHeld.trans hk5) ?_
        clear hHeld hK K; intro hHeld
        try simp only [Act.put, List.setIfInBounds_toArray, List.set_cons_zero, List.set_cons_succ]
        refine Bz.wpAnyE_take (i := 8) (oi := { dst := some 35, op := Go.Op.binOp Go.BinOp.add 3 (Go.Operand.tmp 32) (Go.Operand.tmp 34) 3, type := 3, pos := "law.go:179", after := #[{ on := 5, ground := Go.Ground.data }, { on := 7, ground := Go.Ground.data }, { on := 1, ground := Go.Ground.guard }], guard := some (1, true) }) (v := ?_) rfl (by kernel_rfl) (by kernel_rfl) (by kernel_rfl) (by kernel_rfl) (fun _ _ _ h => h) (Or.inl ⟨by rfl, ?_⟩) hHeld ?_
        rotate_left 1
        · (intro w hSw; have f0 := FX w hSw; have f1 := FB w hSw; go_simp; first | done | with_reducible rfl)
        try simp only [Act.put, List.setIfInBounds_toArray, List.set_cons_zero, List.set_cons_succ]
        refine Bz.wpAnyE_take (i := 9) (oi := { dst := some 36, op := Go.Op.call { callee := Go.Callee.builtin Go.Builtin.min, args := #[Go.Operand.tmp 35, Go.Operand.const (Go.Value.int Go.IntKind.i64 65537)], argTypes := #[3, 3] }, type := 3, pos := "law.go:179", after := #[{ on := 8, ground := Go.Ground.data }, { on := 1, ground := Go.Ground.guard }], guard := some (1, true) }) (v := ?_) rfl (by kernel_rfl) (by kernel_rfl) (by kernel_rfl) (by kernel_rfl) (fun _ _ _ h => h) (Or.inl ⟨by rfl, ?_⟩) hHeld ?_
        rotate_left 1
        · (intro w hSw; have f0 := FX w hSw; have f1 := FB w hSw; go_simp; first | done | with_reducible rfl)
        try simp only [Act.put, List.setIfInBounds_toArray, List.set_cons_zero, List.set_cons_succ]
        refine Bz.wpAnyE_take (i := 10) (oi := { dst := some 37, op := Go.Op.binOp Go.BinOp.eql 3 (Go.Operand.tmp 30) (Go.Operand.tmp 36) 3, type := 4, pos := "law.go:179", after := #[{ on := 3, ground := Go.Ground.data }, { on := 9, ground := Go.Ground.data }, { on := 1, ground := Go.Ground.guard }], guard := some (1, true) }) (v := ?_) rfl (by kernel_rfl) (by kernel_rfl) (by kernel_rfl) (by kernel_rfl) (fun _ _ _ h => h) (Or.inl ⟨by rfl, ?_⟩) hHeld ?_
        rotate_left 1
        · (intro w hSw; have f0 := FX w hSw; have f1 := FB w hSw; go_simp; first | done | with_reducible rfl)
        try simp only [Act.put, List.setIfInBounds_toArray, List.set_cons_zero, List.set_cons_succ]
        refine Bz.wpAnyE_take (i := 11) (oi := { dst := some 38, op := Go.Op.pick (Go.Operand.tmp 28) (Go.Operand.tmp 37) (Go.Operand.const (Go.Value.bool false)), type := 4, pos := "law.go:179", after := #[{ on := 1, ground := Go.Ground.data }, { on := 10, ground := Go.Ground.data }], guard := none }) (v := ?_) rfl (by kernel_rfl) (by kernel_rfl) (by kernel_rfl) (by kernel_rfl) (fun _ _ _ h => h) (Or.inl ⟨by rfl, ?_⟩) hHeld ?_
        rotate_left 1
        · (intro w hSw; have f0 := FX w hSw; have f1 := FB w hSw; go_simp; first | done | with_reducible rfl)
        try simp only [Act.put, List.setIfInBounds_toArray, List.set_cons_zero, List.set_cons_succ]
        refine Bz.wpAnyE_take (i := 12) (oi := { dst := some 4, op := Go.Op.assign (Go.Operand.tmp 38), type := 4, pos := "law.go:179", after := #[{ on := 11, ground := Go.Ground.data }, { on := 5, ground := Go.Ground.chain }, { on := 0, ground := Go.Ground.phase }, { on := 1, ground := Go.Ground.phase }, { on := 2, ground := Go.Ground.phase }, { on := 3, ground := Go.Ground.phase }, { on := 4, ground := Go.Ground.phase }, { on := 5, ground := Go.Ground.phase }, { on := 6, ground := Go.Ground.phase }, { on := 7, ground := Go.Ground.phase }, { on := 8, ground := Go.Ground.phase }, { on := 9, ground := Go.Ground.phase }, { on := 10, ground := Go.Ground.phase }, { on := 11, ground := Go.Ground.phase }], guard := none }) (v := ?_) rfl (by kernel_rfl) (by kernel_rfl) (by kernel_rfl) (by kernel_rfl) (fun _ _ _ h => h) (Or.inl ⟨by rfl, ?_⟩) hHeld ?_
        rotate_left 1
        · (intro w hSw; have f0 := FX w hSw; have f1 := FB w hSw; go_simp; first | done | with_reducible rfl)
        try simp only [Act.put, List.setIfInBounds_toArray, List.set_cons_zero, List.set_cons_succ]
        refine Bz.wpAnyE_done (by kernel_rfl) ?_ _
        refine NoPanic.normal ?_
        
        all_goals (go_wp2_with fail; go_ret; exact ⟨by rw [HT.out]; simp, hkw.trans hHeld⟩)
end Go.Proofs.Ytjhcfecpmohgnaa
