/- BoundMore walked. -/
import Derived.Test.YtjhcfecpmohgnaaBoundParts
namespace Go.Proofs.Ytjhcfecpmohgnaa
open Go.RowKit Go.Bz

theorem cost_for (m : Int) (hm : 0 ≤ m ∧ m ≤ 256) (us : List Int) : bcost [scost 3 1 m [] us []] = top (3 + top (m * top (4 + bcost us))) := by
  have e : scost 3 1 m [] us [] = top (3 + top (m * top (4 + bcost us))) := by
    have hr : roundsOf 1 m = m := by unfold roundsOf; split <;> (try split) <;> omega
    have : scost 3 1 m [] us [] = top (3 + top (roundsOf 1 m * top (4 + bcost us))) := rfl
    rw [this, hr]
  rw [e]
  exact bcost_one (top_le _)
theorem more_law (m a : Int) (hm : 0 ≤ m) (ha : 0 ≤ a ∧ a ≤ 65537) :
    top (3 + top (m * top (4 + a))) ≤ top (3 + top ((m + 1) * top (4 + a))) ∧ ((a < top (3 + top ((m + 1) * top (4 + a))) ∧ top (3 + top (m * top (4 + a))) < top (3 + top ((m + 1) * top (4 + a)))) ∨ (top (3 + top ((m + 1) * top (4 + a))) == 65537) = true) := by
  have ht : 4 ≤ top (4 + a) := top_ge (by omega) (by decide)
  have hp : 0 ≤ m * top (4 + a) := Int.mul_nonneg hm (by omega)
  have hd : (m + 1) * top (4 + a) = m * top (4 + a) + top (4 + a) := by rw [Int.add_mul, Int.one_mul]
  rw [hd]
  obtain ⟨p, hpe⟩ : ∃ p, p = m * top (4 + a) := ⟨_, rfl⟩
  rw [← hpe] at hp ⊢
  clear hpe hd
  simp only [beq_iff_eq]
  unfold top at *
  repeat' split
  all_goals omega
theorem bcost_snoc (us : List Int) (c : Int) (h : Cs us) (hc : 1 ≤ c ∧ c ≤ 65537) : bcost us ≤ bcost (us ++ [c]) ∧ c ≤ bcost (us ++ [c]) := by
  have h1 := total_nonneg h
  unfold bcost tsum
  rw [total_append, show total [c] = c by simp [total]]
  unfold top
  split <;> split <;> omega
theorem SOk.c {w : World} {h : Nat} {r : SRaw} (hr : SOk w h r) : 1 ≤ r.c ∧ r.c ≤ 65537 := by
  obtain ⟨_, ⟨k, h2⟩, h3, h4⟩ := hr
  exact scost_range h2.cs h3.cs h4.cs
section
variable {w : World} {h : Nat} {V : Value} {us : List Int}
/-- A loop that is laid somewhere. -/
theorem for_block (hx : StL w h V us) (m : Int) (hm : 0 ≤ m ∧ m ≤ 256) (U : World) (hU : Keep [] w U) (g : Nat) (hg : g = U.heap.size) (W : World)
    (hW : Keep [] (U.alloc (.cells #[.int .i64 3, .string ⟨#[105]⟩, .slice none 0 0, .int .i64 1, .int .i64 m, V, .slice none 0 0] 28)) W) :
    Calls Try.prog 12 #[.slice (some ⟨g, 0, none⟩) 1 1] W (fun e w' => e = .returned (.int .i64 (top (3 + top (m * top (4 + bcost us))))) ∧ Keep [] W w') := by
  subst hg
  have b := (Blk.new U 28 #[.int .i64 3, .string ⟨#[105]⟩, .slice none 0 0, .int .i64 1, .int .i64 m, V, .slice none 0 0]).keep hW (by simp)
  have hk : Keep [] w W := (hU.alloc _).trans hW
  have hx := (hx.keep hk).mono (Nat.le_max_left h 1)
  have e2 := StL.one (r := ⟨3, ⟨#[105]⟩, .slice none 0 0, 1, m, V, .slice none 0 0, [], us, []⟩) b (by unfold I64; simp only; omega) (ExL.nil W 0) hx ((StL.nil W 0).mono (Nat.le_max_right h 1))
  refine (block_any e2).mono ?_
  rintro e w5 ⟨rfl, hk5⟩
  exact ⟨by rw [← cost_for m hm]; rfl, hk5⟩
theorem one_block {r : SRaw} (hr : SOk w h r) (U : World) (hU : Keep [] w U) (g : Nat) (hg : g = U.heap.size) (W : World) (hW : Keep [] (U.alloc (.cells (senc r) 28)) W) :
    Calls Try.prog 12 #[.slice (some ⟨g, 0, none⟩) 1 1] W (fun e w' => e = .returned (.int .i64 r.c) ∧ Keep [] W w') := by
  subst hg
  have b := (Blk.new U 28 (senc r)).keep hW (by simp)
  have hk : Keep [] w W := (hU.alloc _).trans hW
  obtain ⟨h1, ⟨k, h2⟩, h3, h4⟩ := hr.keep hk
  have e2 := StL.one b h1 h2 h3 h4
  refine (block_any e2).mono ?_
  rintro e w5 ⟨rfl, hk5⟩
  exact ⟨by rw [bcost_one hr.c.2], hk5⟩
end
set_option maxHeartbeats 1000000 in
set_option maxRecDepth 100000 in
theorem boundMore_any {h hh : Nat} {w : World} {A : Option Addr} {cap : Nat} {us : List Int} (hx : StL w h (.slice A us.length cap) us) (hnz : SomeOr (.slice A us.length cap)) (hsz : us.length * 112 ≤ 140737488351232)
    {r : SRaw} (hr : SOk w hh r) (m : Int) (hm : 0 ≤ m ∧ m ≤ 255) : Calls Try.prog 4 #[.slice A us.length cap, .agg (senc r), .int .u8 m] w (fun e w' => e = .returned (.bool true) ∧ Keep [] w w') := by
  have hL := more_law m (bcost us) hm.1 (bcost_range hx.cs)
  have hS := bcost_snoc us r.c hx.cs hr.c
  have hrc := hr.c
  have f1 := fun U hU g hg W hW => for_block hx m (by omega) U hU g hg W hW
  have f2 := fun U hU g hg W hW => for_block hx (m + 1) (by omega) U hU g hg W hW
  have o1 := fun U hU g hg W hW => one_block hr U hU g hg W hW
  have b0 := fun W (hk : Keep [] w W) => block_any (hx.keep hk)
  obtain ⟨h', rs, hus, hR, hO⟩ := hx.raw
  have hone := hr.one
  -- of the statements with one more
  have bJ : ∀ W base v, Keep [] w W → Own W base 28 7 senc v (rs ++ [r]) → StL W (max h' hh + 1) v (us ++ [r.c]) := by
    intro W base v hk ho
    have := StL.of (h := max h' hh) (ho.sl senc_sz).rd (fun x hx => by
      rcases List.mem_append.1 hx with h | h
      · exact ((hO x h).keep hk).mono (Nat.le_max_left _ _)
      · simp at h
        rw [h]
        exact (hr.keep hk).mono (Nat.le_max_right _ _))
    rw [List.map_append, ← hus] at this
    exact this
  have hl : rs.length = us.length := by rw [hus, List.length_map]
  obtain ⟨a, HA⟩ : ∃ t, Hid (t = bcost us) := ⟨_, Lib.hid rfl⟩
  obtain ⟨b, HB⟩ : ∃ t, Hid (t = bcost (us ++ [r.c])) := ⟨_, Lib.hid rfl⟩
  rw [← HA.out] at hL hS f1 f2 b0
  rw [← HB.out] at hS
  obtain ⟨X, HX⟩ : ∃ t, Hid (t = top (3 + top (m * top (4 + a)))) := ⟨_, Lib.hid rfl⟩
  obtain ⟨Y, HY⟩ : ∃ t, Hid (t = top (3 + top ((m + 1) * top (4 + a)))) := ⟨_, Lib.hid rfl⟩
  rw [← HX.out] at f1 hL
  rw [← HY.out] at f2 hL
  have hSE := hr.2.1
  obtain ⟨kE, hE⟩ := hSE
  obtain ⟨AE, cE, hE⟩ := hE.sl
  obtain ⟨AL, cL, hLL⟩ := hr.2.2.1.sl
  obtain ⟨AX, cX, hXX⟩ := hr.2.2.2.sl
  obtain ⟨kind, s, E, lo, hi, L, X', es, ls, xs⟩ := r
  simp only at hE hLL hXX
  subst hE hLL hXX
  obtain ⟨c, HC⟩ : ∃ t, Hid (t = (⟨kind, s, .slice AE es.length cE, lo, hi, .slice AL ls.length cL, .slice AX xs.length cX, es, ls, xs⟩ : SRaw).c) := ⟨_, Lib.hid rfl⟩
  rw [← HC.out] at o1 hS hrc bJ HB
  simp only [senc] at o1 ⊢
  obtain ⟨w1, hw1⟩ : ∃ W, W = w.alloc (.cells #[.int .i64 kind, .string s, .slice AE es.length cE, .int .i64 lo, .int .i64 hi, .slice AL ls.length cL, .slice AX xs.length cX] 28) := ⟨_, rfl⟩
  have B1 : Blk w1 w.heap.size 28 (senc ⟨kind, s, .slice AE es.length cE, lo, hi, .slice AL ls.length cL, .slice AX xs.length cX, es, ls, xs⟩) := by rw [hw1]; exact Blk.new _ _ _
  have hk1 : Keep [] w w1 := by rw [hw1]; exact (Keep.refl _ _).alloc _
  have FB := fun W (hk : Keep [] w1 W) => (B1.keep hk (by simp)).cell
  have fJ : ∀ W base v, Keep [] w W → Own W base 28 7 senc v (rs ++ [⟨kind, s, .slice AE es.length cE, lo, hi, .slice AL ls.length cL, .slice AX xs.length cX, es, ls, xs⟩]) → Calls Try.prog 11 #[v] W (fun e w' => (∃ b, e = .returned (.bool b)) ∧ Keep [] W w') :=
    fun W base v hk ho => few_any (bJ W base v hk ho)
  have bJ : ∀ W base v, Keep [] w W → Own W base 28 7 senc v (rs ++ [⟨kind, s, .slice AE es.length cE, lo, hi, .slice AL ls.length cL, .slice AX xs.length cX, es, ls, xs⟩]) → Calls Try.prog 12 #[v] W (fun e w' => e = .returned (.int .i64 b) ∧ Keep [] W w') := by
    intro W base v hk ho
    rw [HB.out]
    exact block_any (bJ W base v hk ho)
  have hO1 : ∀ x ∈ rs, ∀ u ∈ (senc x).toList, u.oneCell' = true := fun x hx => (hO x hx).one
  clear hx hr hO
  have hHus := Lib.hid hus
  clear hus
  go_enter Try.func4, Try.ntmps4
  go_upto_region 1 with fail
  rw [← hw1]
  clear hw1
  go_cut [21] (fun t wx => (∃ q : Bool, t = .bool q) ∧ Keep [] w1 wx)
  case first =>
    have hb1 := Keep.refl [] w1
    refine wp_region_noPanic ?_
    refine Bz.wp_region_E (S := (fun w' => Keep [] w1 w')) (E := []) (by kernel_rfl) (by exact (Keep.refl _ _).drew) (fun hHeld => ?_)
    obtain ⟨wd, hwd⟩ : ∃ W, W = w1.drew := ⟨_, rfl⟩
    have hz0 : w1.heap.size ≤ wd.heap.size := by rw [hwd]; exact hHeld.size
    rw [← hwd] at hHeld ⊢
    clear hwd
    refine Bz.wpAnyE_take (i := 1) (oi := { dst := some 15, op := Go.Op.move (Go.Operand.tmp 0), type := 25, pos := "law.go:132", after := #[], guard := none }) (v := ?_) rfl (by kernel_rfl) (by kernel_rfl) (by kernel_rfl) (by kernel_rfl) (fun _ _ _ h => h) (Or.inl ⟨by rfl, ?_⟩) hHeld ?_
    rotate_left 1
    · (intro w hSw; have q0 := FB _ (hb1.trans hSw); go_simp; first | done | with_reducible rfl)
    try simp only [Act.put, List.setIfInBounds_toArray, List.set_cons_zero, List.set_cons_succ]
    refine Bz.wpAnyE_take (i := 3) (oi := { dst := some 17, op := Go.Op.load 28 (Go.Operand.tmp 4), type := 28, pos := "law.go:132", after := #[], guard := none }) (v := ?_) rfl (by kernel_rfl) (by kernel_rfl) (by kernel_rfl) (by kernel_rfl) (fun _ _ _ h => h) (Or.inl ⟨by rfl, ?_⟩) hHeld ?_
    rotate_left 1
    · (intro w hSw; have q0 := FB _ (hb1.trans hSw); go_simp; first | done | with_reducible rfl)
    try simp only [Act.put, List.setIfInBounds_toArray, List.set_cons_zero, List.set_cons_succ]
    refine Bz.wpAnyE_ready (rs := [0, 4]) (by kernel_rfl) (by simp) ?_
    refine Bz.AllReadyE.cons (o := { dst := some 14, op := Go.Op.buildSlice 25 0 #[], type := 25, pos := "law.go:132", after := #[], guard := none }) rfl (fun K hK => ?_) ?_
    · skip
      
      go_simp
      first
        | (have hBn := hBn.alloc (.cells #[] 28); have hO : Own ((wd.alloc (.cells (senc ⟨kind, s, .slice AE es.length cE, lo, hi, .slice AL ls.length cL, .slice AX xs.length cX, es, ls, xs⟩) 28)).alloc (.cells #[] 28)) w1.heap.size 28 7 senc (.slice (some ⟨wd.heap.size + 1, 0, none⟩) 0 0) [] := (by have hq := Own.none_ (base := w1.heap.size) (wd.alloc (.cells (senc ⟨kind, s, .slice AE es.length cE, lo, hi, .slice AL ls.length cL, .slice AX xs.length cX, es, ls, xs⟩) 28)) (by simp; omega) 28 7 senc; rwa [show (wd.alloc (.cells (senc ⟨kind, s, .slice AE es.length cE, lo, hi, .slice AL ls.length cL, .slice AX xs.length cX, es, ls, xs⟩) 28)).heap.size = wd.heap.size + 1 by simp] at hq))
        | (have hO := Own.none_ (base := w1.heap.size) wd hz0 28 7 senc)
      refine hK.out _ _ (by exact hHeld.alloc _) ?_
      clear hHeld hK K; intro hHeld
      try simp only [Act.put, List.setIfInBounds_toArray, List.set_cons_zero, List.set_cons_succ]
      refine Bz.wpAnyE_ready (rs := [2, 4]) (by kernel_rfl) (by simp) ?_
      refine Bz.AllReadyE.cons (o := { dst := some 16, op := Go.Op.call { callee := Go.Callee.builtin Go.Builtin.append, args := #[Go.Operand.tmp 14, Go.Operand.tmp 15], argTypes := #[25, 25] }, type := 25, pos := "law.go:132", after := #[{ on := 0, ground := Go.Ground.data }, { on := 1, ground := Go.Ground.data }], guard := none }) rfl (fun K hK => ?_) ?_
      · skip
        
        refine oper_append_m2 _ _ 25 rfl app25 rfl hO rfl (hR.keep0 ((hk1.trans hb1).trans hHeld)) hnz senc_sz hO1 (by simp; omega) (by unfold maxLen; simp; omega) hHeld.size ?_
        intro v6 w6 hO6 hk6
        simp only [List.nil_append] at hO6
        try (have hn1 : wd.heap.size + 1 ∉ [wd.heap.size] := (by simp); have hn2 : wd.heap.size ∉ [wd.heap.size + 1] := (by simp); first | have hBn := hBn.keep hk6 hn1 | have hBn := hBn.keep hk6 hn2)
        refine hK.out _ _ (by exact hHeld.andThen hk6 (fun g hg => .inr (hO.lt g hg).1)) ?_
        clear hHeld hK K; intro hHeld
        try simp only [Act.put, List.setIfInBounds_toArray, List.set_cons_zero, List.set_cons_succ]
        refine Bz.wpAnyE_ready (rs := [4]) (by kernel_rfl) (by simp) ?_
        refine Bz.AllReadyE.cons (o := { dst := some 18, op := Go.Op.buildSlice 25 1 #[(0, Go.Operand.tmp 17)], type := 25, pos := "law.go:132", after := #[{ on := 3, ground := Go.Ground.data }], guard := none }) rfl (fun K hK => ?_) Bz.AllReadyE.nil
        
        go_simp
        first
          | (have hO6 := hO6.alloc (.cells (senc ⟨kind, s, .slice AE es.length cE, lo, hi, .slice AL ls.length cL, .slice AX xs.length cX, es, ls, xs⟩) 28); have hBn := Blk.new w6 28 (senc ⟨kind, s, .slice AE es.length cE, lo, hi, .slice AL ls.length cL, .slice AX xs.length cX, es, ls, xs⟩))
          | (have hO := hO.alloc (.cells (senc ⟨kind, s, .slice AE es.length cE, lo, hi, .slice AL ls.length cL, .slice AX xs.length cX, es, ls, xs⟩) 28); have hBn := Blk.new_ (w := wd.alloc (.cells #[] 28)) (t := 28) (cs := senc ⟨kind, s, .slice AE es.length cE, lo, hi, .slice AL ls.length cL, .slice AX xs.length cX, es, ls, xs⟩) (g := wd.heap.size + 1) (by simp))
          | (have hBn := Blk.new wd 28 (senc ⟨kind, s, .slice AE es.length cE, lo, hi, .slice AL ls.length cL, .slice AX xs.length cX, es, ls, xs⟩))
        refine hK.out _ _ (by exact hHeld.alloc _) ?_
        clear hHeld hK K; intro hHeld
        try simp only [Act.put, List.setIfInBounds_toArray, List.set_cons_zero, List.set_cons_succ]
        refine Bz.wpAnyE_ready (rs := [5]) (by kernel_rfl) (by simp) ?_
        refine Bz.AllReadyE.cons (o := { dst := some 19, op := Go.Op.call { callee := Go.Callee.builtin Go.Builtin.append, args := #[Go.Operand.tmp 16, Go.Operand.tmp 18], argTypes := #[25, 25] }, type := 25, pos := "law.go:132", after := #[{ on := 2, ground := Go.Ground.data }, { on := 4, ground := Go.Ground.data }, { on := 2, ground := Go.Ground.chain }], guard := none }) rfl (fun K hK => ?_) Bz.AllReadyE.nil
        
        refine oper_append1 _ _ 25 rfl app25 rfl hO6 rfl hBn rfl hone (by omega) (by unfold maxLen; omega) hHeld.size ?_
        intro v7 w7 hO7 hk7
        refine hK.out _ _ (by exact hHeld.andThen hk7 (fun g hg => .inr (hO6.lt g hg).1)) ?_
        clear hHeld hK K; intro hHeld
        try simp only [Act.put, List.setIfInBounds_toArray, List.set_cons_zero, List.set_cons_succ]
        refine Bz.wpAnyE_ready (rs := [6]) (by kernel_rfl) (by simp) ?_
        refine Bz.AllReadyE.cons (o := { dst := some 20, op := Go.Op.call { callee := Go.Callee.value (Go.Operand.func 11), args := #[Go.Operand.tmp 19], argTypes := #[25] }, type := 4, pos := "law.go:132", after := #[{ on := 5, ground := Go.Ground.data }, { on := 5, ground := Go.Ground.chain }], guard := none }) rfl (fun K hK => ?_) Bz.AllReadyE.nil
        go_simp
        
        refine (fJ _ _ _ ((hk1.trans hb1).trans hHeld) hO7).mono ?_
        rintro e w8 ⟨⟨q, rfl⟩, hk8⟩
        refine hK.out _ _ (by exact hHeld.trans hk8) ?_
        clear hHeld hK K; intro hHeld
        try simp only [Act.put, List.setIfInBounds_toArray, List.set_cons_zero, List.set_cons_succ]
        refine Bz.wpAnyE_take (i := 7) (oi := { dst := some 21, op := Go.Op.unOp Go.UnOp.not 4 (Go.Operand.tmp 20), type := 4, pos := "law.go:132", after := #[{ on := 6, ground := Go.Ground.data }], guard := none }) (v := ?_) rfl (by kernel_rfl) (by kernel_rfl) (by kernel_rfl) (by kernel_rfl) (fun _ _ _ h => h) (Or.inl ⟨by rfl, ?_⟩) hHeld ?_
        rotate_left 1
        · (intro w hSw; have q0 := FB _ (hb1.trans hSw); go_simp; first | done | with_reducible rfl)
        try simp only [Act.put, List.setIfInBounds_toArray, List.set_cons_zero, List.set_cons_succ]
        refine Bz.wpAnyE_done (by kernel_rfl) ?_ _
        refine NoPanic.normal ?_
        go_wp2_with fail
        go_meet
        exact ⟨⟨_, rfl⟩, hHeld⟩
      refine Bz.AllReadyE.cons (o := { dst := some 18, op := Go.Op.buildSlice 25 1 #[(0, Go.Operand.tmp 17)], type := 25, pos := "law.go:132", after := #[{ on := 3, ground := Go.Ground.data }], guard := none }) rfl (fun K hK => ?_) ?_
      · skip
        
        go_simp
        first
          | (have hO6 := hO6.alloc (.cells (senc ⟨kind, s, .slice AE es.length cE, lo, hi, .slice AL ls.length cL, .slice AX xs.length cX, es, ls, xs⟩) 28); have hBn := Blk.new w6 28 (senc ⟨kind, s, .slice AE es.length cE, lo, hi, .slice AL ls.length cL, .slice AX xs.length cX, es, ls, xs⟩))
          | (have hO := hO.alloc (.cells (senc ⟨kind, s, .slice AE es.length cE, lo, hi, .slice AL ls.length cL, .slice AX xs.length cX, es, ls, xs⟩) 28); have hBn := Blk.new_ (w := wd.alloc (.cells #[] 28)) (t := 28) (cs := senc ⟨kind, s, .slice AE es.length cE, lo, hi, .slice AL ls.length cL, .slice AX xs.length cX, es, ls, xs⟩) (g := wd.heap.size + 1) (by simp))
          | (have hBn := Blk.new wd 28 (senc ⟨kind, s, .slice AE es.length cE, lo, hi, .slice AL ls.length cL, .slice AX xs.length cX, es, ls, xs⟩))
        refine hK.out _ _ (by exact hHeld.alloc _) ?_
        clear hHeld hK K; intro hHeld
        try simp only [Act.put, List.setIfInBounds_toArray, List.set_cons_zero, List.set_cons_succ]
        refine Bz.wpAnyE_ready (rs := [2]) (by kernel_rfl) (by simp) ?_
        refine Bz.AllReadyE.cons (o := { dst := some 16, op := Go.Op.call { callee := Go.Callee.builtin Go.Builtin.append, args := #[Go.Operand.tmp 14, Go.Operand.tmp 15], argTypes := #[25, 25] }, type := 25, pos := "law.go:132", after := #[{ on := 0, ground := Go.Ground.data }, { on := 1, ground := Go.Ground.data }], guard := none }) rfl (fun K hK => ?_) Bz.AllReadyE.nil
        
        refine oper_append_m2 _ _ 25 rfl app25 rfl hO rfl (hR.keep0 ((hk1.trans hb1).trans hHeld)) hnz senc_sz hO1 (by simp; omega) (by unfold maxLen; simp; omega) hHeld.size ?_
        intro v6 w6 hO6 hk6
        simp only [List.nil_append] at hO6
        try (have hn1 : wd.heap.size + 1 ∉ [wd.heap.size] := (by simp); have hn2 : wd.heap.size ∉ [wd.heap.size + 1] := (by simp); first | have hBn := hBn.keep hk6 hn1 | have hBn := hBn.keep hk6 hn2)
        refine hK.out _ _ (by exact hHeld.andThen hk6 (fun g hg => .inr (hO.lt g hg).1)) ?_
        clear hHeld hK K; intro hHeld
        try simp only [Act.put, List.setIfInBounds_toArray, List.set_cons_zero, List.set_cons_succ]
        refine Bz.wpAnyE_ready (rs := [5]) (by kernel_rfl) (by simp) ?_
        refine Bz.AllReadyE.cons (o := { dst := some 19, op := Go.Op.call { callee := Go.Callee.builtin Go.Builtin.append, args := #[Go.Operand.tmp 16, Go.Operand.tmp 18], argTypes := #[25, 25] }, type := 25, pos := "law.go:132", after := #[{ on := 2, ground := Go.Ground.data }, { on := 4, ground := Go.Ground.data }, { on := 2, ground := Go.Ground.chain }], guard := none }) rfl (fun K hK => ?_) Bz.AllReadyE.nil
        
        refine oper_append1 _ _ 25 rfl app25 rfl hO6 rfl hBn rfl hone (by omega) (by unfold maxLen; omega) hHeld.size ?_
        intro v7 w7 hO7 hk7
        refine hK.out _ _ (by exact hHeld.andThen hk7 (fun g hg => .inr (hO6.lt g hg).1)) ?_
        clear hHeld hK K; intro hHeld
        try simp only [Act.put, List.setIfInBounds_toArray, List.set_cons_zero, List.set_cons_succ]
        refine Bz.wpAnyE_ready (rs := [6]) (by kernel_rfl) (by simp) ?_
        refine Bz.AllReadyE.cons (o := { dst := some 20, op := Go.Op.call { callee := Go.Callee.value (Go.Operand.func 11), args := #[Go.Operand.tmp 19], argTypes := #[25] }, type := 4, pos := "law.go:132", after := #[{ on := 5, ground := Go.Ground.data }, { on := 5, ground := Go.Ground.chain }], guard := none }) rfl (fun K hK => ?_) Bz.AllReadyE.nil
        go_simp
        
        refine (fJ _ _ _ ((hk1.trans hb1).trans hHeld) hO7).mono ?_
        rintro e w8 ⟨⟨q, rfl⟩, hk8⟩
        refine hK.out _ _ (by exact hHeld.trans hk8) ?_
        clear hHeld hK K; intro hHeld
        try simp only [Act.put, List.setIfInBounds_toArray, List.set_cons_zero, List.set_cons_succ]
        refine Bz.wpAnyE_take (i := 7) (oi := { dst := some 21, op := Go.Op.unOp Go.UnOp.not 4 (Go.Operand.tmp 20), type := 4, pos := "law.go:132", after := #[{ on := 6, ground := Go.Ground.data }], guard := none }) (v := ?_) rfl (by kernel_rfl) (by kernel_rfl) (by kernel_rfl) (by kernel_rfl) (fun _ _ _ h => h) (Or.inl ⟨by rfl, ?_⟩) hHeld ?_
        rotate_left 1
        · (intro w hSw; have q0 := FB _ (hb1.trans hSw); go_simp; first | done | with_reducible rfl)
        try simp only [Act.put, List.setIfInBounds_toArray, List.set_cons_zero, List.set_cons_succ]
        refine Bz.wpAnyE_done (by kernel_rfl) ?_ _
        refine NoPanic.normal ?_
        go_wp2_with fail
        go_meet
        exact ⟨⟨_, rfl⟩, hHeld⟩
      exact Bz.AllReadyE.nil
    refine Bz.AllReadyE.cons (o := { dst := some 18, op := Go.Op.buildSlice 25 1 #[(0, Go.Operand.tmp 17)], type := 25, pos := "law.go:132", after := #[{ on := 3, ground := Go.Ground.data }], guard := none }) rfl (fun K hK => ?_) ?_
    · skip
      
      go_simp
      first
        | (have hO6 := hO6.alloc (.cells (senc ⟨kind, s, .slice AE es.length cE, lo, hi, .slice AL ls.length cL, .slice AX xs.length cX, es, ls, xs⟩) 28); have hBn := Blk.new w6 28 (senc ⟨kind, s, .slice AE es.length cE, lo, hi, .slice AL ls.length cL, .slice AX xs.length cX, es, ls, xs⟩))
        | (have hO := hO.alloc (.cells (senc ⟨kind, s, .slice AE es.length cE, lo, hi, .slice AL ls.length cL, .slice AX xs.length cX, es, ls, xs⟩) 28); have hBn := Blk.new_ (w := wd.alloc (.cells #[] 28)) (t := 28) (cs := senc ⟨kind, s, .slice AE es.length cE, lo, hi, .slice AL ls.length cL, .slice AX xs.length cX, es, ls, xs⟩) (g := wd.heap.size + 1) (by simp))
        | (have hBn := Blk.new wd 28 (senc ⟨kind, s, .slice AE es.length cE, lo, hi, .slice AL ls.length cL, .slice AX xs.length cX, es, ls, xs⟩))
      refine hK.out _ _ (by exact hHeld.alloc _) ?_
      clear hHeld hK K; intro hHeld
      try simp only [Act.put, List.setIfInBounds_toArray, List.set_cons_zero, List.set_cons_succ]
      refine Bz.wpAnyE_ready (rs := [0]) (by kernel_rfl) (by simp) ?_
      refine Bz.AllReadyE.cons (o := { dst := some 14, op := Go.Op.buildSlice 25 0 #[], type := 25, pos := "law.go:132", after := #[], guard := none }) rfl (fun K hK => ?_) Bz.AllReadyE.nil
      
      go_simp
      first
        | (have hBn := hBn.alloc (.cells #[] 28); have hO : Own ((wd.alloc (.cells (senc ⟨kind, s, .slice AE es.length cE, lo, hi, .slice AL ls.length cL, .slice AX xs.length cX, es, ls, xs⟩) 28)).alloc (.cells #[] 28)) w1.heap.size 28 7 senc (.slice (some ⟨wd.heap.size + 1, 0, none⟩) 0 0) [] := (by have hq := Own.none_ (base := w1.heap.size) (wd.alloc (.cells (senc ⟨kind, s, .slice AE es.length cE, lo, hi, .slice AL ls.length cL, .slice AX xs.length cX, es, ls, xs⟩) 28)) (by simp; omega) 28 7 senc; rwa [show (wd.alloc (.cells (senc ⟨kind, s, .slice AE es.length cE, lo, hi, .slice AL ls.length cL, .slice AX xs.length cX, es, ls, xs⟩) 28)).heap.size = wd.heap.size + 1 by simp] at hq))
        | (have hO := Own.none_ (base := w1.heap.size) wd hz0 28 7 senc)
      refine hK.out _ _ (by exact hHeld.alloc _) ?_
      clear hHeld hK K; intro hHeld
      try simp only [Act.put, List.setIfInBounds_toArray, List.set_cons_zero, List.set_cons_succ]
      refine Bz.wpAnyE_ready (rs := [2]) (by kernel_rfl) (by simp) ?_
      refine Bz.AllReadyE.cons (o := { dst := some 16, op := Go.Op.call { callee := Go.Callee.builtin Go.Builtin.append, args := #[Go.Operand.tmp 14, Go.Operand.tmp 15], argTypes := #[25, 25] }, type := 25, pos := "law.go:132", after := #[{ on := 0, ground := Go.Ground.data }, { on := 1, ground := Go.Ground.data }], guard := none }) rfl (fun K hK => ?_) Bz.AllReadyE.nil
      
      refine oper_append_m2 _ _ 25 rfl app25 rfl hO rfl (hR.keep0 ((hk1.trans hb1).trans hHeld)) hnz senc_sz hO1 (by simp; omega) (by unfold maxLen; simp; omega) hHeld.size ?_
      intro v6 w6 hO6 hk6
      simp only [List.nil_append] at hO6
      try (have hn1 : wd.heap.size + 1 ∉ [wd.heap.size] := (by simp); have hn2 : wd.heap.size ∉ [wd.heap.size + 1] := (by simp); first | have hBn := hBn.keep hk6 hn1 | have hBn := hBn.keep hk6 hn2)
      refine hK.out _ _ (by exact hHeld.andThen hk6 (fun g hg => .inr (hO.lt g hg).1)) ?_
      clear hHeld hK K; intro hHeld
      try simp only [Act.put, List.setIfInBounds_toArray, List.set_cons_zero, List.set_cons_succ]
      refine Bz.wpAnyE_ready (rs := [5]) (by kernel_rfl) (by simp) ?_
      refine Bz.AllReadyE.cons (o := { dst := some 19, op := Go.Op.call { callee := Go.Callee.builtin Go.Builtin.append, args := #[Go.Operand.tmp 16, Go.Operand.tmp 18], argTypes := #[25, 25] }, type := 25, pos := "law.go:132", after := #[{ on := 2, ground := Go.Ground.data }, { on := 4, ground := Go.Ground.data }, { on := 2, ground := Go.Ground.chain }], guard := none }) rfl (fun K hK => ?_) Bz.AllReadyE.nil
      
      refine oper_append1 _ _ 25 rfl app25 rfl hO6 rfl hBn rfl hone (by omega) (by unfold maxLen; omega) hHeld.size ?_
      intro v7 w7 hO7 hk7
      refine hK.out _ _ (by exact hHeld.andThen hk7 (fun g hg => .inr (hO6.lt g hg).1)) ?_
      clear hHeld hK K; intro hHeld
      try simp only [Act.put, List.setIfInBounds_toArray, List.set_cons_zero, List.set_cons_succ]
      refine Bz.wpAnyE_ready (rs := [6]) (by kernel_rfl) (by simp) ?_
      refine Bz.AllReadyE.cons (o := { dst := some 20, op := Go.Op.call { callee := Go.Callee.value (Go.Operand.func 11), args := #[Go.Operand.tmp 19], argTypes := #[25] }, type := 4, pos := "law.go:132", after := #[{ on := 5, ground := Go.Ground.data }, { on := 5, ground := Go.Ground.chain }], guard := none }) rfl (fun K hK => ?_) Bz.AllReadyE.nil
      go_simp
      
      refine (fJ _ _ _ ((hk1.trans hb1).trans hHeld) hO7).mono ?_
      rintro e w8 ⟨⟨q, rfl⟩, hk8⟩
      refine hK.out _ _ (by exact hHeld.trans hk8) ?_
      clear hHeld hK K; intro hHeld
      try simp only [Act.put, List.setIfInBounds_toArray, List.set_cons_zero, List.set_cons_succ]
      refine Bz.wpAnyE_take (i := 7) (oi := { dst := some 21, op := Go.Op.unOp Go.UnOp.not 4 (Go.Operand.tmp 20), type := 4, pos := "law.go:132", after := #[{ on := 6, ground := Go.Ground.data }], guard := none }) (v := ?_) rfl (by kernel_rfl) (by kernel_rfl) (by kernel_rfl) (by kernel_rfl) (fun _ _ _ h => h) (Or.inl ⟨by rfl, ?_⟩) hHeld ?_
      rotate_left 1
      · (intro w hSw; have q0 := FB _ (hb1.trans hSw); go_simp; first | done | with_reducible rfl)
      try simp only [Act.put, List.setIfInBounds_toArray, List.set_cons_zero, List.set_cons_succ]
      refine Bz.wpAnyE_done (by kernel_rfl) ?_ _
      refine NoPanic.normal ?_
      go_wp2_with fail
      go_meet
      exact ⟨⟨_, rfl⟩, hHeld⟩
    exact Bz.AllReadyE.nil
  case rest =>
    obtain ⟨⟨q, rfl⟩, hk2⟩ := hcut
    cases q
    · go_upto_region 3 with fail
      have k2 := hk1.trans hk2
      go_upto_region 4 with (first
        | (go_at_call 12; refine (b0 _ k2).mono ?_; rintro e w3 ⟨rfl, hk3⟩)
        | fail)
      have k3 := k2.trans hk3
      have hb1 := hk2.trans hk3
      go_cut [8] (fun t wx => t = .int .i64 b ∧ Keep [] w3 wx)
      case first =>
        refine wp_region_noPanic ?_
        refine Bz.wp_region_E (S := (fun w' => Keep [] w3 w')) (E := []) (by kernel_rfl) (by exact (Keep.refl _ _).drew) (fun hHeld => ?_)
        obtain ⟨wd, hwd⟩ : ∃ W, W = w3.drew := ⟨_, rfl⟩
        have hz0 : w3.heap.size ≤ wd.heap.size := by rw [hwd]; exact hHeld.size
        rw [← hwd] at hHeld ⊢
        clear hwd
        refine Bz.wpAnyE_take (i := 1) (oi := { dst := some 26, op := Go.Op.move (Go.Operand.tmp 0), type := 25, pos := "law.go:136", after := #[], guard := none }) (v := ?_) rfl (by kernel_rfl) (by kernel_rfl) (by kernel_rfl) (by kernel_rfl) (fun _ _ _ h => h) (Or.inl ⟨by rfl, ?_⟩) hHeld ?_
        rotate_left 1
        · (intro w hSw; have q0 := FB _ (hb1.trans hSw); go_simp; first | done | with_reducible rfl)
        try simp only [Act.put, List.setIfInBounds_toArray, List.set_cons_zero, List.set_cons_succ]
        refine Bz.wpAnyE_take (i := 3) (oi := { dst := some 28, op := Go.Op.load 28 (Go.Operand.tmp 4), type := 28, pos := "law.go:136", after := #[], guard := none }) (v := ?_) rfl (by kernel_rfl) (by kernel_rfl) (by kernel_rfl) (by kernel_rfl) (fun _ _ _ h => h) (Or.inl ⟨by rfl, ?_⟩) hHeld ?_
        rotate_left 1
        · (intro w hSw; have q0 := FB _ (hb1.trans hSw); go_simp; first | done | with_reducible rfl)
        try simp only [Act.put, List.setIfInBounds_toArray, List.set_cons_zero, List.set_cons_succ]
        refine Bz.wpAnyE_ready (rs := [0, 4]) (by kernel_rfl) (by simp) ?_
        refine Bz.AllReadyE.cons (o := { dst := some 25, op := Go.Op.buildSlice 25 0 #[], type := 25, pos := "law.go:136", after := #[], guard := none }) rfl (fun K hK => ?_) ?_
        · skip
          
          go_simp
          first
            | (have hBn := hBn.alloc (.cells #[] 28); have hO : Own ((wd.alloc (.cells (senc ⟨kind, s, .slice AE es.length cE, lo, hi, .slice AL ls.length cL, .slice AX xs.length cX, es, ls, xs⟩) 28)).alloc (.cells #[] 28)) w3.heap.size 28 7 senc (.slice (some ⟨wd.heap.size + 1, 0, none⟩) 0 0) [] := (by have hq := Own.none_ (base := w3.heap.size) (wd.alloc (.cells (senc ⟨kind, s, .slice AE es.length cE, lo, hi, .slice AL ls.length cL, .slice AX xs.length cX, es, ls, xs⟩) 28)) (by simp; omega) 28 7 senc; rwa [show (wd.alloc (.cells (senc ⟨kind, s, .slice AE es.length cE, lo, hi, .slice AL ls.length cL, .slice AX xs.length cX, es, ls, xs⟩) 28)).heap.size = wd.heap.size + 1 by simp] at hq))
            | (have hO := Own.none_ (base := w3.heap.size) wd hz0 28 7 senc)
          refine hK.out _ _ (by exact hHeld.alloc _) ?_
          clear hHeld hK K; intro hHeld
          try simp only [Act.put, List.setIfInBounds_toArray, List.set_cons_zero, List.set_cons_succ]
          refine Bz.wpAnyE_ready (rs := [2, 4]) (by kernel_rfl) (by simp) ?_
          refine Bz.AllReadyE.cons (o := { dst := some 27, op := Go.Op.call { callee := Go.Callee.builtin Go.Builtin.append, args := #[Go.Operand.tmp 25, Go.Operand.tmp 26], argTypes := #[25, 25] }, type := 25, pos := "law.go:136", after := #[{ on := 0, ground := Go.Ground.data }, { on := 1, ground := Go.Ground.data }], guard := none }) rfl (fun K hK => ?_) ?_
          · skip
            
            refine oper_append_m2 _ _ 25 rfl app25 rfl hO rfl (hR.keep0 ((hk1.trans hb1).trans hHeld)) hnz senc_sz hO1 (by simp; omega) (by unfold maxLen; simp; omega) hHeld.size ?_
            intro v6 w6 hO6 hk6
            simp only [List.nil_append] at hO6
            try (have hn1 : wd.heap.size + 1 ∉ [wd.heap.size] := (by simp); have hn2 : wd.heap.size ∉ [wd.heap.size + 1] := (by simp); first | have hBn := hBn.keep hk6 hn1 | have hBn := hBn.keep hk6 hn2)
            refine hK.out _ _ (by exact hHeld.andThen hk6 (fun g hg => .inr (hO.lt g hg).1)) ?_
            clear hHeld hK K; intro hHeld
            try simp only [Act.put, List.setIfInBounds_toArray, List.set_cons_zero, List.set_cons_succ]
            refine Bz.wpAnyE_ready (rs := [4]) (by kernel_rfl) (by simp) ?_
            refine Bz.AllReadyE.cons (o := { dst := some 29, op := Go.Op.buildSlice 25 1 #[(0, Go.Operand.tmp 28)], type := 25, pos := "law.go:136", after := #[{ on := 3, ground := Go.Ground.data }], guard := none }) rfl (fun K hK => ?_) Bz.AllReadyE.nil
            
            go_simp
            first
              | (have hO6 := hO6.alloc (.cells (senc ⟨kind, s, .slice AE es.length cE, lo, hi, .slice AL ls.length cL, .slice AX xs.length cX, es, ls, xs⟩) 28); have hBn := Blk.new w6 28 (senc ⟨kind, s, .slice AE es.length cE, lo, hi, .slice AL ls.length cL, .slice AX xs.length cX, es, ls, xs⟩))
              | (have hO := hO.alloc (.cells (senc ⟨kind, s, .slice AE es.length cE, lo, hi, .slice AL ls.length cL, .slice AX xs.length cX, es, ls, xs⟩) 28); have hBn := Blk.new_ (w := wd.alloc (.cells #[] 28)) (t := 28) (cs := senc ⟨kind, s, .slice AE es.length cE, lo, hi, .slice AL ls.length cL, .slice AX xs.length cX, es, ls, xs⟩) (g := wd.heap.size + 1) (by simp))
              | (have hBn := Blk.new wd 28 (senc ⟨kind, s, .slice AE es.length cE, lo, hi, .slice AL ls.length cL, .slice AX xs.length cX, es, ls, xs⟩))
            refine hK.out _ _ (by exact hHeld.alloc _) ?_
            clear hHeld hK K; intro hHeld
            try simp only [Act.put, List.setIfInBounds_toArray, List.set_cons_zero, List.set_cons_succ]
            refine Bz.wpAnyE_ready (rs := [5]) (by kernel_rfl) (by simp) ?_
            refine Bz.AllReadyE.cons (o := { dst := some 30, op := Go.Op.call { callee := Go.Callee.builtin Go.Builtin.append, args := #[Go.Operand.tmp 27, Go.Operand.tmp 29], argTypes := #[25, 25] }, type := 25, pos := "law.go:136", after := #[{ on := 2, ground := Go.Ground.data }, { on := 4, ground := Go.Ground.data }, { on := 2, ground := Go.Ground.chain }], guard := none }) rfl (fun K hK => ?_) Bz.AllReadyE.nil
            
            refine oper_append1 _ _ 25 rfl app25 rfl hO6 rfl hBn rfl hone (by omega) (by unfold maxLen; omega) hHeld.size ?_
            intro v7 w7 hO7 hk7
            refine hK.out _ _ (by exact hHeld.andThen hk7 (fun g hg => .inr (hO6.lt g hg).1)) ?_
            clear hHeld hK K; intro hHeld
            try simp only [Act.put, List.setIfInBounds_toArray, List.set_cons_zero, List.set_cons_succ]
            refine Bz.wpAnyE_ready (rs := [6]) (by kernel_rfl) (by simp) ?_
            refine Bz.AllReadyE.cons (o := { dst := some 31, op := Go.Op.call { callee := Go.Callee.value (Go.Operand.func 12), args := #[Go.Operand.tmp 30], argTypes := #[25] }, type := 3, pos := "law.go:136", after := #[{ on := 5, ground := Go.Ground.data }, { on := 5, ground := Go.Ground.chain }], guard := none }) rfl (fun K hK => ?_) Bz.AllReadyE.nil
            go_simp
            
            refine (bJ _ _ _ ((hk1.trans hb1).trans hHeld) hO7).mono ?_
            rintro e w8 ⟨rfl, hk8⟩
            refine hK.out _ _ (by exact hHeld.trans hk8) ?_
            clear hHeld hK K; intro hHeld
            try simp only [Act.put, List.setIfInBounds_toArray, List.set_cons_zero, List.set_cons_succ]
            refine Bz.wpAnyE_take (i := 7) (oi := { dst := some 8, op := Go.Op.assign (Go.Operand.tmp 31), type := 3, pos := "law.go:136", after := #[{ on := 6, ground := Go.Ground.data }, { on := 6, ground := Go.Ground.chain }, { on := 0, ground := Go.Ground.phase }, { on := 1, ground := Go.Ground.phase }, { on := 2, ground := Go.Ground.phase }, { on := 3, ground := Go.Ground.phase }, { on := 4, ground := Go.Ground.phase }, { on := 5, ground := Go.Ground.phase }, { on := 6, ground := Go.Ground.phase }], guard := none }) (v := ?_) rfl (by kernel_rfl) (by kernel_rfl) (by kernel_rfl) (by kernel_rfl) (fun _ _ _ h => h) (Or.inl ⟨by rfl, ?_⟩) hHeld ?_
            rotate_left 1
            · (intro w hSw; have q0 := FB _ (hb1.trans hSw); go_simp; first | done | with_reducible rfl)
            try simp only [Act.put, List.setIfInBounds_toArray, List.set_cons_zero, List.set_cons_succ]
            refine Bz.wpAnyE_done (by kernel_rfl) ?_ _
            refine NoPanic.normal ?_
            go_wp2_with fail
            go_meet
            exact ⟨rfl, hHeld⟩
          refine Bz.AllReadyE.cons (o := { dst := some 29, op := Go.Op.buildSlice 25 1 #[(0, Go.Operand.tmp 28)], type := 25, pos := "law.go:136", after := #[{ on := 3, ground := Go.Ground.data }], guard := none }) rfl (fun K hK => ?_) ?_
          · skip
            
            go_simp
            first
              | (have hO6 := hO6.alloc (.cells (senc ⟨kind, s, .slice AE es.length cE, lo, hi, .slice AL ls.length cL, .slice AX xs.length cX, es, ls, xs⟩) 28); have hBn := Blk.new w6 28 (senc ⟨kind, s, .slice AE es.length cE, lo, hi, .slice AL ls.length cL, .slice AX xs.length cX, es, ls, xs⟩))
              | (have hO := hO.alloc (.cells (senc ⟨kind, s, .slice AE es.length cE, lo, hi, .slice AL ls.length cL, .slice AX xs.length cX, es, ls, xs⟩) 28); have hBn := Blk.new_ (w := wd.alloc (.cells #[] 28)) (t := 28) (cs := senc ⟨kind, s, .slice AE es.length cE, lo, hi, .slice AL ls.length cL, .slice AX xs.length cX, es, ls, xs⟩) (g := wd.heap.size + 1) (by simp))
              | (have hBn := Blk.new wd 28 (senc ⟨kind, s, .slice AE es.length cE, lo, hi, .slice AL ls.length cL, .slice AX xs.length cX, es, ls, xs⟩))
            refine hK.out _ _ (by exact hHeld.alloc _) ?_
            clear hHeld hK K; intro hHeld
            try simp only [Act.put, List.setIfInBounds_toArray, List.set_cons_zero, List.set_cons_succ]
            refine Bz.wpAnyE_ready (rs := [2]) (by kernel_rfl) (by simp) ?_
            refine Bz.AllReadyE.cons (o := { dst := some 27, op := Go.Op.call { callee := Go.Callee.builtin Go.Builtin.append, args := #[Go.Operand.tmp 25, Go.Operand.tmp 26], argTypes := #[25, 25] }, type := 25, pos := "law.go:136", after := #[{ on := 0, ground := Go.Ground.data }, { on := 1, ground := Go.Ground.data }], guard := none }) rfl (fun K hK => ?_) Bz.AllReadyE.nil
            
            refine oper_append_m2 _ _ 25 rfl app25 rfl hO rfl (hR.keep0 ((hk1.trans hb1).trans hHeld)) hnz senc_sz hO1 (by simp; omega) (by unfold maxLen; simp; omega) hHeld.size ?_
            intro v6 w6 hO6 hk6
            simp only [List.nil_append] at hO6
            try (have hn1 : wd.heap.size + 1 ∉ [wd.heap.size] := (by simp); have hn2 : wd.heap.size ∉ [wd.heap.size + 1] := (by simp); first | have hBn := hBn.keep hk6 hn1 | have hBn := hBn.keep hk6 hn2)
            refine hK.out _ _ (by exact hHeld.andThen hk6 (fun g hg => .inr (hO.lt g hg).1)) ?_
            clear hHeld hK K; intro hHeld
            try simp only [Act.put, List.setIfInBounds_toArray, List.set_cons_zero, List.set_cons_succ]
            refine Bz.wpAnyE_ready (rs := [5]) (by kernel_rfl) (by simp) ?_
            refine Bz.AllReadyE.cons (o := { dst := some 30, op := Go.Op.call { callee := Go.Callee.builtin Go.Builtin.append, args := #[Go.Operand.tmp 27, Go.Operand.tmp 29], argTypes := #[25, 25] }, type := 25, pos := "law.go:136", after := #[{ on := 2, ground := Go.Ground.data }, { on := 4, ground := Go.Ground.data }, { on := 2, ground := Go.Ground.chain }], guard := none }) rfl (fun K hK => ?_) Bz.AllReadyE.nil
            
            refine oper_append1 _ _ 25 rfl app25 rfl hO6 rfl hBn rfl hone (by omega) (by unfold maxLen; omega) hHeld.size ?_
            intro v7 w7 hO7 hk7
            refine hK.out _ _ (by exact hHeld.andThen hk7 (fun g hg => .inr (hO6.lt g hg).1)) ?_
            clear hHeld hK K; intro hHeld
            try simp only [Act.put, List.setIfInBounds_toArray, List.set_cons_zero, List.set_cons_succ]
            refine Bz.wpAnyE_ready (rs := [6]) (by kernel_rfl) (by simp) ?_
            refine Bz.AllReadyE.cons (o := { dst := some 31, op := Go.Op.call { callee := Go.Callee.value (Go.Operand.func 12), args := #[Go.Operand.tmp 30], argTypes := #[25] }, type := 3, pos := "law.go:136", after := #[{ on := 5, ground := Go.Ground.data }, { on := 5, ground := Go.Ground.chain }], guard := none }) rfl (fun K hK => ?_) Bz.AllReadyE.nil
            go_simp
            
            refine (bJ _ _ _ ((hk1.trans hb1).trans hHeld) hO7).mono ?_
            rintro e w8 ⟨rfl, hk8⟩
            refine hK.out _ _ (by exact hHeld.trans hk8) ?_
            clear hHeld hK K; intro hHeld
            try simp only [Act.put, List.setIfInBounds_toArray, List.set_cons_zero, List.set_cons_succ]
            refine Bz.wpAnyE_take (i := 7) (oi := { dst := some 8, op := Go.Op.assign (Go.Operand.tmp 31), type := 3, pos := "law.go:136", after := #[{ on := 6, ground := Go.Ground.data }, { on := 6, ground := Go.Ground.chain }, { on := 0, ground := Go.Ground.phase }, { on := 1, ground := Go.Ground.phase }, { on := 2, ground := Go.Ground.phase }, { on := 3, ground := Go.Ground.phase }, { on := 4, ground := Go.Ground.phase }, { on := 5, ground := Go.Ground.phase }, { on := 6, ground := Go.Ground.phase }], guard := none }) (v := ?_) rfl (by kernel_rfl) (by kernel_rfl) (by kernel_rfl) (by kernel_rfl) (fun _ _ _ h => h) (Or.inl ⟨by rfl, ?_⟩) hHeld ?_
            rotate_left 1
            · (intro w hSw; have q0 := FB _ (hb1.trans hSw); go_simp; first | done | with_reducible rfl)
            try simp only [Act.put, List.setIfInBounds_toArray, List.set_cons_zero, List.set_cons_succ]
            refine Bz.wpAnyE_done (by kernel_rfl) ?_ _
            refine NoPanic.normal ?_
            go_wp2_with fail
            go_meet
            exact ⟨rfl, hHeld⟩
          exact Bz.AllReadyE.nil
        refine Bz.AllReadyE.cons (o := { dst := some 29, op := Go.Op.buildSlice 25 1 #[(0, Go.Operand.tmp 28)], type := 25, pos := "law.go:136", after := #[{ on := 3, ground := Go.Ground.data }], guard := none }) rfl (fun K hK => ?_) ?_
        · skip
          
          go_simp
          first
            | (have hO6 := hO6.alloc (.cells (senc ⟨kind, s, .slice AE es.length cE, lo, hi, .slice AL ls.length cL, .slice AX xs.length cX, es, ls, xs⟩) 28); have hBn := Blk.new w6 28 (senc ⟨kind, s, .slice AE es.length cE, lo, hi, .slice AL ls.length cL, .slice AX xs.length cX, es, ls, xs⟩))
            | (have hO := hO.alloc (.cells (senc ⟨kind, s, .slice AE es.length cE, lo, hi, .slice AL ls.length cL, .slice AX xs.length cX, es, ls, xs⟩) 28); have hBn := Blk.new_ (w := wd.alloc (.cells #[] 28)) (t := 28) (cs := senc ⟨kind, s, .slice AE es.length cE, lo, hi, .slice AL ls.length cL, .slice AX xs.length cX, es, ls, xs⟩) (g := wd.heap.size + 1) (by simp))
            | (have hBn := Blk.new wd 28 (senc ⟨kind, s, .slice AE es.length cE, lo, hi, .slice AL ls.length cL, .slice AX xs.length cX, es, ls, xs⟩))
          refine hK.out _ _ (by exact hHeld.alloc _) ?_
          clear hHeld hK K; intro hHeld
          try simp only [Act.put, List.setIfInBounds_toArray, List.set_cons_zero, List.set_cons_succ]
          refine Bz.wpAnyE_ready (rs := [0]) (by kernel_rfl) (by simp) ?_
          refine Bz.AllReadyE.cons (o := { dst := some 25, op := Go.Op.buildSlice 25 0 #[], type := 25, pos := "law.go:136", after := #[], guard := none }) rfl (fun K hK => ?_) Bz.AllReadyE.nil
          
          go_simp
          first
            | (have hBn := hBn.alloc (.cells #[] 28); have hO : Own ((wd.alloc (.cells (senc ⟨kind, s, .slice AE es.length cE, lo, hi, .slice AL ls.length cL, .slice AX xs.length cX, es, ls, xs⟩) 28)).alloc (.cells #[] 28)) w3.heap.size 28 7 senc (.slice (some ⟨wd.heap.size + 1, 0, none⟩) 0 0) [] := (by have hq := Own.none_ (base := w3.heap.size) (wd.alloc (.cells (senc ⟨kind, s, .slice AE es.length cE, lo, hi, .slice AL ls.length cL, .slice AX xs.length cX, es, ls, xs⟩) 28)) (by simp; omega) 28 7 senc; rwa [show (wd.alloc (.cells (senc ⟨kind, s, .slice AE es.length cE, lo, hi, .slice AL ls.length cL, .slice AX xs.length cX, es, ls, xs⟩) 28)).heap.size = wd.heap.size + 1 by simp] at hq))
            | (have hO := Own.none_ (base := w3.heap.size) wd hz0 28 7 senc)
          refine hK.out _ _ (by exact hHeld.alloc _) ?_
          clear hHeld hK K; intro hHeld
          try simp only [Act.put, List.setIfInBounds_toArray, List.set_cons_zero, List.set_cons_succ]
          refine Bz.wpAnyE_ready (rs := [2]) (by kernel_rfl) (by simp) ?_
          refine Bz.AllReadyE.cons (o := { dst := some 27, op := Go.Op.call { callee := Go.Callee.builtin Go.Builtin.append, args := #[Go.Operand.tmp 25, Go.Operand.tmp 26], argTypes := #[25, 25] }, type := 25, pos := "law.go:136", after := #[{ on := 0, ground := Go.Ground.data }, { on := 1, ground := Go.Ground.data }], guard := none }) rfl (fun K hK => ?_) Bz.AllReadyE.nil
          
          refine oper_append_m2 _ _ 25 rfl app25 rfl hO rfl (hR.keep0 ((hk1.trans hb1).trans hHeld)) hnz senc_sz hO1 (by simp; omega) (by unfold maxLen; simp; omega) hHeld.size ?_
          intro v6 w6 hO6 hk6
          simp only [List.nil_append] at hO6
          try (have hn1 : wd.heap.size + 1 ∉ [wd.heap.size] := (by simp); have hn2 : wd.heap.size ∉ [wd.heap.size + 1] := (by simp); first | have hBn := hBn.keep hk6 hn1 | have hBn := hBn.keep hk6 hn2)
          refine hK.out _ _ (by exact hHeld.andThen hk6 (fun g hg => .inr (hO.lt g hg).1)) ?_
          clear hHeld hK K; intro hHeld
          try simp only [Act.put, List.setIfInBounds_toArray, List.set_cons_zero, List.set_cons_succ]
          refine Bz.wpAnyE_ready (rs := [5]) (by kernel_rfl) (by simp) ?_
          refine Bz.AllReadyE.cons (o := { dst := some 30, op := Go.Op.call { callee := Go.Callee.builtin Go.Builtin.append, args := #[Go.Operand.tmp 27, Go.Operand.tmp 29], argTypes := #[25, 25] }, type := 25, pos := "law.go:136", after := #[{ on := 2, ground := Go.Ground.data }, { on := 4, ground := Go.Ground.data }, { on := 2, ground := Go.Ground.chain }], guard := none }) rfl (fun K hK => ?_) Bz.AllReadyE.nil
          
          refine oper_append1 _ _ 25 rfl app25 rfl hO6 rfl hBn rfl hone (by omega) (by unfold maxLen; omega) hHeld.size ?_
          intro v7 w7 hO7 hk7
          refine hK.out _ _ (by exact hHeld.andThen hk7 (fun g hg => .inr (hO6.lt g hg).1)) ?_
          clear hHeld hK K; intro hHeld
          try simp only [Act.put, List.setIfInBounds_toArray, List.set_cons_zero, List.set_cons_succ]
          refine Bz.wpAnyE_ready (rs := [6]) (by kernel_rfl) (by simp) ?_
          refine Bz.AllReadyE.cons (o := { dst := some 31, op := Go.Op.call { callee := Go.Callee.value (Go.Operand.func 12), args := #[Go.Operand.tmp 30], argTypes := #[25] }, type := 3, pos := "law.go:136", after := #[{ on := 5, ground := Go.Ground.data }, { on := 5, ground := Go.Ground.chain }], guard := none }) rfl (fun K hK => ?_) Bz.AllReadyE.nil
          go_simp
          
          refine (bJ _ _ _ ((hk1.trans hb1).trans hHeld) hO7).mono ?_
          rintro e w8 ⟨rfl, hk8⟩
          refine hK.out _ _ (by exact hHeld.trans hk8) ?_
          clear hHeld hK K; intro hHeld
          try simp only [Act.put, List.setIfInBounds_toArray, List.set_cons_zero, List.set_cons_succ]
          refine Bz.wpAnyE_take (i := 7) (oi := { dst := some 8, op := Go.Op.assign (Go.Operand.tmp 31), type := 3, pos := "law.go:136", after := #[{ on := 6, ground := Go.Ground.data }, { on := 6, ground := Go.Ground.chain }, { on := 0, ground := Go.Ground.phase }, { on := 1, ground := Go.Ground.phase }, { on := 2, ground := Go.Ground.phase }, { on := 3, ground := Go.Ground.phase }, { on := 4, ground := Go.Ground.phase }, { on := 5, ground := Go.Ground.phase }, { on := 6, ground := Go.Ground.phase }], guard := none }) (v := ?_) rfl (by kernel_rfl) (by kernel_rfl) (by kernel_rfl) (by kernel_rfl) (fun _ _ _ h => h) (Or.inl ⟨by rfl, ?_⟩) hHeld ?_
          rotate_left 1
          · (intro w hSw; have q0 := FB _ (hb1.trans hSw); go_simp; first | done | with_reducible rfl)
          try simp only [Act.put, List.setIfInBounds_toArray, List.set_cons_zero, List.set_cons_succ]
          refine Bz.wpAnyE_done (by kernel_rfl) ?_ _
          refine NoPanic.normal ?_
          go_wp2_with fail
          go_meet
          exact ⟨rfl, hHeld⟩
        exact Bz.AllReadyE.nil

      case rest =>
        obtain ⟨rfl, hk4⟩ := hcut
        have k4 := k3.trans hk4
        have hb4 := hb1.trans hk4
        have q4 := FB wc hb4
        go_upto_region 6 with (first
          | (go_at_call 12; refine (o1 wc k4 _ rfl _ (Keep.refl _ _)).mono ?_; rintro e w5 ⟨rfl, hk5⟩)
          | fail)
        clear q4
        have k5 : Keep [] w w5 := (k4.alloc _).trans hk5
        clear bJ fJ hR hO1 hone o1 FB B1 hk1 hk2 hk3 hk4 hk5 k2 k3 k4 hb1 hb4
        go_upto_region 9 with fail
        obtain ⟨w6, hw6⟩ : ∃ W, W = (w5.alloc (.cells #[.int .i64 3, .string ⟨#[105]⟩, .slice none 0 0, .int .i64 1, .int .i64 m, .slice A us.length cap, .slice none 0 0] 28)).alloc
          (.cells #[.int .i64 3, .string ⟨#[105]⟩, .slice none 0 0, .int .i64 1, .int .i64 (m + 1), .slice A us.length cap, .slice none 0 0] 28) := ⟨_, rfl⟩
        have F1 : Blk w6 w5.heap.size 28 #[.int .i64 3, .string ⟨#[105]⟩, .slice none 0 0, .int .i64 1, .int .i64 m, .slice A us.length cap, .slice none 0 0] := by rw [hw6]; exact (Blk.new _ _ _).alloc _
        have F2 : Blk w6 (w5.heap.size + 1) 28 #[.int .i64 3, .string ⟨#[105]⟩, .slice none 0 0, .int .i64 1, .int .i64 (m + 1), .slice A us.length cap, .slice none 0 0] := by rw [hw6]; exact Blk.new_ (by simp)
        have k6 : Keep [] w w6 := by rw [hw6]; exact (k5.alloc _).alloc _
        rw [← hw6]
        clear hw6 k5
        have G1 := fun W (hk : Keep [] w6 W) => (F1.keep hk (by simp)).cell
        have G2 := fun W (hk : Keep [] w6 W) => (F2.keep hk (by simp)).cell
        clear F1 F2
        go_cut [12, 13] (fun t u wx => t = .int .i64 X ∧ u = .int .i64 Y ∧ Keep [] w6 wx)
        case first =>
          refine wp_region_noPanic ?_
          refine Bz.wp_region_E (S := (fun w' => Keep [] w6 w')) (E := []) (by kernel_rfl) (by exact (Keep.refl _ _).drew) (fun hHeld => ?_)
          obtain ⟨wd, hwd⟩ : ∃ W, W = w6.drew := ⟨_, rfl⟩
          rw [← hwd] at hHeld ⊢
          clear hwd
          refine Bz.wpAnyE_take (i := 0) (oi := { dst := some 44, op := Go.Op.load 28 (Go.Operand.tmp 10), type := 28, pos := "law.go:141", after := #[], guard := none }) (v := ?_) rfl (by kernel_rfl) (by kernel_rfl) (by kernel_rfl) (by kernel_rfl) (fun _ _ _ h => h) (Or.inl ⟨by rfl, ?_⟩) hHeld ?_
          rotate_left 1
          · (intro w hSw; have q1 := G1 _ hSw; have q2 := G2 _ hSw; go_simp; first | done | with_reducible rfl)
          try simp only [Act.put, List.setIfInBounds_toArray, List.set_cons_zero, List.set_cons_succ]
          refine Bz.wpAnyE_take (i := 3) (oi := { dst := some 47, op := Go.Op.load 28 (Go.Operand.tmp 11), type := 28, pos := "law.go:141", after := #[], guard := none }) (v := ?_) rfl (by kernel_rfl) (by kernel_rfl) (by kernel_rfl) (by kernel_rfl) (fun _ _ _ h => h) (Or.inl ⟨by rfl, ?_⟩) hHeld ?_
          rotate_left 1
          · (intro w hSw; have q1 := G1 _ hSw; have q2 := G2 _ hSw; go_simp; first | done | with_reducible rfl)
          try simp only [Act.put, List.setIfInBounds_toArray, List.set_cons_zero, List.set_cons_succ]
          refine Bz.wpAnyE_ready (rs := [1, 4]) (by kernel_rfl) (by simp) ?_
          refine Bz.AllReadyE.cons (o := { dst := some 45, op := Go.Op.buildSlice 25 1 #[(0, Go.Operand.tmp 44)], type := 25, pos := "law.go:141", after := #[{ on := 0, ground := Go.Ground.data }], guard := none }) rfl (fun K hK => ?_) ?_
          · skip
            
            go_simp
            have C1 := fun g hg W hW => f1 _ (k6.trans hHeld) g hg W hW
            refine hK.out _ _ (by exact hHeld.alloc _) ?_
            clear hHeld hK K; intro hHeld
            try simp only [Act.put, List.setIfInBounds_toArray, List.set_cons_zero, List.set_cons_succ]
            refine Bz.wpAnyE_ready (rs := [2, 4]) (by kernel_rfl) (by simp) ?_
            refine Bz.AllReadyE.cons (o := { dst := some 46, op := Go.Op.call { callee := Go.Callee.value (Go.Operand.func 12), args := #[Go.Operand.tmp 45], argTypes := #[25] }, type := 3, pos := "law.go:141", after := #[{ on := 1, ground := Go.Ground.data }], guard := none }) rfl (fun K hK => ?_) ?_
            · skip
              go_simp
              
              refine (C1 _ (by simp) _ (by first | exact Keep.refl _ _ | exact (Keep.refl _ _).alloc _)).mono ?_
              rintro e w8 ⟨rfl, hk8⟩
              refine hK.out _ _ (by exact hHeld.trans hk8) ?_
              clear hHeld hK K; intro hHeld
              try simp only [Act.put, List.setIfInBounds_toArray, List.set_cons_zero, List.set_cons_succ]
              refine Bz.wpAnyE_ready (rs := [4]) (by kernel_rfl) (by simp) ?_
              refine Bz.AllReadyE.cons (o := { dst := some 48, op := Go.Op.buildSlice 25 1 #[(0, Go.Operand.tmp 47)], type := 25, pos := "law.go:141", after := #[{ on := 3, ground := Go.Ground.data }], guard := none }) rfl (fun K hK => ?_) Bz.AllReadyE.nil
              
              go_simp
              have C2 := fun g hg W hW => f2 _ (k6.trans hHeld) g hg W hW
              refine hK.out _ _ (by exact hHeld.alloc _) ?_
              clear hHeld hK K; intro hHeld
              try simp only [Act.put, List.setIfInBounds_toArray, List.set_cons_zero, List.set_cons_succ]
              refine Bz.wpAnyE_ready (rs := [5]) (by kernel_rfl) (by simp) ?_
              refine Bz.AllReadyE.cons (o := { dst := some 49, op := Go.Op.call { callee := Go.Callee.value (Go.Operand.func 12), args := #[Go.Operand.tmp 48], argTypes := #[25] }, type := 3, pos := "law.go:141", after := #[{ on := 4, ground := Go.Ground.data }, { on := 2, ground := Go.Ground.chain }], guard := none }) rfl (fun K hK => ?_) Bz.AllReadyE.nil
              go_simp
              
              refine (C2 _ (by simp) _ (by first | exact Keep.refl _ _ | exact hk8 | exact ((Keep.refl _ _).alloc _).trans hk8)).mono ?_
              rintro e w9 ⟨rfl, hk9⟩
              refine hK.out _ _ (by exact hHeld.trans hk9) ?_
              clear hHeld hK K; intro hHeld
              try simp only [Act.put, List.setIfInBounds_toArray, List.set_cons_zero, List.set_cons_succ]
              refine Bz.wpAnyE_take (i := 6) (oi := { dst := some 12, op := Go.Op.assign (Go.Operand.tmp 46), type := 3, pos := "law.go:141", after := #[{ on := 2, ground := Go.Ground.data }, { on := 5, ground := Go.Ground.chain }, { on := 0, ground := Go.Ground.phase }, { on := 1, ground := Go.Ground.phase }, { on := 2, ground := Go.Ground.phase }, { on := 3, ground := Go.Ground.textOnly Go.Departure.lateStores }, { on := 4, ground := Go.Ground.textOnly Go.Departure.lateStores }, { on := 5, ground := Go.Ground.textOnly Go.Departure.lateStoresUnsure }], guard := none }) (v := ?_) rfl (by kernel_rfl) (by kernel_rfl) (by kernel_rfl) (by kernel_rfl) (fun _ _ _ h => h) (Or.inl ⟨by rfl, ?_⟩) hHeld ?_
              rotate_left 1
              · (intro w hSw; have q1 := G1 _ hSw; have q2 := G2 _ hSw; go_simp; first | done | with_reducible rfl)
              try simp only [Act.put, List.setIfInBounds_toArray, List.set_cons_zero, List.set_cons_succ]
              refine Bz.wpAnyE_take (i := 7) (oi := { dst := some 13, op := Go.Op.assign (Go.Operand.tmp 49), type := 3, pos := "law.go:141", after := #[{ on := 5, ground := Go.Ground.data }, { on := 6, ground := Go.Ground.chain }, { on := 0, ground := Go.Ground.phase }, { on := 1, ground := Go.Ground.phase }, { on := 2, ground := Go.Ground.phase }, { on := 3, ground := Go.Ground.phase }, { on := 4, ground := Go.Ground.phase }, { on := 5, ground := Go.Ground.phase }, { on := 6, ground := Go.Ground.phase }], guard := none }) (v := ?_) rfl (by kernel_rfl) (by kernel_rfl) (by kernel_rfl) (by kernel_rfl) (fun _ _ _ h => h) (Or.inl ⟨by rfl, ?_⟩) hHeld ?_
              rotate_left 1
              · (intro w hSw; have q1 := G1 _ hSw; have q2 := G2 _ hSw; go_simp; first | done | with_reducible rfl)
              try simp only [Act.put, List.setIfInBounds_toArray, List.set_cons_zero, List.set_cons_succ]
              refine Bz.wpAnyE_done (by kernel_rfl) ?_ _
              refine NoPanic.normal ?_
              go_wp2_with fail
              go_meet
              exact ⟨rfl, rfl, hHeld⟩
            refine Bz.AllReadyE.cons (o := { dst := some 48, op := Go.Op.buildSlice 25 1 #[(0, Go.Operand.tmp 47)], type := 25, pos := "law.go:141", after := #[{ on := 3, ground := Go.Ground.data }], guard := none }) rfl (fun K hK => ?_) ?_
            · skip
              
              go_simp
              have C2 := fun g hg W hW => f2 _ (k6.trans hHeld) g hg W hW
              refine hK.out _ _ (by exact hHeld.alloc _) ?_
              clear hHeld hK K; intro hHeld
              try simp only [Act.put, List.setIfInBounds_toArray, List.set_cons_zero, List.set_cons_succ]
              refine Bz.wpAnyE_ready (rs := [2]) (by kernel_rfl) (by simp) ?_
              refine Bz.AllReadyE.cons (o := { dst := some 46, op := Go.Op.call { callee := Go.Callee.value (Go.Operand.func 12), args := #[Go.Operand.tmp 45], argTypes := #[25] }, type := 3, pos := "law.go:141", after := #[{ on := 1, ground := Go.Ground.data }], guard := none }) rfl (fun K hK => ?_) Bz.AllReadyE.nil
              go_simp
              
              refine (C1 _ (by simp) _ (by first | exact Keep.refl _ _ | exact (Keep.refl _ _).alloc _)).mono ?_
              rintro e w8 ⟨rfl, hk8⟩
              refine hK.out _ _ (by exact hHeld.trans hk8) ?_
              clear hHeld hK K; intro hHeld
              try simp only [Act.put, List.setIfInBounds_toArray, List.set_cons_zero, List.set_cons_succ]
              refine Bz.wpAnyE_ready (rs := [5]) (by kernel_rfl) (by simp) ?_
              refine Bz.AllReadyE.cons (o := { dst := some 49, op := Go.Op.call { callee := Go.Callee.value (Go.Operand.func 12), args := #[Go.Operand.tmp 48], argTypes := #[25] }, type := 3, pos := "law.go:141", after := #[{ on := 4, ground := Go.Ground.data }, { on := 2, ground := Go.Ground.chain }], guard := none }) rfl (fun K hK => ?_) Bz.AllReadyE.nil
              go_simp
              
              refine (C2 _ (by simp) _ (by first | exact Keep.refl _ _ | exact hk8 | exact ((Keep.refl _ _).alloc _).trans hk8)).mono ?_
              rintro e w9 ⟨rfl, hk9⟩
              refine hK.out _ _ (by exact hHeld.trans hk9) ?_
              clear hHeld hK K; intro hHeld
              try simp only [Act.put, List.setIfInBounds_toArray, List.set_cons_zero, List.set_cons_succ]
              refine Bz.wpAnyE_take (i := 6) (oi := { dst := some 12, op := Go.Op.assign (Go.Operand.tmp 46), type := 3, pos := "law.go:141", after := #[{ on := 2, ground := Go.Ground.data }, { on := 5, ground := Go.Ground.chain }, { on := 0, ground := Go.Ground.phase }, { on := 1, ground := Go.Ground.phase }, { on := 2, ground := Go.Ground.phase }, { on := 3, ground := Go.Ground.textOnly Go.Departure.lateStores }, { on := 4, ground := Go.Ground.textOnly Go.Departure.lateStores }, { on := 5, ground := Go.Ground.textOnly Go.Departure.lateStoresUnsure }], guard := none }) (v := ?_) rfl (by kernel_rfl) (by kernel_rfl) (by kernel_rfl) (by kernel_rfl) (fun _ _ _ h => h) (Or.inl ⟨by rfl, ?_⟩) hHeld ?_
              rotate_left 1
              · (intro w hSw; have q1 := G1 _ hSw; have q2 := G2 _ hSw; go_simp; first | done | with_reducible rfl)
              try simp only [Act.put, List.setIfInBounds_toArray, List.set_cons_zero, List.set_cons_succ]
              refine Bz.wpAnyE_take (i := 7) (oi := { dst := some 13, op := Go.Op.assign (Go.Operand.tmp 49), type := 3, pos := "law.go:141", after := #[{ on := 5, ground := Go.Ground.data }, { on := 6, ground := Go.Ground.chain }, { on := 0, ground := Go.Ground.phase }, { on := 1, ground := Go.Ground.phase }, { on := 2, ground := Go.Ground.phase }, { on := 3, ground := Go.Ground.phase }, { on := 4, ground := Go.Ground.phase }, { on := 5, ground := Go.Ground.phase }, { on := 6, ground := Go.Ground.phase }], guard := none }) (v := ?_) rfl (by kernel_rfl) (by kernel_rfl) (by kernel_rfl) (by kernel_rfl) (fun _ _ _ h => h) (Or.inl ⟨by rfl, ?_⟩) hHeld ?_
              rotate_left 1
              · (intro w hSw; have q1 := G1 _ hSw; have q2 := G2 _ hSw; go_simp; first | done | with_reducible rfl)
              try simp only [Act.put, List.setIfInBounds_toArray, List.set_cons_zero, List.set_cons_succ]
              refine Bz.wpAnyE_done (by kernel_rfl) ?_ _
              refine NoPanic.normal ?_
              go_wp2_with fail
              go_meet
              exact ⟨rfl, rfl, hHeld⟩
            exact Bz.AllReadyE.nil
          refine Bz.AllReadyE.cons (o := { dst := some 48, op := Go.Op.buildSlice 25 1 #[(0, Go.Operand.tmp 47)], type := 25, pos := "law.go:141", after := #[{ on := 3, ground := Go.Ground.data }], guard := none }) rfl (fun K hK => ?_) ?_
          · skip
            
            go_simp
            have C2 := fun g hg W hW => f2 _ (k6.trans hHeld) g hg W hW
            refine hK.out _ _ (by exact hHeld.alloc _) ?_
            clear hHeld hK K; intro hHeld
            try simp only [Act.put, List.setIfInBounds_toArray, List.set_cons_zero, List.set_cons_succ]
            refine Bz.wpAnyE_ready (rs := [1]) (by kernel_rfl) (by simp) ?_
            refine Bz.AllReadyE.cons (o := { dst := some 45, op := Go.Op.buildSlice 25 1 #[(0, Go.Operand.tmp 44)], type := 25, pos := "law.go:141", after := #[{ on := 0, ground := Go.Ground.data }], guard := none }) rfl (fun K hK => ?_) Bz.AllReadyE.nil
            
            go_simp
            have C1 := fun g hg W hW => f1 _ (k6.trans hHeld) g hg W hW
            refine hK.out _ _ (by exact hHeld.alloc _) ?_
            clear hHeld hK K; intro hHeld
            try simp only [Act.put, List.setIfInBounds_toArray, List.set_cons_zero, List.set_cons_succ]
            refine Bz.wpAnyE_ready (rs := [2]) (by kernel_rfl) (by simp) ?_
            refine Bz.AllReadyE.cons (o := { dst := some 46, op := Go.Op.call { callee := Go.Callee.value (Go.Operand.func 12), args := #[Go.Operand.tmp 45], argTypes := #[25] }, type := 3, pos := "law.go:141", after := #[{ on := 1, ground := Go.Ground.data }], guard := none }) rfl (fun K hK => ?_) Bz.AllReadyE.nil
            go_simp
            
            refine (C1 _ (by simp) _ (by first | exact Keep.refl _ _ | exact (Keep.refl _ _).alloc _)).mono ?_
            rintro e w8 ⟨rfl, hk8⟩
            refine hK.out _ _ (by exact hHeld.trans hk8) ?_
            clear hHeld hK K; intro hHeld
            try simp only [Act.put, List.setIfInBounds_toArray, List.set_cons_zero, List.set_cons_succ]
            refine Bz.wpAnyE_ready (rs := [5]) (by kernel_rfl) (by simp) ?_
            refine Bz.AllReadyE.cons (o := { dst := some 49, op := Go.Op.call { callee := Go.Callee.value (Go.Operand.func 12), args := #[Go.Operand.tmp 48], argTypes := #[25] }, type := 3, pos := "law.go:141", after := #[{ on := 4, ground := Go.Ground.data }, { on := 2, ground := Go.Ground.chain }], guard := none }) rfl (fun K hK => ?_) Bz.AllReadyE.nil
            go_simp
            
            refine (C2 _ (by simp) _ (by first | exact Keep.refl _ _ | exact hk8 | exact ((Keep.refl _ _).alloc _).trans hk8)).mono ?_
            rintro e w9 ⟨rfl, hk9⟩
            refine hK.out _ _ (by exact hHeld.trans hk9) ?_
            clear hHeld hK K; intro hHeld
            try simp only [Act.put, List.setIfInBounds_toArray, List.set_cons_zero, List.set_cons_succ]
            refine Bz.wpAnyE_take (i := 6) (oi := { dst := some 12, op := Go.Op.assign (Go.Operand.tmp 46), type := 3, pos := "law.go:141", after := #[{ on := 2, ground := Go.Ground.data }, { on := 5, ground := Go.Ground.chain }, { on := 0, ground := Go.Ground.phase }, { on := 1, ground := Go.Ground.phase }, { on := 2, ground := Go.Ground.phase }, { on := 3, ground := Go.Ground.textOnly Go.Departure.lateStores }, { on := 4, ground := Go.Ground.textOnly Go.Departure.lateStores }, { on := 5, ground := Go.Ground.textOnly Go.Departure.lateStoresUnsure }], guard := none }) (v := ?_) rfl (by kernel_rfl) (by kernel_rfl) (by kernel_rfl) (by kernel_rfl) (fun _ _ _ h => h) (Or.inl ⟨by rfl, ?_⟩) hHeld ?_
            rotate_left 1
            · (intro w hSw; have q1 := G1 _ hSw; have q2 := G2 _ hSw; go_simp; first | done | with_reducible rfl)
            try simp only [Act.put, List.setIfInBounds_toArray, List.set_cons_zero, List.set_cons_succ]
            refine Bz.wpAnyE_take (i := 7) (oi := { dst := some 13, op := Go.Op.assign (Go.Operand.tmp 49), type := 3, pos := "law.go:141", after := #[{ on := 5, ground := Go.Ground.data }, { on := 6, ground := Go.Ground.chain }, { on := 0, ground := Go.Ground.phase }, { on := 1, ground := Go.Ground.phase }, { on := 2, ground := Go.Ground.phase }, { on := 3, ground := Go.Ground.phase }, { on := 4, ground := Go.Ground.phase }, { on := 5, ground := Go.Ground.phase }, { on := 6, ground := Go.Ground.phase }], guard := none }) (v := ?_) rfl (by kernel_rfl) (by kernel_rfl) (by kernel_rfl) (by kernel_rfl) (fun _ _ _ h => h) (Or.inl ⟨by rfl, ?_⟩) hHeld ?_
            rotate_left 1
            · (intro w hSw; have q1 := G1 _ hSw; have q2 := G2 _ hSw; go_simp; first | done | with_reducible rfl)
            try simp only [Act.put, List.setIfInBounds_toArray, List.set_cons_zero, List.set_cons_succ]
            refine Bz.wpAnyE_done (by kernel_rfl) ?_ _
            refine NoPanic.normal ?_
            go_wp2_with fail
            go_meet
            exact ⟨rfl, rfl, hHeld⟩
          exact Bz.AllReadyE.nil
        case rest =>
          obtain ⟨rfl, rfl, hk7⟩ := hcut
          have k7 := k6.trans hk7
          obtain ⟨hXY, hYY⟩ := hL
          obtain ⟨hab, hcb⟩ := hS
          have hc1 := hrc.1
          clear hrc f1 f2 G1 G2 hk7 k6 b0 HA HB HX HY HC hsz hm hl hnz
          rcases hYY with ⟨h1, h2⟩ | hYe
          · go_wp2_with (first
              | (go_at_call 10; refine (known_any _).mono ?_; rintro e wk ⟨rfl, hkk⟩)
              | fail)
            go_ret
            exact ⟨rfl, k7.trans hkk⟩
          · go_wp2_with (first
              | (go_at_call 10; refine (known_any _).mono ?_; rintro e wk ⟨rfl, hkk⟩)
              | fail)
            all_goals (go_ret; exact ⟨rfl, k7.trans hkk⟩)
    · go_wp2_with (first
        | (go_at_call 10; refine (known_any _).mono ?_; rintro e wk ⟨rfl, hkk⟩)
        | fail)
      go_ret
      exact ⟨rfl, (hk1.trans hk2).trans hkk⟩
end Go.Proofs.Ytjhcfecpmohgnaa
