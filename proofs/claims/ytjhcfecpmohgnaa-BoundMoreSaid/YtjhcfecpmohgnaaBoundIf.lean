/- BoundIf walked. -/
import Derived.Test.YtjhcfecpmohgnaaCounts
namespace Go.Proofs.Ytjhcfecpmohgnaa
open Go.RowKit Go.Bz

theorem imax_comm (a b : Int) : imax a b = imax b a := by unfold imax; split <;> split <;> omega
theorem bcost_one {c : Int} (h : c ≤ 65537) : bcost [c] = c := by
  unfold bcost tsum
  rw [show (0 : Int) + total [c] = c by simp [total]]
  exact top_of h
theorem cost_if (ec : Int) (us vs : List Int) : bcost [scost 2 0 0 [ec] us vs] = top (top (3 + ec) + imax (bcost us) (bcost vs)) := by
  have e : scost 2 0 0 [ec] us vs = top (top (3 + ec) + imax (bcost us) (bcost vs)) := by
    have : tsum 3 [ec] = top (3 + ec) := by unfold tsum; rw [show total [ec] = ec by simp [total]]
    rw [← this]
    rfl
  rw [e]
  exact bcost_one (top_le _)
section
variable {w : World} {h ha : Nat} {op n : Int} {s : ByteArray} {L A B : Value} {ds us vs : List Int}
/-- A choice that has just been laid. -/
theorem if_block (hx : ExL w h L ds) (hA : StL w ha A us) (hB : StL w ha B vs) :
    Calls Try.prog 12 #[.slice (some ⟨w.heap.size + 1, 0, none⟩) 1 1] ((w.alloc (.cells #[.int .i64 op, .int .i64 n, .string s, L] 35)).alloc
      (.cells #[.int .i64 2, .string ⟨#[]⟩, .slice (some ⟨w.heap.size, 0, none⟩) 1 1, .int .i64 0, .int .i64 0, A, B] 28))
      (fun e w' => e = .returned (.int .i64 (top (top (3 + ecost op ds) + imax (bcost us) (bcost vs)))) ∧ Keep [] w w') := by
  obtain ⟨w1, hw1⟩ : ∃ W, W = ((w.alloc (.cells #[.int .i64 op, .int .i64 n, .string s, L] 35)).alloc
      (.cells #[.int .i64 2, .string ⟨#[]⟩, .slice (some ⟨w.heap.size, 0, none⟩) 1 1, .int .i64 0, .int .i64 0, A, B] 28)) := ⟨_, rfl⟩
  have b1 : Blk w1 w.heap.size 35 (eenc ⟨op, n, s, L, ds⟩) := by rw [hw1]; exact (Blk.new _ _ _).alloc _
  have b2 : Blk w1 (w.heap.size + 1) 28 (senc ⟨2, ⟨#[]⟩, .slice (some ⟨w.heap.size, 0, none⟩) 1 1, 0, 0, A, B, [ecost op ds], us, vs⟩) := by rw [hw1]; exact Blk.new_ (by simp)
  have hk1 : Keep [] w w1 := by rw [hw1]; exact ((Keep.refl _ _).alloc _).alloc _
  have e1 := ExL.one b1 (hx.keep hk1)
  have e2 := StL.one b2 i64_00 e1 (hA.keep hk1) (hB.keep hk1)
  have hb := block_any e2
  rw [← hw1]
  refine hb.mono ?_
  rintro e w5 ⟨rfl, hk5⟩
  exact ⟨by rw [← cost_if]; rfl, hk1.trans hk5⟩
theorem expr_at (hx : ExL w h L ds) : Calls Try.prog 14 #[.agg #[.int .i64 op, .int .i64 n, .string s, L]] w (fun e w' => e = .returned (.int .i64 (ecost op ds)) ∧ Keep [] w w') :=
  expr_any h w ⟨op, n, s, L, ds⟩ hx
end
set_option maxRecDepth 100000 in
theorem boundIf_any {h ha hb : Nat} {w : World} {r : ERaw} {VA VB : Value} {us vs : List Int} (hx : ExL w h r.L r.ds) (hA : StL w ha VA us) (hB : StL w hb VB vs) :
    Calls Try.prog 6 #[.agg (eenc r), VA, VB] w (fun e w' => e = .returned (.bool true) ∧ Keep [] w w') := by
  have hA := hA.mono (Nat.le_max_left ha hb)
  have hB := hB.mono (Nat.le_max_right ha hb)
  obtain ⟨op, n, s, L, ds⟩ := r
  simp only at hx
  obtain ⟨AL, cL, rfl⟩ := hx.sl
  obtain ⟨AA, cA, rfl⟩ := hA.sl
  obtain ⟨AB, cB, rfl⟩ := hB.sl
  have her := ecost_range (op := op) hx.cs
  have har := bcost_range hA.cs
  have hbr := bcost_range hB.cs
  have fE := fun W (hk : Keep [] w W) => fewExpr_any (r := ⟨op, n, s, .slice AL ds.length cL, ds⟩) (hx.keep hk)
  have fA := fun W (hk : Keep [] w W) => few_any (hA.keep hk)
  have fB := fun W (hk : Keep [] w W) => few_any (hB.keep hk)
  have bA := fun W (hk : Keep [] w W) => block_any (hA.keep hk)
  have bB := fun W (hk : Keep [] w W) => block_any (hB.keep hk)
  have eE := fun W (hk : Keep [] w W) => expr_at (op := op) (n := n) (s := s) (hx.keep hk)
  have i1 := fun W (hk : Keep [] w W) => if_block (op := op) (n := n) (s := s) (hx.keep hk) (hA.keep hk) (hB.keep hk)
  have i2 := fun W (hk : Keep [] w W) => if_block (op := op) (n := n) (s := s) (hx.keep hk) (hB.keep hk) (hA.keep hk)
  have i3 := fun W (hk : Keep [] w W) => if_block (op := op) (n := n) (s := s) (hx.keep hk) (StL.nil W 0) (StL.nil W 0)
  rw [imax_comm (bcost vs)] at i2
  rw [show imax (bcost []) (bcost []) = 0 from rfl] at i3
  have e3 : top (top (3 + ecost op ds) + 0) = top (3 + ecost op ds) := by rw [Int.add_zero]; exact top_of (top_le _)
  rw [e3] at i3
  clear e3
  obtain ⟨ba, HBa⟩ : ∃ t, Hid (t = bcost us) := ⟨_, Lib.hid rfl⟩
  obtain ⟨bb, HBb⟩ : ∃ t, Hid (t = bcost vs) := ⟨_, Lib.hid rfl⟩
  obtain ⟨ec, HEc⟩ : ∃ t, Hid (t = ecost op ds) := ⟨_, Lib.hid rfl⟩
  obtain ⟨N, HN⟩ : ∃ t, Hid (t = top (3 + ec)) := ⟨_, Lib.hid rfl⟩
  obtain ⟨X, HX⟩ : ∃ t, Hid (t = top (N + imax ba bb)) := ⟨_, Lib.hid rfl⟩
  rw [← HEc.out] at eE i1 i2 i3 her
  rw [← HBa.out] at bA i1 i2 har
  rw [← HBb.out] at bB i1 i2 hbr
  rw [← HN.out] at i1 i2 i3
  rw [← HX.out] at i1 i2
  simp only [eenc] at fE ⊢
  clear hx hA hB HBa HBb HEc
  obtain ⟨w1, hw1⟩ : ∃ W, W = w.alloc (.cells #[.int .i64 op, .int .i64 n, .string s, .slice AL ds.length cL] 35) := ⟨_, rfl⟩
  have B1 : Blk w1 w.heap.size 35 (eenc ⟨op, n, s, .slice AL ds.length cL, ds⟩) := by rw [hw1]; exact Blk.new _ _ _
  have hk1 : Keep [] w w1 := by rw [hw1]; exact (Keep.refl _ _).alloc _
  have FB := fun W (hk : Keep [] w1 W) => (B1.keep hk (by simp)).cell
  have c0 := FB w1 (Keep.refl _ _)
  go_enter Try.func6, Try.ntmps6
  go_upto_region 1 with fail
  rw [← hw1]
  clear hw1
  have mk : True := trivial
  go_upto_region 3 with (first
    | (go_at_call 13; refine (fE _ hk1).mono ?_; rintro e w2 ⟨⟨b, rfl⟩, hk2⟩; cases b)
    | (go_at_call 11; clear mk; refine (fA _ (hk1.trans hk2)).mono ?_; rintro e w3 ⟨⟨b, rfl⟩, hk3⟩; cases b)
    | (go_at_call 11; refine (fB _ ((hk1.trans hk2).trans hk3)).mono ?_; rintro e w4 ⟨⟨b, rfl⟩, hk4⟩; cases b)
    | (go_at_call 10; refine (known_any _).mono ?_; rintro e wk ⟨rfl, hkk⟩)
    | fail)
  · go_wp2_with fail
    go_ret
    exact ⟨rfl, (hk1.trans hk2).trans hkk⟩
  · go_wp2_with fail
    go_ret
    exact ⟨rfl, ((hk1.trans hk2).trans hk3).trans hkk⟩
  · go_wp2_with fail
    go_ret
    exact ⟨rfl, (((hk1.trans hk2).trans hk3).trans hk4).trans hkk⟩
  · have kw := (hk2.trans hk3).trans hk4
    clear hk2 hk3 hk4 fE fA fB c0
    have c4 := FB w4 kw
    have k4 := hk1.trans kw
    go_upto_region 4 with (first
      | (go_at_call 12; refine (i1 w4 k4).mono ?_; rintro e w5 ⟨rfl, hk5⟩)
      | fail)
    clear c4
    have k5 := k4.trans hk5
    have kw := kw.trans hk5
    have c5 := FB w5 kw
    go_upto_region 5 with (first
      | (go_at_call 12; refine (i2 w5 k5).mono ?_; rintro e w6 ⟨rfl, hk6⟩)
      | fail)
    clear c5
    have k6 := k5.trans hk6
    have kw := kw.trans hk6
    have c6 := FB w6 kw
    go_upto_region 6 with (first
      | (go_at_call 12; refine (i3 w6 k6).mono ?_; rintro e w7 ⟨rfl, hk7⟩)
      | fail)
    clear c6
    have k7 := k6.trans hk7
    have kw := kw.trans hk7
    clear hk1 hk5 hk6 hk7 k4 k5 k6 i1 i2 i3
    have hNr : 3 ≤ N ∧ N ≤ 65537 := by rw [HN.out]; exact ⟨top_ge (by omega) (by decide), top_le _⟩
    have q1 : IntKind.i64.wrap (N + ba) = N + ba := IntWalk.i64_in _ (by omega)
    have q2 : IntKind.i64.wrap (N + bb) = N + bb := IntWalk.i64_in _ (by omega)
    have q3 : IntKind.i64.wrap (3 + ec) = 3 + ec := IntWalk.i64_in _ (by omega)
    have mk : True := trivial
    go_wp2_with (first
      | (go_at_call 12; clear mk; refine (bA _ k7).mono ?_; rintro e w8 ⟨rfl, hk8⟩)
      | (go_at_call 12; refine (bB _ (k7.trans hk8)).mono ?_; rintro e w9 ⟨rfl, hk9⟩; have c9 := FB w9 ((kw.trans hk8).trans hk9))
      | (go_at_call 10; clear c9; refine (known_any _).mono ?_; rintro e wa ⟨rfl, hka⟩; have ca := FB wa (((kw.trans hk8).trans hk9).trans hka))
      | (go_at_call 14; refine (eE _ (((k7.trans hk8).trans hk9).trans hka)).mono ?_; rintro e wb ⟨rfl, hkb⟩)
      | fail)
    all_goals have hX := HX.out
    all_goals have hN := HN.out
    all_goals unfold top at hX hN
    all_goals unfold imax at hX
    · go_ret
      have e1 : N = min (3 + ec) 65537 := by rw [hN]; split <;> omega
      exact ⟨by rw [← e1]; simp, ((((k7.trans hk8).trans hk9).trans hka).trans hkb)⟩
    · rename_i hne
      exfalso
      apply hne
      rw [hX]
      split <;> split at * <;> omega
end Go.Proofs.Ytjhcfecpmohgnaa
