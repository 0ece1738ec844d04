/- What an expression costs, walked. -/
import Derived.Test.YtjhcfecpmohgnaaTree
namespace Go.Proofs.Ytjhcfecpmohgnaa
open Go.RowKit Go.Bz

theorem cut_any (n : Int) (w : World) : Calls Try.prog 25 #[.int .i64 n] w (fun e w' => e = .returned (.int .i64 (top n)) ∧ Keep [] w w') := by
  go_enter Try.func25, Try.ntmps25
  go_wp2_with fail
  all_goals (go_ret; refine ⟨?_, Keep.refl _ _⟩; unfold top; first | (rw [if_pos (by omega)]; rfl) | (rw [if_neg (by omega)]; rfl))
set_option maxRecDepth 100000 in
theorem esum_any {h : Nat} (IH : ∀ (w : World) (r : ERaw), ExL w h r.L r.ds → Calls Try.prog 14 #[.agg (eenc r)] w (fun e w' => e = .returned (.int .i64 r.c) ∧ Keep [] w w'))
    {w : World} {V : Value} {cs : List Int} (hx : ExL w (h + 1) V cs) (n : Int) (hn : 0 ≤ n ∧ n ≤ 65537) :
    Calls Try.prog 22 #[.int .i64 n, V, .func (.func 14) #[] #[]] w (fun e w' => e = .returned (.int .i64 (tsum n cs)) ∧ Keep [] w w') := by
  have hcs := hx.cs
  obtain ⟨rs, rfl, hR, hT⟩ := hx.at_
  obtain ⟨A, cap, rfl, hc1, hc2, hc3⟩ := id hR
  unfold maxLen at hc2
  go_enter Try.func22, Try.ntmps22
  go_wp2_with fail
  go_loopg [0, 11] rs.length (fun m v i wr => ∃ k : Nat, i = .int .i64 k ∧ m + k = rs.length ∧ v = .int .i64 (tsum n ((rs.map ERaw.c).take k)) ∧ Keep [] w wr)
  case atStart => exact ⟨0, rfl, rfl, by simp [tsum, total, top_of hn.2], Keep.refl _ _⟩
  case round =>
    obtain ⟨k, rfl, hk, rfl, hK⟩ := hrel
    by_cases hlt : k < rs.length
    · obtain ⟨r, hr⟩ : ∃ r, rs[k]? = some r := ⟨_, List.getElem?_eq_getElem hlt⟩
      obtain ⟨ab, ao, cp, hv, hcl⟩ := eAt hR hr
      cases hv
      obtain ⟨c0, c1, c2, c3⟩ := hcl wr hK
      have hT1 := hT r (List.mem_of_getElem? hr)
      obtain ⟨Ar, cr, hL⟩ := hT1.sl
      rw [hL] at c3
      have hck : (rs.map ERaw.c)[k]? = some r.c := by rw [List.getElem?_map, hr]; rfl
      have hrg := tsum_range (l := (rs.map ERaw.c).take k) hn (fun x hx => hcs x (List.mem_of_mem_take hx))
      have hrc := hcs r.c (List.mem_of_getElem? hck)
      have HS := Lib.hid (tsum_snoc (n := n) hck hcs)
      obtain ⟨T, HT⟩ : ∃ T, Hid (T = tsum n ((rs.map ERaw.c).take k)) := ⟨_, Lib.hid rfl⟩
      rw [← HT.out] at hrg HS ⊢
      by_cases hf : 65536 < T
      · have HF := Lib.hid (tsum_full (n := n) k hcs (by rw [← HT.out]; exact hf))
        go_wp2_with fail
        go_ret
        exact ⟨by rw [HT.out, HF.out]; rfl, (hK.alloc _)⟩
      · have hf' : decide (65536 < T) = false := by simp; omega
        obtain ⟨op, en, es, L, ds⟩ := r
        simp only at hL
        subst hL
        have hcall := fun W (hk : Keep [] w W) => IH W ⟨op, en, es, .slice Ar ds.length cr, ds⟩ (hT1.keep hk)
        obtain ⟨c, HC⟩ : ∃ c, Hid (c = (⟨op, en, es, .slice Ar ds.length cr, ds⟩ : ERaw).c) := ⟨_, Lib.hid rfl⟩
        rw [← HC.out] at hrc HS
        rw [← HC.out] at hcall
        simp only [eenc] at hcall
        simp only at c0 c1 c2 c3
        clear hT1 hck hr
        go_wp2_with (first
          | (go_at_call 14; refine (hcall _ (hK.alloc _)).mono ?_; rintro e w5 ⟨rfl, hk5⟩)
          | (go_at_call 25; refine (cut_any _ _).mono ?_; rintro e w6 ⟨rfl, hk6⟩)
          | fail)
        go_roundg (rs.length - (k + 1))
        case measure => omega
        case rel => exact ⟨k + 1, by go_num, by omega, by rw [HS.out], ((hK.alloc _).trans hk5).trans hk6⟩
    · have HK := Lib.hid hk
      go_wp2_with fail
      go_ret
      have hk := HK.out
      exact ⟨by rw [List.take_of_length_le (by rw [List.length_map]; omega)]; rfl, hK⟩
set_option maxRecDepth 100000 in
theorem expr_any : ∀ (h : Nat) (w : World) (r : ERaw), ExL w h r.L r.ds → Calls Try.prog 14 #[.agg (eenc r)] w (fun e w' => e = .returned (.int .i64 r.c) ∧ Keep [] w w')
  | 0, _, _, hx => hx.elim
  | h + 1, w, r, hx => by
    have hE := fun W (hk : Keep [] w W) n hn => esum_any (fun w r => expr_any h w r) (hx.keep hk) n hn
    obtain ⟨op, n, s, L, ds⟩ := r
    obtain ⟨A, cap, hL⟩ := hx.sl
    simp only at hL hE
    subst hL
    clear hx
    have hk0 := (Keep.refl [] w).alloc (.cells (eenc ⟨op, n, s, .slice A ds.length cap, ds⟩) 35)
    have e6 := fun W hk => hE W hk 6 (by decide)
    have e2 := fun W hk => hE W hk 2 (by decide)
    obtain ⟨t6, H6⟩ : ∃ t, Hid (t = tsum 6 ds) := ⟨_, Lib.hid rfl⟩
    obtain ⟨t2, H2⟩ : ∃ t, Hid (t = tsum 2 ds) := ⟨_, Lib.hid rfl⟩
    rw [← H6.out] at e6
    rw [← H2.out] at e2
    clear hE
    by_cases h0 : op = 0
    · subst h0
      go_enter Try.func14, Try.ntmps14
      go_wp2_with fail
      go_ret
      exact ⟨rfl, hk0⟩
    by_cases h1 : op = 1
    · subst h1
      clear h0
      go_enter Try.func14, Try.ntmps14
      go_wp2_with fail
      go_ret
      exact ⟨rfl, hk0⟩
    by_cases h2 : op = 2
    · subst h2
      clear h0 h1
      go_enter Try.func14, Try.ntmps14
      go_wp2_with (first | (go_at_call 22; refine (e6 _ hk0).mono ?_; rintro e w5 ⟨rfl, hk5⟩) | fail)
      go_ret
      exact ⟨by rw [H6.out]; rfl, hk0.trans hk5⟩
    · have g0 : (op == (0 : Int)) = false := by simp [h0]
      have g1 : (op == (1 : Int)) = false := by simp [h1]
      have g2 : (op == (2 : Int)) = false := by simp [h2]
      have HC := Lib.hid (And.intro h0 (And.intro h1 h2))
      clear h0 h1 h2
      go_enter Try.func14, Try.ntmps14
      go_wp2_with (first | (go_at_call 22; refine (e2 _ hk0).mono ?_; rintro e w5 ⟨rfl, hk5⟩) | fail)
      go_ret
      exact ⟨by rw [H2.out]; obtain ⟨h0, h1, h2⟩ := HC.out; unfold ERaw.c ecost; rw [if_neg (by simp [h0, h1]), if_neg h2]; rfl, hk0.trans hk5⟩
end Go.Proofs.Ytjhcfecpmohgnaa
