/- Block walked: what statements cost together. -/
import Derived.Test.YtjhcfecpmohgnaaStmt
namespace Go.Proofs.Ytjhcfecpmohgnaa
open Go.RowKit Go.Bz

set_option maxRecDepth 100000 in
theorem ssum_any {h : Nat} (IH : BlockOk h) {w : World} {V : Value} {cs : List Int} (hx : StL w (h + 1) V cs) :
    Calls Try.prog 19 #[.int .i64 0, V, .func (.func 20) #[] #[]] w (fun e w' => e = .returned (.int .i64 (bcost cs)) ∧ Keep [] w w') := by
  have hcs := hx.cs
  obtain ⟨rs, hR, hT, rfl⟩ := hx
  obtain ⟨A, cap, rfl, hc1, hc2, hc3⟩ := id hR
  unfold maxLen at hc2
  go_enter Try.func19, Try.ntmps19
  go_wp2_with fail
  go_loopg [0, 11] rs.length (fun m v i wr => ∃ k : Nat, i = .int .i64 k ∧ m + k = rs.length ∧ v = .int .i64 (tsum 0 ((rs.map SRaw.c).take k)) ∧ Keep [] w wr)
  case atStart => exact ⟨0, rfl, rfl, by simp [tsum, total, top], Keep.refl _ _⟩
  case round =>
    obtain ⟨k, rfl, hk, rfl, hK⟩ := hrel
    by_cases hlt : k < rs.length
    · obtain ⟨r, hr⟩ : ∃ r, rs[k]? = some r := ⟨_, List.getElem?_eq_getElem hlt⟩
      obtain ⟨ab, ao, cp, hv, hcl⟩ := sAt hR hr
      cases hv
      obtain ⟨c0, c1, c2, c3, c4, c5, c6⟩ := hcl wr hK
      obtain ⟨hI, ⟨q, hE⟩, hL, hX⟩ := hT r (List.mem_of_getElem? hr)
      obtain ⟨AE, cE, eE⟩ := hE.sl
      obtain ⟨AL, cL, eL⟩ := hL.sl
      obtain ⟨AX, cX, eX⟩ := hX.sl
      rw [eE] at c2
      rw [eL] at c5
      rw [eX] at c6
      have hck : (rs.map SRaw.c)[k]? = some r.c := by rw [List.getElem?_map, hr]; rfl
      have hrg := tsum_range (n := 0) (l := (rs.map SRaw.c).take k) (by decide) (fun x hx => hcs x (List.mem_of_mem_take hx))
      have hrc := hcs r.c (List.mem_of_getElem? hck)
      have HS := Lib.hid (tsum_snoc (n := 0) hck hcs)
      obtain ⟨T, HT⟩ : ∃ T, Hid (T = tsum 0 ((rs.map SRaw.c).take k)) := ⟨_, Lib.hid rfl⟩
      rw [← HT.out] at hrg HS ⊢
      by_cases hf : 65536 < T
      · have HF := Lib.hid (tsum_full (n := 0) k hcs (by rw [← HT.out]; exact hf))
        go_wp2_with fail
        go_ret
        exact ⟨by rw [HT.out, HF.out]; rfl, (hK.alloc _)⟩
      · have hf' : decide (65536 < T) = false := by simp; omega
        have hcall := fun W (hk : Keep [] w W) => stmt_any IH (w := W) (r := r) hI (hE.keep hk) (hL.keep hk) (hX.keep hk)
        obtain ⟨kind, s, E, lo, hi, L, X, es, ls, xs⟩ := r
        simp only at eE eL eX
        subst eE eL eX
        obtain ⟨c, HC⟩ : ∃ c, Hid (c = (⟨kind, s, .slice AE es.length cE, lo, hi, .slice AL ls.length cL, .slice AX xs.length cX, es, ls, xs⟩ : SRaw).c) := ⟨_, Lib.hid rfl⟩
        rw [← HC.out] at hrc HS
        rw [← HC.out] at hcall
        simp only [senc] at hcall
        simp only at c0 c1 c2 c3 c4 c5 c6
        clear hE hL hX hI hck hr
        go_wp2_with (first
          | (go_at_call 20; refine (hcall _ (hK.alloc _)).mono ?_; rintro e w5 ⟨rfl, hk5⟩)
          | (go_at_call 25; refine (cut_any _ _).mono ?_; rintro e w6 ⟨rfl, hk6⟩)
          | fail)
        go_roundg (rs.length - (k + 1))
        case measure => omega
        case rel => exact ⟨k + 1, by go_num, by omega, by rw [HS.out], ((hK.alloc _).trans hk5).trans hk6⟩
    · have HK := Lib.hid hk
      go_wp2_with fail
      go_ret
      have hk := HK.out
      exact ⟨by rw [List.take_of_length_le (by rw [List.length_map]; omega)]; rfl, hK⟩
theorem block_ok : ∀ h, BlockOk h
  | 0 => fun _ _ _ hx => hx.elim
  | h + 1 => fun w V cs hx => by
    have hs := ssum_any (block_ok h) hx
    obtain ⟨A, cap, rfl⟩ := hx.sl
    go_enter Try.func12, Try.ntmps12
    go_wp2_with (first | (go_at_call 19; refine hs.mono ?_; rintro e w5 ⟨rfl, hk5⟩) | fail)
    go_ret
    exact ⟨rfl, hk5⟩
theorem block_any {h : Nat} {w : World} {V : Value} {cs : List Int} (hx : StL w h V cs) : Calls Try.prog 12 #[V] w (fun e w' => e = .returned (.int .i64 (bcost cs)) ∧ Keep [] w w') := block_ok h w V cs hx
end Go.Proofs.Ytjhcfecpmohgnaa
