/- Few and FewExpr walked: they answer, whatever. -/
import Derived.Test.YtjhcfecpmohgnaaKnown
namespace Go.Proofs.Ytjhcfecpmohgnaa
open Go.RowKit Go.Bz

def CountOk (d : Nat) : Prop := ∀ (h : Nat) (w : World) (V : Value) (cs : List Int), ExL w h V cs → Calls Try.prog 21 #[V, .int .i64 d, .int .i64 300] w (fun e w' => (∃ m : Int, e = .returned (.int .i64 m)) ∧ Keep [] w w')
set_option maxRecDepth 100000 in
theorem count_ok : ∀ d, d ≤ 12 → CountOk d := by
  intro d
  induction d with
  | zero =>
    intro _ h w V cs hx
    obtain ⟨A, cap, rfl⟩ := hx.sl
    by_cases h0 : 0 < cs.length
    · go_enter Try.func21, Try.ntmps21
      go_wp2_with fail
      go_loopg [7, 8] 0 (fun m v i wr => m = 0 ∧ v = .int .i64 cs.length ∧ i = .int .i64 0 ∧ wr = w)
      case atStart => exact ⟨rfl, rfl, rfl, rfl⟩
      case round =>
        obtain ⟨rfl, rfl, rfl, rfl⟩ := hrel
        by_cases h3 : (cs.length : Int) < 300
        · go_wp2_with fail
          go_ret
          exact ⟨⟨_, rfl⟩, Keep.refl _ _⟩
        · have h3' : decide ((cs.length : Int) < 300) = false := by simp; omega
          clear h3
          go_wp2_with fail
          go_ret
          exact ⟨⟨_, rfl⟩, Keep.refl _ _⟩
    · have h1 : cs.length = 0 := by omega
      rw [h1]
      clear h0 h1
      go_enter Try.func21, Try.ntmps21
      go_wp2_with fail
      go_loopg [7, 8] 0 (fun m v i wr => m = 0 ∧ v = .int .i64 0 ∧ i = .int .i64 0 ∧ wr = w)
      case atStart => exact ⟨rfl, rfl, rfl, rfl⟩
      case round =>
        obtain ⟨rfl, rfl, rfl, rfl⟩ := hrel
        go_wp2_with fail
        go_ret
        exact ⟨⟨_, rfl⟩, Keep.refl _ _⟩
  | succ d ih =>
    intro hd h w V cs hx
    have ih := ih (by omega)
    match h, hx with
    | h + 1, hx =>
      obtain ⟨rs, rfl, hR, hT⟩ := hx.at_
      obtain ⟨A, cap, rfl, hc1, hc2, hc3⟩ := id hR
      unfold maxLen at hc2
      have q1 : IntKind.i64.wrap (((d + 1 : Nat) : Int) - 1) = d := by rw [IntWalk.i64_in _ (by omega)]; first | done | omega
      have q2 : decide ((0 : Int) < ((d + 1 : Nat) : Int)) = true := by simp; try omega
      have q3 : (((d + 1 : Nat) : Int) == 0) = false := by simp; omega
      obtain ⟨D, HD⟩ : ∃ D : Int, Hid (D = ((d + 1 : Nat) : Int)) := ⟨_, Lib.hid rfl⟩
      rw [← HD.out] at q1 q2 q3 ⊢
      have hd12 : (d : Int) ≤ 12 := by omega
      go_enter Try.func21, Try.ntmps21
      go_wp2_with fail
      go_loopg [7, 8] rs.length (fun m v i wr => ∃ (k : Nat) (x : Int), i = .int .i64 k ∧ m + k = rs.length ∧ v = .int .i64 x ∧ Keep [] w wr)
      case atStart => exact ⟨0, _, rfl, rfl, rfl, Keep.refl _ _⟩
      case round =>
        obtain ⟨k, x, rfl, hk, rfl, hK⟩ := hrel
        by_cases hlt : k < rs.length
        · by_cases h3 : x < 300
          · obtain ⟨r, hr⟩ : ∃ r, rs[k]? = some r := ⟨_, List.getElem?_eq_getElem hlt⟩
            obtain ⟨ab, ao, cp, hv, hcl⟩ := eAt hR hr
            cases hv
            obtain ⟨c0, c1, c2, c3⟩ := hcl wr hK
            have hT1 := (hT r (List.mem_of_getElem? hr)).keep hK
            obtain ⟨Ar, cr, hL⟩ := hT1.sl
            have hcall := ih h wr _ _ hT1
            clear hT1 hr hcl
            obtain ⟨op, en, es, L, ds⟩ := r
            simp only at hL c0 c1 c2 c3 hcall
            subst hL
            go_wp2_with (first
              | (go_at_call 21; refine hcall.mono ?_; rintro e w5 ⟨⟨m, rfl⟩, hk5⟩)
              | fail)
            go_roundg (rs.length - (k + 1))
            case measure => omega
            case rel => exact ⟨k + 1, _, by go_num, by omega, rfl, hK.trans hk5⟩
          · have h3' : decide (x < 300) = false := by simp; omega
            clear h3
            go_wp2_with fail
            go_ret
            exact ⟨⟨_, rfl⟩, hK⟩
        · go_wp2_with fail
          go_ret
          exact ⟨⟨_, rfl⟩, hK⟩
end Go.Proofs.Ytjhcfecpmohgnaa
