/- The document's Cut walked. -/
import Derived.Test.YtcjbmbljmmakfaaRefSmall
namespace Go.Proofs.Ytcjbmbljmmakfaa
open Go.RowKit Go.Bz

theorem app45 : AppT Try.prog 45 104 2 16 (.agg #[.int .i64 0, .int .i64 0]) := ⟨Try.underlying45, by kernel_rfl, by rfl, by decide⟩
theorem penc_one (p : Int × Int) : ∀ u ∈ (penc p).toList, u.oneCell' = true := by intro u hu; simp at hu; rcases hu with rfl | rfl <;> rfl
/-- Another's cells, and the answer. -/
theorem filter_snoc {α : Type} (p : α → Bool) (l : List α) {k : Nat} {x : α} (h : l[k]? = some x) : (l.take (k + 1)).filter p = (l.take k).filter p ++ if p x = true then [x] else [] := by
  rw [List.take_add_one, h, List.filter_append]
  cases hp : p x <;> simp [hp]
/-- Four cells that are written over. -/
theorem put4 {w W : World} {g : Nat} {ty : TypeId} {x0 x1 x2 x3 : Value} (hb : Blk W g ty #[x0, x1, x2, x3]) (hk : Keep [] w W) (hg : w.heap.size ≤ g) (a b c d : Value) :
    Blk ((((W.setCell ⟨g, 0, none⟩ a).setCell ⟨g, 1, none⟩ b).setCell ⟨g, 2, none⟩ c).setCell ⟨g, 3, none⟩ d) g ty #[a, b, c, d] ∧ Keep [] w ((((W.setCell ⟨g, 0, none⟩ a).setCell ⟨g, 1, none⟩ b).setCell ⟨g, 2, none⟩ c).setCell ⟨g, 3, none⟩ d) ∧
    Keep [g] W ((((W.setCell ⟨g, 0, none⟩ a).setCell ⟨g, 1, none⟩ b).setCell ⟨g, 2, none⟩ c).setCell ⟨g, 3, none⟩ d) := by
  refine ⟨?_, ?_, ?_⟩
  · have h9 := (((hb.set_ 0 a).set_ 1 b).set_ 2 c).set_ 3 d
    simpa only [List.setIfInBounds_toArray, List.set_cons_zero, List.set_cons_succ] using h9
  · exact (((hk.setCell (.inr hg) _).setCell (.inr hg) _).setCell (.inr hg) _).setCell (.inr hg) _
  · exact ((((Keep.refl [g] W).setCell (.inl (by simp)) _).setCell (.inl (by simp)) _).setCell (.inl (by simp)) _).setCell (.inl (by simp)) _
set_option maxRecDepth 100000 in
set_option maxHeartbeats 2000000 in
theorem rcutset_any {w : World} {R : RN} {V C : Value} (h : RnAt w R V C) (hl : R.cuts.length ≤ 100000) (f t : Int) (is : Bool) :
    Calls Try.prog 38 #[.agg (rcells R V C), .int .i64 f, .int .i64 t, .bool is] w (fun e w' => ∃ C', e = .returned (.tuple #[.agg (rcells (R.setCut f t is) V C'), .int .i64 (R.cutErr f t)]) ∧ RnAt w' (R.setCut f t is) V C' ∧ Keep [] w w') := by
  obtain ⟨⟨AV, cV, hV⟩, AC, cC, hC⟩ := h.sl
  have pf := fun W => rparty_any R AV AC R.way.length R.cuts.length cV cC f W
  have pt := fun W => rparty_any R AV AC R.way.length R.cuts.length cV cC t W
  have hRw := h.way
  have hRc := h.cuts
  have HE : Hid (R.cutErr f t = if R.party f = false ∨ R.party t = false then 28 else 0) := Lib.hid rfl
  have HS : Hid (R.setCut f t is = if R.party f = false ∨ R.party t = false then R else { R with cuts := (R.cuts.filter fun p => !decide (p = (f, t))) ++ (if is = true then [(f, t)] else []) }) := Lib.hid (by
    unfold RN.setCut RN.cutErr
    by_cases hh : R.party f = false ∨ R.party t = false
    · rw [if_pos hh, if_pos hh, if_neg (by decide)]
    · rw [if_neg hh, if_neg hh, if_pos rfl])
  obtain ⟨E, hEe⟩ : ∃ E, E = R.cutErr f t := ⟨_, rfl⟩
  obtain ⟨R2, hR2⟩ : ∃ R2, R2 = R.setCut f t is := ⟨_, rfl⟩
  rw [← hEe] at HE
  rw [← hR2] at HS
  rw [← hEe, ← hR2]
  clear hEe hR2
  obtain ⟨pF, hpf⟩ : ∃ b, b = R.party f := ⟨_, rfl⟩
  obtain ⟨pT, hpt⟩ : ∃ b, b = R.party t := ⟨_, rfl⟩
  rw [← hpf] at pf HE HS
  rw [← hpt] at pt HE HS
  clear hpf hpt
  subst hV hC
  obtain ⟨P, now, way, cuts⟩ := R
  simp only at hl hRw hRc HS pf pt
  simp only [rcells] at pf pt ⊢
  obtain ⟨_, _, hv, hc1, hc2, _⟩ := id hRc
  cases hv
  unfold maxLen at hc2
  obtain ⟨w1, hw1⟩ : ∃ W, W = (w.alloc (.cells #[.int .i64 P, .int .i64 now, .slice AV way.length cV, .slice AC cuts.length cC] 47)).alloc (.cells #[.int .i64 0, .int .i64 0, .slice none 0 0, .slice none 0 0] 47) := ⟨_, rfl⟩
  have B0 : Blk w1 w.heap.size 47 #[.int .i64 P, .int .i64 now, .slice AV way.length cV, .slice AC cuts.length cC] := by rw [hw1]; exact (Blk.new _ _ _).alloc _
  have B1 : Blk w1 (w.heap.size + 1) 47 #[.int .i64 0, .int .i64 0, .slice none 0 0, .slice none 0 0] := by rw [hw1]; exact Blk.new_ (by simp)
  have hk1 : Keep [] w w1 := by rw [hw1]; exact ((Keep.refl _ _).alloc _).alloc _
  have F0 := fun W (hk : Keep [] w1 W) => (B0.keep hk (by simp)).cell
  have F1 := fun W (hk : Keep [] w1 W) => (B1.keep hk (by simp)).cell
  have G0 := fun W (hk : Keep [] w1 W) => (B0.keep hk (by simp)).frozen
  have G1 := fun W (hk : Keep [] w1 W) => (B1.keep hk (by simp)).frozen
  have c0 := F0 w1 (Keep.refl _ _)
  go_enter Try.func38, Try.ntmps38
  go_upto_region 1 with fail
  rw [← hw1]
  clear hw1
  by_cases herr : pF = false ∨ pT = false
  · have HE1 : Hid (E = 28) := Lib.hid (by rw [HE.out, if_pos herr])
    clear HE
    have HS1 : Hid (R2 = ⟨P, now, way, cuts⟩) := Lib.hid (by rw [HS.out, if_pos herr])
    clear HS
    have HE := HE1
    have HS := HS1
    clear HE1 HS1
    cases pF with
    | false =>
      clear herr
      go_upto_region 2 with (first
        | (go_at_call 45; refine (pf _).mono ?_; rintro e w2 ⟨rfl, hk2⟩; clear c0)
        | fail)
      have c0 := F0 w2 hk2
      have c1 := F1 w2 hk2
      have g1 := G1 w2 hk2
      go_wp2_with fail
      obtain ⟨hS, hk3, _⟩ := put4 (B1.keep hk2 (by simp)) (hk1.trans hk2) (by omega) (.int .i64 P) (.int .i64 now) (.slice AV way.length cV) (.slice AC cuts.length cC)
      have cS := hS.cell
      have e2 := HS.out
      subst e2
      exact bodyPost_ret (v := .tuple #[.agg #[.int .i64 P, .int .i64 now, .slice AV way.length cV, .slice AC cuts.length cC], .int .i64 28]) (by simp [results, Try.results38, go_sem, cS]) rfl ⟨_, by rw [HE.out], h.keep0 hk3, hk3⟩
    | true =>
      have hT : pT = false := by simpa using herr
      subst hT
      clear herr
      have mk : True := trivial
      go_upto_region 2 with (first
        | (go_at_call 45; clear mk; refine (pf _).mono ?_; rintro e w2 ⟨rfl, hk2⟩; clear c0; have c0 := F0 w2 hk2)
        | (go_at_call 45; refine (pt _).mono ?_; rintro e w3 ⟨rfl, hk3⟩; clear c0)
        | fail)
      have hk2 := hk2.trans hk3
      have c0 := F0 w3 hk2
      have c1 := F1 w3 hk2
      have g1 := G1 w3 hk2
      go_wp2_with fail
      obtain ⟨hS, hk3, _⟩ := put4 (B1.keep hk2 (by simp)) (hk1.trans hk2) (by omega) (.int .i64 P) (.int .i64 now) (.slice AV way.length cV) (.slice AC cuts.length cC)
      have cS := hS.cell
      have e2 := HS.out
      subst e2
      exact bodyPost_ret (v := .tuple #[.agg #[.int .i64 P, .int .i64 now, .slice AV way.length cV, .slice AC cuts.length cC], .int .i64 28]) (by simp [results, Try.results38, go_sem, cS]) rfl ⟨_, by rw [HE.out], h.keep0 hk3, hk3⟩
  · have HE1 : Hid (E = 0) := Lib.hid (by rw [HE.out, if_neg herr])
    have HS1 : Hid (R2 = ⟨P, now, way, (cuts.filter fun p => !decide (p = (f, t))) ++ (if is = true then [(f, t)] else [])⟩) := Lib.hid (by rw [HS.out, if_neg herr])
    clear HE HS
    have HE := HE1
    have HS := HS1
    clear HE1 HS1
    have hF : pF = true := by simpa using fun e => herr (.inl e)
    have hT : pT = true := by simpa using fun e => herr (.inr e)
    subst hF hT
    clear herr
    have mk : True := trivial
    go_upto_region 3 with (first
      | (go_at_call 45; clear mk; refine (pf _).mono ?_; rintro e w2 ⟨rfl, hk2⟩; clear c0; have c0 := F0 w2 hk2)
      | (go_at_call 45; refine (pt _).mono ?_; rintro e w3 ⟨rfl, hk3⟩; clear c0)
      | fail)
    have hk2 := hk2.trans hk3
    have F0 := fun W (hk : Keep [] w3 W) => F0 W (hk2.trans hk)
    have F1 := fun W (hk : Keep [] w3 W) => F1 W (hk2.trans hk)
    have G0 := fun W (hk : Keep [] w3 W) => G0 W (hk2.trans hk)
    have G1 := fun W (hk : Keep [] w3 W) => G1 W (hk2.trans hk)
    have k3 := hk1.trans hk2
    clear pf pt hk3
    have fin : ∀ (W : World) (A1 : Option Addr) (l : List (Int × Int)) (cap1 : Nat), Keep [] w3 W → Own W w3.heap.size 104 2 penc (.slice A1 l.length cap1) l →
        Blk (((((W.setCell ⟨w.heap.size, 3, none⟩ (.slice A1 l.length cap1)).setCell ⟨w.heap.size + 1, 0, none⟩ (.int .i64 P)).setCell ⟨w.heap.size + 1, 1, none⟩ (.int .i64 now)).setCell ⟨w.heap.size + 1, 2, none⟩ (.slice AV way.length cV)).setCell ⟨w.heap.size + 1, 3, none⟩ (.slice A1 l.length cap1)) (w.heap.size + 1) 47 #[.int .i64 P, .int .i64 now, .slice AV way.length cV, .slice A1 l.length cap1] ∧
        Own (((((W.setCell ⟨w.heap.size, 3, none⟩ (.slice A1 l.length cap1)).setCell ⟨w.heap.size + 1, 0, none⟩ (.int .i64 P)).setCell ⟨w.heap.size + 1, 1, none⟩ (.int .i64 now)).setCell ⟨w.heap.size + 1, 2, none⟩ (.slice AV way.length cV)).setCell ⟨w.heap.size + 1, 3, none⟩ (.slice A1 l.length cap1)) w3.heap.size 104 2 penc (.slice A1 l.length cap1) l ∧
        Keep [] w (((((W.setCell ⟨w.heap.size, 3, none⟩ (.slice A1 l.length cap1)).setCell ⟨w.heap.size + 1, 0, none⟩ (.int .i64 P)).setCell ⟨w.heap.size + 1, 1, none⟩ (.int .i64 now)).setCell ⟨w.heap.size + 1, 2, none⟩ (.slice AV way.length cV)).setCell ⟨w.heap.size + 1, 3, none⟩ (.slice A1 l.length cap1)) := by
      intro W A1 l cap1 hk hO
      have hb0 := B0.keep (hk2.trans hk) (by simp)
      have hb1 := B1.keep (hk2.trans hk) (by simp)
      have n0 := hO.ne_blk hb0 (by decide)
      have n1 := hO.ne_blk hb1 (by decide)
      have hO1 := hO.keep ((Keep.refl [w.heap.size] W).setCell (p := ⟨w.heap.size, 3, none⟩) (.inl (by simp)) (.slice A1 l.length cap1)) (by intro g hg; simp; exact fun e => n0 (e ▸ hg))
      obtain ⟨q1, q2, q3⟩ := put4 (hb1.far (p := ⟨w.heap.size, 3, none⟩) (by simp) (.slice A1 l.length cap1)) ((k3.trans hk).setCell (p := ⟨w.heap.size, 3, none⟩) (.inr (Nat.le_refl _)) (.slice A1 l.length cap1)) (by omega) (.int .i64 P) (.int .i64 now) (.slice AV way.length cV) (.slice A1 l.length cap1)
      exact ⟨q1, hO1.keep q3 (by intro g hg; simp; exact fun e => n1 (e ▸ hg)), q2⟩
    go_wp2_with fail
    go_loopg [10, 11] cuts.length (fun m v i wr => ∃ (k : Nat) (l : List (Int × Int)), i = .int .i64 k ∧ m + k = cuts.length ∧ Own wr w3.heap.size 104 2 penc v l ∧ l.length ≤ k ∧ Hid (l = (cuts.take k).filter fun p => !decide (p = (f, t))) ∧ Keep [] w3 wr)
    case atStart => exact ⟨0, [], rfl, rfl, Own.nil .., Nat.le_refl _, Lib.hid rfl, Keep.refl _ _⟩
    case round =>
      obtain ⟨k, l, rfl, hk, hO, hlk, HL, hK⟩ := hrel
      obtain ⟨A1, cap1, rfl, hb1, hb2, _⟩ := hO.sl penc_sz
      have c0 := F0 _ hK
      by_cases hlt : k < cuts.length
      · obtain ⟨⟨a, b⟩, hr⟩ : ∃ r, cuts[k]? = some r := ⟨_, List.getElem?_eq_getElem hlt⟩
        obtain ⟨ab, ao, cp, hv, hcl⟩ := pAt (hRc.keep0 k3) hr
        cases hv
        have c2 := hcl _ hK
        have heq := fun W => run_eqPair W a b f t
        have HF := Lib.hid (filter_snoc (fun p : Int × Int => !decide (p = (f, t))) cuts hr)
        have HK := Lib.hid (And.intro hk hlk)
        clear hcl hr
        by_cases hab : (a, b) = (f, t)
        · rw [decide_eq_true hab] at heq
          have HAB := Lib.hid hab
          clear hab hk hlk
          go_wp2_with fail
          go_roundg (cuts.length - (k + 1))
          case measure => have := HK.out; omega
          case rel => exact ⟨k + 1, l, by go_num, by have := HK.out; omega, hO, by have := HK.out; omega, Lib.hid (by rw [HF.out, ← HL.out]; simp [HAB.out]), hK⟩
        · rw [decide_eq_false hab] at heq
          have HAB := Lib.hid hab
          clear hab hk hlk
          go_wp2_with (first
            | (at_builtin; refine wpList_append1 (y := (a, b)) rfl _ _ 45 rfl app45 rfl (hO.alloc _) rfl (Blk.new_ rfl) rfl (penc_one _) ?q1 ?q2 ?q3 ?q4)
            | fail)
          case q1 => have := HK.out.2; omega
          case q2 => have := HK.out.2; unfold maxLen; omega
          case q3 => have := hK.size; simp; omega
          case q4 =>
            intro v' w' hO2 hk4
            have hK2 := (hK.alloc (.cells (penc (a, b)) 104)).andThen hk4 (fun g hg => .inr (hO.lt g hg).1)
            clear hk4
            go_wp2_with fail
            go_roundg (cuts.length - (k + 1))
            case measure => have := HK.out; omega
            case rel => exact ⟨k + 1, _, by go_num, by have := HK.out; omega, hO2, by have := HK.out; simp; omega, Lib.hid (by rw [HF.out, ← HL.out]; simp [HAB.out]), hK2⟩
      · have HL : Hid (l = cuts.filter fun p => !decide (p = (f, t))) := Lib.hid (by rw [HL.out, List.take_of_length_le (by omega)])
        have HK := Lib.hid (And.intro hk hlk)
        clear hk hlk
        have c3 := F1 _ hK
        have g0 := G0 _ hK
        have g1 := G1 _ hK
        cases is with
        | false =>
          go_wp2_with fail
          obtain ⟨hS, hO, hk9⟩ := fin _ _ _ _ hK hO
          have cS := hS.cell
          have e2 := HS.out
          simp only [Bool.false_eq_true, if_false, List.append_nil] at e2
          rw [← HL.out] at e2
          subst e2
          exact bodyPost_ret (v := .tuple #[.agg #[.int .i64 P, .int .i64 now, .slice AV way.length cV, .slice A1 l.length cap1], .int .i64 0]) (by simp [results, Try.results38, go_sem, cS]) rfl ⟨_, by rw [HE.out], ⟨hRw.keep0 hk9, (hO.sl penc_sz).rd, h.some, fun g hg => blk_keep (h.tv g hg) hk9 (by simp), hO.blk⟩, hk9⟩
        | true =>
          go_wp2_with (first
            | (at_builtin; refine wpList_append1 (y := (f, t)) rfl _ _ 45 rfl app45 rfl (hO.alloc _) rfl (Blk.new_ rfl) rfl (penc_one _) ?q1 ?q2 ?q3 ?q4)
            | fail)
          case q1 => have := HK.out.1; have := HK.out.2; omega
          case q2 => have := HK.out.1; have := HK.out.2; unfold maxLen; omega
          case q3 => have := hK.size; simp; omega
          case q4 =>
            intro v' w' hO2 hk4
            have hK2 := (hK.alloc (.cells (penc (f, t)) 104)).andThen hk4 (fun g hg => .inr (hO.lt g hg).1)
            clear hk4 c0 c3 g0 g1
            obtain ⟨l2, hl2⟩ : ∃ l2, l2 = l ++ [(f, t)] := ⟨_, rfl⟩
            rw [← hl2] at hO2
            have HL2 := Lib.hid hl2
            clear hl2
            obtain ⟨A2, cap2, rfl, hb3, hb4, _⟩ := hO2.sl penc_sz
            have c0 := F0 _ hK2
            have c3 := F1 _ hK2
            have g0 := G0 _ hK2
            have g1 := G1 _ hK2
            go_wp2_with fail
            obtain ⟨hS, hO, hk9⟩ := fin _ _ _ _ hK2 hO2
            have cS := hS.cell
            have e2 := HS.out
            simp only [if_true] at e2
            rw [← HL.out, ← HL2.out] at e2
            subst e2
            exact bodyPost_ret (v := .tuple #[.agg #[.int .i64 P, .int .i64 now, .slice AV way.length cV, .slice A2 l2.length cap2], .int .i64 0]) (by simp [results, Try.results38, go_sem, cS]) rfl ⟨_, by rw [HE.out], ⟨hRw.keep0 hk9, (hO.sl penc_sz).rd, h.some, fun g hg => blk_keep (h.tv g hg) hk9 (by simp), hO.blk⟩, hk9⟩
end Go.Proofs.Ytcjbmbljmmakfaa
