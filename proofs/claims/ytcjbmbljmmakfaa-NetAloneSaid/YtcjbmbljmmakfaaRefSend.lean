/- The document's Send walked. -/
import Derived.Test.YtcjbmbljmmakfaaRefStep
namespace Go.Proofs.Ytcjbmbljmmakfaa
open Go.RowKit Go.Bz

/-- An element of what is late. -/
theorem lAt {w : World} {V : Value} {l : List Int} (h : RdV w 1 ienc V l) {k : Nat} {x : Int} (hk : l[k]? = some x) : ∃ ab ao cp, V = .slice (some ⟨ab, ao, none⟩) l.length cp ∧ ∀ W, Keep [] w W → W.cell? ⟨ab, ao + k, none⟩ = some (.int .i64 x) := by
  obtain ⟨ab, ao, cp, hv, hlt, hc⟩ := h.at_ hk
  exact ⟨ab, ao, cp, hv, fun W hW => hW.cell (by simpa using hc 0 (by decide)) (by simp)⟩
theorem badAt_any (l : List Int) : badAt l = l.any fun k => decide (k < 0) || decide (1000 < k) := rfl
set_option maxRecDepth 100000 in
set_option maxHeartbeats 4000000 in
theorem rsend_any {w : World} {R : RN} {V C L : Value} (h : RnAt w R V C) (hl : R.way.length ≤ 4096) (hn : 0 ≤ R.now ∧ R.now ≤ 1000000) (f t : Int) (s : ByteArray) (hs : s.size ≤ 100) {l : List Int} (hL : RdV w 1 ienc L l) :
    Calls Try.prog 35 #[.agg (rcells R V C), .int .i64 f, .int .i64 t, .string s, L] w (fun e w' => ∃ V', e = .returned (.tuple #[.agg (rcells (R.send f t s l) V' C), .int .i64 (R.err f t s.size l)]) ∧ RnAt w' (R.send f t s l) V' C ∧ Keep [] w w') := by
  obtain ⟨⟨AV, cV, hV⟩, AC, cC, hC⟩ := h.sl
  have pf := fun W => rparty_any R AV AC R.way.length R.cuts.length cV cC f W
  have pt := fun W => rparty_any R AV AC R.way.length R.cuts.length cV cC t W
  have hRw := h.way
  have hRc := h.cuts
  have hRs := h.some
  have hHid : Hid (RnAt w R V C) := Lib.hid h
  have HE : Hid (R.err f t s.size l = if R.party f = false ∨ R.party t = false then 28 else if lateOf l = true then 2 else if 4096 < (R.way.length : Int) + l.length then 8 else 0) := Lib.hid (by unfold RN.err; rw [if_neg (show ¬ 65536 < s.size by omega)])
  have HS : Hid (R.send f t s l = if R.err f t s.size l = 0 then { R with way := R.way ++ l.map fun k => ⟨f, t, s, R.now + k⟩ } else R) := Lib.hid rfl
  obtain ⟨E, hEe⟩ : ∃ E, E = R.err f t s.size l := ⟨_, rfl⟩
  obtain ⟨R2, hR2⟩ : ∃ R2, R2 = R.send f t s l := ⟨_, rfl⟩
  rw [← hEe] at HE HS
  rw [← hR2] at HS
  rw [← hEe, ← hR2]
  clear hEe hR2
  obtain ⟨pF, hpf⟩ : ∃ b, b = R.party f := ⟨_, rfl⟩
  obtain ⟨pT, hpt⟩ : ∃ b, b = R.party t := ⟨_, rfl⟩
  rw [← hpf] at pf HE
  rw [← hpt] at pt HE
  clear hpf hpt h
  subst hV hC
  obtain ⟨P, now, way, cuts⟩ := R
  simp only at hl hRw hRc HS HE pf pt hn
  simp only [rcells] at pf pt ⊢
  obtain ⟨AL, cL, rfl, hc1, hc2, _⟩ := id hL
  unfold maxLen at hc2
  obtain ⟨w1, hw1⟩ : ∃ W, W = (w.alloc (.cells #[.int .i64 P, .int .i64 now, .slice AV way.length cV, .slice AC cuts.length cC] 47)).alloc (.cells #[.int .i64 0, .int .i64 0, .slice none 0 0, .slice none 0 0] 47) := ⟨_, rfl⟩
  have B0 : Blk w1 w.heap.size 47 #[.int .i64 P, .int .i64 now, .slice AV way.length cV, .slice AC cuts.length cC] := by rw [hw1]; exact (Blk.new _ _ _).alloc _
  have B1 : Blk w1 (w.heap.size + 1) 47 #[.int .i64 0, .int .i64 0, .slice none 0 0, .slice none 0 0] := by rw [hw1]; exact Blk.new_ (by simp)
  have hk1 : Keep [] w w1 := by rw [hw1]; exact ((Keep.refl _ _).alloc _).alloc _
  have F0 := fun W (hk : Keep [] w1 W) => (B0.keep hk (by simp)).cell
  have F1 := fun W (hk : Keep [] w1 W) => (B1.keep hk (by simp)).cell
  have G1 := fun W (hk : Keep [] w1 W) => (B1.keep hk (by simp)).frozen
  have c0 := F0 w1 (Keep.refl _ _)
  have hs' : decide ((65536 : Int) < (s.size : Int)) = false := by simp; omega
  go_enter Try.func35, Try.ntmps35
  go_upto_region 1 with fail
  rw [← hw1]
  clear hw1
  by_cases herr : pF = false ∨ pT = false
  · have HE1 : Hid (E = 28) := Lib.hid (by rw [HE.out, if_pos herr])
    have HS1 : Hid (R2 = ⟨P, now, way, cuts⟩) := Lib.hid (by rw [HS.out, if_neg (by rw [HE1.out]; decide)])
    clear HE HS
    cases pF with
    | false =>
      clear herr
      go_upto_region 2 with (first
        | (go_at_call 45; refine (pf _).mono ?_; rintro e w2 ⟨rfl, hk2⟩; clear c0)
        | fail)
      have c0 := F0 w2 hk2
      have c1 := F1 w2 hk2
      have g1 := G1 w2 hk2
      go_wp2_with fail
      obtain ⟨hS, hk3, _⟩ := put4 (B1.keep hk2 (by simp)) (hk1.trans hk2) (by omega) (.int .i64 P) (.int .i64 now) (.slice AV way.length cV) (.slice AC cuts.length cC)
      have cS := hS.cell
      have e2 := HS1.out
      subst e2
      exact bodyPost_ret (v := .tuple #[.agg #[.int .i64 P, .int .i64 now, .slice AV way.length cV, .slice AC cuts.length cC], .int .i64 28]) (by simp [results, Try.results35, go_sem, cS]) rfl ⟨_, by rw [HE1.out], hHid.out.keep0 hk3, hk3⟩
    | true =>
      have hT : pT = false := by simpa using herr
      subst hT
      clear herr
      have mk : True := trivial
      go_upto_region 2 with (first
        | (go_at_call 45; clear mk; refine (pf _).mono ?_; rintro e w2 ⟨rfl, hk2⟩; clear c0; have c0 := F0 w2 hk2)
        | (go_at_call 45; refine (pt _).mono ?_; rintro e w3 ⟨rfl, hk3⟩; clear c0)
        | fail)
      have hk2 := hk2.trans hk3
      have c0 := F0 w3 hk2
      have c1 := F1 w3 hk2
      have g1 := G1 w3 hk2
      go_wp2_with fail
      obtain ⟨hS, hk3, _⟩ := put4 (B1.keep hk2 (by simp)) (hk1.trans hk2) (by omega) (.int .i64 P) (.int .i64 now) (.slice AV way.length cV) (.slice AC cuts.length cC)
      have cS := hS.cell
      have e2 := HS1.out
      subst e2
      exact bodyPost_ret (v := .tuple #[.agg #[.int .i64 P, .int .i64 now, .slice AV way.length cV, .slice AC cuts.length cC], .int .i64 28]) (by simp [results, Try.results35, go_sem, cS]) rfl ⟨_, by rw [HE1.out], hHid.out.keep0 hk3, hk3⟩
  · have HE1 : Hid (E = if lateOf l = true then 2 else if 4096 < (way.length : Int) + l.length then 8 else 0) := Lib.hid (by rw [HE.out, if_neg herr])
    clear HE
    have hF : pF = true := by simpa using fun e => herr (.inl e)
    have hT : pT = true := by simpa using fun e => herr (.inr e)
    subst hF hT
    clear herr
    have mk : True := trivial
    go_upto_region 3 with (first
      | (go_at_call 45; clear mk; refine (pf _).mono ?_; rintro e w2 ⟨rfl, hk2⟩; clear c0; have c0 := F0 w2 hk2)
      | (go_at_call 45; refine (pt _).mono ?_; rintro e w3 ⟨rfl, hk3⟩; clear c0)
      | fail)
    have hk2 := hk2.trans hk3
    have c0 := F0 w3 hk2
    have c1 := F1 w3 hk2
    have g1 := G1 w3 hk2
    have k3 := hk1.trans hk2
    clear pf pt hk3
    -- what is refused
    have fin : ∀ n : Int, E = n → n ≠ 0 → ∃ W, Blk W (w.heap.size + 1) 47 #[.int .i64 P, .int .i64 now, .slice AV way.length cV, .slice AC cuts.length cC] ∧ W = ((((w3.setCell ⟨w.heap.size + 1, 0, none⟩ (.int .i64 P)).setCell ⟨w.heap.size + 1, 1, none⟩ (.int .i64 now)).setCell ⟨w.heap.size + 1, 2, none⟩ (.slice AV way.length cV)).setCell ⟨w.heap.size + 1, 3, none⟩ (.slice AC cuts.length cC)) ∧
        R2 = ⟨P, now, way, cuts⟩ ∧ RnAt W ⟨P, now, way, cuts⟩ (.slice AV way.length cV) (.slice AC cuts.length cC) ∧ Keep [] w W := by
      intro n he hn
      obtain ⟨hS, hk3, _⟩ := put4 (B1.keep hk2 (by simp)) k3 (by omega) (.int .i64 P) (.int .i64 now) (.slice AV way.length cV) (.slice AC cuts.length cC)
      exact ⟨_, hS, rfl, by rw [HS.out, if_neg (by rw [he]; exact hn)], hHid.out.keep0 hk3, hk3⟩
    by_cases h8 : (8 : Int) < (l.length : Int)
    · have hE2 : E = 2 := by rw [HE1.out, if_pos (by unfold lateOf; simp; left; omega)]
      obtain ⟨W, hS, hW, e2, hRn, hk9⟩ := fin 2 hE2 (by decide)
      have cS := hS.cell
      have HE2 := Lib.hid hE2
      clear hE2 fin
      go_wp2_with fail
      rw [← hW]
      clear hW
      subst e2
      exact bodyPost_ret (v := .tuple #[.agg #[.int .i64 P, .int .i64 now, .slice AV way.length cV, .slice AC cuts.length cC], .int .i64 2]) (by simp [results, Try.results35, go_sem, cS]) rfl ⟨_, by rw [HE2.out], hRn, hk9⟩
    · have h8' : decide ((8 : Int) < (l.length : Int)) = false := by simp; omega
      have hl8 : (l.length : Int) ≤ 8 := by omega
      have HLa := Lib.hid (lateOf_few (l := l) (by omega))
      clear h8
      go_wp2_with fail
      go_loopg [12] l.length (fun m i wr => ∃ k : Nat, i = .int .i64 k ∧ m + k = l.length ∧ Hid (badAt l = badAt (l.drop k)) ∧ wr = w3)
      case atStart => exact ⟨0, rfl, rfl, Lib.hid rfl, rfl⟩
      case round =>
        obtain ⟨k, rfl, hk, HB, rfl⟩ := hrel
        obtain ⟨w3, rfl⟩ : ∃ W, W = wr := ⟨_, rfl⟩
        by_cases hlt : k < l.length
        · obtain ⟨x, hx⟩ : ∃ x, l[k]? = some x := ⟨_, List.getElem?_eq_getElem hlt⟩
          obtain ⟨ab, ao, cp, hv, hcl⟩ := lAt hL hx
          cases hv
          have c2 := hcl _ k3
          have hdk : l.drop k = x :: l.drop (k + 1) := by rw [← List.getElem_cons_drop hlt, (List.getElem?_eq_some_iff.1 hx).2]
          have HD : Hid (badAt (l.drop k) = ((decide (x < 0) || decide (1000 < x)) || badAt (l.drop (k + 1)))) := Lib.hid (by rw [hdk]; rfl)
          clear hdk hx hcl
          by_cases hb : x < 0 ∨ 1000 < x
          · have hE2 : E = 2 := by
              rw [HE1.out, if_pos]
              rw [HLa.out, HB.out, HD.out]
              rcases hb with hb | hb
              · rw [decide_eq_true hb]; rfl
              · rw [decide_eq_true hb]; simp
            obtain ⟨W, hS, hW, e2, hRn, hk9⟩ := fin 2 hE2 (by decide)
            have cS := hS.cell
            have HE2 := Lib.hid hE2
            clear hE2 fin
            have last : bodyPost Try.prog Try.f35 (fun e w' => ∃ V', e = .returned (.tuple #[.agg #[.int .i64 R2.P, .int .i64 R2.now, V', .slice AC cuts.length cC], .int .i64 E]) ∧ RnAt w' R2 V' (.slice AC cuts.length cC) ∧ Keep [] w w') = bodyPost Try.prog Try.f35 (fun e w' => ∃ V', e = .returned (.tuple #[.agg #[.int .i64 R2.P, .int .i64 R2.now, V', .slice AC cuts.length cC], .int .i64 E]) ∧ RnAt w' R2 V' (.slice AC cuts.length cC) ∧ Keep [] w w') := rfl
            clear last
            by_cases h0 : x < 0
            · clear hb
              go_wp2_with fail
              rw [← hW]
              clear hW
              subst e2
              exact bodyPost_ret (v := .tuple #[.agg #[.int .i64 P, .int .i64 now, .slice AV way.length cV, .slice AC cuts.length cC], .int .i64 2]) (by simp [results, Try.results35, go_sem, cS]) rfl ⟨_, by rw [HE2.out], hRn, hk9⟩
            · have h1 : 1000 < x := by omega
              have h0' : decide (x < 0) = false := by simp; omega
              clear hb h0
              go_wp2_with fail
              rw [← hW]
              clear hW
              subst e2
              exact bodyPost_ret (v := .tuple #[.agg #[.int .i64 P, .int .i64 now, .slice AV way.length cV, .slice AC cuts.length cC], .int .i64 2]) (by simp [results, Try.results35, go_sem, cS]) rfl ⟨_, by rw [HE2.out], hRn, hk9⟩
          · have h0' : decide (x < 0) = false := by simp; omega
            have h1' : decide (1000 < x) = false := by simp; omega
            rw [h0', h1'] at HD
            clear hb
            go_wp2_with fail
            go_roundg (l.length - (k + 1))
            case measure => omega
            case rel => exact ⟨k + 1, by go_num, by omega, Lib.hid (by rw [HB.out, HD.out]; rfl), rfl⟩
        · have hdk : l.drop k = [] := List.drop_eq_nil_of_le (by omega)
          have hbad : badAt l = false := by rw [HB.out, hdk]; rfl
          have hbad0 := hbad
          rw [HLa.out, hbad] at HE1
          simp only [Bool.false_eq_true, if_false] at HE1
          clear hdk hbad HB
          by_cases hful : (4096 : Int) < (way.length : Int) + (l.length : Int)
          · have hE2 : E = 8 := by rw [HE1.out, if_pos hful]
            clear hbad0
            obtain ⟨W, hS, hW, e2, hRn, hk9⟩ := fin 8 hE2 (by decide)
            have cS := hS.cell
            have HE2 := Lib.hid hE2
            clear hE2 fin
            go_wp2_with fail
            rw [← hW]
            clear hW
            subst e2
            exact bodyPost_ret (v := .tuple #[.agg #[.int .i64 P, .int .i64 now, .slice AV way.length cV, .slice AC cuts.length cC], .int .i64 8]) (by simp [results, Try.results35, go_sem, cS]) rfl ⟨_, by rw [HE2.out], hRn, hk9⟩
          · have hful' : decide ((4096 : Int) < (way.length : Int) + (l.length : Int)) = false := by simp; omega
            have hE2 : E = 0 := by rw [HE1.out, if_neg hful]
            have HS2 : Hid (R2 = ⟨P, now, way ++ l.map fun k => ⟨f, t, s, now + k⟩, cuts⟩) := Lib.hid (by rw [HS.out, if_pos hE2])
            have HE2 := Lib.hid hE2
            clear hE2 fin HS HE1
            have HBad := Lib.hid hbad0
            clear hbad0
            have hO0 := Own.none_ (base := w3.heap.size) w3 (Nat.le_refl _) 102 4 cenc
            have c0a := F0 (w3.alloc (.cells #[] 102)) (hk2.alloc _)
            have hRa := (hRw.keep0 k3).keep0 ((Keep.refl _ w3).alloc (.cells #[] 102))
            go_upto_region 14 with fail
            go_wp2_with (first
              | (at_builtin; refine wpList_append_m2 rfl _ _ 44 rfl app44 rfl hO0 rfl hRa hRs cenc_sz (fun x _ => cenc_one x) ?q1 ?q2 ?q3 ?q4)
              | fail)
            case q1 => first | omega | (simp; omega)
            case q2 => unfold maxLen; first | omega | (simp; omega)
            case q4 =>
              intro v' w4 hO1 hk4
              have hK4 : Keep [] w3 w4 := ((Keep.refl _ _).alloc _).andThen hk4 (fun g hg => .inr (hO0.lt g hg).1)
              have hz4 := hK4.size
              clear hk4 c0 c0a c1 g1 hO0 hRa
              obtain ⟨A4, c4, rfl, _⟩ := hO1.sl cenc_sz
              have hb0 := B0.keep (hk2.trans hK4) (by simp)
              have hb1 := B1.keep (hk2.trans hK4) (by simp)
              have kw4 := k3.trans hK4
              have c0 := hb0.cell
              have f0 := hb0.frozen
              have n0 := hO1.ne_blk hb0 (by decide)
              have hB0 : Blk (w4.setCell ⟨w.heap.size, 2, none⟩ (.slice A4 way.length c4)) w.heap.size 47 #[.int .i64 P, .int .i64 now, .slice A4 way.length c4, .slice AC cuts.length cC] := by
                have h9 := hb0.set_ 2 (.slice A4 way.length c4)
                simpa only [List.setIfInBounds_toArray, List.set_cons_zero, List.set_cons_succ] using h9
              have hB1 := hb1.far (p := ⟨w.heap.size, 2, none⟩) (by simp) (.slice A4 way.length c4)
              have hO2 := hO1.keep ((Keep.refl [w.heap.size] w4).setCell (p := ⟨w.heap.size, 2, none⟩) (.inl (by simp)) (.slice A4 way.length c4)) (by intro g hg; simp; exact fun e => n0 (e ▸ hg))
              have hKw := kw4.setCell (p := ⟨w.heap.size, 2, none⟩) (.inr (Nat.le_refl _)) (.slice A4 way.length c4)
              have hw3 := k3.size
              clear F0 F1 G1 hK4 hb0 hb1 n0 hO1 kw4 B0 B1 hk1 hk2 k3
              go_wp2_with fail
              clear c0 f0
              go_loopg [13] l.length (fun m i wr => ∃ (k : Nat) (A : Option Addr) (cp : Nat) (l4 : List RC), i = .int .i64 k ∧ m + k = l.length ∧ Hid (l4 = way ++ (l.take k).map fun k => ⟨f, t, s, now + k⟩) ∧ (l4.length : Int) = way.length + k ∧
                Blk wr w.heap.size 47 #[.int .i64 P, .int .i64 now, .slice A l4.length cp, .slice AC cuts.length cC] ∧ Blk wr (w.heap.size + 1) 47 #[.int .i64 0, .int .i64 0, .slice none 0 0, .slice none 0 0] ∧ Own wr w3.heap.size 102 4 cenc (.slice A l4.length cp) l4 ∧ w3.heap.size ≤ wr.heap.size ∧ Keep [] w wr)
              case atStart => exact ⟨0, A4, c4, way, rfl, rfl, Lib.hid (by simp), by simp, hB0, hB1, hO2, by simpa using hz4, hKw⟩
              case round =>
                clear hB0 hB1 hO2 hKw
                obtain ⟨k, A, cp, l4, rfl, hk, H4, hl4, hB0, hB1, hO, hzr, hKw⟩ := hrel
                have c0 := hB0.cell
                by_cases hlt : k < l.length
                · obtain ⟨x, hx⟩ : ∃ x, l[k]? = some x := ⟨_, List.getElem?_eq_getElem hlt⟩
                  obtain ⟨ab, ao, cpl, hv, hcl⟩ := lAt (hL.keep0 hKw) hx
                  cases hv
                  have hxr : 0 ≤ x ∧ x ≤ 1000 := by
                    have hb := HBad.out
                    unfold badAt at hb
                    rw [List.any_eq_false] at hb
                    have := hb x (List.mem_of_getElem? hx)
                    simp at this
                    omega
                  have hab : ab < w.heap.size := hL.lt (by intro e; rw [e] at hlt; simp at hlt) ab (by simp [ownB, Value.ownBlock])
                  have nab : ab ∉ ownB (.slice A l4.length cp) := fun hm => by have := (hO.lt ab hm).1; omega
                  have n0 := hO.ne_blk hB0 (by decide)
                  have n1 := hO.ne_blk hB1 (by decide)
                  have F0 := fun W (hk : Keep (ownB (.slice A l4.length cp)) wr W) => (hB0.keep hk n0).cell
                  have Ff := fun W (hk : Keep (ownB (.slice A l4.length cp)) wr W) => (hB0.keep hk n0).frozen
                  have FL := fun W (hk : Keep (ownB (.slice A l4.length cp)) wr W) => hk.cell (hcl wr (Keep.refl _ _)) nab
                  have q1 : IntKind.i64.wrap (now + x) = now + x := IntWalk.i64_in _ (by omega)
                  have HF := Lib.hid (show (l.take (k + 1)) = l.take k ++ [x] by rw [List.take_add_one, hx]; rfl)
                  clear hx hcl hab nab
                  go_upto_region 18 with fail
                  clear c0
                  refine wp_region_noPanic ?_
                  refine Bz.wp_region_E (S := (fun w' => Keep (ownB (Value.slice A l4.length cp)) wr w')) (E := [16]) (by kernel_rfl) (by exact (Keep.refl _ _).drew) (fun hHeld => ?_)
                  obtain ⟨wd, hwd⟩ : ∃ W, W = wr.drew := ⟨_, rfl⟩
                  have hOd : Own wd w3.heap.size 102 4 cenc (.slice A l4.length cp) l4 := by rw [hwd]; exact hO.drew
                  have hz0 : w3.heap.size ≤ wd.heap.size := by rw [hwd]; simpa using hzr
                  rw [← hwd] at hHeld ⊢
                  clear hwd
                  refine Bz.wpAnyE_take (i := 0) (oi := { dst := some 71, op := Go.Op.fieldAddr 47 (Go.Operand.tmp 5) 2, type := 0, pos := "ref.go:50", after := #[], guard := none }) (v := ?_) rfl (by kernel_rfl) (by kernel_rfl) (by kernel_rfl) (by kernel_rfl) (fun _ _ _ h => h) (Or.inl ⟨by rfl, ?_⟩) hHeld ?_
                  rotate_left 1
                  · (intro w hSw; have q0 := F0 w hSw; have q2 := FL w hSw; go_simp; first | done | with_reducible rfl)
                  try simp only [Act.put, List.setIfInBounds_toArray, List.set_cons_zero, List.set_cons_succ]
                  refine Bz.wpAnyE_take (i := 1) (oi := { dst := some 72, op := Go.Op.load 44 (Go.Operand.tmp 71), type := 44, pos := "ref.go:50", after := #[{ on := 0, ground := Go.Ground.data }], guard := none }) (v := ?_) rfl (by kernel_rfl) (by kernel_rfl) (by kernel_rfl) (by kernel_rfl) (fun _ _ _ h => h) (Or.inl ⟨by rfl, ?_⟩) hHeld ?_
                  rotate_left 1
                  · (intro w hSw; have q0 := F0 w hSw; have q2 := FL w hSw; go_simp; first | done | with_reducible rfl)
                  try simp only [Act.put, List.setIfInBounds_toArray, List.set_cons_zero, List.set_cons_succ]
                  refine Bz.wpAnyE_take (i := 2) (oi := { dst := some 73, op := Go.Op.move (Go.Operand.tmp 1), type := 3, pos := "ref.go:50", after := #[], guard := none }) (v := ?_) rfl (by kernel_rfl) (by kernel_rfl) (by kernel_rfl) (by kernel_rfl) (fun _ _ _ h => h) (Or.inl ⟨by rfl, ?_⟩) hHeld ?_
                  rotate_left 1
                  · (intro w hSw; have q0 := F0 w hSw; have q2 := FL w hSw; go_simp; first | done | with_reducible rfl)
                  try simp only [Act.put, List.setIfInBounds_toArray, List.set_cons_zero, List.set_cons_succ]
                  refine Bz.wpAnyE_take (i := 3) (oi := { dst := some 74, op := Go.Op.move (Go.Operand.tmp 2), type := 3, pos := "ref.go:50", after := #[], guard := none }) (v := ?_) rfl (by kernel_rfl) (by kernel_rfl) (by kernel_rfl) (by kernel_rfl) (fun _ _ _ h => h) (Or.inl ⟨by rfl, ?_⟩) hHeld ?_
                  rotate_left 1
                  · (intro w hSw; have q0 := F0 w hSw; have q2 := FL w hSw; go_simp; first | done | with_reducible rfl)
                  try simp only [Act.put, List.setIfInBounds_toArray, List.set_cons_zero, List.set_cons_succ]
                  refine Bz.wpAnyE_take (i := 4) (oi := { dst := some 75, op := Go.Op.move (Go.Operand.tmp 3), type := 9, pos := "ref.go:50", after := #[], guard := none }) (v := ?_) rfl (by kernel_rfl) (by kernel_rfl) (by kernel_rfl) (by kernel_rfl) (fun _ _ _ h => h) (Or.inl ⟨by rfl, ?_⟩) hHeld ?_
                  rotate_left 1
                  · (intro w hSw; have q0 := F0 w hSw; have q2 := FL w hSw; go_simp; first | done | with_reducible rfl)
                  try simp only [Act.put, List.setIfInBounds_toArray, List.set_cons_zero, List.set_cons_succ]
                  refine Bz.wpAnyE_take (i := 5) (oi := { dst := some 76, op := Go.Op.fieldAddr 47 (Go.Operand.tmp 5) 1, type := 0, pos := "ref.go:50", after := #[], guard := none }) (v := ?_) rfl (by kernel_rfl) (by kernel_rfl) (by kernel_rfl) (by kernel_rfl) (fun _ _ _ h => h) (Or.inl ⟨by rfl, ?_⟩) hHeld ?_
                  rotate_left 1
                  · (intro w hSw; have q0 := F0 w hSw; have q2 := FL w hSw; go_simp; first | done | with_reducible rfl)
                  try simp only [Act.put, List.setIfInBounds_toArray, List.set_cons_zero, List.set_cons_succ]
                  refine Bz.wpAnyE_take (i := 6) (oi := { dst := some 77, op := Go.Op.load 3 (Go.Operand.tmp 76), type := 3, pos := "ref.go:50", after := #[{ on := 5, ground := Go.Ground.data }], guard := none }) (v := ?_) rfl (by kernel_rfl) (by kernel_rfl) (by kernel_rfl) (by kernel_rfl) (fun _ _ _ h => h) (Or.inl ⟨by rfl, ?_⟩) hHeld ?_
                  rotate_left 1
                  · (intro w hSw; have q0 := F0 w hSw; have q2 := FL w hSw; go_simp; first | done | with_reducible rfl)
                  try simp only [Act.put, List.setIfInBounds_toArray, List.set_cons_zero, List.set_cons_succ]
                  refine Bz.wpAnyE_take (i := 7) (oi := { dst := some 78, op := Go.Op.move (Go.Operand.tmp 4), type := 29, pos := "ref.go:50", after := #[], guard := none }) (v := ?_) rfl (by kernel_rfl) (by kernel_rfl) (by kernel_rfl) (by kernel_rfl) (fun _ _ _ h => h) (Or.inl ⟨by rfl, ?_⟩) hHeld ?_
                  rotate_left 1
                  · (intro w hSw; have q0 := F0 w hSw; have q2 := FL w hSw; go_simp; first | done | with_reducible rfl)
                  try simp only [Act.put, List.setIfInBounds_toArray, List.set_cons_zero, List.set_cons_succ]
                  refine Bz.wpAnyE_take (i := 8) (oi := { dst := some 79, op := Go.Op.move (Go.Operand.tmp 13), type := 3, pos := "ref.go:50", after := #[], guard := none }) (v := ?_) rfl (by kernel_rfl) (by kernel_rfl) (by kernel_rfl) (by kernel_rfl) (fun _ _ _ h => h) (Or.inl ⟨by rfl, ?_⟩) hHeld ?_
                  rotate_left 1
                  · (intro w hSw; have q0 := F0 w hSw; have q2 := FL w hSw; go_simp; first | done | with_reducible rfl)
                  try simp only [Act.put, List.setIfInBounds_toArray, List.set_cons_zero, List.set_cons_succ]
                  refine Bz.wpAnyE_take (i := 9) (oi := { dst := some 80, op := Go.Op.indexAddr 29 (Go.Operand.tmp 78) (Go.Operand.tmp 79), type := 0, pos := "ref.go:50", after := #[{ on := 7, ground := Go.Ground.data }, { on := 8, ground := Go.Ground.data }], guard := none }) (v := ?_) rfl (by kernel_rfl) (by kernel_rfl) (by kernel_rfl) (by kernel_rfl) (fun _ _ _ h => h) (Or.inl ⟨by rfl, ?_⟩) hHeld ?_
                  rotate_left 1
                  · (intro w hSw; have q0 := F0 w hSw; have q2 := FL w hSw; go_simp; first | done | with_reducible rfl)
                  try simp only [Act.put, List.setIfInBounds_toArray, List.set_cons_zero, List.set_cons_succ]
                  refine Bz.wpAnyE_take (i := 10) (oi := { dst := some 81, op := Go.Op.load 3 (Go.Operand.tmp 80), type := 3, pos := "ref.go:50", after := #[{ on := 9, ground := Go.Ground.data }], guard := none }) (v := ?_) rfl (by kernel_rfl) (by kernel_rfl) (by kernel_rfl) (by kernel_rfl) (fun _ _ _ h => h) (Or.inl ⟨by rfl, ?_⟩) hHeld ?_
                  rotate_left 1
                  · (intro w hSw; have q0 := F0 w hSw; have q2 := FL w hSw; go_simp; first | done | with_reducible rfl)
                  try simp only [Act.put, List.setIfInBounds_toArray, List.set_cons_zero, List.set_cons_succ]
                  refine Bz.wpAnyE_take (i := 11) (oi := { dst := some 82, op := Go.Op.binOp Go.BinOp.add 3 (Go.Operand.tmp 77) (Go.Operand.tmp 81) 3, type := 3, pos := "ref.go:50", after := #[{ on := 6, ground := Go.Ground.data }, { on := 10, ground := Go.Ground.data }], guard := none }) (v := ?_) rfl (by kernel_rfl) (by kernel_rfl) (by kernel_rfl) (by kernel_rfl) (fun _ _ _ h => h) (Or.inl ⟨by rfl, ?_⟩) hHeld ?_
                  rotate_left 1
                  · (intro w hSw; have q0 := F0 w hSw; have q2 := FL w hSw; go_simp; first | done | with_reducible rfl)
                  try simp only [Act.put, List.setIfInBounds_toArray, List.set_cons_zero, List.set_cons_succ]
                  refine Bz.wpAnyE_take (i := 12) (oi := { dst := some 83, op := Go.Op.build 102 #[(0, Go.Operand.tmp 73), (1, Go.Operand.tmp 74), (2, Go.Operand.tmp 75), (3, Go.Operand.tmp 82)], type := 102, pos := "ref.go:50", after := #[{ on := 2, ground := Go.Ground.data }, { on := 3, ground := Go.Ground.data }, { on := 4, ground := Go.Ground.data }, { on := 11, ground := Go.Ground.data }], guard := none }) (v := ?_) rfl (by kernel_rfl) (by kernel_rfl) (by kernel_rfl) (by kernel_rfl) (fun _ _ _ h => h) (Or.inl ⟨by rfl, ?_⟩) hHeld ?_
                  rotate_left 1
                  · (intro w hSw; have q0 := F0 w hSw; have q2 := FL w hSw; go_simp; first | done | with_reducible rfl)
                  try simp only [Act.put, List.setIfInBounds_toArray, List.set_cons_zero, List.set_cons_succ]
                  refine Bz.wpAnyE_ready (rs := [13]) (by kernel_rfl) (by simp) ?_
                  refine Bz.AllReadyE.cons (o := { dst := some 84, op := Go.Op.buildSlice 44 1 #[(0, Go.Operand.tmp 83)], type := 44, pos := "ref.go:50", after := #[{ on := 12, ground := Go.Ground.data }], guard := none }) rfl (fun K hK => ?_) Bz.AllReadyE.nil
                  
                  go_simp
                  have hOa := hOd.alloc (.cells (cenc ⟨f, t, s, now + x⟩) 102)
                  have hBn := Blk.new wd 102 (cenc ⟨f, t, s, now + x⟩)
                  refine hK.out _ _ (by exact hHeld.alloc _) ?_
                  clear hHeld hK K; intro hHeld
                  try simp only [Act.put, List.setIfInBounds_toArray, List.set_cons_zero, List.set_cons_succ]
                  refine Bz.wpAnyE_ready (rs := [14]) (by kernel_rfl) (by simp) ?_
                  refine Bz.AllReadyE.cons (o := { dst := some 85, op := Go.Op.call { callee := Go.Callee.builtin Go.Builtin.append, args := #[Go.Operand.tmp 72, Go.Operand.tmp 84], argTypes := #[44, 44] }, type := 44, pos := "ref.go:50", after := #[{ on := 1, ground := Go.Ground.data }, { on := 13, ground := Go.Ground.data }], guard := none }) rfl (fun K hK => ?_) Bz.AllReadyE.nil
                  
                  refine oper_append1 _ _ 44 rfl app44 rfl hOa rfl hBn rfl (cenc_one _) (by omega) (by unfold maxLen; omega) (by simp; omega) ?_
                  intro v7 w7 hO7 hk7
                  obtain ⟨l7, hl7⟩ : ∃ l7, l7 = l4 ++ [(⟨f, t, s, now + x⟩ : RC)] := ⟨_, rfl⟩
                  have hl7n : (l7.length : Int) = way.length + (k + 1 : Nat) := by rw [hl7]; simp; omega
                  rw [← hl7] at hO7
                  have HL7 := Lib.hid hl7
                  clear hl7
                  obtain ⟨A7, cap7, rfl, _, _, _⟩ := hO7.sl cenc_sz
                  refine hK.out _ _ (by exact hHeld.trans hk7) ?_
                  clear hHeld hK K; intro hHeld
                  try simp only [Act.put, List.setIfInBounds_toArray, List.set_cons_zero, List.set_cons_succ]
                  refine Bz.wpAnyE_take (i := 15) (oi := { dst := some 86, op := Go.Op.fieldAddr 47 (Go.Operand.tmp 5) 2, type := 0, pos := "ref.go:50", after := #[{ on := 0, ground := Go.Ground.phase }, { on := 1, ground := Go.Ground.phase }, { on := 2, ground := Go.Ground.phase }, { on := 3, ground := Go.Ground.phase }, { on := 4, ground := Go.Ground.phase }, { on := 5, ground := Go.Ground.phase }, { on := 6, ground := Go.Ground.phase }, { on := 7, ground := Go.Ground.phase }, { on := 8, ground := Go.Ground.phase }, { on := 9, ground := Go.Ground.phase }, { on := 10, ground := Go.Ground.phase }, { on := 11, ground := Go.Ground.phase }, { on := 12, ground := Go.Ground.phase }, { on := 13, ground := Go.Ground.phase }, { on := 14, ground := Go.Ground.phase }], guard := none }) (v := ?_) rfl (by kernel_rfl) (by kernel_rfl) (by kernel_rfl) (by kernel_rfl) (fun _ _ _ h => h) (Or.inl ⟨by rfl, ?_⟩) hHeld ?_
                  rotate_left 1
                  · (intro w hSw; have q0 := F0 w hSw; have q2 := FL w hSw; go_simp; first | done | with_reducible rfl)
                  try simp only [Act.put, List.setIfInBounds_toArray, List.set_cons_zero, List.set_cons_succ]
                  refine Bz.wpAnyE_ready (rs := [16]) (by kernel_rfl) (by simp) ?_
                  refine Bz.AllReadyE.last (o := { dst := none, op := Go.Op.store 44 (Go.Operand.tmp 86) (Go.Operand.tmp 85), type := 0, pos := "ref.go:50", after := #[{ on := 15, ground := Go.Ground.data }, { on := 14, ground := Go.Ground.data }, { on := 14, ground := Go.Ground.chain }, { on := 0, ground := Go.Ground.phase }, { on := 1, ground := Go.Ground.phase }, { on := 2, ground := Go.Ground.phase }, { on := 3, ground := Go.Ground.phase }, { on := 4, ground := Go.Ground.phase }, { on := 5, ground := Go.Ground.phase }, { on := 6, ground := Go.Ground.phase }, { on := 7, ground := Go.Ground.phase }, { on := 8, ground := Go.Ground.phase }, { on := 9, ground := Go.Ground.phase }, { on := 10, ground := Go.Ground.phase }, { on := 11, ground := Go.Ground.phase }, { on := 12, ground := Go.Ground.phase }, { on := 13, ground := Go.Ground.phase }, { on := 14, ground := Go.Ground.phase }], guard := none }) rfl (by rfl) (fun K hK => ?_) Bz.AllReadyE.nil
                  
                  have q0 := F0 _ hHeld
                  have q1 := Ff _ hHeld
                  go_simp
                  refine hK.out _ _ ?_
                  clear hK K
                  try simp only [Act.put, List.setIfInBounds_toArray, List.set_cons_zero, List.set_cons_succ]
                  refine Bz.wpAnyE_done (by kernel_rfl) ?_ _
                  refine NoPanic.normal ?_
                  have hb0 := hB0.keep hHeld n0
                  have hz7 := Nat.le_trans hzr hHeld.size
                  have m0 := hO7.ne_blk hb0 (by decide)
                  have hB0' : Blk (w7.setCell ⟨w.heap.size, 2, none⟩ (.slice A7 l7.length cap7)) w.heap.size 47 #[.int .i64 P, .int .i64 now, .slice A7 l7.length cap7, .slice AC cuts.length cC] := by
                    have h9 := hb0.set_ 2 (.slice A7 l7.length cap7)
                    simpa only [List.setIfInBounds_toArray, List.set_cons_zero, List.set_cons_succ] using h9
                  have hB1' := (hB1.keep hHeld n1).far (p := ⟨w.heap.size, 2, none⟩) (by simp) (.slice A7 l7.length cap7)
                  have hO8 := hO7.keep ((Keep.refl [w.heap.size] w7).setCell (p := ⟨w.heap.size, 2, none⟩) (.inl (by simp)) (.slice A7 l7.length cap7)) (by intro g hg; simp; exact fun e => m0 (e ▸ hg))
                  have hKw' := (hKw.andThen hHeld (fun g hg => .inr (by have := (hO.lt g hg).1; omega))).setCell (p := ⟨w.heap.size, 2, none⟩) (.inr (Nat.le_refl _)) (.slice A7 l7.length cap7)
                  clear F0 Ff FL hHeld hb0 m0 n0 n1 hB0 hB1 hO hO7 hKw hOd hOa hBn hk7 hz0
                  go_wp2_with fail
                  go_roundg (l.length - (k + 1))
                  case measure => omega
                  case rel => exact ⟨k + 1, A7, cap7, l7, by go_num, by omega, Lib.hid (by rw [HL7.out, H4.out, HF.out]; simp), hl7n, hB0', hB1', hO8, by simpa using hz7, hKw'⟩
                · have H4 : Hid (l4 = way ++ l.map fun k => ⟨f, t, s, now + k⟩) := Lib.hid (by rw [H4.out, List.take_of_length_le (by omega)])
                  have c1 := hB1.cell
                  have g1 := hB1.frozen
                  go_wp2_with fail
                  have n1 := hO.ne_blk hB1 (by decide)
                  obtain ⟨hSb, hk9, hk8⟩ := put4 hB1 hKw (by omega) (.int .i64 P) (.int .i64 now) (.slice A l4.length cp) (.slice AC cuts.length cC)
                  have hO9 := hO.keep hk8 (by intro g hg; simp; exact fun e => n1 (e ▸ hg))
                  have cS := hSb.cell
                  have e2 := HS2.out
                  rw [← H4.out] at e2
                  subst e2
                  exact bodyPost_ret (v := .tuple #[.agg #[.int .i64 P, .int .i64 now, .slice A l4.length cp, .slice AC cuts.length cC], .int .i64 0]) (by simp [results, Try.results35, go_sem, cS]) rfl
                    ⟨_, by rw [HE2.out], ⟨(hO9.sl cenc_sz).rd, hRc.keep0 hk9, hO9.some, hO9.blk, fun g hg => blk_keep (hHid.out.tc g hg) hk9 (by simp)⟩, hk9⟩
end Go.Proofs.Ytcjbmbljmmakfaa
