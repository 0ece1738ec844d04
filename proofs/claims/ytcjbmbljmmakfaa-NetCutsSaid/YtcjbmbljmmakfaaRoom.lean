/- NetRoom walked. -/
import Derived.Test.YtcjbmbljmmakfaaTold
import Derived.Test.YtcjbmbljmmakfaaLts
namespace Go.Proofs.Ytcjbmbljmmakfaa
open Go.RowKit Go.Bz

theorem rd_none (w : World) : RdV w 1 benc (.slice none 0 0) [] := ⟨none, 0, rfl, Nat.le_refl _, by decide, fun h => absurd rfl h⟩
/-- A Send of an empty letter. -/
theorem send_empty {w0 w : World} {t mb : Nat} {S : NS} {R B : List Nat} (ht : w0.heap.size ≤ t) (hmb : w0.heap.size ≤ mb) (hR : ∀ g ∈ R, w0.heap.size ≤ g) (hKw : Keep [] w0 w) (h : NetAt w t mb S R B) (hWF : S.WF) (hnow : S.now ≤ 1000000) (hnext : S.next ≤ 1000000) {L : Value} {l : List Int} (hL : RdV w 1 ienc L l) (hLn : l ≠ [] → ∀ g ∈ ownB L, g ∉ t :: mb :: R) :
    Calls Try.prog 13 #[.pointer (some ⟨t, 0, none⟩), .agg #[.int .i64 0, .int .i64 0, .slice none 0 0], .agg #[L]] w (fun e w' => e = .returned (.int .i64 (S.err 0 0 0 l)) ∧ ∃ R' B', NetAt w' t mb (S.send 0 0 [] l) R' B' ∧ (∀ g ∈ R', w0.heap.size ≤ g) ∧ Keep (t :: mb :: R) w w' ∧ Keep [] w0 w') := by
  refine (send_any h hWF hnow hnext (f := 0) (dst := 0) (rd_none w) (fun hne => absurd rfl hne) hL hLn).mono ?_
  rintro e w' ⟨rfl, R', B', h1, h2, _, h4⟩
  refine ⟨rfl, R', B', h1, fun g hg => ?_, h4, hKw.own h4 (fun g hg => ?_)⟩
  · rcases h2 g hg with h5 | h5
    · exact hR g h5
    · exact Nat.le_trans hKw.size h5
  · simp only [List.mem_cons] at hg
    rcases hg with rfl | rfl | hg
    · exact ht
    · exact hmb
    · exact hR g hg
set_option maxRecDepth 100000 in
set_option maxHeartbeats 8000000 in
theorem room_any (a : Int) (A : Option Addr) (l : List Int) (cap : Nat) (w : World) (ha : 0 ≤ a ∧ a ≤ 255) (hlen : l.length ≤ 9223372036854775807) (hL : RdV w 1 ienc (.slice A l.length cap) l) :
    Calls Try.prog 5 #[.int .u8 a, .slice A l.length cap] w (fun e w' => e = .returned (.bool true) ∧ Keep [] w w') := by
  by_cases h8 : 8 < l.length
  · have h8' : (8 : Int) < (l.length : Int) := by omega
    clear h8
    go_enter Try.func5, Try.ntmps5
    go_wp2_with (first
      | (go_at_call 11; refine (new_any 1 _ (by decide)).mono ?_; rintro e w1 ⟨t, mb, rfl, ht, hmb, hN, hk1⟩)
      | (go_at_call 12; refine (told_any _).mono ?_; rintro e w2 ⟨rfl, hk2⟩)
      | fail)
    go_ret
    exact ⟨rfl, hk1.trans hk2⟩
  · have h8' : decide ((8 : Int) < (l.length : Int)) = false := by simp; omega
    go_enter Try.func5, Try.ntmps5
    go_upto_region 7 with (first
      | (go_at_call 11; refine (new_any 1 _ (by decide)).mono ?_; rintro e w1 ⟨t, mb, rfl, ht, hmb, hN, hk1⟩)
      | fail)
    obtain ⟨late, hlate⟩ : ∃ late, late = a % 4 := ⟨_, rfl⟩
    have hl0 : 0 ≤ late := by omega
    have hl3 : late ≤ 3 := by omega
    rw [← hlate]
    clear hlate
    obtain ⟨g8, hg8⟩ : ∃ g8, g8 = w1.heap.size := ⟨_, rfl⟩
    obtain ⟨w2, hw2⟩ : ∃ W, W = w1.alloc (.cells #[.int .i64 late, .int .i64 late, .int .i64 late, .int .i64 late, .int .i64 late, .int .i64 late, .int .i64 late, .int .i64 late] 3) := ⟨_, rfl⟩
    have B8 : Blk w2 g8 3 ((eight late).map (Value.int .i64)).toArray := by rw [hw2, hg8]; exact Blk.new _ _ _
    have hK2 : Keep [] w1 w2 := by rw [hw2]; exact (Keep.refl _ _).alloc _
    have hN := hN.keep0 hK2
    have hKw := hk1.trans hK2
    rw [← hw2, ← hg8]
    clear hw2 hK2 hk1 hg8
    have hL0 : ∀ W, Keep [] w W → RdV W 1 ienc (.slice A l.length cap) l := fun W hk => hL.keep0 hk
    have hLlt := fun hne g hg => hL.lt hne g hg
    go_loopg [9] 512 (fun m i wr => ∃ (k : Nat) (S : NS) (R B : List Nat), i = .int .i64 k ∧ Hid (m + k = 512) ∧ NetAt wr t mb S R B ∧ Hid (RoomS S (8 * k) late) ∧ Blk wr g8 3 ((eight late).map (Value.int .i64)).toArray ∧ (∀ g ∈ R, w.heap.size ≤ g) ∧ Keep [] w wr)
    case atStart => exact ⟨0, _, [], [], rfl, Lib.hid rfl, hN, Lib.hid (RoomS.new late), B8, by simp, hKw⟩
    case round =>
      clear hN B8 hKw
      obtain ⟨k, S, R, B, rfl, HK, hN, HR, B8, hR, hKw⟩ := hrel
      have hnext : S.next ≤ 1000000 := by rw [HR.out.next]; have := HK.out; omega
      have hnow : S.now ≤ 1000000 := by rw [HR.out.now]; decide
      by_cases hk : (k : Int) < 512
      · have hsc := send_empty ht hmb hR hKw hN HR.out.wf hnow hnext (ints_lit B8 (show (8 : Nat) ≤ maxLen from by decide)).rd (fun _ g hg => by
          simp [ownB, Value.ownBlock] at hg; subst hg; exact hN.notIn B8 (by decide) (by decide))
        rw [HR.out.err hl0 hl3 (by omega)] at hsc
        have HS := Lib.hid (HR.out.send hl0 hl3 (by omega))
        clear hnext hnow
        go_wp2_with (first
          | (go_at_call 13; refine hsc.mono ?_; rintro e w3 ⟨rfl, R', B', hN3, hR3, hk3, hKw3⟩)
          | fail)
        have B83 := B8.keep hk3 (hN.notIn B8 (by decide) (by decide))
        go_roundg (512 - (k + 1))
        case measure => have := HK.out; omega
        case rel => exact ⟨k + 1, _, R', B', by go_num, Lib.hid (by have := HK.out; omega), hN3, Lib.hid (by have := HS.out; rwa [show 8 * k + 8 = 8 * (k + 1) by omega] at this), B83, hR3, hKw3⟩
      · have hkk : k = 512 := by have := HK.out; omega
        subst hkk
        have HR : Hid (RoomS S 4096 late) := HR
        clear HK hk hnext hnow
        have hl63 : (l.length : Int) ≤ 8 := by omega
        obtain ⟨w3, hw3⟩ : ∃ W, W = wr := ⟨_, rfl⟩
        subst hw3
        go_wp2_with fail
        go_loopg [10, 11] l.length (fun m f i wx => ∃ (k : Nat), i = .int .i64 k ∧ m + k = l.length ∧ f = .bool (!badAt (l.take k)) ∧ Keep [] w3 wx)
        case atStart => exact ⟨0, rfl, rfl, rfl, Keep.refl _ _⟩
        case round =>
          obtain ⟨k, rfl, hk, rfl, hKx⟩ := hrel
          by_cases hlt : k < l.length
          · obtain ⟨x, hx⟩ : ∃ x, l[k]? = some x := ⟨_, List.getElem?_eq_getElem hlt⟩
            obtain ⟨g0, o0, cp0, hv0, _, hc0⟩ := (hL0 _ (hKw.trans hKx)).at_ hx
            cases hv0
            have hcell : wr.cell? ⟨g0, o0 + k, none⟩ = some (.int .i64 x) := by simpa using hc0 0 (by decide)
            have hbd : Hid (badAt (l.take (k + 1)) = (badAt (l.take k) || (decide (x < 0) || decide (1000 < x)))) := Lib.hid (by
              rw [List.take_add_one, hx]; unfold badAt; simp)
            obtain ⟨fb, HF⟩ : ∃ fb, Hid (fb = badAt (l.take k)) := ⟨_, Lib.hid rfl⟩
            rw [← HF.out] at hbd ⊢
            clear hx hc0
            cases fb with
            | true =>
              go_wp2_with fail
              go_roundg (l.length - (k + 1))
              case measure => omega
              case rel => exact ⟨k + 1, by go_num, by omega, by rw [hbd.out]; rfl, hKx⟩
            | false =>
              by_cases hx0 : x < 0
              · have hx0' : decide (0 ≤ x) = false := by simp; omega
                have HX := Lib.hid hx0
                clear hx0
                go_wp2_with fail
                go_roundg (l.length - (k + 1))
                case measure => omega
                case rel => exact ⟨k + 1, by go_num, by omega, by rw [hbd.out, decide_eq_true HX.out]; rfl, hKx⟩
              · have hx0' : 0 ≤ x := by omega
                by_cases hx1 : 1000 < x
                · have hx1' : decide (x ≤ 1000) = false := by simp; omega
                  have HX := Lib.hid (And.intro hx0 hx1)
                  clear hx0 hx1
                  go_wp2_with fail
                  go_roundg (l.length - (k + 1))
                  case measure => omega
                  case rel => exact ⟨k + 1, by go_num, by omega, by rw [hbd.out, decide_eq_false (show ¬ x < 0 by have := HX.out; omega), decide_eq_true (show 1000 < x by have := HX.out; omega)]; rfl, hKx⟩
                · have hx1' : x ≤ 1000 := by omega
                  have HX := Lib.hid (And.intro hx0 hx1)
                  clear hx0 hx1
                  go_wp2_with fail
                  go_roundg (l.length - (k + 1))
                  case measure => omega
                  case rel => exact ⟨k + 1, by go_num, by omega, by rw [hbd.out, decide_eq_false (show ¬ x < 0 by have := HX.out; omega), decide_eq_false (show ¬ 1000 < x by have := HX.out; omega)]; rfl, hKx⟩
          · have hkl : k = l.length := by omega
            subst hkl
            rw [List.take_length]
            clear hlt hk
            have hN := hN.keep0 hKx
            have B8 := B8.keep hKx (by simp)
            have hKw := hKw.trans hKx
            obtain ⟨hE, hR2⟩ := HR.out.more (l := l) (by omega)
            obtain ⟨er, HE⟩ : ∃ er, Hid (er = S.err 0 0 0 l) := ⟨_, Lib.hid rfl⟩
            rw [← HE.out] at hE
            obtain ⟨bb, HB⟩ : ∃ bb, Hid (bb = badAt l) := ⟨_, Lib.hid rfl⟩
            rw [← HB.out] at hE ⊢
            clear h8 h8'
            go_upto_if 79 with fail
            go_cut [12] from 57 to 123 (fun v12 wx => v12 = .int .i64 er ∧ wx = wr)
            case first =>
              cases bb with
              | true =>
                rw [if_pos rfl] at hE
                subst hE
                go_wp2_with fail
                go_meet
                exact ⟨rfl, rfl⟩
              | false =>
                rw [if_neg (by simp)] at hE
                by_cases hl0' : l = []
                · rw [if_pos hl0'] at hE
                  subst hE
                  have hz : decide ((0 : Int) < (l.length : Int)) = false := by rw [hl0']; rfl
                  have hz2 : decide (0 < l.length) = false := by rw [hl0']; rfl
                  go_wp2_with fail
                  go_meet
                  exact ⟨rfl, rfl⟩
                · rw [if_neg hl0'] at hE
                  subst hE
                  have hz : (0 : Int) < (l.length : Int) := by have := List.length_pos_iff.2 hl0'; omega
                  clear hl0'
                  go_wp2_with fail
                  go_meet
                  exact ⟨rfl, rfl⟩
            case rest =>
              obtain ⟨rfl, rfl⟩ := hcut
              have hnext : S.next ≤ 1000000 := by rw [HR.out.next]; decide
              have hnow : S.now ≤ 1000000 := by rw [HR.out.now]; decide
              have hsc := send_empty ht hmb hR hKw hN HR.out.wf hnow hnext (hL0 _ hKw) (fun hne g hg => by
                have := hLlt hne g hg
                simp only [List.mem_cons, not_or]
                exact ⟨by omega, by omega, fun hm => by have := hR g hm; omega⟩)
              rw [← HE.out] at hsc
              obtain ⟨S2, HS2⟩ : ∃ S2, Hid (S2 = S.send 0 0 [] l) := ⟨_, Lib.hid rfl⟩
              rw [← HS2.out] at hsc hR2
              have hw2 : S2.way = 4096 := hR2.way
              have wc := fun w R B h => way_any (w := w) (t := t) (mb := mb) (S := S2) (R := R) (B := B) h
              rw [hw2] at wc
              have HT2 := Lib.hid hR2.t
              clear hw2 hR2 hnext hnow hE
              go_upto_region 24 with (first
                | (go_at_call 13; refine hsc.mono ?_; rintro e w5 ⟨rfl, R', B', hN5, hR5, hk5, hKw5⟩)
                | (go_at_call 15; refine (wc _ _ _ hN5).mono ?_; rintro e w6 ⟨rfl, hk6⟩)
                | fail)
              have B8 := (B8.keep hk5 (hN.notIn B8 (by decide) (by decide))).keep hk6 (by simp)
              have hN6 := hN5.keep0 hk6
              have hKw6 := hKw5.trans hk6
              clear hN hKw hN5 hKw5 hk5 hk6 wc hsc hR hKx
              obtain ⟨lt, rfl⟩ : ∃ n : Nat, late = n := ⟨late.toNat, by omega⟩
              go_loopg [13] lt (fun m i wr => ∃ (j : Nat) (S : NS), i = .int .i64 j ∧ m + j = lt ∧ NetAt wr t mb S R' B' ∧ Hid (RoomT S j lt) ∧ Blk wr g8 3 ((eight lt).map (Value.int .i64)).toArray ∧ Keep [] w wr)
              case atStart => exact ⟨0, S2, rfl, rfl, hN6, HT2, B8, hKw6⟩
              case round =>
                clear hN6 B8 hKw6
                obtain ⟨j, S3, rfl, hj, hN, HT, B8, hKw⟩ := hrel
                have hst := step_any hN HT.out.wf (by rw [HT.out.now]; omega) HT.out.small
                have own : ∀ g ∈ [t, mb], w.heap.size ≤ g := by intro g hg; simp at hg; rcases hg with rfl | rfl <;> assumption
                have n8 : g8 ∉ [t, mb] := fun hm => hN.notIn B8 (by decide) (by decide) (by simp at hm ⊢; rcases hm with h | h <;> simp [h])
                by_cases hjl : (j : Int) < lt
                · obtain ⟨hc, hT3⟩ := HT.out.step hjl
                  rw [hc] at hst
                  go_wp2_with (first
                    | (go_at_call 14; refine hst.mono ?_; rintro e w7 ⟨v7, o7, rfl, hC7, hO7, hN7, hk7⟩; obtain rfl := lt_none hO7; obtain ⟨A7, c7, hv7, _⟩ := hC7.own.sl lenc_sz; (have hv7 : v7 = .slice A7 0 c7 := hv7); subst hv7)
                    | fail)
                  go_roundg (lt - (j + 1))
                  case measure => omega
                  case rel => exact ⟨j + 1, _, by go_num, by omega, hN7, Lib.hid hT3, B8.keep hk7 n8, hKw.own hk7 own⟩
                · have hjj : j = lt := by omega
                  subst hjj
                  obtain ⟨hc, hwf, hnw, hnx, her, hway⟩ := HT.out.last (by omega)
                  rw [hc] at hst
                  obtain ⟨S4, HS4⟩ : ∃ S4, Hid (S4 = S3.step) := ⟨_, Lib.hid rfl⟩
                  rw [← HS4.out] at hst hwf hnw hnx her hway
                  have HNX := Lib.hid (And.intro hnw hnx)
                  have wc := fun w R B h => way_any (w := w) (t := t) (mb := mb) (S := S4.send 0 0 [] (eight j)) (R := R) (B := B) h
                  rw [hway] at wc
                  clear hnw hnx hway hjl
                  go_wp2_with (first
                    | (go_at_call 14; refine hst.mono ?_; rintro e w7 ⟨v7, o7, rfl, hC7, hO7, hN7, hk7⟩; (have hl7 := congrArg List.length hO7); rw [List.length_map, List.length_replicate] at hl7; obtain ⟨A7, c7, hv7, _⟩ := hC7.own.sl lenc_sz; rw [hl7] at hv7; subst hv7; (have B87 := B8.keep hk7 n8); (have hKw7 := hKw.own hk7 own); clear hl7 hO7)
                    | (go_at_call 13; (have hse := send_empty ht hmb hR5 hKw7 hN7 hwf (by have := HNX.out; omega) (by have := HNX.out; omega) (ints_lit B87 (show (8 : Nat) ≤ maxLen from by decide)).rd (fun _ g hg => by simp [ownB, Value.ownBlock] at hg; subst hg; exact hN7.notIn B87 (by decide) (by decide))); rw [her] at hse; refine hse.mono ?_; rintro e w8 ⟨rfl, R8, B8', hN8, hR8, hk8, hKw8⟩)
                    | (go_at_call 15; refine (wc _ _ _ hN8).mono ?_; rintro e w9 ⟨rfl, hk9⟩)
                    | (go_at_call 12; refine (told_any _).mono ?_; rintro e w10 ⟨rfl, hk10⟩)
                    | fail)
                  go_ret
                  exact ⟨rfl, (hKw8.trans hk9).trans hk10⟩
end Go.Proofs.Ytcjbmbljmmakfaa
