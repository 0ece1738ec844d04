/- NetApart walked. -/
import Derived.Test.YtcjbmbljmmakfaaApartLaw
namespace Go.Proofs.Ytcjbmbljmmakfaa
open Go.RowKit Go.Bz

theorem Own.blk_ {w : World} {base : Nat} {v : Value} {b : List Int} (h : Own w base 5 1 benc v b) (hne : b ≠ []) : ∃ g c cs, v = .slice (some ⟨g, 0, none⟩) b.length c ∧ base ≤ g ∧ Blk w g 5 cs ∧ b.length ≤ cs.size := by
  rcases h.2 with ⟨_, h0⟩ | ⟨g, cap, cur, rfl, hb, hgg, hn, hc, hs, _⟩
  · exact absurd (List.eq_nil_of_length_eq_zero h0) hne
  · exact ⟨g, cap, cur, rfl, hb, hgg, by omega⟩
theorem Own.blk2 {w : World} {base : Nat} {v : Value} {b : List Int} (h : Own w base 5 1 benc v b) : ∀ g ∈ ownB v, ∃ cs, Blk w g 5 cs ∧ b.length ≤ cs.size := by
  intro q hq
  rcases h.2 with ⟨rfl, h0⟩ | ⟨g, cap, cur, rfl, hb, hgg, hn, hc, hs, _⟩
  · simp [ownB, Value.ownBlock] at hq
  · simp [ownB, Value.ownBlock] at hq
    subst hq
    exact ⟨cur, hgg, by omega⟩
set_option maxRecDepth 100000 in
set_option maxHeartbeats 8000000 in
theorem apart_any (A : Option Addr) (b : List Int) (cap : Nat) (y : Int) (w : World) (hlen : b.length ≤ 9223372036854775807) (hV : RdV w 1 benc (.slice A b.length cap) b) (hnil : A = none → cap = 0) :
    Calls Try.prog 4 #[.slice A b.length cap, .int .u8 y] w (fun e w' => e = .returned (.bool true) ∧ Keep [] w w') := by
  by_cases h100 : 100 < b.length
  · have h' : (100 : Int) < (b.length : Int) := by omega
    clear h100
    go_enter Try.func4, Try.ntmps4
    go_wp2_with (first
      | (go_at_call 11; refine (new_any 1 _ (by decide)).mono ?_; rintro e w1 ⟨t, mb, rfl, ht, hmb, hN, hk1⟩)
      | (go_at_call 12; refine (told_any _).mono ?_; rintro e w2 ⟨rfl, hk2⟩)
      | fail)
    go_ret
    exact ⟨rfl, hk1.trans hk2⟩
  · have h' : decide ((100 : Int) < (b.length : Int)) = false := by simp; omega
    have hb100 : b.length ≤ 100 := by omega
    have hb63 : (b.length : Int) ≤ 100 := by omega
    clear h100
    go_enter Try.func4, Try.ntmps4
    go_upto_region 4 with (first
      | (go_at_call 11; refine (new_any 1 _ (by decide)).mono ?_; rintro e w1 ⟨t, mb, rfl, ht, hmb, hN, hk1⟩)
      | fail)
    have hsz1 := hk1.size
    go_cut [7, 8] from 34 to 37 (fun v7 v8 wx => ∃ g1 : Nat, v8 = .slice (some ⟨g1, 0, none⟩) 2 2 ∧ Own wx w.heap.size 5 1 benc v7 b ∧ Blk wx g1 3 (([0, 1] : List Int).map (Value.int .i64)).toArray ∧ w.heap.size ≤ g1 ∧ NetAt wx t mb (NS.new 1) [] [] ∧ Keep [] w wx)
    case first =>
      have hO0 := Own.none_ (base := w.heap.size) w1 hsz1 5 1 benc
      cases A with
      | none =>
        have hbn : b = [] := by
          obtain ⟨A', c', hv, _, _, h3⟩ := hV
          cases hv
          cases b with
          | nil => rfl
          | cons x r => obtain ⟨g, o, h, _⟩ := h3 (by simp); cases h
        subst hbn
        obtain rfl := hnil rfl
        have hap := fun ty => run_append_owned_none (P := Try.prog) (w1.alloc (.cells #[] 5)) w.heap.size 33 ty 5 _ 1 Try.underlying33 (Option.some_get (by kernel_rfl)).symm _ 0 [] hO0
        go_wp2_with fail
        go_meet
        refine ⟨_, rfl, hO0.alloc _, Blk.new_ (by simp), ?_, (hN.keep0 ((Keep.refl _ _).alloc _)).keep0 ((Keep.refl _ _).alloc _), (hk1.alloc _).alloc _⟩
        omega
      | some a =>
        have hV1 := hV.keep0 (hk1.alloc (.cells #[] 5))
        go_wp2_with (first
          | (at_builtin; refine wpList_append_rd rfl _ _ 33 rfl app33 rfl hO0 rfl hV1 benc_sz benc_one ?q1 ?q2 ?q3 ?q4)
          | fail)
        case q1 => simp; omega
        case q2 => unfold maxLen; simp; omega
        case q3 => simp; omega
        case q4 =>
          intro v' w' hO hk2
          have hO : Own w' w.heap.size 5 1 benc v' b := by simpa using hO
          have hkk : Keep [] w1 w' := ((Keep.refl _ w1).alloc (.cells #[] 5)).andThen hk2 (fun g hg => .inr (by simp [ownB, Value.ownBlock] at hg; omega))
          have hN2 := hN.keep0 hkk
          have hK2 := hk1.trans hkk
          clear hk2
          go_wp2_with fail
          go_meet
          exact ⟨_, rfl, hO.alloc _, Blk.new _ _ _, hK2.size, hN2.keep0 ((Keep.refl _ _).alloc _), hK2.alloc _⟩
    case rest =>
      clear hN
      obtain ⟨g1, rfl, hO, B1, hg1, hN, hKw⟩ := hcut
      have hlt := hN.lt
      have hsc := send_any hN (NS.new_wf (by decide)) (by decide) (by decide) (f := 0) (dst := 0) (hO.sl benc_sz).rd (fun _ g hg => by
        obtain ⟨cs, hb⟩ := hO.blk g hg
        exact hN.notIn hb (by decide) (by decide)) (ints_lit B1 (show (2 : Nat) ≤ maxLen from by decide)).rd (fun _ g hg => by
        simp [ownB, Value.ownBlock] at hg; subst hg; exact hN.notIn B1 (by decide) (by decide))
      rw [ap_err hb100] at hsc
      obtain ⟨hA1, hA2⟩ := ap_one hb100
      have hob : ∀ g ∈ ownB u7, w.heap.size ≤ g ∧ g < wc.heap.size ∧ g ∉ [t, mb] := fun g hg => ⟨(hO.lt g hg).1, (hO.lt g hg).2, by
        obtain ⟨cs, hb⟩ := hO.blk g hg
        exact hN.notIn hb (by decide) (by decide)⟩
      obtain ⟨Ao, co, hu7, ho1, ho2, _⟩ := hO.sl benc_sz
      have hform : b ≠ [] → ∃ go, Ao = some ⟨go, 0, none⟩ := fun hne => by
        obtain ⟨g, c, cs, hv, _⟩ := Own.blk_ hO hne
        rw [hu7] at hv
        cases hv
        exact ⟨g, rfl⟩
      have hbl := Own.blk2 hO
      subst hu7
      go_upto_region 8 with (first
        | (go_at_call 13; refine hsc.mono ?_; rintro e w5 ⟨rfl, R, B, hN5, hR5, hB5, hk5⟩)
        | fail)
      have hN5 : NetAt w5 t mb (ap1 b) R B := hN5
      have hKw5 := hKw.own hk5 (by simp; omega)
      have hnR : ∀ g ∈ ownB (.slice Ao b.length co), g ∉ R ∧ g ∉ B := fun g hg => by
        have h1 := (hob g hg).2.1
        refine ⟨fun hm => ?_, fun hm => ?_⟩
        · rcases hR5 g hm with h2 | h2
          · simp at h2
          · omega
        · rcases hB5 g hm with h2 | h2
          · simp at h2
          · omega
      have B15 := B1.keep hk5 (hN.notIn B1 (by decide) (by decide))
      have hbl5 : ∀ g ∈ ownB (.slice Ao b.length co), ∃ cs, Blk w5 g 5 cs ∧ b.length ≤ cs.size := fun g hg => by
        obtain ⟨cs, h1, h2⟩ := hbl g hg
        exact ⟨cs, h1.keep hk5 (hN.notIn h1 (by decide) (by decide)), h2⟩
      have hVW : ∀ W, Keep [] w W → RdV W 1 benc (.slice A b.length cap) b := fun W hk => hV.keep0 hk
      clear hbl hN hO hKw hk5 hsc hR5 hB5 B1 hk1
      go_loopg [9] b.length (fun m i wr => ∃ k : Nat, i = .int .i64 k ∧ m + k = b.length ∧ NetAt wr t mb (ap1 b) R B ∧ Blk wr g1 3 (([0, 1] : List Int).map (Value.int .i64)).toArray ∧ (∀ g ∈ ownB (.slice Ao b.length co), ∃ cs, Blk wr g 5 cs ∧ b.length ≤ cs.size) ∧ Keep [] w wr)
      case atStart => exact ⟨0, rfl, rfl, hN5, B15, hbl5, hKw5⟩
      case round =>
        clear hN5 B15 hbl5 hKw5
        obtain ⟨k, rfl, hk, hN, B1, hbl, hKw⟩ := hrel
        by_cases hlt : k < b.length
        · obtain ⟨go, rfl⟩ := hform (by intro e; rw [e] at hlt; simp at hlt)
          have hgo : go ∈ ownB (.slice (some ⟨go, 0, none⟩) b.length co) := by simp [ownB, Value.ownBlock]
          obtain ⟨cs, hbo, hcs⟩ := hbl go hgo
          obtain ⟨u, hu⟩ : ∃ u, cs[k]? = some u := ⟨_, Array.getElem?_eq_getElem (by omega)⟩
          have hcell := hbo.cell k
          rw [hu] at hcell
          have hfr := hbo.frozen
          have hks : Keep [go] wr (wr.setCell ⟨go, k, none⟩ (.int .u8 y)) := (Keep.refl _ _).setCell (.inl (by simp)) _
          have hN' := hN.keep hks (by have := (hob go hgo).2.2; simp at this ⊢; intro e; exact this.1 e.symm) (by have := (hob go hgo).2.2; simp at this ⊢; intro e; exact this.2 e.symm) (by simp; intro g hg e; subst e; exact (hnR g hgo).1 hg) (by simp; intro g hg e; subst e; exact (hnR g hgo).2 hg)
          have B1' := B1.keep hks (by simp; exact B1.ne_ hbo (by decide))
          have hK' := hKw.own hks (by simp; exact (hob go hgo).1)
          have hbl' : ∀ g ∈ ownB (.slice (some ⟨go, 0, none⟩) b.length co), ∃ cs, Blk (wr.setCell ⟨go, k, none⟩ (.int .u8 y)) g 5 cs ∧ b.length ≤ cs.size := fun g hg => by
            have : g = go := by simpa [ownB, Value.ownBlock] using hg
            subst this
            exact ⟨_, hbo.set_ k _, by simpa using hcs⟩
          clear hu hbl hob hnR
          go_wp2_with fail
          go_roundg (b.length - (k + 1))
          case measure => omega
          case rel => exact ⟨k + 1, by go_num, by omega, hN', B1', hbl', hK'⟩
        · have c1 := B1.cell
          have f1 := B1.frozen
          clear hbl hob hnR hform
          go_upto_region 12 with fail
          obtain ⟨w6, hw6⟩ : ∃ W, W = (wr.setCell ⟨g1, 0, none⟩ (.int .i64 5)).setCell ⟨g1, 1, none⟩ (.int .i64 5) := ⟨_, rfl⟩
          have hks : Keep [g1] wr w6 := by rw [hw6]; exact ((Keep.refl _ _).setCell (p := ⟨g1, 0, none⟩) (.inl (by simp)) _).setCell (p := ⟨g1, 1, none⟩) (.inl (by simp)) _
          have nI := hN.notIn B1 (by decide) (by decide)
          have nB := hN.notB B1 (by decide)
          have hN6 := hN.keep hks (by simp; intro e; exact nI (by simp [e])) (by simp; intro e; exact nI (by simp [e])) (by simp; intro g hg e; subst e; exact nI (by simp [hg])) (by simp; intro g hg e; subst e; exact nB hg)
          have hKw6 := hKw.own hks (by simpa using hg1)
          rw [← hw6]
          clear hw6 hks nI nB hN hKw c1 f1 B1
          have st1 := step_any hN6 hA1.wf (by rw [hA1.now]; decide) (hA1.small hb100)
          rw [hA1.come] at st1
          have st2 := fun w h => step_any (w := w) (t := t) (mb := mb) (S := (ap1 b).step) (R := R) (B := B) h hA2.wf (by rw [hA2.now]; decide) (hA2.small hb100)
          rw [hA2.come] at st2
          have own : ∀ g ∈ [t, mb], w.heap.size ≤ g := by intro g hg; simp at hg; rcases hg with rfl | rfl <;> assumption
          have HA := Lib.hid (And.intro hA1 hA2)
          clear hA1 hA2
          go_upto_region 13 with (first
            | (go_at_call 14; refine st1.mono ?_; rintro e w7 ⟨v7, o7, rfl, hC7, hO7, hN7, hk7⟩)
            | fail)
          have hKw7 := hKw6.own hk7 own
          have hlt6 := hN6.lt
          obtain ⟨V7, rfl⟩ := lt_one hO7
          clear hO7
          obtain ⟨g4, o4, c4, rfl, _, hsl4⟩ := (hC7.own.sl lenc_sz).at_ (i := 0) rfl
          have hbo := hC7.bytes ⟨0, 0, V7, b⟩ (by simp)
          simp only at hbo
          obtain ⟨A7, c7, hV7, hb71, hb72, _⟩ := hbo.sl benc_sz
          have hform : b ≠ [] → ∃ gb, A7 = some ⟨gb, 0, none⟩ ∧ w6.heap.size ≤ gb := fun hne => by
            obtain ⟨g, c, cs, hv, hg, _⟩ := Own.blk_ hbo hne
            rw [hV7] at hv
            cases hv
            exact ⟨g, rfl, hg⟩
          have hbl := Own.blk2 hbo
          subst hV7
          have hSL := hC7.own.sl lenc_sz
          have FR : ∀ W, Keep [] w7 W → W.cell? ⟨g4, o4 + 2, none⟩ = some (.slice A7 b.length c7) := fun W hk => hk.cell (by simpa using hsl4.cell (i := 0) rfl (j := 2) (by decide)) (by simp)
          have FS := fun W (hk : Keep [] w7 W) => run_str_rd Try.underlying33 Try.underlying5 ((hbo.sl benc_sz).keep0 hk).rd 9 Try.underlying9
          have FA := fun W (hk : Keep [] w7 W) => run_str_rd Try.underlying33 Try.underlying5 (hVW W (hKw7.trans hk)) 9 Try.underlying9
          refine wp_region_noPanic ?_
          refine Bz.wp_region_E (S := (fun w' => Keep [] w7 w')) (E := []) (by kernel_rfl) (by exact (Keep.refl _ _).drew) (fun hHeld => ?_)
          refine Bz.wpAnyE_take (i := 0) (oi := { dst := some 61, op := Go.Op.move (Go.Operand.tmp 10), type := 36, pos := "law.go:280", after := #[], guard := none }) (v := ?_) rfl (by kernel_rfl) (by kernel_rfl) (by kernel_rfl) (by kernel_rfl) (fun _ _ _ h => h) (Or.inl ⟨by rfl, ?_⟩) hHeld ?_
          rotate_left 1
          · (intro w hSw; have f1 := FR w hSw; have f2 := FS w hSw; have f3 := FA w hSw; go_simp; first | done | with_reducible rfl)
          try simp only [Act.put, List.setIfInBounds_toArray, List.set_cons_zero, List.set_cons_succ]
          refine Bz.wpAnyE_take (i := 1) (oi := { dst := some 62, op := Go.Op.call { callee := Go.Callee.builtin Go.Builtin.len, args := #[Go.Operand.tmp 61], argTypes := #[36] }, type := 3, pos := "law.go:280", after := #[{ on := 0, ground := Go.Ground.data }], guard := none }) (v := ?_) rfl (by kernel_rfl) (by kernel_rfl) (by kernel_rfl) (by kernel_rfl) (fun _ _ _ h => h) (Or.inl ⟨by rfl, ?_⟩) hHeld ?_
          rotate_left 1
          · (intro w hSw; have f1 := FR w hSw; have f2 := FS w hSw; have f3 := FA w hSw; go_simp; first | done | with_reducible rfl)
          try simp only [Act.put, List.setIfInBounds_toArray, List.set_cons_zero, List.set_cons_succ]
          refine Bz.wpAnyE_take (i := 2) (oi := { dst := some 63, op := Go.Op.binOp Go.BinOp.neq 3 (Go.Operand.tmp 62) (Go.Operand.const (Go.Value.int Go.IntKind.i64 1)) 3, type := 4, pos := "law.go:280", after := #[{ on := 1, ground := Go.Ground.data }], guard := none }) (v := ?_) rfl (by kernel_rfl) (by kernel_rfl) (by kernel_rfl) (by kernel_rfl) (fun _ _ _ h => h) (Or.inl ⟨by rfl, ?_⟩) hHeld ?_
          rotate_left 1
          · (intro w hSw; have f1 := FR w hSw; have f2 := FS w hSw; have f3 := FA w hSw; go_simp; first | done | with_reducible rfl)
          try simp only [Act.put, List.setIfInBounds_toArray, List.set_cons_zero, List.set_cons_succ]
          refine Bz.wpAnyE_take (i := 3) (oi := { dst := some 64, op := Go.Op.move (Go.Operand.tmp 63), type := 4, pos := "law.go:280", after := #[{ on := 2, ground := Go.Ground.data }], guard := none }) (v := ?_) rfl (by kernel_rfl) (by kernel_rfl) (by kernel_rfl) (by kernel_rfl) (fun _ _ _ h => h) (Or.inl ⟨by rfl, ?_⟩) hHeld ?_
          rotate_left 1
          · (intro w hSw; have f1 := FR w hSw; have f2 := FS w hSw; have f3 := FA w hSw; go_simp; first | done | with_reducible rfl)
          try simp only [Act.put, List.setIfInBounds_toArray, List.set_cons_zero, List.set_cons_succ]
          refine Bz.wpAnyE_take (i := 4) (oi := { dst := some 65, op := Go.Op.move (Go.Operand.tmp 10), type := 36, pos := "law.go:280", after := #[{ on := 3, ground := Go.Ground.guard }], guard := some (3, false) }) (v := ?_) rfl (by kernel_rfl) (by kernel_rfl) (by kernel_rfl) (by kernel_rfl) (fun _ _ _ h => h) (Or.inl ⟨by rfl, ?_⟩) hHeld ?_
          rotate_left 1
          · (intro w hSw; have f1 := FR w hSw; have f2 := FS w hSw; have f3 := FA w hSw; go_simp; first | done | with_reducible rfl)
          try simp only [Act.put, List.setIfInBounds_toArray, List.set_cons_zero, List.set_cons_succ]
          refine Bz.wpAnyE_take (i := 5) (oi := { dst := some 66, op := Go.Op.indexAddr 36 (Go.Operand.tmp 65) (Go.Operand.const (Go.Value.int Go.IntKind.i64 0)), type := 0, pos := "law.go:280", after := #[{ on := 4, ground := Go.Ground.data }, { on := 3, ground := Go.Ground.guard }], guard := some (3, false) }) (v := ?_) rfl (by kernel_rfl) (by kernel_rfl) (by kernel_rfl) (by kernel_rfl) (fun _ _ _ h => h) (Or.inl ⟨by rfl, ?_⟩) hHeld ?_
          rotate_left 1
          · (intro w hSw; have f1 := FR w hSw; have f2 := FS w hSw; have f3 := FA w hSw; go_simp; first | done | with_reducible rfl)
          try simp only [Act.put, List.setIfInBounds_toArray, List.set_cons_zero, List.set_cons_succ]
          refine Bz.wpAnyE_take (i := 6) (oi := { dst := some 67, op := Go.Op.fieldAddr 35 (Go.Operand.tmp 66) 2, type := 0, pos := "law.go:280", after := #[{ on := 5, ground := Go.Ground.data }, { on := 3, ground := Go.Ground.guard }], guard := some (3, false) }) (v := ?_) rfl (by kernel_rfl) (by kernel_rfl) (by kernel_rfl) (by kernel_rfl) (fun _ _ _ h => h) (Or.inl ⟨by rfl, ?_⟩) hHeld ?_
          rotate_left 1
          · (intro w hSw; have f1 := FR w hSw; have f2 := FS w hSw; have f3 := FA w hSw; go_simp; first | done | with_reducible rfl)
          try simp only [Act.put, List.setIfInBounds_toArray, List.set_cons_zero, List.set_cons_succ]
          refine Bz.wpAnyE_take (i := 7) (oi := { dst := some 68, op := Go.Op.load 33 (Go.Operand.tmp 67), type := 33, pos := "law.go:280", after := #[{ on := 6, ground := Go.Ground.data }, { on := 3, ground := Go.Ground.guard }], guard := some (3, false) }) (v := ?_) rfl (by kernel_rfl) (by kernel_rfl) (by kernel_rfl) (by kernel_rfl) (fun _ _ _ h => h) (Or.inl ⟨by rfl, ?_⟩) hHeld ?_
          rotate_left 1
          · (intro w hSw; have f1 := FR w hSw; have f2 := FS w hSw; have f3 := FA w hSw; go_simp; first | done | with_reducible rfl)
          try simp only [Act.put, List.setIfInBounds_toArray, List.set_cons_zero, List.set_cons_succ]
          refine Bz.wpAnyE_take (i := 8) (oi := { dst := some 69, op := Go.Op.convert 33 9 (Go.Operand.tmp 68), type := 9, pos := "law.go:280", after := #[{ on := 7, ground := Go.Ground.data }, { on := 3, ground := Go.Ground.guard }], guard := some (3, false) }) (v := ?_) rfl (by kernel_rfl) (by kernel_rfl) (by kernel_rfl) (by kernel_rfl) (fun _ _ _ h => h) (Or.inl ⟨by rfl, ?_⟩) hHeld ?_
          rotate_left 1
          · (intro w hSw; have f1 := FR w hSw; have f2 := FS w hSw; have f3 := FA w hSw; go_simp; first | done | with_reducible rfl)
          try simp only [Act.put, List.setIfInBounds_toArray, List.set_cons_zero, List.set_cons_succ]
          refine Bz.wpAnyE_take (i := 9) (oi := { dst := some 70, op := Go.Op.move (Go.Operand.tmp 0), type := 33, pos := "law.go:280", after := #[{ on := 3, ground := Go.Ground.guard }], guard := some (3, false) }) (v := ?_) rfl (by kernel_rfl) (by kernel_rfl) (by kernel_rfl) (by kernel_rfl) (fun _ _ _ h => h) (Or.inl ⟨by rfl, ?_⟩) hHeld ?_
          rotate_left 1
          · (intro w hSw; have f1 := FR w hSw; have f2 := FS w hSw; have f3 := FA w hSw; go_simp; first | done | with_reducible rfl)
          try simp only [Act.put, List.setIfInBounds_toArray, List.set_cons_zero, List.set_cons_succ]
          refine Bz.wpAnyE_take (i := 10) (oi := { dst := some 71, op := Go.Op.convert 33 9 (Go.Operand.tmp 70), type := 9, pos := "law.go:280", after := #[{ on := 9, ground := Go.Ground.data }, { on := 3, ground := Go.Ground.guard }], guard := some (3, false) }) (v := ?_) rfl (by kernel_rfl) (by kernel_rfl) (by kernel_rfl) (by kernel_rfl) (fun _ _ _ h => h) (Or.inl ⟨by rfl, ?_⟩) hHeld ?_
          rotate_left 1
          · (intro w hSw; have f1 := FR w hSw; have f2 := FS w hSw; have f3 := FA w hSw; go_simp; first | done | with_reducible rfl)
          try simp only [Act.put, List.setIfInBounds_toArray, List.set_cons_zero, List.set_cons_succ]
          refine Bz.wpAnyE_take (i := 11) (oi := { dst := some 72, op := Go.Op.binOp Go.BinOp.neq 9 (Go.Operand.tmp 69) (Go.Operand.tmp 71) 9, type := 4, pos := "law.go:280", after := #[{ on := 8, ground := Go.Ground.data }, { on := 10, ground := Go.Ground.data }, { on := 3, ground := Go.Ground.guard }], guard := some (3, false) }) (v := ?_) rfl (by kernel_rfl) (by kernel_rfl) (by kernel_rfl) (by kernel_rfl) (fun _ _ _ h => h) (Or.inl ⟨by rfl, ?_⟩) hHeld ?_
          rotate_left 1
          · (intro w hSw; have f1 := FR w hSw; have f2 := FS w hSw; have f3 := FA w hSw; go_simp; first | done | with_reducible rfl)
          try simp only [Act.put, List.setIfInBounds_toArray, List.set_cons_zero, List.set_cons_succ]
          refine Bz.wpAnyE_take (i := 12) (oi := { dst := some 73, op := Go.Op.pick (Go.Operand.tmp 64) (Go.Operand.const (Go.Value.bool true)) (Go.Operand.tmp 72), type := 4, pos := "law.go:280", after := #[{ on := 3, ground := Go.Ground.data }, { on := 11, ground := Go.Ground.data }], guard := none }) (v := ?_) rfl (by kernel_rfl) (by kernel_rfl) (by kernel_rfl) (by kernel_rfl) (fun _ _ _ h => h) (Or.inl ⟨by rfl, ?_⟩) hHeld ?_
          rotate_left 1
          · (intro w hSw; have f1 := FR w hSw; have f2 := FS w hSw; have f3 := FA w hSw; go_simp; first | done | with_reducible rfl)
          try simp only [Act.put, List.setIfInBounds_toArray, List.set_cons_zero, List.set_cons_succ]
          refine Bz.wpAnyE_done (by kernel_rfl) ?_ _
          refine NoPanic.normal ?_
          
          go_wp2_with fail
          have hb4 : ∃ cs, Blk w7 g4 35 cs := by obtain ⟨cs, h1, _⟩ := hsl4; exact ⟨cs, h1⟩
          have hne4 : ∀ g ∈ ownB (.slice A7 b.length c7), g ≠ g4 := fun g hg e => by
            obtain ⟨cs, h1, _⟩ := hbl g hg
            obtain ⟨cs', h2⟩ := hb4
            exact h1.ne_ h2 (by decide) e
          have f0 := FR _ (Keep.refl _ w7).drew
          have hN8 := hN7.keep0 (Keep.refl _ w7).drew
          have hbl8 : ∀ g ∈ ownB (.slice A7 b.length c7), ∃ cs, Blk w7.drew g 5 cs ∧ b.length ≤ cs.size := hbl
          have hKw8 := hKw7.drew
          clear FR FS FA hSL hsl4 hC7 hbo hk7 hN7 hKw7 hbl hHeld hN6 hb4
          go_loopg [11] b.length (fun m i wr => ∃ k : Nat, i = .int .i64 k ∧ m + k = b.length ∧ NetAt wr t mb (ap1 b).step R B ∧ wr.cell? ⟨g4, o4 + 2, none⟩ = some (.slice A7 b.length c7) ∧ (∀ g ∈ ownB (.slice A7 b.length c7), ∃ cs, Blk wr g 5 cs ∧ b.length ≤ cs.size) ∧ Keep [] w wr)
          case atStart => exact ⟨0, rfl, rfl, hN8, f0, hbl8, hKw8⟩
          case round =>
            clear hN8 f0 hbl8 hKw8 hlt hk
            obtain ⟨k, rfl, hk, hN, f0, hbl, hKw⟩ := hrel
            by_cases hlt : k < b.length
            · obtain ⟨gb, rfl, hgb⟩ := hform (by intro e; rw [e] at hlt; simp at hlt)
              have hgo : gb ∈ ownB (.slice (some ⟨gb, 0, none⟩) b.length c7) := by simp [ownB, Value.ownBlock]
              obtain ⟨cs, hbo, hcs⟩ := hbl gb hgo
              obtain ⟨u, hu⟩ : ∃ u, cs[k]? = some u := ⟨_, Array.getElem?_eq_getElem (by omega)⟩
              have hcell := hbo.cell k
              rw [hu] at hcell
              have hfr := hbo.frozen
              have hks : Keep [gb] wr (wr.setCell ⟨gb, k, none⟩ (.int .u8 y)) := (Keep.refl _ _).setCell (.inl (by simp)) _
              have hN' := hN.keep hks (by simp; omega) (by simp; omega) (by simp; intro g hg e; subst e; have := hlt6.2.2.1 g hg; omega) (by simp; intro g hg e; subst e; have := hlt6.2.2.2 g hg; omega)
              have f0' := hks.cell f0 (by simp; exact fun e => hne4 gb hgo e.symm)
              have hK' := hKw.own hks (by have := hKw6.size; simp; omega)
              have hbl' : ∀ g ∈ ownB (.slice (some ⟨gb, 0, none⟩) b.length c7), ∃ cs, Blk (wr.setCell ⟨gb, k, none⟩ (.int .u8 y)) g 5 cs ∧ b.length ≤ cs.size := fun g hg => by
                have : g = gb := by simpa [ownB, Value.ownBlock] using hg
                subst this
                exact ⟨_, hbo.set_ k _, by simpa using hcs⟩
              clear hu hbl hne4
              go_wp2_with fail
              go_roundg (b.length - (k + 1))
              case measure => omega
              case rel => exact ⟨k + 1, by go_num, by omega, hN', f0', hbl', hK'⟩
            · clear hbl hne4 hform
              have st2 := st2 _ hN
              go_upto_region 20 with (first
                | (go_at_call 14; refine st2.mono ?_; rintro e w9 ⟨v9, o9, rfl, hC9, hO9, hN9, hk9⟩)
                | fail)
              have hKw9 := hKw.own hk9 own
              obtain ⟨V9, rfl⟩ := lt_one hO9
              clear hO9
              obtain ⟨g5, o5, c5, rfl, _, hsl5⟩ := (hC9.own.sl lenc_sz).at_ (i := 0) rfl
              have hbo := hC9.bytes ⟨0, 0, V9, b⟩ (by simp)
              simp only at hbo
              obtain ⟨A9, c9, hV9, _⟩ := hbo.sl benc_sz
              subst hV9
              have FR : ∀ W, Keep [] w9 W → W.cell? ⟨g5, o5 + 2, none⟩ = some (.slice A9 b.length c9) := fun W hk => hk.cell (by simpa using hsl5.cell (i := 0) rfl (j := 2) (by decide)) (by simp)
              have FS := fun W (hk : Keep [] w9 W) => run_str_rd Try.underlying33 Try.underlying5 ((hbo.sl benc_sz).keep0 hk).rd 9 Try.underlying9
              have FA := fun W (hk : Keep [] w9 W) => run_str_rd Try.underlying33 Try.underlying5 (hVW W (hKw9.trans hk)) 9 Try.underlying9
              refine wp_region_noPanic ?_
              refine Bz.wp_region_E (S := (fun w' => Keep [] w9 w')) (E := []) (by kernel_rfl) (by exact (Keep.refl _ _).drew) (fun hHeld => ?_)
              refine Bz.wpAnyE_take (i := 0) (oi := { dst := some 92, op := Go.Op.move (Go.Operand.tmp 12), type := 36, pos := "law.go:287", after := #[], guard := none }) (v := ?_) rfl (by kernel_rfl) (by kernel_rfl) (by kernel_rfl) (by kernel_rfl) (fun _ _ _ h => h) (Or.inl ⟨by rfl, ?_⟩) hHeld ?_
              rotate_left 1
              · (intro w hSw; have f1 := FR w hSw; have f2 := FS w hSw; have f3 := FA w hSw; go_simp; first | done | with_reducible rfl)
              try simp only [Act.put, List.setIfInBounds_toArray, List.set_cons_zero, List.set_cons_succ]
              refine Bz.wpAnyE_take (i := 1) (oi := { dst := some 93, op := Go.Op.call { callee := Go.Callee.builtin Go.Builtin.len, args := #[Go.Operand.tmp 92], argTypes := #[36] }, type := 3, pos := "law.go:287", after := #[{ on := 0, ground := Go.Ground.data }], guard := none }) (v := ?_) rfl (by kernel_rfl) (by kernel_rfl) (by kernel_rfl) (by kernel_rfl) (fun _ _ _ h => h) (Or.inl ⟨by rfl, ?_⟩) hHeld ?_
              rotate_left 1
              · (intro w hSw; have f1 := FR w hSw; have f2 := FS w hSw; have f3 := FA w hSw; go_simp; first | done | with_reducible rfl)
              try simp only [Act.put, List.setIfInBounds_toArray, List.set_cons_zero, List.set_cons_succ]
              refine Bz.wpAnyE_take (i := 2) (oi := { dst := some 94, op := Go.Op.binOp Go.BinOp.eql 3 (Go.Operand.tmp 93) (Go.Operand.const (Go.Value.int Go.IntKind.i64 1)) 3, type := 4, pos := "law.go:287", after := #[{ on := 1, ground := Go.Ground.data }], guard := none }) (v := ?_) rfl (by kernel_rfl) (by kernel_rfl) (by kernel_rfl) (by kernel_rfl) (fun _ _ _ h => h) (Or.inl ⟨by rfl, ?_⟩) hHeld ?_
              rotate_left 1
              · (intro w hSw; have f1 := FR w hSw; have f2 := FS w hSw; have f3 := FA w hSw; go_simp; first | done | with_reducible rfl)
              try simp only [Act.put, List.setIfInBounds_toArray, List.set_cons_zero, List.set_cons_succ]
              refine Bz.wpAnyE_take (i := 3) (oi := { dst := some 95, op := Go.Op.move (Go.Operand.tmp 94), type := 4, pos := "law.go:287", after := #[{ on := 2, ground := Go.Ground.data }], guard := none }) (v := ?_) rfl (by kernel_rfl) (by kernel_rfl) (by kernel_rfl) (by kernel_rfl) (fun _ _ _ h => h) (Or.inl ⟨by rfl, ?_⟩) hHeld ?_
              rotate_left 1
              · (intro w hSw; have f1 := FR w hSw; have f2 := FS w hSw; have f3 := FA w hSw; go_simp; first | done | with_reducible rfl)
              try simp only [Act.put, List.setIfInBounds_toArray, List.set_cons_zero, List.set_cons_succ]
              refine Bz.wpAnyE_take (i := 4) (oi := { dst := some 96, op := Go.Op.move (Go.Operand.tmp 12), type := 36, pos := "law.go:287", after := #[{ on := 3, ground := Go.Ground.guard }], guard := some (3, true) }) (v := ?_) rfl (by kernel_rfl) (by kernel_rfl) (by kernel_rfl) (by kernel_rfl) (fun _ _ _ h => h) (Or.inl ⟨by rfl, ?_⟩) hHeld ?_
              rotate_left 1
              · (intro w hSw; have f1 := FR w hSw; have f2 := FS w hSw; have f3 := FA w hSw; go_simp; first | done | with_reducible rfl)
              try simp only [Act.put, List.setIfInBounds_toArray, List.set_cons_zero, List.set_cons_succ]
              refine Bz.wpAnyE_take (i := 5) (oi := { dst := some 97, op := Go.Op.indexAddr 36 (Go.Operand.tmp 96) (Go.Operand.const (Go.Value.int Go.IntKind.i64 0)), type := 0, pos := "law.go:287", after := #[{ on := 4, ground := Go.Ground.data }, { on := 3, ground := Go.Ground.guard }], guard := some (3, true) }) (v := ?_) rfl (by kernel_rfl) (by kernel_rfl) (by kernel_rfl) (by kernel_rfl) (fun _ _ _ h => h) (Or.inl ⟨by rfl, ?_⟩) hHeld ?_
              rotate_left 1
              · (intro w hSw; have f1 := FR w hSw; have f2 := FS w hSw; have f3 := FA w hSw; go_simp; first | done | with_reducible rfl)
              try simp only [Act.put, List.setIfInBounds_toArray, List.set_cons_zero, List.set_cons_succ]
              refine Bz.wpAnyE_take (i := 6) (oi := { dst := some 98, op := Go.Op.fieldAddr 35 (Go.Operand.tmp 97) 2, type := 0, pos := "law.go:287", after := #[{ on := 5, ground := Go.Ground.data }, { on := 3, ground := Go.Ground.guard }], guard := some (3, true) }) (v := ?_) rfl (by kernel_rfl) (by kernel_rfl) (by kernel_rfl) (by kernel_rfl) (fun _ _ _ h => h) (Or.inl ⟨by rfl, ?_⟩) hHeld ?_
              rotate_left 1
              · (intro w hSw; have f1 := FR w hSw; have f2 := FS w hSw; have f3 := FA w hSw; go_simp; first | done | with_reducible rfl)
              try simp only [Act.put, List.setIfInBounds_toArray, List.set_cons_zero, List.set_cons_succ]
              refine Bz.wpAnyE_take (i := 7) (oi := { dst := some 99, op := Go.Op.load 33 (Go.Operand.tmp 98), type := 33, pos := "law.go:287", after := #[{ on := 6, ground := Go.Ground.data }, { on := 3, ground := Go.Ground.guard }], guard := some (3, true) }) (v := ?_) rfl (by kernel_rfl) (by kernel_rfl) (by kernel_rfl) (by kernel_rfl) (fun _ _ _ h => h) (Or.inl ⟨by rfl, ?_⟩) hHeld ?_
              rotate_left 1
              · (intro w hSw; have f1 := FR w hSw; have f2 := FS w hSw; have f3 := FA w hSw; go_simp; first | done | with_reducible rfl)
              try simp only [Act.put, List.setIfInBounds_toArray, List.set_cons_zero, List.set_cons_succ]
              refine Bz.wpAnyE_take (i := 8) (oi := { dst := some 100, op := Go.Op.convert 33 9 (Go.Operand.tmp 99), type := 9, pos := "law.go:287", after := #[{ on := 7, ground := Go.Ground.data }, { on := 3, ground := Go.Ground.guard }], guard := some (3, true) }) (v := ?_) rfl (by kernel_rfl) (by kernel_rfl) (by kernel_rfl) (by kernel_rfl) (fun _ _ _ h => h) (Or.inl ⟨by rfl, ?_⟩) hHeld ?_
              rotate_left 1
              · (intro w hSw; have f1 := FR w hSw; have f2 := FS w hSw; have f3 := FA w hSw; go_simp; first | done | with_reducible rfl)
              try simp only [Act.put, List.setIfInBounds_toArray, List.set_cons_zero, List.set_cons_succ]
              refine Bz.wpAnyE_take (i := 9) (oi := { dst := some 101, op := Go.Op.move (Go.Operand.tmp 0), type := 33, pos := "law.go:287", after := #[{ on := 3, ground := Go.Ground.guard }], guard := some (3, true) }) (v := ?_) rfl (by kernel_rfl) (by kernel_rfl) (by kernel_rfl) (by kernel_rfl) (fun _ _ _ h => h) (Or.inl ⟨by rfl, ?_⟩) hHeld ?_
              rotate_left 1
              · (intro w hSw; have f1 := FR w hSw; have f2 := FS w hSw; have f3 := FA w hSw; go_simp; first | done | with_reducible rfl)
              try simp only [Act.put, List.setIfInBounds_toArray, List.set_cons_zero, List.set_cons_succ]
              refine Bz.wpAnyE_take (i := 10) (oi := { dst := some 102, op := Go.Op.convert 33 9 (Go.Operand.tmp 101), type := 9, pos := "law.go:287", after := #[{ on := 9, ground := Go.Ground.data }, { on := 3, ground := Go.Ground.guard }], guard := some (3, true) }) (v := ?_) rfl (by kernel_rfl) (by kernel_rfl) (by kernel_rfl) (by kernel_rfl) (fun _ _ _ h => h) (Or.inl ⟨by rfl, ?_⟩) hHeld ?_
              rotate_left 1
              · (intro w hSw; have f1 := FR w hSw; have f2 := FS w hSw; have f3 := FA w hSw; go_simp; first | done | with_reducible rfl)
              try simp only [Act.put, List.setIfInBounds_toArray, List.set_cons_zero, List.set_cons_succ]
              refine Bz.wpAnyE_take (i := 11) (oi := { dst := some 103, op := Go.Op.binOp Go.BinOp.eql 9 (Go.Operand.tmp 100) (Go.Operand.tmp 102) 9, type := 4, pos := "law.go:287", after := #[{ on := 8, ground := Go.Ground.data }, { on := 10, ground := Go.Ground.data }, { on := 3, ground := Go.Ground.guard }], guard := some (3, true) }) (v := ?_) rfl (by kernel_rfl) (by kernel_rfl) (by kernel_rfl) (by kernel_rfl) (fun _ _ _ h => h) (Or.inl ⟨by rfl, ?_⟩) hHeld ?_
              rotate_left 1
              · (intro w hSw; have f1 := FR w hSw; have f2 := FS w hSw; have f3 := FA w hSw; go_simp; first | done | with_reducible rfl)
              try simp only [Act.put, List.setIfInBounds_toArray, List.set_cons_zero, List.set_cons_succ]
              refine Bz.wpAnyE_take (i := 12) (oi := { dst := some 104, op := Go.Op.pick (Go.Operand.tmp 95) (Go.Operand.tmp 103) (Go.Operand.const (Go.Value.bool false)), type := 4, pos := "law.go:287", after := #[{ on := 3, ground := Go.Ground.data }, { on := 11, ground := Go.Ground.data }], guard := none }) (v := ?_) rfl (by kernel_rfl) (by kernel_rfl) (by kernel_rfl) (by kernel_rfl) (fun _ _ _ h => h) (Or.inl ⟨by rfl, ?_⟩) hHeld ?_
              rotate_left 1
              · (intro w hSw; have f1 := FR w hSw; have f2 := FS w hSw; have f3 := FA w hSw; go_simp; first | done | with_reducible rfl)
              try simp only [Act.put, List.setIfInBounds_toArray, List.set_cons_zero, List.set_cons_succ]
              refine Bz.wpAnyE_take (i := 13) (oi := { dst := some 105, op := Go.Op.move (Go.Operand.tmp 104), type := 4, pos := "law.go:287", after := #[{ on := 12, ground := Go.Ground.data }, { on := 3, ground := Go.Ground.chain }], guard := none }) (v := ?_) rfl (by kernel_rfl) (by kernel_rfl) (by kernel_rfl) (by kernel_rfl) (fun _ _ _ h => h) (Or.inl ⟨by rfl, ?_⟩) hHeld ?_
              rotate_left 1
              · (intro w hSw; have f1 := FR w hSw; have f2 := FS w hSw; have f3 := FA w hSw; go_simp; first | done | with_reducible rfl)
              try simp only [Act.put, List.setIfInBounds_toArray, List.set_cons_zero, List.set_cons_succ]
              refine Bz.wpAnyE_ready (rs := [14]) (by kernel_rfl) (by simp) ?_
              refine Bz.AllReadyE.cons (o := { dst := some 106, op := Go.Op.call { callee := Go.Callee.value (Go.Operand.func 12), args := #[], argTypes := #[] }, type := 4, pos := "law.go:287", after := #[{ on := 13, ground := Go.Ground.chain }, { on := 13, ground := Go.Ground.guard }], guard := some (13, true) }) rfl (fun K hK => ?_) Bz.AllReadyE.nil
              go_simp
              
              refine (told_any _).mono ?_
              rintro e w5 ⟨rfl, hk5⟩
              refine hK.out _ _ (by exact hHeld.trans hk5) ?_
              clear hHeld hK K; intro hHeld
              try simp only [Act.put, List.setIfInBounds_toArray, List.set_cons_zero, List.set_cons_succ]
              refine Bz.wpAnyE_take (i := 15) (oi := { dst := some 107, op := Go.Op.pick (Go.Operand.tmp 105) (Go.Operand.tmp 106) (Go.Operand.const (Go.Value.bool false)), type := 4, pos := "law.go:287", after := #[{ on := 13, ground := Go.Ground.data }, { on := 14, ground := Go.Ground.data }], guard := none }) (v := ?_) rfl (by kernel_rfl) (by kernel_rfl) (by kernel_rfl) (by kernel_rfl) (fun _ _ _ h => h) (Or.inl ⟨by rfl, ?_⟩) hHeld ?_
              rotate_left 1
              · (intro w hSw; have f1 := FR w hSw; have f2 := FS w hSw; have f3 := FA w hSw; go_simp; first | done | with_reducible rfl)
              try simp only [Act.put, List.setIfInBounds_toArray, List.set_cons_zero, List.set_cons_succ]
              refine Bz.wpAnyE_take (i := 16) (oi := { dst := some 4, op := Go.Op.assign (Go.Operand.tmp 107), type := 4, pos := "law.go:287", after := #[{ on := 15, ground := Go.Ground.data }, { on := 14, ground := Go.Ground.chain }, { on := 0, ground := Go.Ground.phase }, { on := 1, ground := Go.Ground.phase }, { on := 2, ground := Go.Ground.phase }, { on := 3, ground := Go.Ground.phase }, { on := 4, ground := Go.Ground.phase }, { on := 5, ground := Go.Ground.phase }, { on := 6, ground := Go.Ground.phase }, { on := 7, ground := Go.Ground.phase }, { on := 8, ground := Go.Ground.phase }, { on := 9, ground := Go.Ground.phase }, { on := 10, ground := Go.Ground.phase }, { on := 11, ground := Go.Ground.phase }, { on := 12, ground := Go.Ground.phase }, { on := 13, ground := Go.Ground.phase }, { on := 14, ground := Go.Ground.phase }, { on := 15, ground := Go.Ground.phase }], guard := none }) (v := ?_) rfl (by kernel_rfl) (by kernel_rfl) (by kernel_rfl) (by kernel_rfl) (fun _ _ _ h => h) (Or.inl ⟨by rfl, ?_⟩) hHeld ?_
              rotate_left 1
              · (intro w hSw; have f1 := FR w hSw; have f2 := FS w hSw; have f3 := FA w hSw; go_simp; first | done | with_reducible rfl)
              try simp only [Act.put, List.setIfInBounds_toArray, List.set_cons_zero, List.set_cons_succ]
              refine Bz.wpAnyE_done (by kernel_rfl) ?_ _
              refine NoPanic.normal ?_
              
              go_wp2_with fail
              go_ret
              exact ⟨rfl, hKw9.trans hHeld⟩
end Go.Proofs.Ytcjbmbljmmakfaa
