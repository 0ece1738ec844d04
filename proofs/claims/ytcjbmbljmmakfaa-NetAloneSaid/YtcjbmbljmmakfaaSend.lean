/- Send walked. -/
import Derived.Test.YtcjbmbljmmakfaaLetter
import Derived.Test.YtcjbmbljmmakfaaDue
namespace Go.Proofs.Ytcjbmbljmmakfaa
open Go.RowKit Go.Bz

theorem app74 : AppT Try.prog 74 77 4 48 (.agg #[.int .i64 0, .int .i64 0, .slice none 0 0, .int .i64 0]) := ⟨Try.underlying74, by kernel_rfl, rfl, by decide⟩
set_option maxHeartbeats 4000000 in
theorem send_no {w : World} {t mb : Nat} {S : NS} {R B : List Nat} (h : NetAt w t mb S R B) (hWF : S.WF) {f dst : Int} {V L : Value} {b l : List Int} (hV : RdV w 1 benc V b) (hL : RdV w 1 ienc L l) (he : S.err f dst b.length l ≠ 0) :
    Calls Try.prog 13 #[.pointer (some ⟨t, 0, none⟩), .agg #[.int .i64 f, .int .i64 dst, V], .agg #[L]] w (fun e w' => e = .returned (.int .i64 (S.err f dst b.length l)) ∧ Keep [] w w') := by
  obtain ⟨A, cap, rfl, hv1, hv2, hv3⟩ := id hV
  obtain ⟨AL, capL, rfl, hl1, hl2, hl3⟩ := id hL
  have p1 := fun w h => party_any (w := w) (t := t) (mb := mb) (S := S) (R := R) (B := B) h f
  have p2 := fun w h => party_any (w := w) (t := t) (mb := mb) (S := S) (R := R) (B := B) h dst
  have lc := fun w h => late_any (w := w) (V := .slice AL l.length capL) (l := l) h
  obtain ⟨x, HX⟩ : ∃ x, Hid (x = S.party f) := ⟨_, Lib.hid rfl⟩
  obtain ⟨y, HY⟩ : ∃ y, Hid (y = S.party dst) := ⟨_, Lib.hid rfl⟩
  obtain ⟨z, HZ⟩ : ∃ z, Hid (z = lateOf l) := ⟨_, Lib.hid rfl⟩
  have hE : Hid (S.err f dst b.length l = if x = false ∨ y = false then 28 else if 65536 < b.length then 5 else if z = true then 2 else if 4096 < S.way + l.length then 8 else 0) := Lib.hid (by rw [HX.out, HY.out, HZ.out]; rfl)
  rw [hE.out] at he
  rw [← HX.out] at p1
  rw [← HY.out] at p2
  rw [← HZ.out] at lc
  obtain ⟨w0, hw0⟩ : ∃ W, W = (w.alloc (.cells #[.int .i64 f, .int .i64 dst, .slice A b.length cap] 35)).alloc (.cells #[.slice AL l.length capL] 31) := ⟨_, rfl⟩
  have B4 : Blk w0 w.heap.size 35 #[.int .i64 f, .int .i64 dst, .slice A b.length cap] := by rw [hw0]; exact (Blk.new _ _ _).alloc _
  have B5 : Blk w0 (w.heap.size + 1) 31 #[.slice AL l.length capL] := by rw [hw0]; exact Blk.new_ (by simp)
  have hK : Keep [] w w0 := by rw [hw0]; exact ((Keep.refl _ _).alloc _).alloc _
  have hL := hL.keep0 hK
  have h := h.keep0 hK
  have mk : True := trivial
  have hway : 0 ≤ S.way ∧ S.way ≤ 4096 := ⟨(hWF.at_way 0).2.1, (hWF.at_way 0).2.2⟩
  have c4 := B4.cell
  have c5 := B5.cell
  cases x with
  | false =>
    rw [if_pos (.inl rfl)] at hE
    clear he
    go_enter Try.func13, Try.ntmps13
    go_wp2_with fail
    rw [← hw0]
    clear hw0
    go_wp2_with (first
      | (go_at_call 25; first
        | (clear mk; refine (p1 _ h).mono ?_; rintro e w9 ⟨rfl, hk9⟩; have h := h.keep0 hk9; have hL := hL.keep0 hk9; have B4 := B4.keep hk9 (by simp); have B5 := B5.keep hk9 (by simp); have c4 := B4.cell; have c5 := B5.cell; have hK := hK.trans hk9)
        | (refine (p2 _ h).mono ?_; rintro e w9 ⟨rfl, hk9⟩; have h := h.keep0 hk9; have hL := hL.keep0 hk9; have B4 := B4.keep hk9 (by simp); have B5 := B5.keep hk9 (by simp); have c4 := B4.cell; have c5 := B5.cell; have hK := hK.trans hk9))
      | (go_at_call 26; refine (lc _ hL).mono ?_; rintro e w9 ⟨rfl, hk9⟩; have h := h.keep0 hk9; have hL := hL.keep0 hk9; have B4 := B4.keep hk9 (by simp); have B5 := B5.keep hk9 (by simp); have c4 := B4.cell; have c5 := B5.cell; have hK := hK.trans hk9))
    go_ret
    exact ⟨by rw [hE.out]; rfl, hK⟩
  | true =>
    cases y with
    | false =>
      rw [if_pos (.inr rfl)] at hE
      clear he
      go_enter Try.func13, Try.ntmps13
      go_wp2_with fail
      rw [← hw0]
      clear hw0
      go_wp2_with (first
        | (go_at_call 25; first
          | (clear mk; refine (p1 _ h).mono ?_; rintro e w9 ⟨rfl, hk9⟩; have h := h.keep0 hk9; have hL := hL.keep0 hk9; have B4 := B4.keep hk9 (by simp); have B5 := B5.keep hk9 (by simp); have c4 := B4.cell; have c5 := B5.cell; have hK := hK.trans hk9)
          | (refine (p2 _ h).mono ?_; rintro e w9 ⟨rfl, hk9⟩; have h := h.keep0 hk9; have hL := hL.keep0 hk9; have B4 := B4.keep hk9 (by simp); have B5 := B5.keep hk9 (by simp); have c4 := B4.cell; have c5 := B5.cell; have hK := hK.trans hk9))
        | (go_at_call 26; refine (lc _ hL).mono ?_; rintro e w9 ⟨rfl, hk9⟩; have h := h.keep0 hk9; have hL := hL.keep0 hk9; have B4 := B4.keep hk9 (by simp); have B5 := B5.keep hk9 (by simp); have c4 := B4.cell; have c5 := B5.cell; have hK := hK.trans hk9))
      go_ret
      exact ⟨by rw [hE.out]; rfl, hK⟩
    | true =>
      rw [if_neg (by simp)] at hE he
      by_cases hb : 65536 < b.length
      · rw [if_pos hb] at hE
        have hb' : (65536 : Int) < (b.length : Int) := by omega
        clear he hb
        go_enter Try.func13, Try.ntmps13
        go_wp2_with fail
        rw [← hw0]
        clear hw0
        go_wp2_with (first
          | (go_at_call 25; first
            | (clear mk; refine (p1 _ h).mono ?_; rintro e w9 ⟨rfl, hk9⟩; have h := h.keep0 hk9; have hL := hL.keep0 hk9; have B4 := B4.keep hk9 (by simp); have B5 := B5.keep hk9 (by simp); have c4 := B4.cell; have c5 := B5.cell; have hK := hK.trans hk9)
            | (refine (p2 _ h).mono ?_; rintro e w9 ⟨rfl, hk9⟩; have h := h.keep0 hk9; have hL := hL.keep0 hk9; have B4 := B4.keep hk9 (by simp); have B5 := B5.keep hk9 (by simp); have c4 := B4.cell; have c5 := B5.cell; have hK := hK.trans hk9))
          | (go_at_call 26; refine (lc _ hL).mono ?_; rintro e w9 ⟨rfl, hk9⟩; have h := h.keep0 hk9; have hL := hL.keep0 hk9; have B4 := B4.keep hk9 (by simp); have B5 := B5.keep hk9 (by simp); have c4 := B4.cell; have c5 := B5.cell; have hK := hK.trans hk9))
        go_ret
        exact ⟨by rw [hE.out]; rfl, hK⟩
      · rw [if_neg hb] at hE he
        have hb' : decide ((65536 : Int) < (b.length : Int)) = false := by simp; omega
        clear hb
        cases z with
        | true =>
          rw [if_pos rfl] at hE
          clear he
          go_enter Try.func13, Try.ntmps13
          go_wp2_with fail
          rw [← hw0]
          clear hw0
          go_wp2_with (first
            | (go_at_call 25; first
              | (clear mk; refine (p1 _ h).mono ?_; rintro e w9 ⟨rfl, hk9⟩; have h := h.keep0 hk9; have hL := hL.keep0 hk9; have B4 := B4.keep hk9 (by simp); have B5 := B5.keep hk9 (by simp); have c4 := B4.cell; have c5 := B5.cell; have hK := hK.trans hk9)
              | (refine (p2 _ h).mono ?_; rintro e w9 ⟨rfl, hk9⟩; have h := h.keep0 hk9; have hL := hL.keep0 hk9; have B4 := B4.keep hk9 (by simp); have B5 := B5.keep hk9 (by simp); have c4 := B4.cell; have c5 := B5.cell; have hK := hK.trans hk9))
            | (go_at_call 26; refine (lc _ hL).mono ?_; rintro e w9 ⟨rfl, hk9⟩; have h := h.keep0 hk9; have hL := hL.keep0 hk9; have B4 := B4.keep hk9 (by simp); have B5 := B5.keep hk9 (by simp); have c4 := B4.cell; have c5 := B5.cell; have hK := hK.trans hk9))
          go_ret
          exact ⟨by rw [hE.out]; rfl, hK⟩
        | false =>
          rw [if_neg (by simp)] at hE he
          have hl8 : l.length ≤ 8 := by have := HZ.out; unfold lateOf at this; simp at this; omega
          by_cases hfu : 4096 < S.way + l.length
          · rw [if_pos hfu] at hE
            clear he
            have q1 : IntKind.i64.wrap (S.way + (l.length : Int)) = S.way + l.length := IntWalk.i64_in _ (by omega)
            go_enter Try.func13, Try.ntmps13
            go_wp2_with fail
            rw [← hw0]
            clear hw0
            go_wp2_with (first
              | (go_at_call 25; first
                | (clear mk; refine (p1 _ h).mono ?_; rintro e w9 ⟨rfl, hk9⟩; have h := h.keep0 hk9; have hL := hL.keep0 hk9; have B4 := B4.keep hk9 (by simp); have B5 := B5.keep hk9 (by simp); have c4 := B4.cell; have c5 := B5.cell; have hK := hK.trans hk9)
                | (refine (p2 _ h).mono ?_; rintro e w9 ⟨rfl, hk9⟩; have h := h.keep0 hk9; have hL := hL.keep0 hk9; have B4 := B4.keep hk9 (by simp); have B5 := B5.keep hk9 (by simp); have c4 := B4.cell; have c5 := B5.cell; have hK := hK.trans hk9))
              | (go_at_call 26; refine (lc _ hL).mono ?_; rintro e w9 ⟨rfl, hk9⟩; have h := h.keep0 hk9; have hL := hL.keep0 hk9; have B4 := B4.keep hk9 (by simp); have B5 := B5.keep hk9 (by simp); have c4 := B4.cell; have c5 := B5.cell; have hK := hK.trans hk9))
            have F0 := fun W (hk : Keep [] w9 W) => (h.keep0 hk).cells
            have F5 := fun W (hk : Keep [] w9 W) => (B5.keep hk (by simp)).cell
            refine wp_region_noPanic ?_
            refine Bz.wp_region_E (S := (fun w' => Keep [] w9 w')) (E := []) (by kernel_rfl) (by exact (Keep.refl _ _).drew) (fun hHeld => ?_)
            refine Bz.wpAnyE_take (i := 0) (oi := { dst := some 34, op := Go.Op.move (Go.Operand.tmp 0), type := 23, pos := "net.go:77", after := #[], guard := none }) (v := ?_) rfl (by kernel_rfl) (by kernel_rfl) (by kernel_rfl) (by kernel_rfl) (fun _ _ _ h => h) (Or.inl ⟨by rfl, ?_⟩) hHeld ?_
            rotate_left 1
            · (intro w hSw; have f0 := F0 w hSw; have f5 := F5 w hSw; go_simp; first | done | with_reducible rfl)
            try simp only [Act.put, List.setIfInBounds_toArray, List.set_cons_zero, List.set_cons_succ]
            refine Bz.wpAnyE_take (i := 1) (oi := { dst := some 35, op := Go.Op.nilCheck (Go.Operand.tmp 34), type := 0, pos := "net.go:77", after := #[{ on := 0, ground := Go.Ground.data }], guard := none }) (v := ?_) rfl (by kernel_rfl) (by kernel_rfl) (by kernel_rfl) (by kernel_rfl) (fun _ _ _ h => h) (Or.inl ⟨by rfl, ?_⟩) hHeld ?_
            rotate_left 1
            · (intro w hSw; have f0 := F0 w hSw; have f5 := F5 w hSw; go_simp; first | done | with_reducible rfl)
            try simp only [Act.put, List.setIfInBounds_toArray, List.set_cons_zero, List.set_cons_succ]
            refine Bz.wpAnyE_take (i := 2) (oi := { dst := some 36, op := Go.Op.fieldAddr 72 (Go.Operand.tmp 35) 2, type := 0, pos := "net.go:77", after := #[{ on := 1, ground := Go.Ground.data }], guard := none }) (v := ?_) rfl (by kernel_rfl) (by kernel_rfl) (by kernel_rfl) (by kernel_rfl) (fun _ _ _ h => h) (Or.inl ⟨by rfl, ?_⟩) hHeld ?_
            rotate_left 1
            · (intro w hSw; have f0 := F0 w hSw; have f5 := F5 w hSw; go_simp; first | done | with_reducible rfl)
            try simp only [Act.put, List.setIfInBounds_toArray, List.set_cons_zero, List.set_cons_succ]
            refine Bz.wpAnyE_take (i := 3) (oi := { dst := some 37, op := Go.Op.load 3 (Go.Operand.tmp 36), type := 3, pos := "net.go:77", after := #[{ on := 2, ground := Go.Ground.data }], guard := none }) (v := ?_) rfl (by kernel_rfl) (by kernel_rfl) (by kernel_rfl) (by kernel_rfl) (fun _ _ _ h => h) (Or.inl ⟨by rfl, ?_⟩) hHeld ?_
            rotate_left 1
            · (intro w hSw; have f0 := F0 w hSw; have f5 := F5 w hSw; go_simp; first | done | with_reducible rfl)
            try simp only [Act.put, List.setIfInBounds_toArray, List.set_cons_zero, List.set_cons_succ]
            refine Bz.wpAnyE_take (i := 4) (oi := { dst := some 38, op := Go.Op.fieldAddr 31 (Go.Operand.tmp 5) 0, type := 0, pos := "net.go:77", after := #[], guard := none }) (v := ?_) rfl (by kernel_rfl) (by kernel_rfl) (by kernel_rfl) (by kernel_rfl) (fun _ _ _ h => h) (Or.inl ⟨by rfl, ?_⟩) hHeld ?_
            rotate_left 1
            · (intro w hSw; have f0 := F0 w hSw; have f5 := F5 w hSw; go_simp; first | done | with_reducible rfl)
            try simp only [Act.put, List.setIfInBounds_toArray, List.set_cons_zero, List.set_cons_succ]
            refine Bz.wpAnyE_take (i := 5) (oi := { dst := some 39, op := Go.Op.load 29 (Go.Operand.tmp 38), type := 29, pos := "net.go:77", after := #[{ on := 4, ground := Go.Ground.data }], guard := none }) (v := ?_) rfl (by kernel_rfl) (by kernel_rfl) (by kernel_rfl) (by kernel_rfl) (fun _ _ _ h => h) (Or.inl ⟨by rfl, ?_⟩) hHeld ?_
            rotate_left 1
            · (intro w hSw; have f0 := F0 w hSw; have f5 := F5 w hSw; go_simp; first | done | with_reducible rfl)
            try simp only [Act.put, List.setIfInBounds_toArray, List.set_cons_zero, List.set_cons_succ]
            refine Bz.wpAnyE_take (i := 6) (oi := { dst := some 40, op := Go.Op.call { callee := Go.Callee.builtin Go.Builtin.len, args := #[Go.Operand.tmp 39], argTypes := #[29] }, type := 3, pos := "net.go:77", after := #[{ on := 5, ground := Go.Ground.data }], guard := none }) (v := ?_) rfl (by kernel_rfl) (by kernel_rfl) (by kernel_rfl) (by kernel_rfl) (fun _ _ _ h => h) (Or.inl ⟨by rfl, ?_⟩) hHeld ?_
            rotate_left 1
            · (intro w hSw; have f0 := F0 w hSw; have f5 := F5 w hSw; go_simp; first | done | with_reducible rfl)
            try simp only [Act.put, List.setIfInBounds_toArray, List.set_cons_zero, List.set_cons_succ]
            refine Bz.wpAnyE_take (i := 7) (oi := { dst := some 41, op := Go.Op.binOp Go.BinOp.add 3 (Go.Operand.tmp 37) (Go.Operand.tmp 40) 3, type := 3, pos := "net.go:77", after := #[{ on := 3, ground := Go.Ground.data }, { on := 6, ground := Go.Ground.data }], guard := none }) (v := ?_) rfl (by kernel_rfl) (by kernel_rfl) (by kernel_rfl) (by kernel_rfl) (fun _ _ _ h => h) (Or.inl ⟨by rfl, ?_⟩) hHeld ?_
            rotate_left 1
            · (intro w hSw; have f0 := F0 w hSw; have f5 := F5 w hSw; go_simp; first | done | with_reducible rfl)
            try simp only [Act.put, List.setIfInBounds_toArray, List.set_cons_zero, List.set_cons_succ]
            refine Bz.wpAnyE_take (i := 8) (oi := { dst := some 42, op := Go.Op.binOp Go.BinOp.gtr 3 (Go.Operand.tmp 41) (Go.Operand.const (Go.Value.int Go.IntKind.i64 4096)) 3, type := 4, pos := "net.go:77", after := #[{ on := 7, ground := Go.Ground.data }], guard := none }) (v := ?_) rfl (by kernel_rfl) (by kernel_rfl) (by kernel_rfl) (by kernel_rfl) (fun _ _ _ h => h) (Or.inl ⟨by rfl, ?_⟩) hHeld ?_
            rotate_left 1
            · (intro w hSw; have f0 := F0 w hSw; have f5 := F5 w hSw; go_simp; first | done | with_reducible rfl)
            try simp only [Act.put, List.setIfInBounds_toArray, List.set_cons_zero, List.set_cons_succ]
            refine Bz.wpAnyE_take (i := 9) (oi := { dst := some 33, op := Go.Op.assign (Go.Operand.tmp 42), type := 4, pos := "net.go:77", after := #[{ on := 8, ground := Go.Ground.data }], guard := none }) (v := ?_) rfl (by kernel_rfl) (by kernel_rfl) (by kernel_rfl) (by kernel_rfl) (fun _ _ _ h => h) (Or.inl ⟨by rfl, ?_⟩) hHeld ?_
            rotate_left 1
            · (intro w hSw; have f0 := F0 w hSw; have f5 := F5 w hSw; go_simp; first | done | with_reducible rfl)
            try simp only [Act.put, List.setIfInBounds_toArray, List.set_cons_zero, List.set_cons_succ]
            refine Bz.wpAnyE_done (by kernel_rfl) ?_ _
            refine NoPanic.normal ?_
            
            go_wp2_with fail
            go_ret
            exact ⟨by rw [hE.out]; rfl, hK.drew⟩
          · rw [if_neg hfu] at he
            exact absurd rfl he
end Go.Proofs.Ytcjbmbljmmakfaa
