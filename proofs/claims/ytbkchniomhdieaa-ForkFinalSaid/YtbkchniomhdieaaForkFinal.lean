/- ForkFinal walked. -/
import Derived.Test.YtbkchniomhdieaaFinalLaw
import Derived.Test.YtbkchniomhdieaaComing
namespace Go.Proofs.Ytbkchniomhdieaa
open Go.RowKit Go.Bz

set_option maxRecDepth 100000 in
set_option maxHeartbeats 2000000 in
theorem forkFinal_any (dep : Int) (A : Option Addr) (l : List (Int × Int)) (cap : Nat) (w : World) (hlen : l.length ≤ 9223372036854775807) (hR : Rd w 2 cenc A l) :
    Calls Try.prog 5 #[.int .i64 dep, .slice A l.length cap] w (fun e w' => e = .returned (.bool true) ∧ Keep [] w w') := by
  go_enter Try.func5, Try.ntmps5
  go_wp2_with (first
    | (go_at_call 17; refine (begin_any _ _).mono ?_; rintro e w1 ⟨n, t, mb, V, hn0, hn1, rfl, ht, hmb, hT, ⟨AV, capV, rfl, _⟩, hKw⟩)
    | (go_at_call 12; refine (told_any _).mono ?_; rintro e w3 ⟨rfl, hk3⟩; have hT := (hT.alloc _).keep0 hk3; have hKw := (hKw.alloc _).trans hk3)
    | (go_at_call 21; refine (final_call hT (FT.new_wf _ hn0 hn1)).mono ?_; rintro e w4 ⟨v, rfl, hF, hk4⟩; have hT := hT.keep0 hk4; have hKw := hKw.trans hk4))
  have own : ∀ g ∈ [t, mb], w.heap.size ≤ g := by intro g hg; simp at hg; rcases hg with rfl | rfl <;> assumption
  go_loopg [7, 8] l.length (fun m v i wr => ∃ (k : Nat) (T : FT), i = .int .i64 k ∧ m + k = l.length ∧ TreeAt wr t mb T ∧ T.WF ∧ Sl wr 29 8 dcells v T.final ∧ Keep [] w wr)
  case atStart =>
    exact ⟨0, _, rfl, rfl, hT, FT.new_wf _ hn0 hn1, hF, hKw⟩
  case round =>
    clear hKw hT hF
    obtain ⟨k, T, rfl, hk, hT, hWF, hF, hKw⟩ := hrel
    by_cases hlt : k < l.length
    · by_cases h80 : k < 80
      · obtain ⟨ab, ao, rfl, hab, x, y, hxy, hcl⟩ := coming hR hlt
        go_wp2_with fail
        refine wp_region_noPanic ?_
        refine Bz.wp_region_E (S := (fun w' => w'.cell? ⟨ab, ao + k * 2, none⟩ = some (.int .u8 x) ∧ w'.cell? ⟨ab, ao + k * 2 + 1, none⟩ = some (.int .u8 y))) (E := []) (by kernel_rfl) (by exact hcl _ hKw.drew) (fun hHeld => ?_)
        refine Bz.wpAnyE_take (i := 0) (oi := { dst := some 33, op := Go.Op.move (Go.Operand.tmp 5), type := 24, pos := "law.go:106", after := #[], guard := none }) (v := ?_) rfl (by kernel_rfl) (by kernel_rfl) (by kernel_rfl) (by kernel_rfl) (fun _ _ _ h => h) (Or.inl ⟨by rfl, ?_⟩) hHeld ?_
        rotate_left 1
        · (intro w hSw; (try dsimp only at hSw); go_simp; first | done | with_reducible rfl)
        try simp only [Act.put, List.setIfInBounds_toArray, List.set_cons_zero, List.set_cons_succ]
        refine Bz.wpAnyE_take (i := 1) (oi := { dst := some 34, op := Go.Op.move (Go.Operand.tmp 1), type := 22, pos := "law.go:106", after := #[], guard := none }) (v := ?_) rfl (by kernel_rfl) (by kernel_rfl) (by kernel_rfl) (by kernel_rfl) (fun _ _ _ h => h) (Or.inl ⟨by rfl, ?_⟩) hHeld ?_
        rotate_left 1
        · (intro w hSw; (try dsimp only at hSw); go_simp; first | done | with_reducible rfl)
        try simp only [Act.put, List.setIfInBounds_toArray, List.set_cons_zero, List.set_cons_succ]
        refine Bz.wpAnyE_take (i := 2) (oi := { dst := some 35, op := Go.Op.move (Go.Operand.tmp 8), type := 3, pos := "law.go:106", after := #[], guard := none }) (v := ?_) rfl (by kernel_rfl) (by kernel_rfl) (by kernel_rfl) (by kernel_rfl) (fun _ _ _ h => h) (Or.inl ⟨by rfl, ?_⟩) hHeld ?_
        rotate_left 1
        · (intro w hSw; (try dsimp only at hSw); go_simp; first | done | with_reducible rfl)
        try simp only [Act.put, List.setIfInBounds_toArray, List.set_cons_zero, List.set_cons_succ]
        refine Bz.wpAnyE_take (i := 3) (oi := { dst := some 36, op := Go.Op.indexAddr 22 (Go.Operand.tmp 34) (Go.Operand.tmp 35), type := 0, pos := "law.go:106", after := #[{ on := 1, ground := Go.Ground.data }, { on := 2, ground := Go.Ground.data }], guard := none }) (v := ?_) rfl (by kernel_rfl) (by kernel_rfl) (by kernel_rfl) (by kernel_rfl) (fun _ _ _ h => h) (Or.inl ⟨by rfl, ?_⟩) hHeld ?_
        rotate_left 1
        · (intro w hSw; (try dsimp only at hSw); go_simp; first | done | with_reducible rfl)
        try simp only [Act.put, List.setIfInBounds_toArray, List.set_cons_zero, List.set_cons_succ]
        refine Bz.wpAnyE_take (i := 4) (oi := { dst := some 37, op := Go.Op.fieldAddr 35 (Go.Operand.tmp 36) 0, type := 0, pos := "law.go:106", after := #[{ on := 3, ground := Go.Ground.data }], guard := none }) (v := ?_) rfl (by kernel_rfl) (by kernel_rfl) (by kernel_rfl) (by kernel_rfl) (fun _ _ _ h => h) (Or.inl ⟨by rfl, ?_⟩) hHeld ?_
        rotate_left 1
        · (intro w hSw; (try dsimp only at hSw); go_simp; first | done | with_reducible rfl)
        try simp only [Act.put, List.setIfInBounds_toArray, List.set_cons_zero, List.set_cons_succ]
        refine Bz.wpAnyE_take (i := 5) (oi := { dst := some 38, op := Go.Op.load 5 (Go.Operand.tmp 37), type := 5, pos := "law.go:106", after := #[{ on := 4, ground := Go.Ground.data }], guard := none }) (v := ?_) rfl (by kernel_rfl) (by kernel_rfl) (by kernel_rfl) (by kernel_rfl) (fun _ _ _ h => h) (Or.inl ⟨by rfl, ?_⟩) hHeld ?_
        rotate_left 1
        · (intro w hSw; (try dsimp only at hSw); go_simp; first | done | with_reducible rfl)
        try simp only [Act.put, List.setIfInBounds_toArray, List.set_cons_zero, List.set_cons_succ]
        refine Bz.wpAnyE_take (i := 7) (oi := { dst := some 40, op := Go.Op.move (Go.Operand.tmp 1), type := 22, pos := "law.go:106", after := #[], guard := none }) (v := ?_) rfl (by kernel_rfl) (by kernel_rfl) (by kernel_rfl) (by kernel_rfl) (fun _ _ _ h => h) (Or.inl ⟨by rfl, ?_⟩) hHeld ?_
        rotate_left 1
        · (intro w hSw; (try dsimp only at hSw); go_simp; first | done | with_reducible rfl)
        try simp only [Act.put, List.setIfInBounds_toArray, List.set_cons_zero, List.set_cons_succ]
        refine Bz.wpAnyE_take (i := 8) (oi := { dst := some 41, op := Go.Op.move (Go.Operand.tmp 8), type := 3, pos := "law.go:106", after := #[], guard := none }) (v := ?_) rfl (by kernel_rfl) (by kernel_rfl) (by kernel_rfl) (by kernel_rfl) (fun _ _ _ h => h) (Or.inl ⟨by rfl, ?_⟩) hHeld ?_
        rotate_left 1
        · (intro w hSw; (try dsimp only at hSw); go_simp; first | done | with_reducible rfl)
        try simp only [Act.put, List.setIfInBounds_toArray, List.set_cons_zero, List.set_cons_succ]
        refine Bz.wpAnyE_take (i := 9) (oi := { dst := some 42, op := Go.Op.indexAddr 22 (Go.Operand.tmp 40) (Go.Operand.tmp 41), type := 0, pos := "law.go:106", after := #[{ on := 7, ground := Go.Ground.data }, { on := 8, ground := Go.Ground.data }], guard := none }) (v := ?_) rfl (by kernel_rfl) (by kernel_rfl) (by kernel_rfl) (by kernel_rfl) (fun _ _ _ h => h) (Or.inl ⟨by rfl, ?_⟩) hHeld ?_
        rotate_left 1
        · (intro w hSw; (try dsimp only at hSw); go_simp; first | done | with_reducible rfl)
        try simp only [Act.put, List.setIfInBounds_toArray, List.set_cons_zero, List.set_cons_succ]
        refine Bz.wpAnyE_take (i := 10) (oi := { dst := some 43, op := Go.Op.fieldAddr 35 (Go.Operand.tmp 42) 1, type := 0, pos := "law.go:106", after := #[{ on := 9, ground := Go.Ground.data }], guard := none }) (v := ?_) rfl (by kernel_rfl) (by kernel_rfl) (by kernel_rfl) (by kernel_rfl) (fun _ _ _ h => h) (Or.inl ⟨by rfl, ?_⟩) hHeld ?_
        rotate_left 1
        · (intro w hSw; (try dsimp only at hSw); go_simp; first | done | with_reducible rfl)
        try simp only [Act.put, List.setIfInBounds_toArray, List.set_cons_zero, List.set_cons_succ]
        refine Bz.wpAnyE_take (i := 11) (oi := { dst := some 44, op := Go.Op.load 5 (Go.Operand.tmp 43), type := 5, pos := "law.go:106", after := #[{ on := 10, ground := Go.Ground.data }], guard := none }) (v := ?_) rfl (by kernel_rfl) (by kernel_rfl) (by kernel_rfl) (by kernel_rfl) (fun _ _ _ h => h) (Or.inl ⟨by rfl, ?_⟩) hHeld ?_
        rotate_left 1
        · (intro w hSw; (try dsimp only at hSw); go_simp; first | done | with_reducible rfl)
        try simp only [Act.put, List.setIfInBounds_toArray, List.set_cons_zero, List.set_cons_succ]
        refine Bz.wpAnyE_ready (rs := [6]) (by kernel_rfl) (by simp) ?_
        refine Bz.AllReadyE.cons (o := { dst := some 39, op := Go.Op.call { callee := Go.Callee.value (Go.Operand.func 11), args := #[Go.Operand.tmp 38], argTypes := #[5] }, type := 29, pos := "law.go:106", after := #[{ on := 5, ground := Go.Ground.data }], guard := none }) rfl (fun K hK => ?_) Bz.AllReadyE.nil
        go_simp
        
        refine (id_any _ _).mono ?_
        rintro e w5 ⟨rfl, hk5⟩
        try have hk5 := hk5.undrew
        have hT := hT.keep0 hk5
        have hF := hF.keep0 hk5
        have hKw := hKw.trans hk5
        refine hK.out _ _ (by exact hcl _ hKw) ?_
        clear hHeld hK K; intro hHeld
        try simp only [Act.put, List.setIfInBounds_toArray, List.set_cons_zero, List.set_cons_succ]
        refine Bz.wpAnyE_ready (rs := [12]) (by kernel_rfl) (by simp) ?_
        refine Bz.AllReadyE.cons (o := { dst := some 45, op := Go.Op.call { callee := Go.Callee.value (Go.Operand.func 11), args := #[Go.Operand.tmp 44], argTypes := #[5] }, type := 29, pos := "law.go:106", after := #[{ on := 11, ground := Go.Ground.data }, { on := 6, ground := Go.Ground.chain }], guard := none }) rfl (fun K hK => ?_) Bz.AllReadyE.nil
        go_simp
        
        refine (id_any _ _).mono ?_
        rintro e w5 ⟨rfl, hk5⟩
        try have hk5 := hk5.undrew
        have hT := hT.keep0 hk5
        have hF := hF.keep0 hk5
        have hKw := hKw.trans hk5
        refine hK.out _ _ (by exact hcl _ hKw) ?_
        clear hHeld hK K; intro hHeld
        try simp only [Act.put, List.setIfInBounds_toArray, List.set_cons_zero, List.set_cons_succ]
        refine Bz.wpAnyE_ready (rs := [13]) (by kernel_rfl) (by simp) ?_
        refine Bz.AllReadyE.cons (o := { dst := some 46, op := Go.Op.call { callee := Go.Callee.value (Go.Operand.func 14), args := #[Go.Operand.tmp 33, Go.Operand.tmp 39, Go.Operand.tmp 45], argTypes := #[24, 29, 29] }, type := 25, pos := "law.go:106", after := #[{ on := 0, ground := Go.Ground.data }, { on := 6, ground := Go.Ground.data }, { on := 12, ground := Go.Ground.data }, { on := 12, ground := Go.Ground.chain }], guard := none }) rfl (fun K hK => ?_) Bz.AllReadyE.nil
        go_simp
        
        refine (add_any hT hWF (idv x) (idv y)).mono ?_
        rintro e w6 ⟨rfl, hT6, hk6⟩
        have hF := hF.keepTy hk6 hT.no_dig
        have hKw := hKw.own hk6 own
        refine hK.out _ _ (by exact hcl _ hKw) ?_
        clear hHeld hK K; intro hHeld
        try simp only [Act.put, List.setIfInBounds_toArray, List.set_cons_zero, List.set_cons_succ]
        refine Bz.wpAnyE_done (by kernel_rfl) ?_ _
        refine NoPanic.normal ?_
        
        clear hHeld
        have hM := hWF.stays (idv x) (idv y)
        have hWF6 := hWF.add (idv x) (idv y)
        obtain ⟨T', hT'⟩ : ∃ T', T' = T.add (idv x) (idv y) := ⟨_, rfl⟩
        rw [← hT'] at hT6 hM hWF6
        clear hT' hcl hxy hT
        obtain ⟨m1, m2⟩ := hM
        have m3 := hWF.final_pos
        have hal : T.final.length ≤ 5000 := by
          have := hWF.final_len; have := hWF.nonneg hWF.tip_is; have := hWF.size; have := hWF.dep; omega
        obtain ⟨A7, cap7, rfl, g1, g2, g3⟩ := hF
        obtain ⟨a, ha⟩ : ∃ a, a = T.final.length := ⟨_, rfl⟩
        obtain ⟨b, hb⟩ : ∃ a, a = T'.final.length := ⟨_, rfl⟩
        rw [← ha] at m1 m2 m3 g1 hal
        rw [← hb] at m2
        rw [← ha]
        have HA := Lib.hid (And.intro ha hb)
        have M1 := Lib.hid m1
        clear ha hb m1
        go_wp2_with (first
          | (go_at_call 21; refine (final_call hT6 hWF6).mono ?_; rintro e w7 ⟨v7, rfl, ⟨A8, cap8, rfl, q1, q2, q3⟩, hk7⟩; rw [← HA.out.2] at q1; rw [← HA.out.2]; have hac := Nat.le_trans m2 q1; have hT := hT6.keep0 hk7; have hKw := hKw.trans hk7))
        have hS8 : Sl w7 29 8 dcells (.slice A8 a cap8) T.final := by
          refine ⟨A8, cap8, by rw [← HA.out.1], by rw [← HA.out.1]; exact hac, q2, fun hne => ?_⟩
          obtain ⟨g, o, hg, hs⟩ := q3 (by intro e; have := HA.out.2; rw [e] at this; simp at this; omega)
          exact ⟨g, o, hg, by have := hs.take a; rw [M1.out] at this; exact this⟩
        have hS7 : Sl w6 29 8 dcells (.slice A7 a cap7) T.final := ⟨A7, cap7, by rw [← HA.out.1], by rw [← HA.out.1]; exact g1, g2, g3⟩
        have hN : Sl w7 29 8 dcells (.slice A8 b cap8) T'.final := ⟨A8, cap8, by rw [← HA.out.2], by rw [← HA.out.2]; exact q1, q2, q3⟩
        have hS7 := hS7.keep0 hk7
        have hl5 : T.final.length ≤ 5000 := by rw [← HA.out.1]; exact hal
        refine (plain_any hS8 hl5).mono ?_
        rintro e w8 ⟨v8, rfl, hO8, hk8⟩
        have hT := hT.keep0 hk8
        have hKw := hKw.trans hk8
        have hN := hN.keep0 hk8
        have hO8 := hO8.sl dsz
        go_wp2_with fail
        refine (plain_any (hS7.keep0 hk8) hl5).mono ?_
        rintro e w9 ⟨v9, rfl, hO9, hk9⟩
        have hT := hT.keep0 hk9
        have hKw := hKw.trans hk9
        have hN := hN.keep0 hk9
        have hO9 := hO9.sl dsz
        go_wp2_with fail
        refine (same_any (hO8.keep0 hk9) hO9).mono ?_
        rw [decide_eq_true rfl]
        rintro e w10 ⟨rfl, hk10⟩
        go_wp2_with fail
        go_roundg (l.length - (k + 1))
        case measure => omega
        case rel => exact ⟨k + 1, T', by go_num, by omega, hT.keep0 hk10, hWF6, hN.keep0 hk10, hKw.trans hk10⟩
      · go_wp2_with fail
        go_ret
        exact ⟨rfl, hKw⟩
    · go_wp2_with fail
      go_ret
      exact ⟨rfl, hKw⟩
end Go.Proofs.Ytbkchniomhdieaa
