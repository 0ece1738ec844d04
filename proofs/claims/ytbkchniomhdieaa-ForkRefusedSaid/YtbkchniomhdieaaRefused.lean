/- ForkRefused walked. -/
import Derived.Test.YtbkchniomhdieaaRefusedLaw
import Derived.Test.YtbkchniomhdieaaClone
import Derived.Test.YtbkchniomhdieaaComing
namespace Go.Proofs.Ytbkchniomhdieaa
open Go.RowKit Go.Bz

set_option maxRecDepth 100000 in
set_option maxHeartbeats 4000000 in
theorem refused_any (dep : Int) (A : Option Addr) (l : List (Int × Int)) (cap : Nat) (cx cy : Int) (w : World) (hlen : l.length ≤ 9223372036854775807) (hR : Rd w 2 cenc A l) :
    Calls Try.prog 7 #[.int .i64 dep, .slice A l.length cap, .agg #[.int .u8 cx, .int .u8 cy]] w (fun e w' => e = .returned (.bool true) ∧ Keep [] w w') := by
  have hB := Blk.new w 35 (cenc (cx, cy))
  have hK0 := (Keep.refl [] w).alloc (.cells (cenc (cx, cy)) 35)
  go_enter Try.func7, Try.ntmps7
  go_wp2_with (first
    | (go_at_call 17; refine (begin_any _ _).mono ?_; rintro e w1 ⟨n, t, mb, V, hn0, hn1, rfl, ht, hmb, hT, ⟨AV, capV, rfl, _⟩, hk1⟩; have hKw := hK0.trans hk1; have hB := hB.keep hk1 (by simp))
    | (go_at_call 12; refine (told_any _).mono ?_; rintro e w3 ⟨rfl, hk3⟩; have hT := (hT.alloc _).keep0 hk3; have hKw := (hKw.alloc _).trans hk3; have hB := (hB.alloc _).keep hk3 (by simp)))
  have ht : w.heap.size ≤ t := Nat.le_trans (by simp) ht
  have hmb : w.heap.size ≤ mb := Nat.le_trans (by simp) hmb
  have own : ∀ g ∈ [t, mb], w.heap.size ≤ g := by intro g hg; simp at hg; rcases hg with rfl | rfl <;> assumption
  go_loopg [9] l.length (fun m i wr => ∃ (k : Nat) (T : FT), i = .int .i64 k ∧ m + k = l.length ∧ TreeAt wr t mb T ∧ T.WF ∧ Blk wr w.heap.size 35 (cenc (cx, cy)) ∧ Keep [] w wr)
  case atStart =>
    exact ⟨0, _, rfl, rfl, hT, FT.new_wf _ hn0 hn1, hB, hKw⟩
  case round =>
    clear hKw hT hB hK0
    obtain ⟨k, T, rfl, hk, hT, hWF, hB, hKw⟩ := hrel
    have hgo : (k < l.length ∧ k < 60) ∨ (k < l.length ∧ ¬ k < 60) ∨ ¬ k < l.length := by omega
    rcases hgo with ⟨hlt, h80⟩ | hend
    · obtain ⟨ab, ao, rfl, hab, x, y, hxy, hcl⟩ := coming hR hlt
      go_wp2_with fail
      refine wp_region_noPanic ?_
      refine Bz.wp_region_E (S := (fun w' => w'.cell? ⟨ab, ao + k * 2, none⟩ = some (.int .u8 x) ∧ w'.cell? ⟨ab, ao + k * 2 + 1, none⟩ = some (.int .u8 y))) (E := []) (by kernel_rfl) (by exact hcl _ hKw.drew) (fun hHeld => ?_)
      refine Bz.wpAnyE_take (i := 0) (oi := { dst := some 33, op := Go.Op.move (Go.Operand.tmp 7), type := 24, pos := "law.go:161", after := #[], guard := none }) (v := ?_) rfl (by kernel_rfl) (by kernel_rfl) (by kernel_rfl) (by kernel_rfl) (fun _ _ _ h => h) (Or.inl ⟨by rfl, ?_⟩) hHeld ?_
      rotate_left 1
      · (intro w hSw; (try dsimp only at hSw); go_simp; first | done | with_reducible rfl)
      try simp only [Act.put, List.setIfInBounds_toArray, List.set_cons_zero, List.set_cons_succ]
      refine Bz.wpAnyE_take (i := 1) (oi := { dst := some 34, op := Go.Op.move (Go.Operand.tmp 1), type := 22, pos := "law.go:161", after := #[], guard := none }) (v := ?_) rfl (by kernel_rfl) (by kernel_rfl) (by kernel_rfl) (by kernel_rfl) (fun _ _ _ h => h) (Or.inl ⟨by rfl, ?_⟩) hHeld ?_
      rotate_left 1
      · (intro w hSw; (try dsimp only at hSw); go_simp; first | done | with_reducible rfl)
      try simp only [Act.put, List.setIfInBounds_toArray, List.set_cons_zero, List.set_cons_succ]
      refine Bz.wpAnyE_take (i := 2) (oi := { dst := some 35, op := Go.Op.move (Go.Operand.tmp 9), type := 3, pos := "law.go:161", after := #[], guard := none }) (v := ?_) rfl (by kernel_rfl) (by kernel_rfl) (by kernel_rfl) (by kernel_rfl) (fun _ _ _ h => h) (Or.inl ⟨by rfl, ?_⟩) hHeld ?_
      rotate_left 1
      · (intro w hSw; (try dsimp only at hSw); go_simp; first | done | with_reducible rfl)
      try simp only [Act.put, List.setIfInBounds_toArray, List.set_cons_zero, List.set_cons_succ]
      refine Bz.wpAnyE_take (i := 3) (oi := { dst := some 36, op := Go.Op.indexAddr 22 (Go.Operand.tmp 34) (Go.Operand.tmp 35), type := 0, pos := "law.go:161", after := #[{ on := 1, ground := Go.Ground.data }, { on := 2, ground := Go.Ground.data }], guard := none }) (v := ?_) rfl (by kernel_rfl) (by kernel_rfl) (by kernel_rfl) (by kernel_rfl) (fun _ _ _ h => h) (Or.inl ⟨by rfl, ?_⟩) hHeld ?_
      rotate_left 1
      · (intro w hSw; (try dsimp only at hSw); go_simp; first | done | with_reducible rfl)
      try simp only [Act.put, List.setIfInBounds_toArray, List.set_cons_zero, List.set_cons_succ]
      refine Bz.wpAnyE_take (i := 4) (oi := { dst := some 37, op := Go.Op.fieldAddr 35 (Go.Operand.tmp 36) 0, type := 0, pos := "law.go:161", after := #[{ on := 3, ground := Go.Ground.data }], guard := none }) (v := ?_) rfl (by kernel_rfl) (by kernel_rfl) (by kernel_rfl) (by kernel_rfl) (fun _ _ _ h => h) (Or.inl ⟨by rfl, ?_⟩) hHeld ?_
      rotate_left 1
      · (intro w hSw; (try dsimp only at hSw); go_simp; first | done | with_reducible rfl)
      try simp only [Act.put, List.setIfInBounds_toArray, List.set_cons_zero, List.set_cons_succ]
      refine Bz.wpAnyE_take (i := 5) (oi := { dst := some 38, op := Go.Op.load 5 (Go.Operand.tmp 37), type := 5, pos := "law.go:161", after := #[{ on := 4, ground := Go.Ground.data }], guard := none }) (v := ?_) rfl (by kernel_rfl) (by kernel_rfl) (by kernel_rfl) (by kernel_rfl) (fun _ _ _ h => h) (Or.inl ⟨by rfl, ?_⟩) hHeld ?_
      rotate_left 1
      · (intro w hSw; (try dsimp only at hSw); go_simp; first | done | with_reducible rfl)
      try simp only [Act.put, List.setIfInBounds_toArray, List.set_cons_zero, List.set_cons_succ]
      refine Bz.wpAnyE_take (i := 7) (oi := { dst := some 40, op := Go.Op.move (Go.Operand.tmp 1), type := 22, pos := "law.go:161", after := #[], guard := none }) (v := ?_) rfl (by kernel_rfl) (by kernel_rfl) (by kernel_rfl) (by kernel_rfl) (fun _ _ _ h => h) (Or.inl ⟨by rfl, ?_⟩) hHeld ?_
      rotate_left 1
      · (intro w hSw; (try dsimp only at hSw); go_simp; first | done | with_reducible rfl)
      try simp only [Act.put, List.setIfInBounds_toArray, List.set_cons_zero, List.set_cons_succ]
      refine Bz.wpAnyE_take (i := 8) (oi := { dst := some 41, op := Go.Op.move (Go.Operand.tmp 9), type := 3, pos := "law.go:161", after := #[], guard := none }) (v := ?_) rfl (by kernel_rfl) (by kernel_rfl) (by kernel_rfl) (by kernel_rfl) (fun _ _ _ h => h) (Or.inl ⟨by rfl, ?_⟩) hHeld ?_
      rotate_left 1
      · (intro w hSw; (try dsimp only at hSw); go_simp; first | done | with_reducible rfl)
      try simp only [Act.put, List.setIfInBounds_toArray, List.set_cons_zero, List.set_cons_succ]
      refine Bz.wpAnyE_take (i := 9) (oi := { dst := some 42, op := Go.Op.indexAddr 22 (Go.Operand.tmp 40) (Go.Operand.tmp 41), type := 0, pos := "law.go:161", after := #[{ on := 7, ground := Go.Ground.data }, { on := 8, ground := Go.Ground.data }], guard := none }) (v := ?_) rfl (by kernel_rfl) (by kernel_rfl) (by kernel_rfl) (by kernel_rfl) (fun _ _ _ h => h) (Or.inl ⟨by rfl, ?_⟩) hHeld ?_
      rotate_left 1
      · (intro w hSw; (try dsimp only at hSw); go_simp; first | done | with_reducible rfl)
      try simp only [Act.put, List.setIfInBounds_toArray, List.set_cons_zero, List.set_cons_succ]
      refine Bz.wpAnyE_take (i := 10) (oi := { dst := some 43, op := Go.Op.fieldAddr 35 (Go.Operand.tmp 42) 1, type := 0, pos := "law.go:161", after := #[{ on := 9, ground := Go.Ground.data }], guard := none }) (v := ?_) rfl (by kernel_rfl) (by kernel_rfl) (by kernel_rfl) (by kernel_rfl) (fun _ _ _ h => h) (Or.inl ⟨by rfl, ?_⟩) hHeld ?_
      rotate_left 1
      · (intro w hSw; (try dsimp only at hSw); go_simp; first | done | with_reducible rfl)
      try simp only [Act.put, List.setIfInBounds_toArray, List.set_cons_zero, List.set_cons_succ]
      refine Bz.wpAnyE_take (i := 11) (oi := { dst := some 44, op := Go.Op.load 5 (Go.Operand.tmp 43), type := 5, pos := "law.go:161", after := #[{ on := 10, ground := Go.Ground.data }], guard := none }) (v := ?_) rfl (by kernel_rfl) (by kernel_rfl) (by kernel_rfl) (by kernel_rfl) (fun _ _ _ h => h) (Or.inl ⟨by rfl, ?_⟩) hHeld ?_
      rotate_left 1
      · (intro w hSw; (try dsimp only at hSw); go_simp; first | done | with_reducible rfl)
      try simp only [Act.put, List.setIfInBounds_toArray, List.set_cons_zero, List.set_cons_succ]
      refine Bz.wpAnyE_ready (rs := [6]) (by kernel_rfl) (by simp) ?_
      refine Bz.AllReadyE.cons (o := { dst := some 39, op := Go.Op.call { callee := Go.Callee.value (Go.Operand.func 11), args := #[Go.Operand.tmp 38], argTypes := #[5] }, type := 29, pos := "law.go:161", after := #[{ on := 5, ground := Go.Ground.data }], guard := none }) rfl (fun K hK => ?_) Bz.AllReadyE.nil
      go_simp
      
      refine (id_any _ _).mono ?_
      rintro e w5 ⟨rfl, hk5⟩
      try have hk5 := hk5.undrew
      have hT := hT.keep0 hk5
      have hB := hB.keep hk5 (by simp)
      have hKw := hKw.trans hk5
      refine hK.out _ _ (by exact hcl _ hKw) ?_
      clear hHeld hK K; intro hHeld
      try simp only [Act.put, List.setIfInBounds_toArray, List.set_cons_zero, List.set_cons_succ]
      refine Bz.wpAnyE_ready (rs := [12]) (by kernel_rfl) (by simp) ?_
      refine Bz.AllReadyE.cons (o := { dst := some 45, op := Go.Op.call { callee := Go.Callee.value (Go.Operand.func 11), args := #[Go.Operand.tmp 44], argTypes := #[5] }, type := 29, pos := "law.go:161", after := #[{ on := 11, ground := Go.Ground.data }, { on := 6, ground := Go.Ground.chain }], guard := none }) rfl (fun K hK => ?_) Bz.AllReadyE.nil
      go_simp
      
      refine (id_any _ _).mono ?_
      rintro e w5 ⟨rfl, hk5⟩
      try have hk5 := hk5.undrew
      have hT := hT.keep0 hk5
      have hB := hB.keep hk5 (by simp)
      have hKw := hKw.trans hk5
      refine hK.out _ _ (by exact hcl _ hKw) ?_
      clear hHeld hK K; intro hHeld
      try simp only [Act.put, List.setIfInBounds_toArray, List.set_cons_zero, List.set_cons_succ]
      refine Bz.wpAnyE_ready (rs := [13]) (by kernel_rfl) (by simp) ?_
      refine Bz.AllReadyE.cons (o := { dst := some 46, op := Go.Op.call { callee := Go.Callee.value (Go.Operand.func 14), args := #[Go.Operand.tmp 33, Go.Operand.tmp 39, Go.Operand.tmp 45], argTypes := #[24, 29, 29] }, type := 25, pos := "law.go:161", after := #[{ on := 0, ground := Go.Ground.data }, { on := 6, ground := Go.Ground.data }, { on := 12, ground := Go.Ground.data }, { on := 12, ground := Go.Ground.chain }], guard := none }) rfl (fun K hK => ?_) Bz.AllReadyE.nil
      go_simp
      
      refine (add_any hT hWF (idv x) (idv y)).mono ?_
      rintro e w6 ⟨rfl, hT6, hk6⟩
      have hB := hB.keep hk6 (by simp; exact ⟨fun e => hT.1.ne_ hB (by decide) e.symm, fun e => hT.2.ne_blk hB e.symm⟩)
      have hKw := hKw.own hk6 own
      refine hK.out _ _ (by exact hcl _ hKw) ?_
      clear hHeld hK K; intro hHeld
      try simp only [Act.put, List.setIfInBounds_toArray, List.set_cons_zero, List.set_cons_succ]
      refine Bz.wpAnyE_done (by kernel_rfl) ?_ _
      refine NoPanic.normal ?_
      
      clear hHeld
      go_wp2_with fail
      go_roundg (l.length - (k + 1))
      case measure => omega
      case rel => exact ⟨k + 1, _, by go_num, by omega, hT6, hWF.add _ _, hB, hKw⟩
    · rcases hend with ⟨hlt, h80⟩ | hlt
      all_goals
        go_wp2_with (first
          | (go_at_call 28; refine (clone_any hT).mono ?_; rintro e w6 ⟨t', mb', rfl, ht', hmb', hT', hk6⟩; have l1 := hT.1.lt; have l2 := hT.2.lt; have hT := hT.keep0 hk6; have hB := hB.keep hk6 (by simp); have hKw := hKw.trans hk6))
        have n1 : t' ∉ [t, mb] := by simp; omega
        have n2 : mb' ∉ [t, mb] := by simp; omega
        have cB := hB.cell
        refine wp_region_noPanic ?_
        refine Bz.wp_region_E (S := (fun w' => ∀ i, w'.cell? ⟨w.heap.size, i, none⟩ = (cenc (cx, cy))[i]?)) (E := []) (by kernel_rfl) (by exact cB) (fun hHeld => ?_)
        refine Bz.wpAnyE_take (i := 0) (oi := { dst := some 49, op := Go.Op.move (Go.Operand.tmp 7), type := 24, pos := "law.go:164", after := #[], guard := none }) (v := ?_) rfl (by kernel_rfl) (by kernel_rfl) (by kernel_rfl) (by kernel_rfl) (fun _ _ _ h => h) (Or.inl ⟨by rfl, ?_⟩) hHeld ?_
        rotate_left 1
        · (intro w hSw; (try dsimp only at hSw); go_simp; first | done | with_reducible rfl)
        try simp only [Act.put, List.setIfInBounds_toArray, List.set_cons_zero, List.set_cons_succ]
        refine Bz.wpAnyE_take (i := 1) (oi := { dst := some 50, op := Go.Op.fieldAddr 35 (Go.Operand.tmp 5) 0, type := 0, pos := "law.go:164", after := #[], guard := none }) (v := ?_) rfl (by kernel_rfl) (by kernel_rfl) (by kernel_rfl) (by kernel_rfl) (fun _ _ _ h => h) (Or.inl ⟨by rfl, ?_⟩) hHeld ?_
        rotate_left 1
        · (intro w hSw; (try dsimp only at hSw); go_simp; first | done | with_reducible rfl)
        try simp only [Act.put, List.setIfInBounds_toArray, List.set_cons_zero, List.set_cons_succ]
        refine Bz.wpAnyE_take (i := 2) (oi := { dst := some 51, op := Go.Op.load 5 (Go.Operand.tmp 50), type := 5, pos := "law.go:164", after := #[{ on := 1, ground := Go.Ground.data }], guard := none }) (v := ?_) rfl (by kernel_rfl) (by kernel_rfl) (by kernel_rfl) (by kernel_rfl) (fun _ _ _ h => h) (Or.inl ⟨by rfl, ?_⟩) hHeld ?_
        rotate_left 1
        · (intro w hSw; (try dsimp only at hSw); go_simp; first | done | with_reducible rfl)
        try simp only [Act.put, List.setIfInBounds_toArray, List.set_cons_zero, List.set_cons_succ]
        refine Bz.wpAnyE_take (i := 4) (oi := { dst := some 53, op := Go.Op.fieldAddr 35 (Go.Operand.tmp 5) 1, type := 0, pos := "law.go:164", after := #[], guard := none }) (v := ?_) rfl (by kernel_rfl) (by kernel_rfl) (by kernel_rfl) (by kernel_rfl) (fun _ _ _ h => h) (Or.inl ⟨by rfl, ?_⟩) hHeld ?_
        rotate_left 1
        · (intro w hSw; (try dsimp only at hSw); go_simp; first | done | with_reducible rfl)
        try simp only [Act.put, List.setIfInBounds_toArray, List.set_cons_zero, List.set_cons_succ]
        refine Bz.wpAnyE_take (i := 5) (oi := { dst := some 54, op := Go.Op.load 5 (Go.Operand.tmp 53), type := 5, pos := "law.go:164", after := #[{ on := 4, ground := Go.Ground.data }], guard := none }) (v := ?_) rfl (by kernel_rfl) (by kernel_rfl) (by kernel_rfl) (by kernel_rfl) (fun _ _ _ h => h) (Or.inl ⟨by rfl, ?_⟩) hHeld ?_
        rotate_left 1
        · (intro w hSw; (try dsimp only at hSw); go_simp; first | done | with_reducible rfl)
        try simp only [Act.put, List.setIfInBounds_toArray, List.set_cons_zero, List.set_cons_succ]
        refine Bz.wpAnyE_ready (rs := [3]) (by kernel_rfl) (by simp) ?_
        refine Bz.AllReadyE.cons (o := { dst := some 52, op := Go.Op.call { callee := Go.Callee.value (Go.Operand.func 11), args := #[Go.Operand.tmp 51], argTypes := #[5] }, type := 29, pos := "law.go:164", after := #[{ on := 2, ground := Go.Ground.data }], guard := none }) rfl (fun K hK => ?_) Bz.AllReadyE.nil
        go_simp
        
        refine (id_any _ _).mono ?_
        rintro e w7 ⟨rfl, hk7⟩
        try have hk7 := hk7.undrew
        have hT := hT.keep0 hk7
        have hT' := hT'.keep0 hk7
        have hB := hB.keep hk7 (by simp)
        have hKw := hKw.trans hk7
        refine hK.out _ _ (by exact hB.cell) ?_
        clear hHeld hK K; intro hHeld
        try simp only [Act.put, List.setIfInBounds_toArray, List.set_cons_zero, List.set_cons_succ]
        refine Bz.wpAnyE_ready (rs := [6]) (by kernel_rfl) (by simp) ?_
        refine Bz.AllReadyE.cons (o := { dst := some 55, op := Go.Op.call { callee := Go.Callee.value (Go.Operand.func 11), args := #[Go.Operand.tmp 54], argTypes := #[5] }, type := 29, pos := "law.go:164", after := #[{ on := 5, ground := Go.Ground.data }, { on := 3, ground := Go.Ground.chain }], guard := none }) rfl (fun K hK => ?_) Bz.AllReadyE.nil
        go_simp
        
        refine (id_any _ _).mono ?_
        rintro e w7 ⟨rfl, hk7⟩
        try have hk7 := hk7.undrew
        have hT := hT.keep0 hk7
        have hT' := hT'.keep0 hk7
        have hB := hB.keep hk7 (by simp)
        have hKw := hKw.trans hk7
        refine hK.out _ _ (by exact hB.cell) ?_
        clear hHeld hK K; intro hHeld
        try simp only [Act.put, List.setIfInBounds_toArray, List.set_cons_zero, List.set_cons_succ]
        refine Bz.wpAnyE_ready (rs := [7]) (by kernel_rfl) (by simp) ?_
        refine Bz.AllReadyE.cons (o := { dst := some 56, op := Go.Op.call { callee := Go.Callee.value (Go.Operand.func 14), args := #[Go.Operand.tmp 49, Go.Operand.tmp 52, Go.Operand.tmp 55], argTypes := #[24, 29, 29] }, type := 25, pos := "law.go:164", after := #[{ on := 0, ground := Go.Ground.data }, { on := 3, ground := Go.Ground.data }, { on := 6, ground := Go.Ground.data }, { on := 6, ground := Go.Ground.chain }], guard := none }) rfl (fun K hK => ?_) Bz.AllReadyE.nil
        go_simp
        
        refine (add_any hT hWF (idv cx) (idv cy)).mono ?_
        rintro e w8 ⟨rfl, hT8, hk8⟩
        have hB := hB.keep hk8 (by simp; exact ⟨fun e => hT.1.ne_ hB (by decide) e.symm, fun e => hT.2.ne_blk hB e.symm⟩)
        have hT' := hT'.keep hk8 n1 n2
        have hKw := hKw.own hk8 own
        refine hK.out _ _ (by exact hB.cell) ?_
        clear hHeld hK K; intro hHeld
        try simp only [Act.put, List.setIfInBounds_toArray, List.set_cons_zero, List.set_cons_succ]
        refine Bz.wpAnyE_take (i := 8) (oi := { dst := some 11, op := Go.Op.assign (Go.Operand.tmp 56), type := 25, pos := "law.go:164", after := #[{ on := 7, ground := Go.Ground.data }, { on := 7, ground := Go.Ground.chain }, { on := 0, ground := Go.Ground.phase }, { on := 1, ground := Go.Ground.phase }, { on := 2, ground := Go.Ground.phase }, { on := 3, ground := Go.Ground.phase }, { on := 4, ground := Go.Ground.phase }, { on := 5, ground := Go.Ground.phase }, { on := 6, ground := Go.Ground.phase }, { on := 7, ground := Go.Ground.phase }], guard := none }) (v := ?_) rfl (by kernel_rfl) (by kernel_rfl) (by kernel_rfl) (by kernel_rfl) (fun _ _ _ h => h) (Or.inl ⟨by rfl, ?_⟩) hHeld ?_
        rotate_left 1
        · (intro w hSw; (try dsimp only at hSw); go_simp; first | done | with_reducible rfl)
        try simp only [Act.put, List.setIfInBounds_toArray, List.set_cons_zero, List.set_cons_succ]
        refine Bz.wpAnyE_done (by kernel_rfl) ?_ _
        refine NoPanic.normal ?_
        
        clear hHeld cB hT
        have hr := hWF.refused (idv cx) (idv cy)
        obtain ⟨T', hTT⟩ : ∃ T', T' = T.add (idv cx) (idv cy) := ⟨_, rfl⟩
        obtain ⟨er, her⟩ : ∃ er, er = T.err (idv cx) (idv cy) := ⟨_, rfl⟩
        rw [← hTT, ← her] at hr
        rw [← hTT] at hT8
        rw [← her]
        clear her hTT
        have cB := hB.cell
        rcases hr with ⟨he, hs, hh⟩ | ⟨he, hs⟩
        · have HS := Lib.hid (And.intro hs hh)
          clear hs hh
          subst he
          go_wp2_with (first
            | (go_at_call 29; refine (tsame_any hT8 hT').mono ?_; rw [HS.out.1]; rintro e w9 ⟨rfl, hk9⟩; have hT' := hT'.keep0 hk9; have hB := hB.keep hk9 (by simp); have hKw := hKw.trans hk9; have cB := hB.cell)
            | (go_at_call 11; refine (id_any _ _).mono ?_; rintro e w10 ⟨rfl, hk10⟩; have hT' := hT'.keep0 hk10; have hKw := hKw.trans hk10)
            | (go_at_call 16; refine (height_any hT' (idv cx)).mono ?_; rw [HS.out.2]; rintro e w11 ⟨rfl, hk11⟩; have hKw := hKw.trans hk11))
          go_ret
          exact ⟨rfl, hKw⟩
        · have HS := Lib.hid hs
          have h1 : (er == 0) = false := by simp; exact he
          have h2 : (er != 0) = true := by simp; exact he
          clear hs he
          go_wp2_with (first
            | (go_at_call 29; refine (tsame_any hT8 hT').mono ?_; rw [HS.out]; rintro e w9 ⟨rfl, hk9⟩; have hT' := hT'.keep0 hk9; have hB := hB.keep hk9 (by simp); have hKw := hKw.trans hk9; have cB := hB.cell))
          go_ret
          exact ⟨rfl, hKw⟩
end Go.Proofs.Ytbkchniomhdieaa
