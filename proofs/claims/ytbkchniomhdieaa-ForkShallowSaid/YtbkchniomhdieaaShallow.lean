/- ForkShallow walked. -/
import Derived.Test.YtbkchniomhdieaaShallowLaw
import Derived.Test.YtbkchniomhdieaaTold
import Derived.Test.YtbkchniomhdieaaRd
namespace Go.Proofs.Ytbkchniomhdieaa
open Go.RowKit Go.Bz

@[reducible] def cenc (c : Int × Int) : Array Value := #[.int .u8 c.1, .int .u8 c.2]
@[reducible] def idv (n : Int) : D8 := ⟨n, 1, 0, 0, 0, 0, 0, 0⟩
theorem dep_mod (dep m : Int) (hm : 0 < m) (hm2 : m ≤ 2000) : ∃ n : Int, IntKind.i64.wrap ((IntKind.u64.wrap dep).tmod m) = n ∧ 0 ≤ n ∧ n < m := by
  have h0 : 0 ≤ IntKind.u64.wrap dep := by
    have : IntKind.u64.wrap dep = dep % 18446744073709551616 := by simp [IntKind.wrap, IntKind.bits, IntKind.signed]
    rw [this]; omega
  have h1 : (IntKind.u64.wrap dep).tmod m = (IntKind.u64.wrap dep) % m := Int.tmod_eq_emod_of_nonneg h0
  have h2 := Int.emod_nonneg (IntKind.u64.wrap dep) (Int.ne_of_gt hm)
  have h3 := Int.emod_lt_of_pos (IntKind.u64.wrap dep) hm
  exact ⟨_, rfl, by rw [h1, IntWalk.i64_in _ (by omega)]; exact h2, by rw [h1, IntWalk.i64_in _ (by omega)]; exact h3⟩
/-- The two cells of a Coming, in each world that keeps what there was. -/
theorem coming {w : World} {A : Option Addr} {l : List (Int × Int)} (h : Rd w 2 cenc A l) {k : Nat} (hk : k < l.length) : ∃ ab ao, A = some ⟨ab, ao, none⟩ ∧ ab < w.heap.size ∧ ∃ x y, l[k]? = some (x, y) ∧
    ∀ W, Keep [] w W → W.cell? ⟨ab, ao + k * 2, none⟩ = some (.int .u8 x) ∧ W.cell? ⟨ab, ao + k * 2 + 1, none⟩ = some (.int .u8 y) := by
  have hi : l[k]? = some (l[k].1, l[k].2) := List.getElem?_eq_getElem hk
  obtain ⟨ab, ao, h1, h2, h3⟩ := h.elem hi
  exact ⟨ab, ao, h1, h2, _, _, hi, fun W hW => ⟨h3 W hW 0 (by decide), h3 W hW 1 (by decide)⟩⟩
set_option maxRecDepth 100000 in
set_option maxHeartbeats 2000000 in
theorem shallow_any (dep : Int) (A : Option Addr) (l : List (Int × Int)) (cap : Nat) (w : World) (hlen : l.length ≤ 9223372036854775807) (hR : Rd w 2 cenc A l) :
    Calls Try.prog 3 #[.int .i64 dep, .slice A l.length cap] w (fun e w' => e = .returned (.bool true) ∧ Keep [] w w') := by
  obtain ⟨n, hn, hn0, hn1⟩ := dep_mod dep 8 (by decide) (by decide)
  go_enter Try.func3, Try.ntmps3
  go_wp2_with (first
    | (go_at_call 11; refine (id_any _ _).mono ?_; rintro e w1 ⟨rfl, hk1⟩)
    | (go_at_call 10; refine (new_call _ _ _ hn0 (by omega)).mono ?_; rintro e w2 ⟨t, mb, rfl, ht, hmb, hT, hk2⟩; have hKw := hk1.trans hk2; have ht := Nat.le_trans hk1.size ht; have hmb := Nat.le_trans hk1.size hmb)
    | (go_at_call 12; refine (told_any _).mono ?_; rintro e w3 ⟨rfl, hk3⟩; have hT := hT.keep0 hk3; have hKw := hKw.trans hk3)
    | (go_at_call 13; refine (tip_any hT).mono ?_; rintro e w4 ⟨rfl, hk4⟩; have hT := hT.keep0 hk4; have hKw := hKw.trans hk4))
  have own : ∀ g ∈ [t, mb], w.heap.size ≤ g := by intro g hg; simp at hg; rcases hg with rfl | rfl <;> assumption
  obtain ⟨tb, htb⟩ : ∃ tb, tb = w4.heap.size := ⟨_, rfl⟩
  have hB : Blk (w4.alloc (.cells (dcells (FT.new (idv 0) n).tip) 29)) tb 29 (dcells (FT.new (idv 0) n).tip) := Blk.new_ htb
  have htw : w.heap.size ≤ tb := by have := hKw.size; omega
  clear hn
  go_loopw [9] (fun i wr => ∃ (k : Nat) (T : FT), i = .int .i64 k ∧ k ≤ l.length ∧ TreeAt wr t mb T ∧ T.WF ∧ T.depth = n ∧ Blk wr tb 29 (dcells T.tip) ∧ Keep [] w wr) (fun i _ => l.length - (intOf i).toNat)
  case atStart =>
    exact ⟨0, _, rfl, Nat.zero_le _, hT.alloc _, FT.new_wf _ hn0 (by omega), rfl, hB, hKw.alloc _⟩
  case round =>
    rw [← htb]
    clear htb hB hKw hT
    obtain ⟨k, T, rfl, hk, hT, hWF, hdep, hB, hKw⟩ := hrel
    by_cases hlt : k < l.length
    · by_cases h80 : k < 80
      · obtain ⟨ab, ao, rfl, hab, x, y, hxy, hcl⟩ := coming hR hlt
        go_wp2_with fail
        refine wp_region_noPanic ?_
        refine Bz.wp_region_E (S := (fun w' => w'.cell? ⟨ab, ao + k * 2, none⟩ = some (.int .u8 x) ∧ w'.cell? ⟨ab, ao + k * 2 + 1, none⟩ = some (.int .u8 y))) (E := []) (by kernel_rfl) (by exact hcl _ hKw.drew) (fun hHeld => ?_)
        refine Bz.wpAnyE_take (i := 0) (oi := { dst := some 43, op := Go.Op.move (Go.Operand.tmp 6), type := 24, pos := "law.go:125", after := #[], guard := none }) (v := ?_) rfl (by kernel_rfl) (by kernel_rfl) (by kernel_rfl) (by kernel_rfl) (fun _ _ _ h => h) (Or.inl ⟨by rfl, ?_⟩) hHeld ?_
        rotate_left 1
        · (intro w hSw; (try dsimp only at hSw); go_simp; first | done | with_reducible rfl)
        try simp only [Act.put, List.setIfInBounds_toArray, List.set_cons_zero, List.set_cons_succ]
        refine Bz.wpAnyE_take (i := 1) (oi := { dst := some 44, op := Go.Op.move (Go.Operand.tmp 1), type := 22, pos := "law.go:125", after := #[], guard := none }) (v := ?_) rfl (by kernel_rfl) (by kernel_rfl) (by kernel_rfl) (by kernel_rfl) (fun _ _ _ h => h) (Or.inl ⟨by rfl, ?_⟩) hHeld ?_
        rotate_left 1
        · (intro w hSw; (try dsimp only at hSw); go_simp; first | done | with_reducible rfl)
        try simp only [Act.put, List.setIfInBounds_toArray, List.set_cons_zero, List.set_cons_succ]
        refine Bz.wpAnyE_take (i := 2) (oi := { dst := some 45, op := Go.Op.move (Go.Operand.tmp 9), type := 3, pos := "law.go:125", after := #[], guard := none }) (v := ?_) rfl (by kernel_rfl) (by kernel_rfl) (by kernel_rfl) (by kernel_rfl) (fun _ _ _ h => h) (Or.inl ⟨by rfl, ?_⟩) hHeld ?_
        rotate_left 1
        · (intro w hSw; (try dsimp only at hSw); go_simp; first | done | with_reducible rfl)
        try simp only [Act.put, List.setIfInBounds_toArray, List.set_cons_zero, List.set_cons_succ]
        refine Bz.wpAnyE_take (i := 3) (oi := { dst := some 46, op := Go.Op.indexAddr 22 (Go.Operand.tmp 44) (Go.Operand.tmp 45), type := 0, pos := "law.go:125", after := #[{ on := 1, ground := Go.Ground.data }, { on := 2, ground := Go.Ground.data }], guard := none }) (v := ?_) rfl (by kernel_rfl) (by kernel_rfl) (by kernel_rfl) (by kernel_rfl) (fun _ _ _ h => h) (Or.inl ⟨by rfl, ?_⟩) hHeld ?_
        rotate_left 1
        · (intro w hSw; (try dsimp only at hSw); go_simp; first | done | with_reducible rfl)
        try simp only [Act.put, List.setIfInBounds_toArray, List.set_cons_zero, List.set_cons_succ]
        refine Bz.wpAnyE_take (i := 4) (oi := { dst := some 47, op := Go.Op.fieldAddr 35 (Go.Operand.tmp 46) 0, type := 0, pos := "law.go:125", after := #[{ on := 3, ground := Go.Ground.data }], guard := none }) (v := ?_) rfl (by kernel_rfl) (by kernel_rfl) (by kernel_rfl) (by kernel_rfl) (fun _ _ _ h => h) (Or.inl ⟨by rfl, ?_⟩) hHeld ?_
        rotate_left 1
        · (intro w hSw; (try dsimp only at hSw); go_simp; first | done | with_reducible rfl)
        try simp only [Act.put, List.setIfInBounds_toArray, List.set_cons_zero, List.set_cons_succ]
        refine Bz.wpAnyE_take (i := 5) (oi := { dst := some 48, op := Go.Op.load 5 (Go.Operand.tmp 47), type := 5, pos := "law.go:125", after := #[{ on := 4, ground := Go.Ground.data }], guard := none }) (v := ?_) rfl (by kernel_rfl) (by kernel_rfl) (by kernel_rfl) (by kernel_rfl) (fun _ _ _ h => h) (Or.inl ⟨by rfl, ?_⟩) hHeld ?_
        rotate_left 1
        · (intro w hSw; (try dsimp only at hSw); go_simp; first | done | with_reducible rfl)
        try simp only [Act.put, List.setIfInBounds_toArray, List.set_cons_zero, List.set_cons_succ]
        refine Bz.wpAnyE_take (i := 7) (oi := { dst := some 50, op := Go.Op.move (Go.Operand.tmp 1), type := 22, pos := "law.go:125", after := #[], guard := none }) (v := ?_) rfl (by kernel_rfl) (by kernel_rfl) (by kernel_rfl) (by kernel_rfl) (fun _ _ _ h => h) (Or.inl ⟨by rfl, ?_⟩) hHeld ?_
        rotate_left 1
        · (intro w hSw; (try dsimp only at hSw); go_simp; first | done | with_reducible rfl)
        try simp only [Act.put, List.setIfInBounds_toArray, List.set_cons_zero, List.set_cons_succ]
        refine Bz.wpAnyE_take (i := 8) (oi := { dst := some 51, op := Go.Op.move (Go.Operand.tmp 9), type := 3, pos := "law.go:125", after := #[], guard := none }) (v := ?_) rfl (by kernel_rfl) (by kernel_rfl) (by kernel_rfl) (by kernel_rfl) (fun _ _ _ h => h) (Or.inl ⟨by rfl, ?_⟩) hHeld ?_
        rotate_left 1
        · (intro w hSw; (try dsimp only at hSw); go_simp; first | done | with_reducible rfl)
        try simp only [Act.put, List.setIfInBounds_toArray, List.set_cons_zero, List.set_cons_succ]
        refine Bz.wpAnyE_take (i := 9) (oi := { dst := some 52, op := Go.Op.indexAddr 22 (Go.Operand.tmp 50) (Go.Operand.tmp 51), type := 0, pos := "law.go:125", after := #[{ on := 7, ground := Go.Ground.data }, { on := 8, ground := Go.Ground.data }], guard := none }) (v := ?_) rfl (by kernel_rfl) (by kernel_rfl) (by kernel_rfl) (by kernel_rfl) (fun _ _ _ h => h) (Or.inl ⟨by rfl, ?_⟩) hHeld ?_
        rotate_left 1
        · (intro w hSw; (try dsimp only at hSw); go_simp; first | done | with_reducible rfl)
        try simp only [Act.put, List.setIfInBounds_toArray, List.set_cons_zero, List.set_cons_succ]
        refine Bz.wpAnyE_take (i := 10) (oi := { dst := some 53, op := Go.Op.fieldAddr 35 (Go.Operand.tmp 52) 1, type := 0, pos := "law.go:125", after := #[{ on := 9, ground := Go.Ground.data }], guard := none }) (v := ?_) rfl (by kernel_rfl) (by kernel_rfl) (by kernel_rfl) (by kernel_rfl) (fun _ _ _ h => h) (Or.inl ⟨by rfl, ?_⟩) hHeld ?_
        rotate_left 1
        · (intro w hSw; (try dsimp only at hSw); go_simp; first | done | with_reducible rfl)
        try simp only [Act.put, List.setIfInBounds_toArray, List.set_cons_zero, List.set_cons_succ]
        refine Bz.wpAnyE_take (i := 11) (oi := { dst := some 54, op := Go.Op.load 5 (Go.Operand.tmp 53), type := 5, pos := "law.go:125", after := #[{ on := 10, ground := Go.Ground.data }], guard := none }) (v := ?_) rfl (by kernel_rfl) (by kernel_rfl) (by kernel_rfl) (by kernel_rfl) (fun _ _ _ h => h) (Or.inl ⟨by rfl, ?_⟩) hHeld ?_
        rotate_left 1
        · (intro w hSw; (try dsimp only at hSw); go_simp; first | done | with_reducible rfl)
        try simp only [Act.put, List.setIfInBounds_toArray, List.set_cons_zero, List.set_cons_succ]
        refine Bz.wpAnyE_ready (rs := [6]) (by kernel_rfl) (by simp) ?_
        refine Bz.AllReadyE.cons (o := { dst := some 49, op := Go.Op.call { callee := Go.Callee.value (Go.Operand.func 11), args := #[Go.Operand.tmp 48], argTypes := #[5] }, type := 29, pos := "law.go:125", after := #[{ on := 5, ground := Go.Ground.data }], guard := none }) rfl (fun K hK => ?_) Bz.AllReadyE.nil
        go_simp
        
        refine (id_any _ _).mono ?_
        rintro e w5 ⟨rfl, hk5⟩
        try have hk5 := hk5.undrew
        have hT := hT.keep0 hk5
        have hB := hB.keep hk5 (by simp)
        have hKw := hKw.trans hk5
        refine hK.out _ _ (by exact hcl _ hKw) ?_
        clear hHeld hK K; intro hHeld
        try simp only [Act.put, List.setIfInBounds_toArray, List.set_cons_zero, List.set_cons_succ]
        refine Bz.wpAnyE_ready (rs := [12]) (by kernel_rfl) (by simp) ?_
        refine Bz.AllReadyE.cons (o := { dst := some 55, op := Go.Op.call { callee := Go.Callee.value (Go.Operand.func 11), args := #[Go.Operand.tmp 54], argTypes := #[5] }, type := 29, pos := "law.go:125", after := #[{ on := 11, ground := Go.Ground.data }, { on := 6, ground := Go.Ground.chain }], guard := none }) rfl (fun K hK => ?_) Bz.AllReadyE.nil
        go_simp
        
        refine (id_any _ _).mono ?_
        rintro e w5 ⟨rfl, hk5⟩
        try have hk5 := hk5.undrew
        have hT := hT.keep0 hk5
        have hB := hB.keep hk5 (by simp)
        have hKw := hKw.trans hk5
        refine hK.out _ _ (by exact hcl _ hKw) ?_
        clear hHeld hK K; intro hHeld
        try simp only [Act.put, List.setIfInBounds_toArray, List.set_cons_zero, List.set_cons_succ]
        refine Bz.wpAnyE_ready (rs := [13]) (by kernel_rfl) (by simp) ?_
        refine Bz.AllReadyE.cons (o := { dst := some 56, op := Go.Op.call { callee := Go.Callee.value (Go.Operand.func 14), args := #[Go.Operand.tmp 43, Go.Operand.tmp 49, Go.Operand.tmp 55], argTypes := #[24, 29, 29] }, type := 25, pos := "law.go:125", after := #[{ on := 0, ground := Go.Ground.data }, { on := 6, ground := Go.Ground.data }, { on := 12, ground := Go.Ground.data }, { on := 12, ground := Go.Ground.chain }], guard := none }) rfl (fun K hK => ?_) Bz.AllReadyE.nil
        go_simp
        
        refine (add_any hT hWF (idv x) (idv y)).mono ?_
        rintro e w6 ⟨rfl, hT6, hk6⟩
        have hB := hB.keep hk6 (by simp; exact ⟨fun e => hT.1.ne_ hB (by decide) e.symm, fun e => hT.2.ne_blk hB e.symm⟩)
        have hKw := hKw.own hk6 own
        refine hK.out _ _ (by exact hcl _ hKw) ?_
        clear hHeld hK K; intro hHeld
        try simp only [Act.put, List.setIfInBounds_toArray, List.set_cons_zero, List.set_cons_succ]
        refine Bz.wpAnyE_done (by kernel_rfl) ?_ _
        refine NoPanic.normal ?_
        
        clear hHeld
        have hM := hWF.moved (idv x) (idv y)
        have hWF6 := hWF.add (idv x) (idv y)
        have hd6 : (T.add (idv x) (idv y)).depth = n := by rw [FT.add_depth]; exact hdep
        obtain ⟨T', hT'⟩ : ∃ T', T' = T.add (idv x) (idv y) := ⟨_, rfl⟩
        rw [← hT'] at hT6 hM hWF6 hd6
        clear hT' hcl hxy hT
        go_wp2_with (first
          | (go_at_call 13; refine (tip_any hT6).mono ?_; rintro e w7 ⟨rfl, hk7⟩; have hT := hT6.keep0 hk7; have hB := hB.keep hk7 (by simp); have hKw := hKw.trans hk7))
        obtain ⟨m1, m2, m3⟩ := hM
        obtain ⟨u, hu⟩ : ∃ u, u = (T'.undone T.tip T'.tip).length := ⟨_, rfl⟩
        rw [← hu, hdep] at m1
        obtain ⟨ha, hha⟩ : ∃ a, a = T'.height T.tip := ⟨_, rfl⟩
        obtain ⟨hb, hhb⟩ : ∃ a, a = T'.height T'.tip := ⟨_, rfl⟩
        rw [← hha, ← hhb] at m2 m3
        have g1 : decide (n < (u : Int)) = false := by simp; omega
        have g2 : decide (hb < ha) = false := by simp; omega
        have hab1 : -1 ≤ ha ∧ ha < 4096 := by
          rw [hha]; unfold FT.height; split
          · rename_i hi; have := hWF6.nonneg hi; have := hWF6.size; omega
          · omega
        have gw : IntKind.i64.wrap (ha + 1) = ha + 1 := IntWalk.i64_in _ (by omega)
        clear m1 m2
        have hT7 := (hT.alloc (.cells (dcells T'.tip) 29))
        have hB7 := hB.alloc (.cells (dcells T'.tip) 29)
        have hC7 := Blk.new w7 29 (dcells T'.tip)
        have hKw := hKw.alloc (.cells (dcells T'.tip) 29)
        clear hT hB hT6
        have HH := Lib.hid (And.intro hu (And.intro hha hhb))
        clear hu hha hhb
        obtain ⟨W7, hW7⟩ : ∃ W, W = w7.alloc (.cells (dcells T'.tip) 29) := ⟨_, rfl⟩
        rw [← hW7] at hT7 hB7 hC7 hKw
        simp only [dcells] at hW7
        rw [← hW7]
        obtain ⟨t7, ht7⟩ : ∃ a, a = w7.heap.size := ⟨_, rfl⟩
        rw [← ht7] at hC7
        rw [← ht7]
        clear hW7 ht7
        by_cases heq : T'.tip = T.tip
        · have he1 := fun W => run_eqD8 (P := Try.prog) W dt29 9998 T'.tip T.tip
          rw [decide_eq_true heq] at he1
          have HEQ := Lib.hid heq
          clear heq m3
          refine wp_region_noPanic ?_
          refine Bz.wp_region_E (S := (fun w' => (∀ i, w'.cell? ⟨tb, i, none⟩ = (dcells T.tip)[i]?) ∧ (∀ i, w'.cell? ⟨t7, i, none⟩ = (dcells T'.tip)[i]?))) (E := []) (by kernel_rfl) (by exact ⟨hB7.cell, hC7.cell⟩) (fun hHeld => ?_)
          refine Bz.wpAnyE_take (i := 0) (oi := { dst := some 59, op := Go.Op.move (Go.Operand.tmp 6), type := 24, pos := "law.go:127", after := #[], guard := none }) (v := ?_) rfl (by kernel_rfl) (by kernel_rfl) (by kernel_rfl) (by kernel_rfl) (fun _ _ _ h => h) (Or.inl ⟨by rfl, ?_⟩) hHeld ?_
          rotate_left 1
          · (intro w hSw; (try dsimp only at hSw); go_simp; first | done | with_reducible rfl)
          try simp only [Act.put, List.setIfInBounds_toArray, List.set_cons_zero, List.set_cons_succ]
          refine Bz.wpAnyE_take (i := 1) (oi := { dst := some 60, op := Go.Op.load 29 (Go.Operand.tmp 8), type := 29, pos := "law.go:127", after := #[], guard := none }) (v := ?_) rfl (by kernel_rfl) (by kernel_rfl) (by kernel_rfl) (by kernel_rfl) (fun _ _ _ h => h) (Or.inl ⟨by rfl, ?_⟩) hHeld ?_
          rotate_left 1
          · (intro w hSw; (try dsimp only at hSw); go_simp; first | done | with_reducible rfl)
          try simp only [Act.put, List.setIfInBounds_toArray, List.set_cons_zero, List.set_cons_succ]
          refine Bz.wpAnyE_take (i := 2) (oi := { dst := some 61, op := Go.Op.load 29 (Go.Operand.tmp 10), type := 29, pos := "law.go:127", after := #[], guard := none }) (v := ?_) rfl (by kernel_rfl) (by kernel_rfl) (by kernel_rfl) (by kernel_rfl) (fun _ _ _ h => h) (Or.inl ⟨by rfl, ?_⟩) hHeld ?_
          rotate_left 1
          · (intro w hSw; (try dsimp only at hSw); go_simp; first | done | with_reducible rfl)
          try simp only [Act.put, List.setIfInBounds_toArray, List.set_cons_zero, List.set_cons_succ]
          refine Bz.wpAnyE_take (i := 5) (oi := { dst := some 64, op := Go.Op.move (Go.Operand.tmp 5), type := 3, pos := "law.go:127", after := #[], guard := none }) (v := ?_) rfl (by kernel_rfl) (by kernel_rfl) (by kernel_rfl) (by kernel_rfl) (fun _ _ _ h => h) (Or.inl ⟨by rfl, ?_⟩) hHeld ?_
          rotate_left 1
          · (intro w hSw; (try dsimp only at hSw); go_simp; first | done | with_reducible rfl)
          try simp only [Act.put, List.setIfInBounds_toArray, List.set_cons_zero, List.set_cons_succ]
          refine Bz.wpAnyE_ready (rs := [3]) (by kernel_rfl) (by simp) ?_
          refine Bz.AllReadyE.cons (o := { dst := some 62, op := Go.Op.call { callee := Go.Callee.value (Go.Operand.func 15), args := #[Go.Operand.tmp 59, Go.Operand.tmp 60, Go.Operand.tmp 61], argTypes := #[24, 29, 29] }, type := 36, pos := "law.go:127", after := #[{ on := 0, ground := Go.Ground.data }, { on := 1, ground := Go.Ground.data }, { on := 2, ground := Go.Ground.data }], guard := none }) rfl (fun K hK => ?_) Bz.AllReadyE.nil
          go_simp
          
          refine (undone_call hT7.drew hWF6 _ _).mono ?_
          rintro e w8 ⟨v, rfl, ⟨A8, cap8, rfl, _⟩, hk8⟩
          rw [← HH.out.1]
          try have hk8 := hk8.undrew
          have hT7 := hT7.keep0 hk8
          have hB7 := hB7.keep hk8 (by simp)
          have hC7 := hC7.keep hk8 (by simp)
          have hKw := hKw.trans hk8
          refine hK.out _ _ (by exact ⟨hB7.cell, hC7.cell⟩) ?_
          clear hHeld hK K; intro hHeld
          try simp only [Act.put, List.setIfInBounds_toArray, List.set_cons_zero, List.set_cons_succ]
          refine Bz.wpAnyE_take (i := 4) (oi := { dst := some 63, op := Go.Op.call { callee := Go.Callee.builtin Go.Builtin.len, args := #[Go.Operand.tmp 62], argTypes := #[36] }, type := 3, pos := "law.go:127", after := #[{ on := 3, ground := Go.Ground.data }], guard := none }) (v := ?_) rfl (by kernel_rfl) (by kernel_rfl) (by kernel_rfl) (by kernel_rfl) (fun _ _ _ h => h) (Or.inl ⟨by rfl, ?_⟩) hHeld ?_
          rotate_left 1
          · (intro w hSw; (try dsimp only at hSw); go_simp; first | done | with_reducible rfl)
          try simp only [Act.put, List.setIfInBounds_toArray, List.set_cons_zero, List.set_cons_succ]
          refine Bz.wpAnyE_take (i := 6) (oi := { dst := some 65, op := Go.Op.binOp Go.BinOp.gtr 3 (Go.Operand.tmp 63) (Go.Operand.tmp 64) 3, type := 4, pos := "law.go:127", after := #[{ on := 4, ground := Go.Ground.data }, { on := 5, ground := Go.Ground.data }], guard := none }) (v := ?_) rfl (by kernel_rfl) (by kernel_rfl) (by kernel_rfl) (by kernel_rfl) (fun _ _ _ h => h) (Or.inl ⟨by rfl, ?_⟩) hHeld ?_
          rotate_left 1
          · (intro w hSw; (try dsimp only at hSw); go_simp; first | done | with_reducible rfl)
          try simp only [Act.put, List.setIfInBounds_toArray, List.set_cons_zero, List.set_cons_succ]
          refine Bz.wpAnyE_take (i := 7) (oi := { dst := some 66, op := Go.Op.move (Go.Operand.tmp 65), type := 4, pos := "law.go:127", after := #[{ on := 6, ground := Go.Ground.data }, { on := 3, ground := Go.Ground.chain }], guard := none }) (v := ?_) rfl (by kernel_rfl) (by kernel_rfl) (by kernel_rfl) (by kernel_rfl) (fun _ _ _ h => h) (Or.inl ⟨by rfl, ?_⟩) hHeld ?_
          rotate_left 1
          · (intro w hSw; (try dsimp only at hSw); go_simp; first | done | with_reducible rfl)
          try simp only [Act.put, List.setIfInBounds_toArray, List.set_cons_zero, List.set_cons_succ]
          refine Bz.wpAnyE_take (i := 8) (oi := { dst := some 67, op := Go.Op.move (Go.Operand.tmp 6), type := 24, pos := "law.go:127", after := #[{ on := 7, ground := Go.Ground.guard }], guard := some (7, false) }) (v := ?_) rfl (by kernel_rfl) (by kernel_rfl) (by kernel_rfl) (by kernel_rfl) (fun _ _ _ h => h) (Or.inl ⟨by rfl, ?_⟩) hHeld ?_
          rotate_left 1
          · (intro w hSw; (try dsimp only at hSw); go_simp; first | done | with_reducible rfl)
          try simp only [Act.put, List.setIfInBounds_toArray, List.set_cons_zero, List.set_cons_succ]
          refine Bz.wpAnyE_take (i := 9) (oi := { dst := some 68, op := Go.Op.load 29 (Go.Operand.tmp 10), type := 29, pos := "law.go:127", after := #[{ on := 7, ground := Go.Ground.guard }], guard := some (7, false) }) (v := ?_) rfl (by kernel_rfl) (by kernel_rfl) (by kernel_rfl) (by kernel_rfl) (fun _ _ _ h => h) (Or.inl ⟨by rfl, ?_⟩) hHeld ?_
          rotate_left 1
          · (intro w hSw; (try dsimp only at hSw); go_simp; first | done | with_reducible rfl)
          try simp only [Act.put, List.setIfInBounds_toArray, List.set_cons_zero, List.set_cons_succ]
          refine Bz.wpAnyE_take (i := 11) (oi := { dst := some 70, op := Go.Op.move (Go.Operand.tmp 6), type := 24, pos := "law.go:127", after := #[{ on := 7, ground := Go.Ground.guard }], guard := some (7, false) }) (v := ?_) rfl (by kernel_rfl) (by kernel_rfl) (by kernel_rfl) (by kernel_rfl) (fun _ _ _ h => h) (Or.inl ⟨by rfl, ?_⟩) hHeld ?_
          rotate_left 1
          · (intro w hSw; (try dsimp only at hSw); go_simp; first | done | with_reducible rfl)
          try simp only [Act.put, List.setIfInBounds_toArray, List.set_cons_zero, List.set_cons_succ]
          refine Bz.wpAnyE_take (i := 12) (oi := { dst := some 71, op := Go.Op.load 29 (Go.Operand.tmp 8), type := 29, pos := "law.go:127", after := #[{ on := 7, ground := Go.Ground.guard }], guard := some (7, false) }) (v := ?_) rfl (by kernel_rfl) (by kernel_rfl) (by kernel_rfl) (by kernel_rfl) (fun _ _ _ h => h) (Or.inl ⟨by rfl, ?_⟩) hHeld ?_
          rotate_left 1
          · (intro w hSw; (try dsimp only at hSw); go_simp; first | done | with_reducible rfl)
          try simp only [Act.put, List.setIfInBounds_toArray, List.set_cons_zero, List.set_cons_succ]
          refine Bz.wpAnyE_ready (rs := [10]) (by kernel_rfl) (by simp) ?_
          refine Bz.AllReadyE.cons (o := { dst := some 69, op := Go.Op.call { callee := Go.Callee.value (Go.Operand.func 16), args := #[Go.Operand.tmp 67, Go.Operand.tmp 68], argTypes := #[24, 29] }, type := 3, pos := "law.go:127", after := #[{ on := 8, ground := Go.Ground.data }, { on := 9, ground := Go.Ground.data }, { on := 7, ground := Go.Ground.chain }, { on := 7, ground := Go.Ground.guard }], guard := some (7, false) }) rfl (fun K hK => ?_) Bz.AllReadyE.nil
          go_simp
          
          refine (height_any hT7 _).mono ?_
          first | rw [← HH.out.2.1] | rw [← HH.out.2.2]
          rintro e w8 ⟨rfl, hk8⟩
          have hT7 := hT7.keep0 hk8
          have hB7 := hB7.keep hk8 (by simp)
          have hC7 := hC7.keep hk8 (by simp)
          have hKw := hKw.trans hk8
          refine hK.out _ _ (by exact ⟨hB7.cell, hC7.cell⟩) ?_
          clear hHeld hK K; intro hHeld
          try simp only [Act.put, List.setIfInBounds_toArray, List.set_cons_zero, List.set_cons_succ]
          refine Bz.wpAnyE_ready (rs := [13]) (by kernel_rfl) (by simp) ?_
          refine Bz.AllReadyE.cons (o := { dst := some 72, op := Go.Op.call { callee := Go.Callee.value (Go.Operand.func 16), args := #[Go.Operand.tmp 70, Go.Operand.tmp 71], argTypes := #[24, 29] }, type := 3, pos := "law.go:127", after := #[{ on := 11, ground := Go.Ground.data }, { on := 12, ground := Go.Ground.data }, { on := 10, ground := Go.Ground.chain }, { on := 7, ground := Go.Ground.guard }], guard := some (7, false) }) rfl (fun K hK => ?_) Bz.AllReadyE.nil
          go_simp
          
          refine (height_any hT7 _).mono ?_
          first | rw [← HH.out.2.1] | rw [← HH.out.2.2]
          rintro e w8 ⟨rfl, hk8⟩
          have hT7 := hT7.keep0 hk8
          have hB7 := hB7.keep hk8 (by simp)
          have hC7 := hC7.keep hk8 (by simp)
          have hKw := hKw.trans hk8
          refine hK.out _ _ (by exact ⟨hB7.cell, hC7.cell⟩) ?_
          clear hHeld hK K; intro hHeld
          try simp only [Act.put, List.setIfInBounds_toArray, List.set_cons_zero, List.set_cons_succ]
          refine Bz.wpAnyE_take (i := 14) (oi := { dst := some 73, op := Go.Op.binOp Go.BinOp.lss 3 (Go.Operand.tmp 69) (Go.Operand.tmp 72) 3, type := 4, pos := "law.go:127", after := #[{ on := 10, ground := Go.Ground.data }, { on := 13, ground := Go.Ground.data }, { on := 7, ground := Go.Ground.guard }], guard := some (7, false) }) (v := ?_) rfl (by kernel_rfl) (by kernel_rfl) (by kernel_rfl) (by kernel_rfl) (fun _ _ _ h => h) (Or.inl ⟨by rfl, ?_⟩) hHeld ?_
          rotate_left 1
          · (intro w hSw; (try dsimp only at hSw); go_simp; first | done | with_reducible rfl)
          try simp only [Act.put, List.setIfInBounds_toArray, List.set_cons_zero, List.set_cons_succ]
          refine Bz.wpAnyE_take (i := 15) (oi := { dst := some 74, op := Go.Op.pick (Go.Operand.tmp 66) (Go.Operand.const (Go.Value.bool true)) (Go.Operand.tmp 73), type := 4, pos := "law.go:127", after := #[{ on := 7, ground := Go.Ground.data }, { on := 14, ground := Go.Ground.data }], guard := none }) (v := ?_) rfl (by kernel_rfl) (by kernel_rfl) (by kernel_rfl) (by kernel_rfl) (fun _ _ _ h => h) (Or.inl ⟨by rfl, ?_⟩) hHeld ?_
          rotate_left 1
          · (intro w hSw; (try dsimp only at hSw); go_simp; first | done | with_reducible rfl)
          try simp only [Act.put, List.setIfInBounds_toArray, List.set_cons_zero, List.set_cons_succ]
          refine Bz.wpAnyE_take (i := 16) (oi := { dst := some 75, op := Go.Op.move (Go.Operand.tmp 74), type := 4, pos := "law.go:127", after := #[{ on := 15, ground := Go.Ground.data }, { on := 13, ground := Go.Ground.chain }], guard := none }) (v := ?_) rfl (by kernel_rfl) (by kernel_rfl) (by kernel_rfl) (by kernel_rfl) (fun _ _ _ h => h) (Or.inl ⟨by rfl, ?_⟩) hHeld ?_
          rotate_left 1
          · (intro w hSw; (try dsimp only at hSw); go_simp; first | done | with_reducible rfl)
          try simp only [Act.put, List.setIfInBounds_toArray, List.set_cons_zero, List.set_cons_succ]
          refine Bz.wpAnyE_take (i := 17) (oi := { dst := some 76, op := Go.Op.load 29 (Go.Operand.tmp 10), type := 29, pos := "law.go:127", after := #[{ on := 16, ground := Go.Ground.guard }], guard := some (16, false) }) (v := ?_) rfl (by kernel_rfl) (by kernel_rfl) (by kernel_rfl) (by kernel_rfl) (fun _ _ _ h => h) (Or.inl ⟨by rfl, ?_⟩) hHeld ?_
          rotate_left 1
          · (intro w hSw; (try dsimp only at hSw); go_simp; first | done | with_reducible rfl)
          try simp only [Act.put, List.setIfInBounds_toArray, List.set_cons_zero, List.set_cons_succ]
          refine Bz.wpAnyE_take (i := 18) (oi := { dst := some 77, op := Go.Op.load 29 (Go.Operand.tmp 8), type := 29, pos := "law.go:127", after := #[{ on := 16, ground := Go.Ground.guard }], guard := some (16, false) }) (v := ?_) rfl (by kernel_rfl) (by kernel_rfl) (by kernel_rfl) (by kernel_rfl) (fun _ _ _ h => h) (Or.inl ⟨by rfl, ?_⟩) hHeld ?_
          rotate_left 1
          · (intro w hSw; (try dsimp only at hSw); go_simp; first | done | with_reducible rfl)
          try simp only [Act.put, List.setIfInBounds_toArray, List.set_cons_zero, List.set_cons_succ]
          refine Bz.wpAnyE_take (i := 19) (oi := { dst := some 78, op := Go.Op.binOp Go.BinOp.neq 29 (Go.Operand.tmp 76) (Go.Operand.tmp 77) 29, type := 4, pos := "law.go:127", after := #[{ on := 17, ground := Go.Ground.data }, { on := 18, ground := Go.Ground.data }, { on := 16, ground := Go.Ground.guard }], guard := some (16, false) }) (v := ?_) rfl (by kernel_rfl) (by kernel_rfl) (by kernel_rfl) (by kernel_rfl) (fun _ _ _ h => h) (Or.inl ⟨by rfl, ?_⟩) hHeld ?_
          rotate_left 1
          · (intro w hSw; (try dsimp only at hSw); go_simp; first | done | with_reducible rfl)
          try simp only [Act.put, List.setIfInBounds_toArray, List.set_cons_zero, List.set_cons_succ]
          refine Bz.wpAnyE_take (i := 20) (oi := { dst := some 79, op := Go.Op.move (Go.Operand.tmp 78), type := 4, pos := "law.go:127", after := #[{ on := 19, ground := Go.Ground.data }, { on := 16, ground := Go.Ground.chain }, { on := 16, ground := Go.Ground.guard }], guard := some (16, false) }) (v := ?_) rfl (by kernel_rfl) (by kernel_rfl) (by kernel_rfl) (by kernel_rfl) (fun _ _ _ h => h) (Or.inl ⟨by rfl, ?_⟩) hHeld ?_
          rotate_left 1
          · (intro w hSw; (try dsimp only at hSw); go_simp; first | done | with_reducible rfl)
          try simp only [Act.put, List.setIfInBounds_toArray, List.set_cons_zero, List.set_cons_succ]
          refine Bz.wpAnyE_take (i := 21) (oi := { dst := some 80, op := Go.Op.move (Go.Operand.tmp 6), type := 24, pos := "law.go:127", after := #[{ on := 20, ground := Go.Ground.guard }], guard := some (20, true) }) (v := undef) rfl (by kernel_rfl) (by kernel_rfl) (by kernel_rfl) (by kernel_rfl) (fun _ _ _ h => h) (Or.inr ⟨by rfl, rfl⟩) hHeld ?_
          try simp only [Act.put, List.setIfInBounds_toArray, List.set_cons_zero, List.set_cons_succ]
          refine Bz.wpAnyE_take (i := 22) (oi := { dst := some 81, op := Go.Op.load 29 (Go.Operand.tmp 10), type := 29, pos := "law.go:127", after := #[{ on := 20, ground := Go.Ground.guard }], guard := some (20, true) }) (v := undef) rfl (by kernel_rfl) (by kernel_rfl) (by kernel_rfl) (by kernel_rfl) (fun _ _ _ h => h) (Or.inr ⟨by rfl, rfl⟩) hHeld ?_
          try simp only [Act.put, List.setIfInBounds_toArray, List.set_cons_zero, List.set_cons_succ]
          refine Bz.wpAnyE_take (i := 23) (oi := { dst := some 82, op := Go.Op.call { callee := Go.Callee.value (Go.Operand.func 16), args := #[Go.Operand.tmp 80, Go.Operand.tmp 81], argTypes := #[24, 29] }, type := 3, pos := "law.go:127", after := #[{ on := 21, ground := Go.Ground.data }, { on := 22, ground := Go.Ground.data }, { on := 20, ground := Go.Ground.chain }, { on := 20, ground := Go.Ground.guard }], guard := some (20, true) }) (v := undef) rfl (by kernel_rfl) (by kernel_rfl) (by kernel_rfl) (by kernel_rfl) (fun _ _ _ h => h) (Or.inr ⟨by rfl, rfl⟩) hHeld ?_
          try simp only [Act.put, List.setIfInBounds_toArray, List.set_cons_zero, List.set_cons_succ]
          refine Bz.wpAnyE_take (i := 24) (oi := { dst := some 83, op := Go.Op.move (Go.Operand.tmp 6), type := 24, pos := "law.go:127", after := #[{ on := 20, ground := Go.Ground.guard }], guard := some (20, true) }) (v := undef) rfl (by kernel_rfl) (by kernel_rfl) (by kernel_rfl) (by kernel_rfl) (fun _ _ _ h => h) (Or.inr ⟨by rfl, rfl⟩) hHeld ?_
          try simp only [Act.put, List.setIfInBounds_toArray, List.set_cons_zero, List.set_cons_succ]
          refine Bz.wpAnyE_take (i := 25) (oi := { dst := some 84, op := Go.Op.load 29 (Go.Operand.tmp 8), type := 29, pos := "law.go:127", after := #[{ on := 20, ground := Go.Ground.guard }], guard := some (20, true) }) (v := undef) rfl (by kernel_rfl) (by kernel_rfl) (by kernel_rfl) (by kernel_rfl) (fun _ _ _ h => h) (Or.inr ⟨by rfl, rfl⟩) hHeld ?_
          try simp only [Act.put, List.setIfInBounds_toArray, List.set_cons_zero, List.set_cons_succ]
          refine Bz.wpAnyE_take (i := 26) (oi := { dst := some 85, op := Go.Op.call { callee := Go.Callee.value (Go.Operand.func 16), args := #[Go.Operand.tmp 83, Go.Operand.tmp 84], argTypes := #[24, 29] }, type := 3, pos := "law.go:127", after := #[{ on := 24, ground := Go.Ground.data }, { on := 25, ground := Go.Ground.data }, { on := 23, ground := Go.Ground.chain }, { on := 20, ground := Go.Ground.guard }], guard := some (20, true) }) (v := undef) rfl (by kernel_rfl) (by kernel_rfl) (by kernel_rfl) (by kernel_rfl) (fun _ _ _ h => h) (Or.inr ⟨by rfl, rfl⟩) hHeld ?_
          try simp only [Act.put, List.setIfInBounds_toArray, List.set_cons_zero, List.set_cons_succ]
          refine Bz.wpAnyE_take (i := 27) (oi := { dst := some 86, op := Go.Op.binOp Go.BinOp.add 3 (Go.Operand.tmp 85) (Go.Operand.const (Go.Value.int Go.IntKind.i64 1)) 3, type := 3, pos := "law.go:127", after := #[{ on := 26, ground := Go.Ground.data }, { on := 20, ground := Go.Ground.guard }], guard := some (20, true) }) (v := undef) rfl (by kernel_rfl) (by kernel_rfl) (by kernel_rfl) (by kernel_rfl) (fun _ _ _ h => h) (Or.inr ⟨by rfl, rfl⟩) hHeld ?_
          try simp only [Act.put, List.setIfInBounds_toArray, List.set_cons_zero, List.set_cons_succ]
          refine Bz.wpAnyE_take (i := 28) (oi := { dst := some 87, op := Go.Op.binOp Go.BinOp.neq 3 (Go.Operand.tmp 82) (Go.Operand.tmp 86) 3, type := 4, pos := "law.go:127", after := #[{ on := 23, ground := Go.Ground.data }, { on := 27, ground := Go.Ground.data }, { on := 20, ground := Go.Ground.guard }], guard := some (20, true) }) (v := undef) rfl (by kernel_rfl) (by kernel_rfl) (by kernel_rfl) (by kernel_rfl) (fun _ _ _ h => h) (Or.inr ⟨by rfl, rfl⟩) hHeld ?_
          try simp only [Act.put, List.setIfInBounds_toArray, List.set_cons_zero, List.set_cons_succ]
          refine Bz.wpAnyE_take (i := 29) (oi := { dst := some 88, op := Go.Op.pick (Go.Operand.tmp 79) (Go.Operand.tmp 87) (Go.Operand.const (Go.Value.bool false)), type := 4, pos := "law.go:127", after := #[{ on := 20, ground := Go.Ground.data }, { on := 28, ground := Go.Ground.data }, { on := 16, ground := Go.Ground.guard }], guard := some (16, false) }) (v := ?_) rfl (by kernel_rfl) (by kernel_rfl) (by kernel_rfl) (by kernel_rfl) (fun _ _ _ h => h) (Or.inl ⟨by rfl, ?_⟩) hHeld ?_
          rotate_left 1
          · (intro w hSw; (try dsimp only at hSw); go_simp; first | done | with_reducible rfl)
          try simp only [Act.put, List.setIfInBounds_toArray, List.set_cons_zero, List.set_cons_succ]
          refine Bz.wpAnyE_take (i := 30) (oi := { dst := some 89, op := Go.Op.pick (Go.Operand.tmp 75) (Go.Operand.const (Go.Value.bool true)) (Go.Operand.tmp 88), type := 4, pos := "law.go:127", after := #[{ on := 16, ground := Go.Ground.data }, { on := 29, ground := Go.Ground.data }], guard := none }) (v := ?_) rfl (by kernel_rfl) (by kernel_rfl) (by kernel_rfl) (by kernel_rfl) (fun _ _ _ h => h) (Or.inl ⟨by rfl, ?_⟩) hHeld ?_
          rotate_left 1
          · (intro w hSw; (try dsimp only at hSw); go_simp; first | done | with_reducible rfl)
          try simp only [Act.put, List.setIfInBounds_toArray, List.set_cons_zero, List.set_cons_succ]
          refine Bz.wpAnyE_done (by kernel_rfl) ?_ _
          refine NoPanic.normal ?_
          
          clear hHeld
          obtain ⟨f1, f2⟩ := And.intro hB7.cell hB7.frozen
          have hc7 := hC7.cell
          have hK8 := hKw.put8 (g := tb) (.inr htw) T'.tip
          have hB8 := hB7.put8 T'.tip
          have hT8 := hT7.keep ((Keep.refl [tb] w8).put8 (g := tb) (by simp) T'.tip) (by simp; exact fun e => hT7.1.ne_ hB7 (by decide) e) (by simp; exact fun e => hT7.2.ne_blk hB7 e)
          go_wp2
          go_roundw
          · exact ⟨k + 1, T', by go_num, by omega, hT8, hWF6, hd6, hB8, hK8⟩
          · simp only [intOf]; omega
        · have he1 := fun W => run_eqD8 (P := Try.prog) W dt29 9998 T'.tip T.tip
          rw [decide_eq_false heq] at he1
          have m3 := m3 heq
          have g3 : (hb != ha + 1) = false := by simp [m3]
          clear heq m3
          refine wp_region_noPanic ?_
          refine Bz.wp_region_E (S := (fun w' => (∀ i, w'.cell? ⟨tb, i, none⟩ = (dcells T.tip)[i]?) ∧ (∀ i, w'.cell? ⟨t7, i, none⟩ = (dcells T'.tip)[i]?))) (E := []) (by kernel_rfl) (by exact ⟨hB7.cell, hC7.cell⟩) (fun hHeld => ?_)
          refine Bz.wpAnyE_take (i := 0) (oi := { dst := some 59, op := Go.Op.move (Go.Operand.tmp 6), type := 24, pos := "law.go:127", after := #[], guard := none }) (v := ?_) rfl (by kernel_rfl) (by kernel_rfl) (by kernel_rfl) (by kernel_rfl) (fun _ _ _ h => h) (Or.inl ⟨by rfl, ?_⟩) hHeld ?_
          rotate_left 1
          · (intro w hSw; (try dsimp only at hSw); go_simp; first | done | with_reducible rfl)
          try simp only [Act.put, List.setIfInBounds_toArray, List.set_cons_zero, List.set_cons_succ]
          refine Bz.wpAnyE_take (i := 1) (oi := { dst := some 60, op := Go.Op.load 29 (Go.Operand.tmp 8), type := 29, pos := "law.go:127", after := #[], guard := none }) (v := ?_) rfl (by kernel_rfl) (by kernel_rfl) (by kernel_rfl) (by kernel_rfl) (fun _ _ _ h => h) (Or.inl ⟨by rfl, ?_⟩) hHeld ?_
          rotate_left 1
          · (intro w hSw; (try dsimp only at hSw); go_simp; first | done | with_reducible rfl)
          try simp only [Act.put, List.setIfInBounds_toArray, List.set_cons_zero, List.set_cons_succ]
          refine Bz.wpAnyE_take (i := 2) (oi := { dst := some 61, op := Go.Op.load 29 (Go.Operand.tmp 10), type := 29, pos := "law.go:127", after := #[], guard := none }) (v := ?_) rfl (by kernel_rfl) (by kernel_rfl) (by kernel_rfl) (by kernel_rfl) (fun _ _ _ h => h) (Or.inl ⟨by rfl, ?_⟩) hHeld ?_
          rotate_left 1
          · (intro w hSw; (try dsimp only at hSw); go_simp; first | done | with_reducible rfl)
          try simp only [Act.put, List.setIfInBounds_toArray, List.set_cons_zero, List.set_cons_succ]
          refine Bz.wpAnyE_take (i := 5) (oi := { dst := some 64, op := Go.Op.move (Go.Operand.tmp 5), type := 3, pos := "law.go:127", after := #[], guard := none }) (v := ?_) rfl (by kernel_rfl) (by kernel_rfl) (by kernel_rfl) (by kernel_rfl) (fun _ _ _ h => h) (Or.inl ⟨by rfl, ?_⟩) hHeld ?_
          rotate_left 1
          · (intro w hSw; (try dsimp only at hSw); go_simp; first | done | with_reducible rfl)
          try simp only [Act.put, List.setIfInBounds_toArray, List.set_cons_zero, List.set_cons_succ]
          refine Bz.wpAnyE_ready (rs := [3]) (by kernel_rfl) (by simp) ?_
          refine Bz.AllReadyE.cons (o := { dst := some 62, op := Go.Op.call { callee := Go.Callee.value (Go.Operand.func 15), args := #[Go.Operand.tmp 59, Go.Operand.tmp 60, Go.Operand.tmp 61], argTypes := #[24, 29, 29] }, type := 36, pos := "law.go:127", after := #[{ on := 0, ground := Go.Ground.data }, { on := 1, ground := Go.Ground.data }, { on := 2, ground := Go.Ground.data }], guard := none }) rfl (fun K hK => ?_) Bz.AllReadyE.nil
          go_simp
          
          refine (undone_call hT7.drew hWF6 _ _).mono ?_
          rintro e w8 ⟨v, rfl, ⟨A8, cap8, rfl, _⟩, hk8⟩
          rw [← HH.out.1]
          try have hk8 := hk8.undrew
          have hT7 := hT7.keep0 hk8
          have hB7 := hB7.keep hk8 (by simp)
          have hC7 := hC7.keep hk8 (by simp)
          have hKw := hKw.trans hk8
          refine hK.out _ _ (by exact ⟨hB7.cell, hC7.cell⟩) ?_
          clear hHeld hK K; intro hHeld
          try simp only [Act.put, List.setIfInBounds_toArray, List.set_cons_zero, List.set_cons_succ]
          refine Bz.wpAnyE_take (i := 4) (oi := { dst := some 63, op := Go.Op.call { callee := Go.Callee.builtin Go.Builtin.len, args := #[Go.Operand.tmp 62], argTypes := #[36] }, type := 3, pos := "law.go:127", after := #[{ on := 3, ground := Go.Ground.data }], guard := none }) (v := ?_) rfl (by kernel_rfl) (by kernel_rfl) (by kernel_rfl) (by kernel_rfl) (fun _ _ _ h => h) (Or.inl ⟨by rfl, ?_⟩) hHeld ?_
          rotate_left 1
          · (intro w hSw; (try dsimp only at hSw); go_simp; first | done | with_reducible rfl)
          try simp only [Act.put, List.setIfInBounds_toArray, List.set_cons_zero, List.set_cons_succ]
          refine Bz.wpAnyE_take (i := 6) (oi := { dst := some 65, op := Go.Op.binOp Go.BinOp.gtr 3 (Go.Operand.tmp 63) (Go.Operand.tmp 64) 3, type := 4, pos := "law.go:127", after := #[{ on := 4, ground := Go.Ground.data }, { on := 5, ground := Go.Ground.data }], guard := none }) (v := ?_) rfl (by kernel_rfl) (by kernel_rfl) (by kernel_rfl) (by kernel_rfl) (fun _ _ _ h => h) (Or.inl ⟨by rfl, ?_⟩) hHeld ?_
          rotate_left 1
          · (intro w hSw; (try dsimp only at hSw); go_simp; first | done | with_reducible rfl)
          try simp only [Act.put, List.setIfInBounds_toArray, List.set_cons_zero, List.set_cons_succ]
          refine Bz.wpAnyE_take (i := 7) (oi := { dst := some 66, op := Go.Op.move (Go.Operand.tmp 65), type := 4, pos := "law.go:127", after := #[{ on := 6, ground := Go.Ground.data }, { on := 3, ground := Go.Ground.chain }], guard := none }) (v := ?_) rfl (by kernel_rfl) (by kernel_rfl) (by kernel_rfl) (by kernel_rfl) (fun _ _ _ h => h) (Or.inl ⟨by rfl, ?_⟩) hHeld ?_
          rotate_left 1
          · (intro w hSw; (try dsimp only at hSw); go_simp; first | done | with_reducible rfl)
          try simp only [Act.put, List.setIfInBounds_toArray, List.set_cons_zero, List.set_cons_succ]
          refine Bz.wpAnyE_take (i := 8) (oi := { dst := some 67, op := Go.Op.move (Go.Operand.tmp 6), type := 24, pos := "law.go:127", after := #[{ on := 7, ground := Go.Ground.guard }], guard := some (7, false) }) (v := ?_) rfl (by kernel_rfl) (by kernel_rfl) (by kernel_rfl) (by kernel_rfl) (fun _ _ _ h => h) (Or.inl ⟨by rfl, ?_⟩) hHeld ?_
          rotate_left 1
          · (intro w hSw; (try dsimp only at hSw); go_simp; first | done | with_reducible rfl)
          try simp only [Act.put, List.setIfInBounds_toArray, List.set_cons_zero, List.set_cons_succ]
          refine Bz.wpAnyE_take (i := 9) (oi := { dst := some 68, op := Go.Op.load 29 (Go.Operand.tmp 10), type := 29, pos := "law.go:127", after := #[{ on := 7, ground := Go.Ground.guard }], guard := some (7, false) }) (v := ?_) rfl (by kernel_rfl) (by kernel_rfl) (by kernel_rfl) (by kernel_rfl) (fun _ _ _ h => h) (Or.inl ⟨by rfl, ?_⟩) hHeld ?_
          rotate_left 1
          · (intro w hSw; (try dsimp only at hSw); go_simp; first | done | with_reducible rfl)
          try simp only [Act.put, List.setIfInBounds_toArray, List.set_cons_zero, List.set_cons_succ]
          refine Bz.wpAnyE_take (i := 11) (oi := { dst := some 70, op := Go.Op.move (Go.Operand.tmp 6), type := 24, pos := "law.go:127", after := #[{ on := 7, ground := Go.Ground.guard }], guard := some (7, false) }) (v := ?_) rfl (by kernel_rfl) (by kernel_rfl) (by kernel_rfl) (by kernel_rfl) (fun _ _ _ h => h) (Or.inl ⟨by rfl, ?_⟩) hHeld ?_
          rotate_left 1
          · (intro w hSw; (try dsimp only at hSw); go_simp; first | done | with_reducible rfl)
          try simp only [Act.put, List.setIfInBounds_toArray, List.set_cons_zero, List.set_cons_succ]
          refine Bz.wpAnyE_take (i := 12) (oi := { dst := some 71, op := Go.Op.load 29 (Go.Operand.tmp 8), type := 29, pos := "law.go:127", after := #[{ on := 7, ground := Go.Ground.guard }], guard := some (7, false) }) (v := ?_) rfl (by kernel_rfl) (by kernel_rfl) (by kernel_rfl) (by kernel_rfl) (fun _ _ _ h => h) (Or.inl ⟨by rfl, ?_⟩) hHeld ?_
          rotate_left 1
          · (intro w hSw; (try dsimp only at hSw); go_simp; first | done | with_reducible rfl)
          try simp only [Act.put, List.setIfInBounds_toArray, List.set_cons_zero, List.set_cons_succ]
          refine Bz.wpAnyE_ready (rs := [10]) (by kernel_rfl) (by simp) ?_
          refine Bz.AllReadyE.cons (o := { dst := some 69, op := Go.Op.call { callee := Go.Callee.value (Go.Operand.func 16), args := #[Go.Operand.tmp 67, Go.Operand.tmp 68], argTypes := #[24, 29] }, type := 3, pos := "law.go:127", after := #[{ on := 8, ground := Go.Ground.data }, { on := 9, ground := Go.Ground.data }, { on := 7, ground := Go.Ground.chain }, { on := 7, ground := Go.Ground.guard }], guard := some (7, false) }) rfl (fun K hK => ?_) Bz.AllReadyE.nil
          go_simp
          
          refine (height_any hT7 _).mono ?_
          first | rw [← HH.out.2.1] | rw [← HH.out.2.2]
          rintro e w8 ⟨rfl, hk8⟩
          have hT7 := hT7.keep0 hk8
          have hB7 := hB7.keep hk8 (by simp)
          have hC7 := hC7.keep hk8 (by simp)
          have hKw := hKw.trans hk8
          refine hK.out _ _ (by exact ⟨hB7.cell, hC7.cell⟩) ?_
          clear hHeld hK K; intro hHeld
          try simp only [Act.put, List.setIfInBounds_toArray, List.set_cons_zero, List.set_cons_succ]
          refine Bz.wpAnyE_ready (rs := [13]) (by kernel_rfl) (by simp) ?_
          refine Bz.AllReadyE.cons (o := { dst := some 72, op := Go.Op.call { callee := Go.Callee.value (Go.Operand.func 16), args := #[Go.Operand.tmp 70, Go.Operand.tmp 71], argTypes := #[24, 29] }, type := 3, pos := "law.go:127", after := #[{ on := 11, ground := Go.Ground.data }, { on := 12, ground := Go.Ground.data }, { on := 10, ground := Go.Ground.chain }, { on := 7, ground := Go.Ground.guard }], guard := some (7, false) }) rfl (fun K hK => ?_) Bz.AllReadyE.nil
          go_simp
          
          refine (height_any hT7 _).mono ?_
          first | rw [← HH.out.2.1] | rw [← HH.out.2.2]
          rintro e w8 ⟨rfl, hk8⟩
          have hT7 := hT7.keep0 hk8
          have hB7 := hB7.keep hk8 (by simp)
          have hC7 := hC7.keep hk8 (by simp)
          have hKw := hKw.trans hk8
          refine hK.out _ _ (by exact ⟨hB7.cell, hC7.cell⟩) ?_
          clear hHeld hK K; intro hHeld
          try simp only [Act.put, List.setIfInBounds_toArray, List.set_cons_zero, List.set_cons_succ]
          refine Bz.wpAnyE_take (i := 14) (oi := { dst := some 73, op := Go.Op.binOp Go.BinOp.lss 3 (Go.Operand.tmp 69) (Go.Operand.tmp 72) 3, type := 4, pos := "law.go:127", after := #[{ on := 10, ground := Go.Ground.data }, { on := 13, ground := Go.Ground.data }, { on := 7, ground := Go.Ground.guard }], guard := some (7, false) }) (v := ?_) rfl (by kernel_rfl) (by kernel_rfl) (by kernel_rfl) (by kernel_rfl) (fun _ _ _ h => h) (Or.inl ⟨by rfl, ?_⟩) hHeld ?_
          rotate_left 1
          · (intro w hSw; (try dsimp only at hSw); go_simp; first | done | with_reducible rfl)
          try simp only [Act.put, List.setIfInBounds_toArray, List.set_cons_zero, List.set_cons_succ]
          refine Bz.wpAnyE_take (i := 15) (oi := { dst := some 74, op := Go.Op.pick (Go.Operand.tmp 66) (Go.Operand.const (Go.Value.bool true)) (Go.Operand.tmp 73), type := 4, pos := "law.go:127", after := #[{ on := 7, ground := Go.Ground.data }, { on := 14, ground := Go.Ground.data }], guard := none }) (v := ?_) rfl (by kernel_rfl) (by kernel_rfl) (by kernel_rfl) (by kernel_rfl) (fun _ _ _ h => h) (Or.inl ⟨by rfl, ?_⟩) hHeld ?_
          rotate_left 1
          · (intro w hSw; (try dsimp only at hSw); go_simp; first | done | with_reducible rfl)
          try simp only [Act.put, List.setIfInBounds_toArray, List.set_cons_zero, List.set_cons_succ]
          refine Bz.wpAnyE_take (i := 16) (oi := { dst := some 75, op := Go.Op.move (Go.Operand.tmp 74), type := 4, pos := "law.go:127", after := #[{ on := 15, ground := Go.Ground.data }, { on := 13, ground := Go.Ground.chain }], guard := none }) (v := ?_) rfl (by kernel_rfl) (by kernel_rfl) (by kernel_rfl) (by kernel_rfl) (fun _ _ _ h => h) (Or.inl ⟨by rfl, ?_⟩) hHeld ?_
          rotate_left 1
          · (intro w hSw; (try dsimp only at hSw); go_simp; first | done | with_reducible rfl)
          try simp only [Act.put, List.setIfInBounds_toArray, List.set_cons_zero, List.set_cons_succ]
          refine Bz.wpAnyE_take (i := 17) (oi := { dst := some 76, op := Go.Op.load 29 (Go.Operand.tmp 10), type := 29, pos := "law.go:127", after := #[{ on := 16, ground := Go.Ground.guard }], guard := some (16, false) }) (v := ?_) rfl (by kernel_rfl) (by kernel_rfl) (by kernel_rfl) (by kernel_rfl) (fun _ _ _ h => h) (Or.inl ⟨by rfl, ?_⟩) hHeld ?_
          rotate_left 1
          · (intro w hSw; (try dsimp only at hSw); go_simp; first | done | with_reducible rfl)
          try simp only [Act.put, List.setIfInBounds_toArray, List.set_cons_zero, List.set_cons_succ]
          refine Bz.wpAnyE_take (i := 18) (oi := { dst := some 77, op := Go.Op.load 29 (Go.Operand.tmp 8), type := 29, pos := "law.go:127", after := #[{ on := 16, ground := Go.Ground.guard }], guard := some (16, false) }) (v := ?_) rfl (by kernel_rfl) (by kernel_rfl) (by kernel_rfl) (by kernel_rfl) (fun _ _ _ h => h) (Or.inl ⟨by rfl, ?_⟩) hHeld ?_
          rotate_left 1
          · (intro w hSw; (try dsimp only at hSw); go_simp; first | done | with_reducible rfl)
          try simp only [Act.put, List.setIfInBounds_toArray, List.set_cons_zero, List.set_cons_succ]
          refine Bz.wpAnyE_take (i := 19) (oi := { dst := some 78, op := Go.Op.binOp Go.BinOp.neq 29 (Go.Operand.tmp 76) (Go.Operand.tmp 77) 29, type := 4, pos := "law.go:127", after := #[{ on := 17, ground := Go.Ground.data }, { on := 18, ground := Go.Ground.data }, { on := 16, ground := Go.Ground.guard }], guard := some (16, false) }) (v := ?_) rfl (by kernel_rfl) (by kernel_rfl) (by kernel_rfl) (by kernel_rfl) (fun _ _ _ h => h) (Or.inl ⟨by rfl, ?_⟩) hHeld ?_
          rotate_left 1
          · (intro w hSw; (try dsimp only at hSw); go_simp; first | done | with_reducible rfl)
          try simp only [Act.put, List.setIfInBounds_toArray, List.set_cons_zero, List.set_cons_succ]
          refine Bz.wpAnyE_take (i := 20) (oi := { dst := some 79, op := Go.Op.move (Go.Operand.tmp 78), type := 4, pos := "law.go:127", after := #[{ on := 19, ground := Go.Ground.data }, { on := 16, ground := Go.Ground.chain }, { on := 16, ground := Go.Ground.guard }], guard := some (16, false) }) (v := ?_) rfl (by kernel_rfl) (by kernel_rfl) (by kernel_rfl) (by kernel_rfl) (fun _ _ _ h => h) (Or.inl ⟨by rfl, ?_⟩) hHeld ?_
          rotate_left 1
          · (intro w hSw; (try dsimp only at hSw); go_simp; first | done | with_reducible rfl)
          try simp only [Act.put, List.setIfInBounds_toArray, List.set_cons_zero, List.set_cons_succ]
          refine Bz.wpAnyE_take (i := 21) (oi := { dst := some 80, op := Go.Op.move (Go.Operand.tmp 6), type := 24, pos := "law.go:127", after := #[{ on := 20, ground := Go.Ground.guard }], guard := some (20, true) }) (v := ?_) rfl (by kernel_rfl) (by kernel_rfl) (by kernel_rfl) (by kernel_rfl) (fun _ _ _ h => h) (Or.inl ⟨by rfl, ?_⟩) hHeld ?_
          rotate_left 1
          · (intro w hSw; (try dsimp only at hSw); go_simp; first | done | with_reducible rfl)
          try simp only [Act.put, List.setIfInBounds_toArray, List.set_cons_zero, List.set_cons_succ]
          refine Bz.wpAnyE_take (i := 22) (oi := { dst := some 81, op := Go.Op.load 29 (Go.Operand.tmp 10), type := 29, pos := "law.go:127", after := #[{ on := 20, ground := Go.Ground.guard }], guard := some (20, true) }) (v := ?_) rfl (by kernel_rfl) (by kernel_rfl) (by kernel_rfl) (by kernel_rfl) (fun _ _ _ h => h) (Or.inl ⟨by rfl, ?_⟩) hHeld ?_
          rotate_left 1
          · (intro w hSw; (try dsimp only at hSw); go_simp; first | done | with_reducible rfl)
          try simp only [Act.put, List.setIfInBounds_toArray, List.set_cons_zero, List.set_cons_succ]
          refine Bz.wpAnyE_take (i := 24) (oi := { dst := some 83, op := Go.Op.move (Go.Operand.tmp 6), type := 24, pos := "law.go:127", after := #[{ on := 20, ground := Go.Ground.guard }], guard := some (20, true) }) (v := ?_) rfl (by kernel_rfl) (by kernel_rfl) (by kernel_rfl) (by kernel_rfl) (fun _ _ _ h => h) (Or.inl ⟨by rfl, ?_⟩) hHeld ?_
          rotate_left 1
          · (intro w hSw; (try dsimp only at hSw); go_simp; first | done | with_reducible rfl)
          try simp only [Act.put, List.setIfInBounds_toArray, List.set_cons_zero, List.set_cons_succ]
          refine Bz.wpAnyE_take (i := 25) (oi := { dst := some 84, op := Go.Op.load 29 (Go.Operand.tmp 8), type := 29, pos := "law.go:127", after := #[{ on := 20, ground := Go.Ground.guard }], guard := some (20, true) }) (v := ?_) rfl (by kernel_rfl) (by kernel_rfl) (by kernel_rfl) (by kernel_rfl) (fun _ _ _ h => h) (Or.inl ⟨by rfl, ?_⟩) hHeld ?_
          rotate_left 1
          · (intro w hSw; (try dsimp only at hSw); go_simp; first | done | with_reducible rfl)
          try simp only [Act.put, List.setIfInBounds_toArray, List.set_cons_zero, List.set_cons_succ]
          refine Bz.wpAnyE_ready (rs := [23]) (by kernel_rfl) (by simp) ?_
          refine Bz.AllReadyE.cons (o := { dst := some 82, op := Go.Op.call { callee := Go.Callee.value (Go.Operand.func 16), args := #[Go.Operand.tmp 80, Go.Operand.tmp 81], argTypes := #[24, 29] }, type := 3, pos := "law.go:127", after := #[{ on := 21, ground := Go.Ground.data }, { on := 22, ground := Go.Ground.data }, { on := 20, ground := Go.Ground.chain }, { on := 20, ground := Go.Ground.guard }], guard := some (20, true) }) rfl (fun K hK => ?_) Bz.AllReadyE.nil
          go_simp
          
          refine (height_any hT7 _).mono ?_
          first | rw [← HH.out.2.1] | rw [← HH.out.2.2]
          rintro e w8 ⟨rfl, hk8⟩
          have hT7 := hT7.keep0 hk8
          have hB7 := hB7.keep hk8 (by simp)
          have hC7 := hC7.keep hk8 (by simp)
          have hKw := hKw.trans hk8
          refine hK.out _ _ (by exact ⟨hB7.cell, hC7.cell⟩) ?_
          clear hHeld hK K; intro hHeld
          try simp only [Act.put, List.setIfInBounds_toArray, List.set_cons_zero, List.set_cons_succ]
          refine Bz.wpAnyE_ready (rs := [26]) (by kernel_rfl) (by simp) ?_
          refine Bz.AllReadyE.cons (o := { dst := some 85, op := Go.Op.call { callee := Go.Callee.value (Go.Operand.func 16), args := #[Go.Operand.tmp 83, Go.Operand.tmp 84], argTypes := #[24, 29] }, type := 3, pos := "law.go:127", after := #[{ on := 24, ground := Go.Ground.data }, { on := 25, ground := Go.Ground.data }, { on := 23, ground := Go.Ground.chain }, { on := 20, ground := Go.Ground.guard }], guard := some (20, true) }) rfl (fun K hK => ?_) Bz.AllReadyE.nil
          go_simp
          
          refine (height_any hT7 _).mono ?_
          first | rw [← HH.out.2.1] | rw [← HH.out.2.2]
          rintro e w8 ⟨rfl, hk8⟩
          have hT7 := hT7.keep0 hk8
          have hB7 := hB7.keep hk8 (by simp)
          have hC7 := hC7.keep hk8 (by simp)
          have hKw := hKw.trans hk8
          refine hK.out _ _ (by exact ⟨hB7.cell, hC7.cell⟩) ?_
          clear hHeld hK K; intro hHeld
          try simp only [Act.put, List.setIfInBounds_toArray, List.set_cons_zero, List.set_cons_succ]
          refine Bz.wpAnyE_take (i := 27) (oi := { dst := some 86, op := Go.Op.binOp Go.BinOp.add 3 (Go.Operand.tmp 85) (Go.Operand.const (Go.Value.int Go.IntKind.i64 1)) 3, type := 3, pos := "law.go:127", after := #[{ on := 26, ground := Go.Ground.data }, { on := 20, ground := Go.Ground.guard }], guard := some (20, true) }) (v := ?_) rfl (by kernel_rfl) (by kernel_rfl) (by kernel_rfl) (by kernel_rfl) (fun _ _ _ h => h) (Or.inl ⟨by rfl, ?_⟩) hHeld ?_
          rotate_left 1
          · (intro w hSw; (try dsimp only at hSw); go_simp; first | done | with_reducible rfl)
          try simp only [Act.put, List.setIfInBounds_toArray, List.set_cons_zero, List.set_cons_succ]
          refine Bz.wpAnyE_take (i := 28) (oi := { dst := some 87, op := Go.Op.binOp Go.BinOp.neq 3 (Go.Operand.tmp 82) (Go.Operand.tmp 86) 3, type := 4, pos := "law.go:127", after := #[{ on := 23, ground := Go.Ground.data }, { on := 27, ground := Go.Ground.data }, { on := 20, ground := Go.Ground.guard }], guard := some (20, true) }) (v := ?_) rfl (by kernel_rfl) (by kernel_rfl) (by kernel_rfl) (by kernel_rfl) (fun _ _ _ h => h) (Or.inl ⟨by rfl, ?_⟩) hHeld ?_
          rotate_left 1
          · (intro w hSw; (try dsimp only at hSw); go_simp; first | done | with_reducible rfl)
          try simp only [Act.put, List.setIfInBounds_toArray, List.set_cons_zero, List.set_cons_succ]
          refine Bz.wpAnyE_take (i := 29) (oi := { dst := some 88, op := Go.Op.pick (Go.Operand.tmp 79) (Go.Operand.tmp 87) (Go.Operand.const (Go.Value.bool false)), type := 4, pos := "law.go:127", after := #[{ on := 20, ground := Go.Ground.data }, { on := 28, ground := Go.Ground.data }, { on := 16, ground := Go.Ground.guard }], guard := some (16, false) }) (v := ?_) rfl (by kernel_rfl) (by kernel_rfl) (by kernel_rfl) (by kernel_rfl) (fun _ _ _ h => h) (Or.inl ⟨by rfl, ?_⟩) hHeld ?_
          rotate_left 1
          · (intro w hSw; (try dsimp only at hSw); go_simp; first | done | with_reducible rfl)
          try simp only [Act.put, List.setIfInBounds_toArray, List.set_cons_zero, List.set_cons_succ]
          refine Bz.wpAnyE_take (i := 30) (oi := { dst := some 89, op := Go.Op.pick (Go.Operand.tmp 75) (Go.Operand.const (Go.Value.bool true)) (Go.Operand.tmp 88), type := 4, pos := "law.go:127", after := #[{ on := 16, ground := Go.Ground.data }, { on := 29, ground := Go.Ground.data }], guard := none }) (v := ?_) rfl (by kernel_rfl) (by kernel_rfl) (by kernel_rfl) (by kernel_rfl) (fun _ _ _ h => h) (Or.inl ⟨by rfl, ?_⟩) hHeld ?_
          rotate_left 1
          · (intro w hSw; (try dsimp only at hSw); go_simp; first | done | with_reducible rfl)
          try simp only [Act.put, List.setIfInBounds_toArray, List.set_cons_zero, List.set_cons_succ]
          refine Bz.wpAnyE_done (by kernel_rfl) ?_ _
          refine NoPanic.normal ?_
          
          clear hHeld
          obtain ⟨f1, f2⟩ := And.intro hB7.cell hB7.frozen
          have hc7 := hC7.cell
          have hK8 := hKw.put8 (g := tb) (.inr htw) T'.tip
          have hB8 := hB7.put8 T'.tip
          have hT8 := hT7.keep ((Keep.refl [tb] w8).put8 (g := tb) (by simp) T'.tip) (by simp; exact fun e => hT7.1.ne_ hB7 (by decide) e) (by simp; exact fun e => hT7.2.ne_blk hB7 e)
          go_wp2
          go_roundw
          · exact ⟨k + 1, T', by go_num, by omega, hT8, hWF6, hd6, hB8, hK8⟩
          · simp only [intOf]; omega
      · go_wp2_with fail
        go_ret
        exact ⟨rfl, hKw⟩
    · go_wp2_with fail
      go_ret
      exact ⟨rfl, hKw⟩
end Go.Proofs.Ytbkchniomhdieaa
