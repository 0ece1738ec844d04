/- The law's alike; bytes of a string laid; fair: walked. -/
import Derived.Test.YtcjbmbljmmakfaaRefSend
import Derived.Lib.ConvBytes
namespace Go.Proofs.Ytcjbmbljmmakfaa
open Go.RowKit Go.Bz

theorem letAt {w : World} {base : Nat} {v : Value} {outs : List LRaw} (h : Came w base v outs) {k : Nat} {r : LRaw} (hk : outs[k]? = some r) : ∃ ab ao cp, v = .slice (some ⟨ab, ao, none⟩) outs.length cp ∧ ∀ W, Keep [] w W →
    W.cell? ⟨ab, ao + k * 3, none⟩ = some (.int .i64 r.f) ∧ W.cell? ⟨ab, ao + k * 3 + 1, none⟩ = some (.int .i64 r.t) ∧ W.cell? ⟨ab, ao + k * 3 + 2, none⟩ = some r.V := by
  obtain ⟨ab, ao, cp, hv, hlt, hc⟩ := (h.own.sl lenc_sz).rd.at_ hk
  refine ⟨ab, ao, cp, hv, fun W hW => ?_⟩
  exact ⟨hW.cell (by simpa using hc 0 (by decide)) (by simp), hW.cell (by simpa using hc 1 (by decide)) (by simp), hW.cell (by simpa using hc 2 (by decide)) (by simp)⟩
set_option maxRecDepth 100000 in
set_option maxHeartbeats 2000000 in
theorem alike_any {w : World} {base : Nat} {v O : Value} {outs : List LRaw} {cs : List RC} (h : Came w base v outs) (hO : RdV w 4 cenc O cs) (he : outs.map LRaw.lt = cs.map RC.lt) (hlen : outs.length ≤ 5000) :
    Calls Try.prog 37 #[v, O] w (fun e w' => e = .returned (.bool true) ∧ Keep [] w w') := by
  have hl : cs.length = outs.length := by have := congrArg List.length he; simpa using this.symm
  obtain ⟨A1, c1, rfl, _⟩ := h.own.sl lenc_sz
  obtain ⟨A2, c2, rfl, _⟩ := id hO
  rw [hl] at hO ⊢
  have hel : ∀ (k : Nat) (r : LRaw), outs[k]? = some r → ∃ c, cs[k]? = some c ∧ r.f = c.f ∧ r.t = c.t ∧ r.b = strB c.s := by
    intro k r hr
    have hk : k < cs.length := by rw [hl]; exact (List.getElem?_eq_some_iff.1 hr).1
    refine ⟨cs[k], List.getElem?_eq_getElem hk, ?_⟩
    have := congrArg (fun l => l[k]?) he
    simp only [List.getElem?_map, hr, List.getElem?_eq_getElem hk, Option.map_some] at this
    injection this with this
    unfold LRaw.lt RC.lt at this
    injection this with e1 e2 e3
    exact ⟨e1, e2, e3⟩
  have HE := Lib.hid he
  have HL := Lib.hid hl
  clear he hl
  go_enter Try.func37, Try.ntmps37
  go_wp2_with fail
  go_loopg [5] outs.length (fun m i wr => ∃ k : Nat, i = .int .i64 k ∧ m + k = outs.length ∧ Keep [] w wr)
  case atStart => exact ⟨0, rfl, rfl, Keep.refl _ _⟩
  case round =>
    obtain ⟨k, rfl, hk, hK⟩ := hrel
    by_cases hlt : k < outs.length
    · obtain ⟨r, hr⟩ : ∃ r, outs[k]? = some r := ⟨_, List.getElem?_eq_getElem hlt⟩
      obtain ⟨c, hc, e1, e2, e3⟩ := hel k r hr
      obtain ⟨ab, ao, cp, hv, hcl⟩ := letAt h hr
      cases hv
      have hO2 : RdV w 4 cenc (.slice A2 cs.length c2) cs := by rw [HL.out]; exact hO
      obtain ⟨bb, bo, cq, hv, hdl⟩ := cAt hO2 hc
      cases hv
      have hby := h.bytes r (List.mem_of_getElem? hr)
      obtain ⟨rf, rt, rV, rb⟩ := r
      obtain ⟨cf, ct, cs', cd⟩ := c
      simp only at e1 e2 e3 hcl hdl hby
      subst e1 e2 e3
      obtain ⟨Ab, cb, rfl, _⟩ := hby.sl benc_sz
      have hcv := fun W (hk : Keep [] w W) => run_str (P := Try.prog) (w := W) Try.underlying33 Try.underlying5 ((hby.keep0 hk).sl benc_sz) 9 Try.underlying9
      rw [strOf_strB] at hcv
      clear hr hc hby hel
      go_upto_region 6 with fail
      refine wp_region_noPanic ?_
      refine Bz.wp_region_E (S := (fun w' => Keep [] w w')) (E := []) (by kernel_rfl) (by exact hK.drew) (fun hHeld => ?_)
      refine Bz.wpAnyE_take (i := 0) (oi := { dst := some 17, op := Go.Op.move (Go.Operand.tmp 0), type := 36, pos := "law.go:52", after := #[], guard := none }) (v := ?_) rfl (by kernel_rfl) (by kernel_rfl) (by kernel_rfl) (by kernel_rfl) (fun _ _ _ h => h) (Or.inl ⟨by rfl, ?_⟩) hHeld ?_
      rotate_left 1
      · (intro w hSw; have q0 := hcl w hSw; have q1 := hdl w hSw; have q2 := hcv w hSw; go_simp; first | done | with_reducible rfl)
      try simp only [Act.put, List.setIfInBounds_toArray, List.set_cons_zero, List.set_cons_succ]
      refine Bz.wpAnyE_take (i := 1) (oi := { dst := some 18, op := Go.Op.move (Go.Operand.tmp 5), type := 3, pos := "law.go:52", after := #[], guard := none }) (v := ?_) rfl (by kernel_rfl) (by kernel_rfl) (by kernel_rfl) (by kernel_rfl) (fun _ _ _ h => h) (Or.inl ⟨by rfl, ?_⟩) hHeld ?_
      rotate_left 1
      · (intro w hSw; have q0 := hcl w hSw; have q1 := hdl w hSw; have q2 := hcv w hSw; go_simp; first | done | with_reducible rfl)
      try simp only [Act.put, List.setIfInBounds_toArray, List.set_cons_zero, List.set_cons_succ]
      refine Bz.wpAnyE_take (i := 2) (oi := { dst := some 19, op := Go.Op.indexAddr 36 (Go.Operand.tmp 17) (Go.Operand.tmp 18), type := 0, pos := "law.go:52", after := #[{ on := 0, ground := Go.Ground.data }, { on := 1, ground := Go.Ground.data }], guard := none }) (v := ?_) rfl (by kernel_rfl) (by kernel_rfl) (by kernel_rfl) (by kernel_rfl) (fun _ _ _ h => h) (Or.inl ⟨by rfl, ?_⟩) hHeld ?_
      rotate_left 1
      · (intro w hSw; have q0 := hcl w hSw; have q1 := hdl w hSw; have q2 := hcv w hSw; go_simp; first | done | with_reducible rfl)
      try simp only [Act.put, List.setIfInBounds_toArray, List.set_cons_zero, List.set_cons_succ]
      refine Bz.wpAnyE_take (i := 3) (oi := { dst := some 20, op := Go.Op.fieldAddr 35 (Go.Operand.tmp 19) 0, type := 0, pos := "law.go:52", after := #[{ on := 2, ground := Go.Ground.data }], guard := none }) (v := ?_) rfl (by kernel_rfl) (by kernel_rfl) (by kernel_rfl) (by kernel_rfl) (fun _ _ _ h => h) (Or.inl ⟨by rfl, ?_⟩) hHeld ?_
      rotate_left 1
      · (intro w hSw; have q0 := hcl w hSw; have q1 := hdl w hSw; have q2 := hcv w hSw; go_simp; first | done | with_reducible rfl)
      try simp only [Act.put, List.setIfInBounds_toArray, List.set_cons_zero, List.set_cons_succ]
      refine Bz.wpAnyE_take (i := 4) (oi := { dst := some 21, op := Go.Op.load 3 (Go.Operand.tmp 20), type := 3, pos := "law.go:52", after := #[{ on := 3, ground := Go.Ground.data }], guard := none }) (v := ?_) rfl (by kernel_rfl) (by kernel_rfl) (by kernel_rfl) (by kernel_rfl) (fun _ _ _ h => h) (Or.inl ⟨by rfl, ?_⟩) hHeld ?_
      rotate_left 1
      · (intro w hSw; have q0 := hcl w hSw; have q1 := hdl w hSw; have q2 := hcv w hSw; go_simp; first | done | with_reducible rfl)
      try simp only [Act.put, List.setIfInBounds_toArray, List.set_cons_zero, List.set_cons_succ]
      refine Bz.wpAnyE_take (i := 5) (oi := { dst := some 22, op := Go.Op.move (Go.Operand.tmp 1), type := 44, pos := "law.go:52", after := #[], guard := none }) (v := ?_) rfl (by kernel_rfl) (by kernel_rfl) (by kernel_rfl) (by kernel_rfl) (fun _ _ _ h => h) (Or.inl ⟨by rfl, ?_⟩) hHeld ?_
      rotate_left 1
      · (intro w hSw; have q0 := hcl w hSw; have q1 := hdl w hSw; have q2 := hcv w hSw; go_simp; first | done | with_reducible rfl)
      try simp only [Act.put, List.setIfInBounds_toArray, List.set_cons_zero, List.set_cons_succ]
      refine Bz.wpAnyE_take (i := 6) (oi := { dst := some 23, op := Go.Op.move (Go.Operand.tmp 5), type := 3, pos := "law.go:52", after := #[], guard := none }) (v := ?_) rfl (by kernel_rfl) (by kernel_rfl) (by kernel_rfl) (by kernel_rfl) (fun _ _ _ h => h) (Or.inl ⟨by rfl, ?_⟩) hHeld ?_
      rotate_left 1
      · (intro w hSw; have q0 := hcl w hSw; have q1 := hdl w hSw; have q2 := hcv w hSw; go_simp; first | done | with_reducible rfl)
      try simp only [Act.put, List.setIfInBounds_toArray, List.set_cons_zero, List.set_cons_succ]
      refine Bz.wpAnyE_take (i := 7) (oi := { dst := some 24, op := Go.Op.indexAddr 44 (Go.Operand.tmp 22) (Go.Operand.tmp 23), type := 0, pos := "law.go:52", after := #[{ on := 5, ground := Go.Ground.data }, { on := 6, ground := Go.Ground.data }], guard := none }) (v := ?_) rfl (by kernel_rfl) (by kernel_rfl) (by kernel_rfl) (by kernel_rfl) (fun _ _ _ h => h) (Or.inl ⟨by rfl, ?_⟩) hHeld ?_
      rotate_left 1
      · (intro w hSw; have q0 := hcl w hSw; have q1 := hdl w hSw; have q2 := hcv w hSw; go_simp; first | done | with_reducible rfl)
      try simp only [Act.put, List.setIfInBounds_toArray, List.set_cons_zero, List.set_cons_succ]
      refine Bz.wpAnyE_take (i := 8) (oi := { dst := some 25, op := Go.Op.fieldAddr 102 (Go.Operand.tmp 24) 0, type := 0, pos := "law.go:52", after := #[{ on := 7, ground := Go.Ground.data }], guard := none }) (v := ?_) rfl (by kernel_rfl) (by kernel_rfl) (by kernel_rfl) (by kernel_rfl) (fun _ _ _ h => h) (Or.inl ⟨by rfl, ?_⟩) hHeld ?_
      rotate_left 1
      · (intro w hSw; have q0 := hcl w hSw; have q1 := hdl w hSw; have q2 := hcv w hSw; go_simp; first | done | with_reducible rfl)
      try simp only [Act.put, List.setIfInBounds_toArray, List.set_cons_zero, List.set_cons_succ]
      refine Bz.wpAnyE_take (i := 9) (oi := { dst := some 26, op := Go.Op.load 3 (Go.Operand.tmp 25), type := 3, pos := "law.go:52", after := #[{ on := 8, ground := Go.Ground.data }], guard := none }) (v := ?_) rfl (by kernel_rfl) (by kernel_rfl) (by kernel_rfl) (by kernel_rfl) (fun _ _ _ h => h) (Or.inl ⟨by rfl, ?_⟩) hHeld ?_
      rotate_left 1
      · (intro w hSw; have q0 := hcl w hSw; have q1 := hdl w hSw; have q2 := hcv w hSw; go_simp; first | done | with_reducible rfl)
      try simp only [Act.put, List.setIfInBounds_toArray, List.set_cons_zero, List.set_cons_succ]
      refine Bz.wpAnyE_take (i := 10) (oi := { dst := some 27, op := Go.Op.binOp Go.BinOp.neq 3 (Go.Operand.tmp 21) (Go.Operand.tmp 26) 3, type := 4, pos := "law.go:52", after := #[{ on := 4, ground := Go.Ground.data }, { on := 9, ground := Go.Ground.data }], guard := none }) (v := ?_) rfl (by kernel_rfl) (by kernel_rfl) (by kernel_rfl) (by kernel_rfl) (fun _ _ _ h => h) (Or.inl ⟨by rfl, ?_⟩) hHeld ?_
      rotate_left 1
      · (intro w hSw; have q0 := hcl w hSw; have q1 := hdl w hSw; have q2 := hcv w hSw; go_simp; first | done | with_reducible rfl)
      try simp only [Act.put, List.setIfInBounds_toArray, List.set_cons_zero, List.set_cons_succ]
      refine Bz.wpAnyE_take (i := 11) (oi := { dst := some 28, op := Go.Op.move (Go.Operand.tmp 27), type := 4, pos := "law.go:52", after := #[{ on := 10, ground := Go.Ground.data }], guard := none }) (v := ?_) rfl (by kernel_rfl) (by kernel_rfl) (by kernel_rfl) (by kernel_rfl) (fun _ _ _ h => h) (Or.inl ⟨by rfl, ?_⟩) hHeld ?_
      rotate_left 1
      · (intro w hSw; have q0 := hcl w hSw; have q1 := hdl w hSw; have q2 := hcv w hSw; go_simp; first | done | with_reducible rfl)
      try simp only [Act.put, List.setIfInBounds_toArray, List.set_cons_zero, List.set_cons_succ]
      refine Bz.wpAnyE_take (i := 12) (oi := { dst := some 29, op := Go.Op.move (Go.Operand.tmp 0), type := 36, pos := "law.go:52", after := #[{ on := 11, ground := Go.Ground.guard }], guard := some (11, false) }) (v := ?_) rfl (by kernel_rfl) (by kernel_rfl) (by kernel_rfl) (by kernel_rfl) (fun _ _ _ h => h) (Or.inl ⟨by rfl, ?_⟩) hHeld ?_
      rotate_left 1
      · (intro w hSw; have q0 := hcl w hSw; have q1 := hdl w hSw; have q2 := hcv w hSw; go_simp; first | done | with_reducible rfl)
      try simp only [Act.put, List.setIfInBounds_toArray, List.set_cons_zero, List.set_cons_succ]
      refine Bz.wpAnyE_take (i := 13) (oi := { dst := some 30, op := Go.Op.move (Go.Operand.tmp 5), type := 3, pos := "law.go:52", after := #[{ on := 11, ground := Go.Ground.guard }], guard := some (11, false) }) (v := ?_) rfl (by kernel_rfl) (by kernel_rfl) (by kernel_rfl) (by kernel_rfl) (fun _ _ _ h => h) (Or.inl ⟨by rfl, ?_⟩) hHeld ?_
      rotate_left 1
      · (intro w hSw; have q0 := hcl w hSw; have q1 := hdl w hSw; have q2 := hcv w hSw; go_simp; first | done | with_reducible rfl)
      try simp only [Act.put, List.setIfInBounds_toArray, List.set_cons_zero, List.set_cons_succ]
      refine Bz.wpAnyE_take (i := 14) (oi := { dst := some 31, op := Go.Op.indexAddr 36 (Go.Operand.tmp 29) (Go.Operand.tmp 30), type := 0, pos := "law.go:52", after := #[{ on := 12, ground := Go.Ground.data }, { on := 13, ground := Go.Ground.data }, { on := 11, ground := Go.Ground.guard }], guard := some (11, false) }) (v := ?_) rfl (by kernel_rfl) (by kernel_rfl) (by kernel_rfl) (by kernel_rfl) (fun _ _ _ h => h) (Or.inl ⟨by rfl, ?_⟩) hHeld ?_
      rotate_left 1
      · (intro w hSw; have q0 := hcl w hSw; have q1 := hdl w hSw; have q2 := hcv w hSw; go_simp; first | done | with_reducible rfl)
      try simp only [Act.put, List.setIfInBounds_toArray, List.set_cons_zero, List.set_cons_succ]
      refine Bz.wpAnyE_take (i := 15) (oi := { dst := some 32, op := Go.Op.fieldAddr 35 (Go.Operand.tmp 31) 1, type := 0, pos := "law.go:52", after := #[{ on := 14, ground := Go.Ground.data }, { on := 11, ground := Go.Ground.guard }], guard := some (11, false) }) (v := ?_) rfl (by kernel_rfl) (by kernel_rfl) (by kernel_rfl) (by kernel_rfl) (fun _ _ _ h => h) (Or.inl ⟨by rfl, ?_⟩) hHeld ?_
      rotate_left 1
      · (intro w hSw; have q0 := hcl w hSw; have q1 := hdl w hSw; have q2 := hcv w hSw; go_simp; first | done | with_reducible rfl)
      try simp only [Act.put, List.setIfInBounds_toArray, List.set_cons_zero, List.set_cons_succ]
      refine Bz.wpAnyE_take (i := 16) (oi := { dst := some 33, op := Go.Op.load 3 (Go.Operand.tmp 32), type := 3, pos := "law.go:52", after := #[{ on := 15, ground := Go.Ground.data }, { on := 11, ground := Go.Ground.guard }], guard := some (11, false) }) (v := ?_) rfl (by kernel_rfl) (by kernel_rfl) (by kernel_rfl) (by kernel_rfl) (fun _ _ _ h => h) (Or.inl ⟨by rfl, ?_⟩) hHeld ?_
      rotate_left 1
      · (intro w hSw; have q0 := hcl w hSw; have q1 := hdl w hSw; have q2 := hcv w hSw; go_simp; first | done | with_reducible rfl)
      try simp only [Act.put, List.setIfInBounds_toArray, List.set_cons_zero, List.set_cons_succ]
      refine Bz.wpAnyE_take (i := 17) (oi := { dst := some 34, op := Go.Op.move (Go.Operand.tmp 1), type := 44, pos := "law.go:52", after := #[{ on := 11, ground := Go.Ground.guard }], guard := some (11, false) }) (v := ?_) rfl (by kernel_rfl) (by kernel_rfl) (by kernel_rfl) (by kernel_rfl) (fun _ _ _ h => h) (Or.inl ⟨by rfl, ?_⟩) hHeld ?_
      rotate_left 1
      · (intro w hSw; have q0 := hcl w hSw; have q1 := hdl w hSw; have q2 := hcv w hSw; go_simp; first | done | with_reducible rfl)
      try simp only [Act.put, List.setIfInBounds_toArray, List.set_cons_zero, List.set_cons_succ]
      refine Bz.wpAnyE_take (i := 18) (oi := { dst := some 35, op := Go.Op.move (Go.Operand.tmp 5), type := 3, pos := "law.go:52", after := #[{ on := 11, ground := Go.Ground.guard }], guard := some (11, false) }) (v := ?_) rfl (by kernel_rfl) (by kernel_rfl) (by kernel_rfl) (by kernel_rfl) (fun _ _ _ h => h) (Or.inl ⟨by rfl, ?_⟩) hHeld ?_
      rotate_left 1
      · (intro w hSw; have q0 := hcl w hSw; have q1 := hdl w hSw; have q2 := hcv w hSw; go_simp; first | done | with_reducible rfl)
      try simp only [Act.put, List.setIfInBounds_toArray, List.set_cons_zero, List.set_cons_succ]
      refine Bz.wpAnyE_take (i := 19) (oi := { dst := some 36, op := Go.Op.indexAddr 44 (Go.Operand.tmp 34) (Go.Operand.tmp 35), type := 0, pos := "law.go:52", after := #[{ on := 17, ground := Go.Ground.data }, { on := 18, ground := Go.Ground.data }, { on := 11, ground := Go.Ground.guard }], guard := some (11, false) }) (v := ?_) rfl (by kernel_rfl) (by kernel_rfl) (by kernel_rfl) (by kernel_rfl) (fun _ _ _ h => h) (Or.inl ⟨by rfl, ?_⟩) hHeld ?_
      rotate_left 1
      · (intro w hSw; have q0 := hcl w hSw; have q1 := hdl w hSw; have q2 := hcv w hSw; go_simp; first | done | with_reducible rfl)
      try simp only [Act.put, List.setIfInBounds_toArray, List.set_cons_zero, List.set_cons_succ]
      refine Bz.wpAnyE_take (i := 20) (oi := { dst := some 37, op := Go.Op.fieldAddr 102 (Go.Operand.tmp 36) 1, type := 0, pos := "law.go:52", after := #[{ on := 19, ground := Go.Ground.data }, { on := 11, ground := Go.Ground.guard }], guard := some (11, false) }) (v := ?_) rfl (by kernel_rfl) (by kernel_rfl) (by kernel_rfl) (by kernel_rfl) (fun _ _ _ h => h) (Or.inl ⟨by rfl, ?_⟩) hHeld ?_
      rotate_left 1
      · (intro w hSw; have q0 := hcl w hSw; have q1 := hdl w hSw; have q2 := hcv w hSw; go_simp; first | done | with_reducible rfl)
      try simp only [Act.put, List.setIfInBounds_toArray, List.set_cons_zero, List.set_cons_succ]
      refine Bz.wpAnyE_take (i := 21) (oi := { dst := some 38, op := Go.Op.load 3 (Go.Operand.tmp 37), type := 3, pos := "law.go:52", after := #[{ on := 20, ground := Go.Ground.data }, { on := 11, ground := Go.Ground.guard }], guard := some (11, false) }) (v := ?_) rfl (by kernel_rfl) (by kernel_rfl) (by kernel_rfl) (by kernel_rfl) (fun _ _ _ h => h) (Or.inl ⟨by rfl, ?_⟩) hHeld ?_
      rotate_left 1
      · (intro w hSw; have q0 := hcl w hSw; have q1 := hdl w hSw; have q2 := hcv w hSw; go_simp; first | done | with_reducible rfl)
      try simp only [Act.put, List.setIfInBounds_toArray, List.set_cons_zero, List.set_cons_succ]
      refine Bz.wpAnyE_take (i := 22) (oi := { dst := some 39, op := Go.Op.binOp Go.BinOp.neq 3 (Go.Operand.tmp 33) (Go.Operand.tmp 38) 3, type := 4, pos := "law.go:52", after := #[{ on := 16, ground := Go.Ground.data }, { on := 21, ground := Go.Ground.data }, { on := 11, ground := Go.Ground.guard }], guard := some (11, false) }) (v := ?_) rfl (by kernel_rfl) (by kernel_rfl) (by kernel_rfl) (by kernel_rfl) (fun _ _ _ h => h) (Or.inl ⟨by rfl, ?_⟩) hHeld ?_
      rotate_left 1
      · (intro w hSw; have q0 := hcl w hSw; have q1 := hdl w hSw; have q2 := hcv w hSw; go_simp; first | done | with_reducible rfl)
      try simp only [Act.put, List.setIfInBounds_toArray, List.set_cons_zero, List.set_cons_succ]
      refine Bz.wpAnyE_take (i := 23) (oi := { dst := some 40, op := Go.Op.pick (Go.Operand.tmp 28) (Go.Operand.const (Go.Value.bool true)) (Go.Operand.tmp 39), type := 4, pos := "law.go:52", after := #[{ on := 11, ground := Go.Ground.data }, { on := 22, ground := Go.Ground.data }], guard := none }) (v := ?_) rfl (by kernel_rfl) (by kernel_rfl) (by kernel_rfl) (by kernel_rfl) (fun _ _ _ h => h) (Or.inl ⟨by rfl, ?_⟩) hHeld ?_
      rotate_left 1
      · (intro w hSw; have q0 := hcl w hSw; have q1 := hdl w hSw; have q2 := hcv w hSw; go_simp; first | done | with_reducible rfl)
      try simp only [Act.put, List.setIfInBounds_toArray, List.set_cons_zero, List.set_cons_succ]
      refine Bz.wpAnyE_take (i := 24) (oi := { dst := some 41, op := Go.Op.move (Go.Operand.tmp 40), type := 4, pos := "law.go:52", after := #[{ on := 23, ground := Go.Ground.data }, { on := 11, ground := Go.Ground.chain }], guard := none }) (v := ?_) rfl (by kernel_rfl) (by kernel_rfl) (by kernel_rfl) (by kernel_rfl) (fun _ _ _ h => h) (Or.inl ⟨by rfl, ?_⟩) hHeld ?_
      rotate_left 1
      · (intro w hSw; have q0 := hcl w hSw; have q1 := hdl w hSw; have q2 := hcv w hSw; go_simp; first | done | with_reducible rfl)
      try simp only [Act.put, List.setIfInBounds_toArray, List.set_cons_zero, List.set_cons_succ]
      refine Bz.wpAnyE_take (i := 25) (oi := { dst := some 42, op := Go.Op.move (Go.Operand.tmp 0), type := 36, pos := "law.go:52", after := #[{ on := 24, ground := Go.Ground.guard }], guard := some (24, false) }) (v := ?_) rfl (by kernel_rfl) (by kernel_rfl) (by kernel_rfl) (by kernel_rfl) (fun _ _ _ h => h) (Or.inl ⟨by rfl, ?_⟩) hHeld ?_
      rotate_left 1
      · (intro w hSw; have q0 := hcl w hSw; have q1 := hdl w hSw; have q2 := hcv w hSw; go_simp; first | done | with_reducible rfl)
      try simp only [Act.put, List.setIfInBounds_toArray, List.set_cons_zero, List.set_cons_succ]
      refine Bz.wpAnyE_take (i := 26) (oi := { dst := some 43, op := Go.Op.move (Go.Operand.tmp 5), type := 3, pos := "law.go:52", after := #[{ on := 24, ground := Go.Ground.guard }], guard := some (24, false) }) (v := ?_) rfl (by kernel_rfl) (by kernel_rfl) (by kernel_rfl) (by kernel_rfl) (fun _ _ _ h => h) (Or.inl ⟨by rfl, ?_⟩) hHeld ?_
      rotate_left 1
      · (intro w hSw; have q0 := hcl w hSw; have q1 := hdl w hSw; have q2 := hcv w hSw; go_simp; first | done | with_reducible rfl)
      try simp only [Act.put, List.setIfInBounds_toArray, List.set_cons_zero, List.set_cons_succ]
      refine Bz.wpAnyE_take (i := 27) (oi := { dst := some 44, op := Go.Op.indexAddr 36 (Go.Operand.tmp 42) (Go.Operand.tmp 43), type := 0, pos := "law.go:52", after := #[{ on := 25, ground := Go.Ground.data }, { on := 26, ground := Go.Ground.data }, { on := 24, ground := Go.Ground.guard }], guard := some (24, false) }) (v := ?_) rfl (by kernel_rfl) (by kernel_rfl) (by kernel_rfl) (by kernel_rfl) (fun _ _ _ h => h) (Or.inl ⟨by rfl, ?_⟩) hHeld ?_
      rotate_left 1
      · (intro w hSw; have q0 := hcl w hSw; have q1 := hdl w hSw; have q2 := hcv w hSw; go_simp; first | done | with_reducible rfl)
      try simp only [Act.put, List.setIfInBounds_toArray, List.set_cons_zero, List.set_cons_succ]
      refine Bz.wpAnyE_take (i := 28) (oi := { dst := some 45, op := Go.Op.fieldAddr 35 (Go.Operand.tmp 44) 2, type := 0, pos := "law.go:52", after := #[{ on := 27, ground := Go.Ground.data }, { on := 24, ground := Go.Ground.guard }], guard := some (24, false) }) (v := ?_) rfl (by kernel_rfl) (by kernel_rfl) (by kernel_rfl) (by kernel_rfl) (fun _ _ _ h => h) (Or.inl ⟨by rfl, ?_⟩) hHeld ?_
      rotate_left 1
      · (intro w hSw; have q0 := hcl w hSw; have q1 := hdl w hSw; have q2 := hcv w hSw; go_simp; first | done | with_reducible rfl)
      try simp only [Act.put, List.setIfInBounds_toArray, List.set_cons_zero, List.set_cons_succ]
      refine Bz.wpAnyE_take (i := 29) (oi := { dst := some 46, op := Go.Op.load 33 (Go.Operand.tmp 45), type := 33, pos := "law.go:52", after := #[{ on := 28, ground := Go.Ground.data }, { on := 24, ground := Go.Ground.guard }], guard := some (24, false) }) (v := ?_) rfl (by kernel_rfl) (by kernel_rfl) (by kernel_rfl) (by kernel_rfl) (fun _ _ _ h => h) (Or.inl ⟨by rfl, ?_⟩) hHeld ?_
      rotate_left 1
      · (intro w hSw; have q0 := hcl w hSw; have q1 := hdl w hSw; have q2 := hcv w hSw; go_simp; first | done | with_reducible rfl)
      try simp only [Act.put, List.setIfInBounds_toArray, List.set_cons_zero, List.set_cons_succ]
      refine Bz.wpAnyE_take (i := 30) (oi := { dst := some 47, op := Go.Op.convert 33 9 (Go.Operand.tmp 46), type := 9, pos := "law.go:52", after := #[{ on := 29, ground := Go.Ground.data }, { on := 24, ground := Go.Ground.guard }], guard := some (24, false) }) (v := ?_) rfl (by kernel_rfl) (by kernel_rfl) (by kernel_rfl) (by kernel_rfl) (fun _ _ _ h => h) (Or.inl ⟨by rfl, ?_⟩) hHeld ?_
      rotate_left 1
      · (intro w hSw; have q0 := hcl w hSw; have q1 := hdl w hSw; have q2 := hcv w hSw; go_simp; first | done | with_reducible rfl)
      try simp only [Act.put, List.setIfInBounds_toArray, List.set_cons_zero, List.set_cons_succ]
      refine Bz.wpAnyE_take (i := 31) (oi := { dst := some 48, op := Go.Op.move (Go.Operand.tmp 1), type := 44, pos := "law.go:52", after := #[{ on := 24, ground := Go.Ground.guard }], guard := some (24, false) }) (v := ?_) rfl (by kernel_rfl) (by kernel_rfl) (by kernel_rfl) (by kernel_rfl) (fun _ _ _ h => h) (Or.inl ⟨by rfl, ?_⟩) hHeld ?_
      rotate_left 1
      · (intro w hSw; have q0 := hcl w hSw; have q1 := hdl w hSw; have q2 := hcv w hSw; go_simp; first | done | with_reducible rfl)
      try simp only [Act.put, List.setIfInBounds_toArray, List.set_cons_zero, List.set_cons_succ]
      refine Bz.wpAnyE_take (i := 32) (oi := { dst := some 49, op := Go.Op.move (Go.Operand.tmp 5), type := 3, pos := "law.go:52", after := #[{ on := 24, ground := Go.Ground.guard }], guard := some (24, false) }) (v := ?_) rfl (by kernel_rfl) (by kernel_rfl) (by kernel_rfl) (by kernel_rfl) (fun _ _ _ h => h) (Or.inl ⟨by rfl, ?_⟩) hHeld ?_
      rotate_left 1
      · (intro w hSw; have q0 := hcl w hSw; have q1 := hdl w hSw; have q2 := hcv w hSw; go_simp; first | done | with_reducible rfl)
      try simp only [Act.put, List.setIfInBounds_toArray, List.set_cons_zero, List.set_cons_succ]
      refine Bz.wpAnyE_take (i := 33) (oi := { dst := some 50, op := Go.Op.indexAddr 44 (Go.Operand.tmp 48) (Go.Operand.tmp 49), type := 0, pos := "law.go:52", after := #[{ on := 31, ground := Go.Ground.data }, { on := 32, ground := Go.Ground.data }, { on := 24, ground := Go.Ground.guard }], guard := some (24, false) }) (v := ?_) rfl (by kernel_rfl) (by kernel_rfl) (by kernel_rfl) (by kernel_rfl) (fun _ _ _ h => h) (Or.inl ⟨by rfl, ?_⟩) hHeld ?_
      rotate_left 1
      · (intro w hSw; have q0 := hcl w hSw; have q1 := hdl w hSw; have q2 := hcv w hSw; go_simp; first | done | with_reducible rfl)
      try simp only [Act.put, List.setIfInBounds_toArray, List.set_cons_zero, List.set_cons_succ]
      refine Bz.wpAnyE_take (i := 34) (oi := { dst := some 51, op := Go.Op.fieldAddr 102 (Go.Operand.tmp 50) 2, type := 0, pos := "law.go:52", after := #[{ on := 33, ground := Go.Ground.data }, { on := 24, ground := Go.Ground.guard }], guard := some (24, false) }) (v := ?_) rfl (by kernel_rfl) (by kernel_rfl) (by kernel_rfl) (by kernel_rfl) (fun _ _ _ h => h) (Or.inl ⟨by rfl, ?_⟩) hHeld ?_
      rotate_left 1
      · (intro w hSw; have q0 := hcl w hSw; have q1 := hdl w hSw; have q2 := hcv w hSw; go_simp; first | done | with_reducible rfl)
      try simp only [Act.put, List.setIfInBounds_toArray, List.set_cons_zero, List.set_cons_succ]
      refine Bz.wpAnyE_take (i := 35) (oi := { dst := some 52, op := Go.Op.load 9 (Go.Operand.tmp 51), type := 9, pos := "law.go:52", after := #[{ on := 34, ground := Go.Ground.data }, { on := 24, ground := Go.Ground.guard }], guard := some (24, false) }) (v := ?_) rfl (by kernel_rfl) (by kernel_rfl) (by kernel_rfl) (by kernel_rfl) (fun _ _ _ h => h) (Or.inl ⟨by rfl, ?_⟩) hHeld ?_
      rotate_left 1
      · (intro w hSw; have q0 := hcl w hSw; have q1 := hdl w hSw; have q2 := hcv w hSw; go_simp; first | done | with_reducible rfl)
      try simp only [Act.put, List.setIfInBounds_toArray, List.set_cons_zero, List.set_cons_succ]
      refine Bz.wpAnyE_take (i := 36) (oi := { dst := some 53, op := Go.Op.binOp Go.BinOp.neq 9 (Go.Operand.tmp 47) (Go.Operand.tmp 52) 9, type := 4, pos := "law.go:52", after := #[{ on := 30, ground := Go.Ground.data }, { on := 35, ground := Go.Ground.data }, { on := 24, ground := Go.Ground.guard }], guard := some (24, false) }) (v := ?_) rfl (by kernel_rfl) (by kernel_rfl) (by kernel_rfl) (by kernel_rfl) (fun _ _ _ h => h) (Or.inl ⟨by rfl, ?_⟩) hHeld ?_
      rotate_left 1
      · (intro w hSw; have q0 := hcl w hSw; have q1 := hdl w hSw; have q2 := hcv w hSw; go_simp; first | done | with_reducible rfl)
      try simp only [Act.put, List.setIfInBounds_toArray, List.set_cons_zero, List.set_cons_succ]
      refine Bz.wpAnyE_take (i := 37) (oi := { dst := some 54, op := Go.Op.pick (Go.Operand.tmp 41) (Go.Operand.const (Go.Value.bool true)) (Go.Operand.tmp 53), type := 4, pos := "law.go:52", after := #[{ on := 24, ground := Go.Ground.data }, { on := 36, ground := Go.Ground.data }], guard := none }) (v := ?_) rfl (by kernel_rfl) (by kernel_rfl) (by kernel_rfl) (by kernel_rfl) (fun _ _ _ h => h) (Or.inl ⟨by rfl, ?_⟩) hHeld ?_
      rotate_left 1
      · (intro w hSw; have q0 := hcl w hSw; have q1 := hdl w hSw; have q2 := hcv w hSw; go_simp; first | done | with_reducible rfl)
      try simp only [Act.put, List.setIfInBounds_toArray, List.set_cons_zero, List.set_cons_succ]
      refine Bz.wpAnyE_done (by kernel_rfl) ?_ _
      refine NoPanic.normal ?_
      
      go_wp2_with fail
      go_roundg (outs.length - (k + 1))
      case measure => omega
      case rel => exact ⟨k + 1, by go_num, by omega, hHeld⟩
    · go_wp2_with fail
      go_ret
      exact ⟨rfl, hK⟩
end Go.Proofs.Ytcjbmbljmmakfaa
