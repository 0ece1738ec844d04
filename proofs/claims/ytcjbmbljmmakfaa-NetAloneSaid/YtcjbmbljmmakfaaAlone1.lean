/- The law's some and equal walked; two nets that lie apart. -/
import Derived.Test.YtcjbmbljmmakfaaAloneLaw
import Derived.Test.YtcjbmbljmmakfaaDo
namespace Go.Proofs.Ytcjbmbljmmakfaa
open Go.RowKit Go.Bz

theorem leAt {w : World} {v : Value} {outs : List LRaw} (h : RdV w 3 lenc v outs) {k : Nat} {r : LRaw} (hk : outs[k]? = some r) : ∃ ab ao cp, v = .slice (some ⟨ab, ao, none⟩) outs.length cp ∧ ∀ W, Keep [] w W →
    W.cell? ⟨ab, ao + k * 3, none⟩ = some (.int .i64 r.f) ∧ W.cell? ⟨ab, ao + k * 3 + 1, none⟩ = some (.int .i64 r.t) ∧ W.cell? ⟨ab, ao + k * 3 + 2, none⟩ = some r.V := by
  obtain ⟨ab, ao, cp, hv, hlt, hc⟩ := h.at_ hk
  refine ⟨ab, ao, cp, hv, fun W hW => ?_⟩
  exact ⟨hW.cell (by simpa using hc 0 (by decide)) (by simp), hW.cell (by simpa using hc 1 (by decide)) (by simp), hW.cell (by simpa using hc 2 (by decide)) (by simp)⟩
def LRaw.mine (a b : Int) (x : LRaw) : Bool := decide (x.f = a) && decide (x.t = b)
set_option maxRecDepth 100000 in
set_option maxHeartbeats 1000000 in
theorem some_any {w : World} {v : Value} {outs : List LRaw} (hR : RdV w 3 lenc v outs) (hB : ∀ x ∈ outs, ∃ A n c, x.V = .slice A n c) (hlen : outs.length ≤ 5000) (a b : Int) :
    Calls Try.prog 20 #[v, .int .i64 a, .int .i64 b] w (fun e w' => ∃ v', e = .returned v' ∧ Own w' w.heap.size 35 3 lenc v' (outs.filter (LRaw.mine a b)) ∧ Keep [] w w') := by
  obtain ⟨A, cap, rfl, hc1, hc2, _⟩ := id hR
  go_enter Try.func20, Try.ntmps20
  go_wp2_with fail
  go_loopg [7, 8] outs.length (fun m v i wr => ∃ (k : Nat) (l : List LRaw), i = .int .i64 k ∧ m + k = outs.length ∧ Own wr w.heap.size 35 3 lenc v l ∧ l.length ≤ k ∧ Hid (l = (outs.take k).filter (LRaw.mine a b)) ∧ Keep [] w wr)
  case atStart => exact ⟨0, [], rfl, rfl, Own.nil .., Nat.le_refl _, Lib.hid rfl, Keep.refl _ _⟩
  case round =>
    obtain ⟨k, l, rfl, hk, hO, hlk, HL, hK⟩ := hrel
    obtain ⟨A1, c1, rfl, _⟩ := hO.sl lenc_sz
    by_cases hlt : k < outs.length
    · obtain ⟨r, hr⟩ : ∃ r, outs[k]? = some r := ⟨_, List.getElem?_eq_getElem hlt⟩
      obtain ⟨ab, ao, cp, hv, hcl⟩ := leAt hR hr
      cases hv
      have HF := Lib.hid (filter_snoc (LRaw.mine a b) outs hr)
      obtain ⟨An, nn, cn, hVn⟩ := hB r (List.mem_of_getElem? hr)
      obtain ⟨rf, rt, rV, rb⟩ := r
      simp only at hVn hcl
      subst hVn
      have c0 := hcl _ hK
      have HK := Lib.hid (And.intro hk hlk)
      clear hr hcl hk hlk
      by_cases h1 : rf = a
      · have h1' : (rf == a) = true := by simp [h1]
        by_cases h2 : rt = b
        · have h2' : (rt == b) = true := by simp [h2]
          have HM : Hid (LRaw.mine a b ⟨rf, rt, .slice An nn cn, rb⟩ = true) := Lib.hid (by unfold LRaw.mine; simp [h1, h2])
          clear h1 h2
          go_wp2_with (first
            | (at_builtin; refine wpList_append1 (y := (⟨rf, rt, .slice An nn cn, rb⟩ : LRaw)) rfl _ _ 36 rfl app36 rfl (hO.alloc _) rfl (Blk.new_ rfl) rfl (lenc_one _ rfl _ _ _) ?q1 ?q2 ?q3 ?q4)
            | fail)
          case q1 => have := HK.out; omega
          case q2 => have := HK.out; unfold maxLen; omega
          case q3 => have := hK.size; simp; omega
          case q4 =>
            intro v' w' hO2 hk4
            have hK2 := (hK.alloc (.cells (lenc ⟨rf, rt, .slice An nn cn, rb⟩) 35)).andThen hk4 (fun g hg => .inr (hO.lt g hg).1)
            clear hk4
            go_wp2_with fail
            go_roundg (outs.length - (k + 1))
            case measure => have := HK.out; omega
            case rel => exact ⟨k + 1, _, by go_num, by have := HK.out; omega, hO2, by have := HK.out; simp; omega, Lib.hid (by rw [HF.out, ← HL.out]; simp [HM.out]), hK2⟩
        · have h2' : (rt == b) = false := by simp [h2]
          have HM : Hid (LRaw.mine a b ⟨rf, rt, .slice An nn cn, rb⟩ = false) := Lib.hid (by unfold LRaw.mine; simp [h2])
          clear h1 h2
          go_wp2_with fail
          go_roundg (outs.length - (k + 1))
          case measure => have := HK.out; omega
          case rel => exact ⟨k + 1, l, by go_num, by have := HK.out; omega, hO, by have := HK.out; omega, Lib.hid (by rw [HF.out, ← HL.out]; simp [HM.out]), hK⟩
      · have h1' : (rf == a) = false := by simp [h1]
        have HM : Hid (LRaw.mine a b ⟨rf, rt, .slice An nn cn, rb⟩ = false) := Lib.hid (by unfold LRaw.mine; simp [h1])
        clear h1
        go_wp2_with fail
        go_roundg (outs.length - (k + 1))
        case measure => have := HK.out; omega
        case rel => exact ⟨k + 1, l, by go_num, by have := HK.out; omega, hO, by have := HK.out; omega, Lib.hid (by rw [HF.out, ← HL.out]; simp [HM.out]), hK⟩
    · have HL : Hid (l = outs.filter (LRaw.mine a b)) := Lib.hid (by rw [HL.out, List.take_of_length_le (by omega)])
      go_wp2_with fail
      go_ret
      exact ⟨_, rfl, by rw [← HL.out]; exact hO, hK⟩
set_option maxRecDepth 100000 in
set_option maxHeartbeats 2000000 in
theorem equal_any {w : World} {v1 v2 : Value} {o1 o2 : List LRaw} (h1 : RdV w 3 lenc v1 o1) (b1 : ∀ x ∈ o1, Sl w 5 1 benc x.V x.b) (h2 : RdV w 3 lenc v2 o2) (b2 : ∀ x ∈ o2, Sl w 5 1 benc x.V x.b) (he : o1.map LRaw.lt = o2.map LRaw.lt) (hlen : o1.length ≤ 5000) :
    Calls Try.prog 19 #[v1, v2] w (fun e w' => e = .returned (.bool true) ∧ Keep [] w w') := by
  have hl : o2.length = o1.length := by have := congrArg List.length he; simpa using this.symm
  obtain ⟨A1, c1, rfl, _⟩ := id h1
  obtain ⟨A2, c2, rfl, _⟩ := id h2
  rw [hl] at h2 ⊢
  have hel : ∀ (k : Nat) (r : LRaw), o1[k]? = some r → ∃ c, o2[k]? = some c ∧ r.f = c.f ∧ r.t = c.t ∧ r.b = c.b := by
    intro k r hr
    have hk : k < o2.length := by rw [hl]; exact (List.getElem?_eq_some_iff.1 hr).1
    refine ⟨o2[k], List.getElem?_eq_getElem hk, ?_⟩
    have := congrArg (fun l => l[k]?) he
    simp only [List.getElem?_map, hr, List.getElem?_eq_getElem hk, Option.map_some] at this
    injection this with this
    unfold LRaw.lt at this
    injection this with e1 e2 e3
    exact ⟨e1, e2, e3⟩
  have HL := Lib.hid hl
  clear he hl
  go_enter Try.func19, Try.ntmps19
  go_wp2_with fail
  go_loopg [5] o1.length (fun m i wr => ∃ k : Nat, i = .int .i64 k ∧ m + k = o1.length ∧ Keep [] w wr)
  case atStart => exact ⟨0, rfl, rfl, Keep.refl _ _⟩
  case round =>
    obtain ⟨k, rfl, hk, hK⟩ := hrel
    by_cases hlt : k < o1.length
    · obtain ⟨r, hr⟩ : ∃ r, o1[k]? = some r := ⟨_, List.getElem?_eq_getElem hlt⟩
      obtain ⟨c, hc, e1, e2, e3⟩ := hel k r hr
      obtain ⟨ab, ao, cp, hv, hcl⟩ := leAt h1 hr
      cases hv
      have hO2 : RdV w 3 lenc (.slice A2 o2.length c2) o2 := by rw [HL.out]; exact h2
      obtain ⟨bb, bo, cq, hv, hdl⟩ := leAt hO2 hc
      cases hv
      have hx := b1 r (List.mem_of_getElem? hr)
      have hy := b2 c (List.mem_of_getElem? hc)
      obtain ⟨rf, rt, rV, rb⟩ := r
      obtain ⟨cf, ct, cV, cb⟩ := c
      simp only at e1 e2 e3 hcl hdl hx hy
      subst e1 e2 e3
      obtain ⟨Ax, cx, rfl, _⟩ := id hx
      obtain ⟨Ay, cy, rfl, _⟩ := id hy
      have hcv := fun W (hk : Keep [] w W) => run_str (P := Try.prog) (w := W) Try.underlying33 Try.underlying5 (hx.keep0 hk) 9 Try.underlying9
      have hcw := fun W (hk : Keep [] w W) => run_str (P := Try.prog) (w := W) Try.underlying33 Try.underlying5 (hy.keep0 hk) 9 Try.underlying9
      obtain ⟨str, Hstr⟩ : ∃ x, Hid (x = strOfNums rb) := ⟨_, Lib.hid rfl⟩
      rw [← Hstr.out] at hcv hcw
      clear hr hc hx hy hel
      go_upto_region 6 with fail
      refine wp_region_noPanic ?_
      refine Bz.wp_region_E (S := (fun w' => Keep [] w w')) (E := []) (by kernel_rfl) (by exact hK.drew) (fun hHeld => ?_)
      refine Bz.wpAnyE_take (i := 0) (oi := { dst := some 17, op := Go.Op.move (Go.Operand.tmp 0), type := 36, pos := "law.go:225", after := #[], guard := none }) (v := ?_) rfl (by kernel_rfl) (by kernel_rfl) (by kernel_rfl) (by kernel_rfl) (fun _ _ _ h => h) (Or.inl ⟨by rfl, ?_⟩) hHeld ?_
      rotate_left 1
      · (intro w hSw; have q0 := hcl w hSw; have q1 := hdl w hSw; have q2 := hcv w hSw; have q3 := hcw w hSw; go_simp; first | done | with_reducible rfl)
      try simp only [Act.put, List.setIfInBounds_toArray, List.set_cons_zero, List.set_cons_succ]
      refine Bz.wpAnyE_take (i := 1) (oi := { dst := some 18, op := Go.Op.move (Go.Operand.tmp 5), type := 3, pos := "law.go:225", after := #[], guard := none }) (v := ?_) rfl (by kernel_rfl) (by kernel_rfl) (by kernel_rfl) (by kernel_rfl) (fun _ _ _ h => h) (Or.inl ⟨by rfl, ?_⟩) hHeld ?_
      rotate_left 1
      · (intro w hSw; have q0 := hcl w hSw; have q1 := hdl w hSw; have q2 := hcv w hSw; have q3 := hcw w hSw; go_simp; first | done | with_reducible rfl)
      try simp only [Act.put, List.setIfInBounds_toArray, List.set_cons_zero, List.set_cons_succ]
      refine Bz.wpAnyE_take (i := 2) (oi := { dst := some 19, op := Go.Op.indexAddr 36 (Go.Operand.tmp 17) (Go.Operand.tmp 18), type := 0, pos := "law.go:225", after := #[{ on := 0, ground := Go.Ground.data }, { on := 1, ground := Go.Ground.data }], guard := none }) (v := ?_) rfl (by kernel_rfl) (by kernel_rfl) (by kernel_rfl) (by kernel_rfl) (fun _ _ _ h => h) (Or.inl ⟨by rfl, ?_⟩) hHeld ?_
      rotate_left 1
      · (intro w hSw; have q0 := hcl w hSw; have q1 := hdl w hSw; have q2 := hcv w hSw; have q3 := hcw w hSw; go_simp; first | done | with_reducible rfl)
      try simp only [Act.put, List.setIfInBounds_toArray, List.set_cons_zero, List.set_cons_succ]
      refine Bz.wpAnyE_take (i := 3) (oi := { dst := some 20, op := Go.Op.fieldAddr 35 (Go.Operand.tmp 19) 0, type := 0, pos := "law.go:225", after := #[{ on := 2, ground := Go.Ground.data }], guard := none }) (v := ?_) rfl (by kernel_rfl) (by kernel_rfl) (by kernel_rfl) (by kernel_rfl) (fun _ _ _ h => h) (Or.inl ⟨by rfl, ?_⟩) hHeld ?_
      rotate_left 1
      · (intro w hSw; have q0 := hcl w hSw; have q1 := hdl w hSw; have q2 := hcv w hSw; have q3 := hcw w hSw; go_simp; first | done | with_reducible rfl)
      try simp only [Act.put, List.setIfInBounds_toArray, List.set_cons_zero, List.set_cons_succ]
      refine Bz.wpAnyE_take (i := 4) (oi := { dst := some 21, op := Go.Op.load 3 (Go.Operand.tmp 20), type := 3, pos := "law.go:225", after := #[{ on := 3, ground := Go.Ground.data }], guard := none }) (v := ?_) rfl (by kernel_rfl) (by kernel_rfl) (by kernel_rfl) (by kernel_rfl) (fun _ _ _ h => h) (Or.inl ⟨by rfl, ?_⟩) hHeld ?_
      rotate_left 1
      · (intro w hSw; have q0 := hcl w hSw; have q1 := hdl w hSw; have q2 := hcv w hSw; have q3 := hcw w hSw; go_simp; first | done | with_reducible rfl)
      try simp only [Act.put, List.setIfInBounds_toArray, List.set_cons_zero, List.set_cons_succ]
      refine Bz.wpAnyE_take (i := 5) (oi := { dst := some 22, op := Go.Op.move (Go.Operand.tmp 1), type := 36, pos := "law.go:225", after := #[], guard := none }) (v := ?_) rfl (by kernel_rfl) (by kernel_rfl) (by kernel_rfl) (by kernel_rfl) (fun _ _ _ h => h) (Or.inl ⟨by rfl, ?_⟩) hHeld ?_
      rotate_left 1
      · (intro w hSw; have q0 := hcl w hSw; have q1 := hdl w hSw; have q2 := hcv w hSw; have q3 := hcw w hSw; go_simp; first | done | with_reducible rfl)
      try simp only [Act.put, List.setIfInBounds_toArray, List.set_cons_zero, List.set_cons_succ]
      refine Bz.wpAnyE_take (i := 6) (oi := { dst := some 23, op := Go.Op.move (Go.Operand.tmp 5), type := 3, pos := "law.go:225", after := #[], guard := none }) (v := ?_) rfl (by kernel_rfl) (by kernel_rfl) (by kernel_rfl) (by kernel_rfl) (fun _ _ _ h => h) (Or.inl ⟨by rfl, ?_⟩) hHeld ?_
      rotate_left 1
      · (intro w hSw; have q0 := hcl w hSw; have q1 := hdl w hSw; have q2 := hcv w hSw; have q3 := hcw w hSw; go_simp; first | done | with_reducible rfl)
      try simp only [Act.put, List.setIfInBounds_toArray, List.set_cons_zero, List.set_cons_succ]
      refine Bz.wpAnyE_take (i := 7) (oi := { dst := some 24, op := Go.Op.indexAddr 36 (Go.Operand.tmp 22) (Go.Operand.tmp 23), type := 0, pos := "law.go:225", after := #[{ on := 5, ground := Go.Ground.data }, { on := 6, ground := Go.Ground.data }], guard := none }) (v := ?_) rfl (by kernel_rfl) (by kernel_rfl) (by kernel_rfl) (by kernel_rfl) (fun _ _ _ h => h) (Or.inl ⟨by rfl, ?_⟩) hHeld ?_
      rotate_left 1
      · (intro w hSw; have q0 := hcl w hSw; have q1 := hdl w hSw; have q2 := hcv w hSw; have q3 := hcw w hSw; go_simp; first | done | with_reducible rfl)
      try simp only [Act.put, List.setIfInBounds_toArray, List.set_cons_zero, List.set_cons_succ]
      refine Bz.wpAnyE_take (i := 8) (oi := { dst := some 25, op := Go.Op.fieldAddr 35 (Go.Operand.tmp 24) 0, type := 0, pos := "law.go:225", after := #[{ on := 7, ground := Go.Ground.data }], guard := none }) (v := ?_) rfl (by kernel_rfl) (by kernel_rfl) (by kernel_rfl) (by kernel_rfl) (fun _ _ _ h => h) (Or.inl ⟨by rfl, ?_⟩) hHeld ?_
      rotate_left 1
      · (intro w hSw; have q0 := hcl w hSw; have q1 := hdl w hSw; have q2 := hcv w hSw; have q3 := hcw w hSw; go_simp; first | done | with_reducible rfl)
      try simp only [Act.put, List.setIfInBounds_toArray, List.set_cons_zero, List.set_cons_succ]
      refine Bz.wpAnyE_take (i := 9) (oi := { dst := some 26, op := Go.Op.load 3 (Go.Operand.tmp 25), type := 3, pos := "law.go:225", after := #[{ on := 8, ground := Go.Ground.data }], guard := none }) (v := ?_) rfl (by kernel_rfl) (by kernel_rfl) (by kernel_rfl) (by kernel_rfl) (fun _ _ _ h => h) (Or.inl ⟨by rfl, ?_⟩) hHeld ?_
      rotate_left 1
      · (intro w hSw; have q0 := hcl w hSw; have q1 := hdl w hSw; have q2 := hcv w hSw; have q3 := hcw w hSw; go_simp; first | done | with_reducible rfl)
      try simp only [Act.put, List.setIfInBounds_toArray, List.set_cons_zero, List.set_cons_succ]
      refine Bz.wpAnyE_take (i := 10) (oi := { dst := some 27, op := Go.Op.binOp Go.BinOp.neq 3 (Go.Operand.tmp 21) (Go.Operand.tmp 26) 3, type := 4, pos := "law.go:225", after := #[{ on := 4, ground := Go.Ground.data }, { on := 9, ground := Go.Ground.data }], guard := none }) (v := ?_) rfl (by kernel_rfl) (by kernel_rfl) (by kernel_rfl) (by kernel_rfl) (fun _ _ _ h => h) (Or.inl ⟨by rfl, ?_⟩) hHeld ?_
      rotate_left 1
      · (intro w hSw; have q0 := hcl w hSw; have q1 := hdl w hSw; have q2 := hcv w hSw; have q3 := hcw w hSw; go_simp; first | done | with_reducible rfl)
      try simp only [Act.put, List.setIfInBounds_toArray, List.set_cons_zero, List.set_cons_succ]
      refine Bz.wpAnyE_take (i := 11) (oi := { dst := some 28, op := Go.Op.move (Go.Operand.tmp 27), type := 4, pos := "law.go:225", after := #[{ on := 10, ground := Go.Ground.data }], guard := none }) (v := ?_) rfl (by kernel_rfl) (by kernel_rfl) (by kernel_rfl) (by kernel_rfl) (fun _ _ _ h => h) (Or.inl ⟨by rfl, ?_⟩) hHeld ?_
      rotate_left 1
      · (intro w hSw; have q0 := hcl w hSw; have q1 := hdl w hSw; have q2 := hcv w hSw; have q3 := hcw w hSw; go_simp; first | done | with_reducible rfl)
      try simp only [Act.put, List.setIfInBounds_toArray, List.set_cons_zero, List.set_cons_succ]
      refine Bz.wpAnyE_take (i := 12) (oi := { dst := some 29, op := Go.Op.move (Go.Operand.tmp 0), type := 36, pos := "law.go:225", after := #[{ on := 11, ground := Go.Ground.guard }], guard := some (11, false) }) (v := ?_) rfl (by kernel_rfl) (by kernel_rfl) (by kernel_rfl) (by kernel_rfl) (fun _ _ _ h => h) (Or.inl ⟨by rfl, ?_⟩) hHeld ?_
      rotate_left 1
      · (intro w hSw; have q0 := hcl w hSw; have q1 := hdl w hSw; have q2 := hcv w hSw; have q3 := hcw w hSw; go_simp; first | done | with_reducible rfl)
      try simp only [Act.put, List.setIfInBounds_toArray, List.set_cons_zero, List.set_cons_succ]
      refine Bz.wpAnyE_take (i := 13) (oi := { dst := some 30, op := Go.Op.move (Go.Operand.tmp 5), type := 3, pos := "law.go:225", after := #[{ on := 11, ground := Go.Ground.guard }], guard := some (11, false) }) (v := ?_) rfl (by kernel_rfl) (by kernel_rfl) (by kernel_rfl) (by kernel_rfl) (fun _ _ _ h => h) (Or.inl ⟨by rfl, ?_⟩) hHeld ?_
      rotate_left 1
      · (intro w hSw; have q0 := hcl w hSw; have q1 := hdl w hSw; have q2 := hcv w hSw; have q3 := hcw w hSw; go_simp; first | done | with_reducible rfl)
      try simp only [Act.put, List.setIfInBounds_toArray, List.set_cons_zero, List.set_cons_succ]
      refine Bz.wpAnyE_take (i := 14) (oi := { dst := some 31, op := Go.Op.indexAddr 36 (Go.Operand.tmp 29) (Go.Operand.tmp 30), type := 0, pos := "law.go:225", after := #[{ on := 12, ground := Go.Ground.data }, { on := 13, ground := Go.Ground.data }, { on := 11, ground := Go.Ground.guard }], guard := some (11, false) }) (v := ?_) rfl (by kernel_rfl) (by kernel_rfl) (by kernel_rfl) (by kernel_rfl) (fun _ _ _ h => h) (Or.inl ⟨by rfl, ?_⟩) hHeld ?_
      rotate_left 1
      · (intro w hSw; have q0 := hcl w hSw; have q1 := hdl w hSw; have q2 := hcv w hSw; have q3 := hcw w hSw; go_simp; first | done | with_reducible rfl)
      try simp only [Act.put, List.setIfInBounds_toArray, List.set_cons_zero, List.set_cons_succ]
      refine Bz.wpAnyE_take (i := 15) (oi := { dst := some 32, op := Go.Op.fieldAddr 35 (Go.Operand.tmp 31) 1, type := 0, pos := "law.go:225", after := #[{ on := 14, ground := Go.Ground.data }, { on := 11, ground := Go.Ground.guard }], guard := some (11, false) }) (v := ?_) rfl (by kernel_rfl) (by kernel_rfl) (by kernel_rfl) (by kernel_rfl) (fun _ _ _ h => h) (Or.inl ⟨by rfl, ?_⟩) hHeld ?_
      rotate_left 1
      · (intro w hSw; have q0 := hcl w hSw; have q1 := hdl w hSw; have q2 := hcv w hSw; have q3 := hcw w hSw; go_simp; first | done | with_reducible rfl)
      try simp only [Act.put, List.setIfInBounds_toArray, List.set_cons_zero, List.set_cons_succ]
      refine Bz.wpAnyE_take (i := 16) (oi := { dst := some 33, op := Go.Op.load 3 (Go.Operand.tmp 32), type := 3, pos := "law.go:225", after := #[{ on := 15, ground := Go.Ground.data }, { on := 11, ground := Go.Ground.guard }], guard := some (11, false) }) (v := ?_) rfl (by kernel_rfl) (by kernel_rfl) (by kernel_rfl) (by kernel_rfl) (fun _ _ _ h => h) (Or.inl ⟨by rfl, ?_⟩) hHeld ?_
      rotate_left 1
      · (intro w hSw; have q0 := hcl w hSw; have q1 := hdl w hSw; have q2 := hcv w hSw; have q3 := hcw w hSw; go_simp; first | done | with_reducible rfl)
      try simp only [Act.put, List.setIfInBounds_toArray, List.set_cons_zero, List.set_cons_succ]
      refine Bz.wpAnyE_take (i := 17) (oi := { dst := some 34, op := Go.Op.move (Go.Operand.tmp 1), type := 36, pos := "law.go:225", after := #[{ on := 11, ground := Go.Ground.guard }], guard := some (11, false) }) (v := ?_) rfl (by kernel_rfl) (by kernel_rfl) (by kernel_rfl) (by kernel_rfl) (fun _ _ _ h => h) (Or.inl ⟨by rfl, ?_⟩) hHeld ?_
      rotate_left 1
      · (intro w hSw; have q0 := hcl w hSw; have q1 := hdl w hSw; have q2 := hcv w hSw; have q3 := hcw w hSw; go_simp; first | done | with_reducible rfl)
      try simp only [Act.put, List.setIfInBounds_toArray, List.set_cons_zero, List.set_cons_succ]
      refine Bz.wpAnyE_take (i := 18) (oi := { dst := some 35, op := Go.Op.move (Go.Operand.tmp 5), type := 3, pos := "law.go:225", after := #[{ on := 11, ground := Go.Ground.guard }], guard := some (11, false) }) (v := ?_) rfl (by kernel_rfl) (by kernel_rfl) (by kernel_rfl) (by kernel_rfl) (fun _ _ _ h => h) (Or.inl ⟨by rfl, ?_⟩) hHeld ?_
      rotate_left 1
      · (intro w hSw; have q0 := hcl w hSw; have q1 := hdl w hSw; have q2 := hcv w hSw; have q3 := hcw w hSw; go_simp; first | done | with_reducible rfl)
      try simp only [Act.put, List.setIfInBounds_toArray, List.set_cons_zero, List.set_cons_succ]
      refine Bz.wpAnyE_take (i := 19) (oi := { dst := some 36, op := Go.Op.indexAddr 36 (Go.Operand.tmp 34) (Go.Operand.tmp 35), type := 0, pos := "law.go:225", after := #[{ on := 17, ground := Go.Ground.data }, { on := 18, ground := Go.Ground.data }, { on := 11, ground := Go.Ground.guard }], guard := some (11, false) }) (v := ?_) rfl (by kernel_rfl) (by kernel_rfl) (by kernel_rfl) (by kernel_rfl) (fun _ _ _ h => h) (Or.inl ⟨by rfl, ?_⟩) hHeld ?_
      rotate_left 1
      · (intro w hSw; have q0 := hcl w hSw; have q1 := hdl w hSw; have q2 := hcv w hSw; have q3 := hcw w hSw; go_simp; first | done | with_reducible rfl)
      try simp only [Act.put, List.setIfInBounds_toArray, List.set_cons_zero, List.set_cons_succ]
      refine Bz.wpAnyE_take (i := 20) (oi := { dst := some 37, op := Go.Op.fieldAddr 35 (Go.Operand.tmp 36) 1, type := 0, pos := "law.go:225", after := #[{ on := 19, ground := Go.Ground.data }, { on := 11, ground := Go.Ground.guard }], guard := some (11, false) }) (v := ?_) rfl (by kernel_rfl) (by kernel_rfl) (by kernel_rfl) (by kernel_rfl) (fun _ _ _ h => h) (Or.inl ⟨by rfl, ?_⟩) hHeld ?_
      rotate_left 1
      · (intro w hSw; have q0 := hcl w hSw; have q1 := hdl w hSw; have q2 := hcv w hSw; have q3 := hcw w hSw; go_simp; first | done | with_reducible rfl)
      try simp only [Act.put, List.setIfInBounds_toArray, List.set_cons_zero, List.set_cons_succ]
      refine Bz.wpAnyE_take (i := 21) (oi := { dst := some 38, op := Go.Op.load 3 (Go.Operand.tmp 37), type := 3, pos := "law.go:225", after := #[{ on := 20, ground := Go.Ground.data }, { on := 11, ground := Go.Ground.guard }], guard := some (11, false) }) (v := ?_) rfl (by kernel_rfl) (by kernel_rfl) (by kernel_rfl) (by kernel_rfl) (fun _ _ _ h => h) (Or.inl ⟨by rfl, ?_⟩) hHeld ?_
      rotate_left 1
      · (intro w hSw; have q0 := hcl w hSw; have q1 := hdl w hSw; have q2 := hcv w hSw; have q3 := hcw w hSw; go_simp; first | done | with_reducible rfl)
      try simp only [Act.put, List.setIfInBounds_toArray, List.set_cons_zero, List.set_cons_succ]
      refine Bz.wpAnyE_take (i := 22) (oi := { dst := some 39, op := Go.Op.binOp Go.BinOp.neq 3 (Go.Operand.tmp 33) (Go.Operand.tmp 38) 3, type := 4, pos := "law.go:225", after := #[{ on := 16, ground := Go.Ground.data }, { on := 21, ground := Go.Ground.data }, { on := 11, ground := Go.Ground.guard }], guard := some (11, false) }) (v := ?_) rfl (by kernel_rfl) (by kernel_rfl) (by kernel_rfl) (by kernel_rfl) (fun _ _ _ h => h) (Or.inl ⟨by rfl, ?_⟩) hHeld ?_
      rotate_left 1
      · (intro w hSw; have q0 := hcl w hSw; have q1 := hdl w hSw; have q2 := hcv w hSw; have q3 := hcw w hSw; go_simp; first | done | with_reducible rfl)
      try simp only [Act.put, List.setIfInBounds_toArray, List.set_cons_zero, List.set_cons_succ]
      refine Bz.wpAnyE_take (i := 23) (oi := { dst := some 40, op := Go.Op.pick (Go.Operand.tmp 28) (Go.Operand.const (Go.Value.bool true)) (Go.Operand.tmp 39), type := 4, pos := "law.go:225", after := #[{ on := 11, ground := Go.Ground.data }, { on := 22, ground := Go.Ground.data }], guard := none }) (v := ?_) rfl (by kernel_rfl) (by kernel_rfl) (by kernel_rfl) (by kernel_rfl) (fun _ _ _ h => h) (Or.inl ⟨by rfl, ?_⟩) hHeld ?_
      rotate_left 1
      · (intro w hSw; have q0 := hcl w hSw; have q1 := hdl w hSw; have q2 := hcv w hSw; have q3 := hcw w hSw; go_simp; first | done | with_reducible rfl)
      try simp only [Act.put, List.setIfInBounds_toArray, List.set_cons_zero, List.set_cons_succ]
      refine Bz.wpAnyE_take (i := 24) (oi := { dst := some 41, op := Go.Op.move (Go.Operand.tmp 40), type := 4, pos := "law.go:225", after := #[{ on := 23, ground := Go.Ground.data }, { on := 11, ground := Go.Ground.chain }], guard := none }) (v := ?_) rfl (by kernel_rfl) (by kernel_rfl) (by kernel_rfl) (by kernel_rfl) (fun _ _ _ h => h) (Or.inl ⟨by rfl, ?_⟩) hHeld ?_
      rotate_left 1
      · (intro w hSw; have q0 := hcl w hSw; have q1 := hdl w hSw; have q2 := hcv w hSw; have q3 := hcw w hSw; go_simp; first | done | with_reducible rfl)
      try simp only [Act.put, List.setIfInBounds_toArray, List.set_cons_zero, List.set_cons_succ]
      refine Bz.wpAnyE_take (i := 25) (oi := { dst := some 42, op := Go.Op.move (Go.Operand.tmp 0), type := 36, pos := "law.go:225", after := #[{ on := 24, ground := Go.Ground.guard }], guard := some (24, false) }) (v := ?_) rfl (by kernel_rfl) (by kernel_rfl) (by kernel_rfl) (by kernel_rfl) (fun _ _ _ h => h) (Or.inl ⟨by rfl, ?_⟩) hHeld ?_
      rotate_left 1
      · (intro w hSw; have q0 := hcl w hSw; have q1 := hdl w hSw; have q2 := hcv w hSw; have q3 := hcw w hSw; go_simp; first | done | with_reducible rfl)
      try simp only [Act.put, List.setIfInBounds_toArray, List.set_cons_zero, List.set_cons_succ]
      refine Bz.wpAnyE_take (i := 26) (oi := { dst := some 43, op := Go.Op.move (Go.Operand.tmp 5), type := 3, pos := "law.go:225", after := #[{ on := 24, ground := Go.Ground.guard }], guard := some (24, false) }) (v := ?_) rfl (by kernel_rfl) (by kernel_rfl) (by kernel_rfl) (by kernel_rfl) (fun _ _ _ h => h) (Or.inl ⟨by rfl, ?_⟩) hHeld ?_
      rotate_left 1
      · (intro w hSw; have q0 := hcl w hSw; have q1 := hdl w hSw; have q2 := hcv w hSw; have q3 := hcw w hSw; go_simp; first | done | with_reducible rfl)
      try simp only [Act.put, List.setIfInBounds_toArray, List.set_cons_zero, List.set_cons_succ]
      refine Bz.wpAnyE_take (i := 27) (oi := { dst := some 44, op := Go.Op.indexAddr 36 (Go.Operand.tmp 42) (Go.Operand.tmp 43), type := 0, pos := "law.go:225", after := #[{ on := 25, ground := Go.Ground.data }, { on := 26, ground := Go.Ground.data }, { on := 24, ground := Go.Ground.guard }], guard := some (24, false) }) (v := ?_) rfl (by kernel_rfl) (by kernel_rfl) (by kernel_rfl) (by kernel_rfl) (fun _ _ _ h => h) (Or.inl ⟨by rfl, ?_⟩) hHeld ?_
      rotate_left 1
      · (intro w hSw; have q0 := hcl w hSw; have q1 := hdl w hSw; have q2 := hcv w hSw; have q3 := hcw w hSw; go_simp; first | done | with_reducible rfl)
      try simp only [Act.put, List.setIfInBounds_toArray, List.set_cons_zero, List.set_cons_succ]
      refine Bz.wpAnyE_take (i := 28) (oi := { dst := some 45, op := Go.Op.fieldAddr 35 (Go.Operand.tmp 44) 2, type := 0, pos := "law.go:225", after := #[{ on := 27, ground := Go.Ground.data }, { on := 24, ground := Go.Ground.guard }], guard := some (24, false) }) (v := ?_) rfl (by kernel_rfl) (by kernel_rfl) (by kernel_rfl) (by kernel_rfl) (fun _ _ _ h => h) (Or.inl ⟨by rfl, ?_⟩) hHeld ?_
      rotate_left 1
      · (intro w hSw; have q0 := hcl w hSw; have q1 := hdl w hSw; have q2 := hcv w hSw; have q3 := hcw w hSw; go_simp; first | done | with_reducible rfl)
      try simp only [Act.put, List.setIfInBounds_toArray, List.set_cons_zero, List.set_cons_succ]
      refine Bz.wpAnyE_take (i := 29) (oi := { dst := some 46, op := Go.Op.load 33 (Go.Operand.tmp 45), type := 33, pos := "law.go:225", after := #[{ on := 28, ground := Go.Ground.data }, { on := 24, ground := Go.Ground.guard }], guard := some (24, false) }) (v := ?_) rfl (by kernel_rfl) (by kernel_rfl) (by kernel_rfl) (by kernel_rfl) (fun _ _ _ h => h) (Or.inl ⟨by rfl, ?_⟩) hHeld ?_
      rotate_left 1
      · (intro w hSw; have q0 := hcl w hSw; have q1 := hdl w hSw; have q2 := hcv w hSw; have q3 := hcw w hSw; go_simp; first | done | with_reducible rfl)
      try simp only [Act.put, List.setIfInBounds_toArray, List.set_cons_zero, List.set_cons_succ]
      refine Bz.wpAnyE_take (i := 30) (oi := { dst := some 47, op := Go.Op.convert 33 9 (Go.Operand.tmp 46), type := 9, pos := "law.go:225", after := #[{ on := 29, ground := Go.Ground.data }, { on := 24, ground := Go.Ground.guard }], guard := some (24, false) }) (v := ?_) rfl (by kernel_rfl) (by kernel_rfl) (by kernel_rfl) (by kernel_rfl) (fun _ _ _ h => h) (Or.inl ⟨by rfl, ?_⟩) hHeld ?_
      rotate_left 1
      · (intro w hSw; have q0 := hcl w hSw; have q1 := hdl w hSw; have q2 := hcv w hSw; have q3 := hcw w hSw; go_simp; first | done | with_reducible rfl)
      try simp only [Act.put, List.setIfInBounds_toArray, List.set_cons_zero, List.set_cons_succ]
      refine Bz.wpAnyE_take (i := 31) (oi := { dst := some 48, op := Go.Op.move (Go.Operand.tmp 1), type := 36, pos := "law.go:225", after := #[{ on := 24, ground := Go.Ground.guard }], guard := some (24, false) }) (v := ?_) rfl (by kernel_rfl) (by kernel_rfl) (by kernel_rfl) (by kernel_rfl) (fun _ _ _ h => h) (Or.inl ⟨by rfl, ?_⟩) hHeld ?_
      rotate_left 1
      · (intro w hSw; have q0 := hcl w hSw; have q1 := hdl w hSw; have q2 := hcv w hSw; have q3 := hcw w hSw; go_simp; first | done | with_reducible rfl)
      try simp only [Act.put, List.setIfInBounds_toArray, List.set_cons_zero, List.set_cons_succ]
      refine Bz.wpAnyE_take (i := 32) (oi := { dst := some 49, op := Go.Op.move (Go.Operand.tmp 5), type := 3, pos := "law.go:225", after := #[{ on := 24, ground := Go.Ground.guard }], guard := some (24, false) }) (v := ?_) rfl (by kernel_rfl) (by kernel_rfl) (by kernel_rfl) (by kernel_rfl) (fun _ _ _ h => h) (Or.inl ⟨by rfl, ?_⟩) hHeld ?_
      rotate_left 1
      · (intro w hSw; have q0 := hcl w hSw; have q1 := hdl w hSw; have q2 := hcv w hSw; have q3 := hcw w hSw; go_simp; first | done | with_reducible rfl)
      try simp only [Act.put, List.setIfInBounds_toArray, List.set_cons_zero, List.set_cons_succ]
      refine Bz.wpAnyE_take (i := 33) (oi := { dst := some 50, op := Go.Op.indexAddr 36 (Go.Operand.tmp 48) (Go.Operand.tmp 49), type := 0, pos := "law.go:225", after := #[{ on := 31, ground := Go.Ground.data }, { on := 32, ground := Go.Ground.data }, { on := 24, ground := Go.Ground.guard }], guard := some (24, false) }) (v := ?_) rfl (by kernel_rfl) (by kernel_rfl) (by kernel_rfl) (by kernel_rfl) (fun _ _ _ h => h) (Or.inl ⟨by rfl, ?_⟩) hHeld ?_
      rotate_left 1
      · (intro w hSw; have q0 := hcl w hSw; have q1 := hdl w hSw; have q2 := hcv w hSw; have q3 := hcw w hSw; go_simp; first | done | with_reducible rfl)
      try simp only [Act.put, List.setIfInBounds_toArray, List.set_cons_zero, List.set_cons_succ]
      refine Bz.wpAnyE_take (i := 34) (oi := { dst := some 51, op := Go.Op.fieldAddr 35 (Go.Operand.tmp 50) 2, type := 0, pos := "law.go:225", after := #[{ on := 33, ground := Go.Ground.data }, { on := 24, ground := Go.Ground.guard }], guard := some (24, false) }) (v := ?_) rfl (by kernel_rfl) (by kernel_rfl) (by kernel_rfl) (by kernel_rfl) (fun _ _ _ h => h) (Or.inl ⟨by rfl, ?_⟩) hHeld ?_
      rotate_left 1
      · (intro w hSw; have q0 := hcl w hSw; have q1 := hdl w hSw; have q2 := hcv w hSw; have q3 := hcw w hSw; go_simp; first | done | with_reducible rfl)
      try simp only [Act.put, List.setIfInBounds_toArray, List.set_cons_zero, List.set_cons_succ]
      refine Bz.wpAnyE_take (i := 35) (oi := { dst := some 52, op := Go.Op.load 33 (Go.Operand.tmp 51), type := 33, pos := "law.go:225", after := #[{ on := 34, ground := Go.Ground.data }, { on := 24, ground := Go.Ground.guard }], guard := some (24, false) }) (v := ?_) rfl (by kernel_rfl) (by kernel_rfl) (by kernel_rfl) (by kernel_rfl) (fun _ _ _ h => h) (Or.inl ⟨by rfl, ?_⟩) hHeld ?_
      rotate_left 1
      · (intro w hSw; have q0 := hcl w hSw; have q1 := hdl w hSw; have q2 := hcv w hSw; have q3 := hcw w hSw; go_simp; first | done | with_reducible rfl)
      try simp only [Act.put, List.setIfInBounds_toArray, List.set_cons_zero, List.set_cons_succ]
      refine Bz.wpAnyE_take (i := 36) (oi := { dst := some 53, op := Go.Op.convert 33 9 (Go.Operand.tmp 52), type := 9, pos := "law.go:225", after := #[{ on := 35, ground := Go.Ground.data }, { on := 24, ground := Go.Ground.guard }], guard := some (24, false) }) (v := ?_) rfl (by kernel_rfl) (by kernel_rfl) (by kernel_rfl) (by kernel_rfl) (fun _ _ _ h => h) (Or.inl ⟨by rfl, ?_⟩) hHeld ?_
      rotate_left 1
      · (intro w hSw; have q0 := hcl w hSw; have q1 := hdl w hSw; have q2 := hcv w hSw; have q3 := hcw w hSw; go_simp; first | done | with_reducible rfl)
      try simp only [Act.put, List.setIfInBounds_toArray, List.set_cons_zero, List.set_cons_succ]
      refine Bz.wpAnyE_take (i := 37) (oi := { dst := some 54, op := Go.Op.binOp Go.BinOp.neq 9 (Go.Operand.tmp 47) (Go.Operand.tmp 53) 9, type := 4, pos := "law.go:225", after := #[{ on := 30, ground := Go.Ground.data }, { on := 36, ground := Go.Ground.data }, { on := 24, ground := Go.Ground.guard }], guard := some (24, false) }) (v := ?_) rfl (by kernel_rfl) (by kernel_rfl) (by kernel_rfl) (by kernel_rfl) (fun _ _ _ h => h) (Or.inl ⟨by rfl, ?_⟩) hHeld ?_
      rotate_left 1
      · (intro w hSw; have q0 := hcl w hSw; have q1 := hdl w hSw; have q2 := hcv w hSw; have q3 := hcw w hSw; go_simp; first | done | with_reducible rfl)
      try simp only [Act.put, List.setIfInBounds_toArray, List.set_cons_zero, List.set_cons_succ]
      refine Bz.wpAnyE_take (i := 38) (oi := { dst := some 55, op := Go.Op.pick (Go.Operand.tmp 41) (Go.Operand.const (Go.Value.bool true)) (Go.Operand.tmp 54), type := 4, pos := "law.go:225", after := #[{ on := 24, ground := Go.Ground.data }, { on := 37, ground := Go.Ground.data }], guard := none }) (v := ?_) rfl (by kernel_rfl) (by kernel_rfl) (by kernel_rfl) (by kernel_rfl) (fun _ _ _ h => h) (Or.inl ⟨by rfl, ?_⟩) hHeld ?_
      rotate_left 1
      · (intro w hSw; have q0 := hcl w hSw; have q1 := hdl w hSw; have q2 := hcv w hSw; have q3 := hcw w hSw; go_simp; first | done | with_reducible rfl)
      try simp only [Act.put, List.setIfInBounds_toArray, List.set_cons_zero, List.set_cons_succ]
      refine Bz.wpAnyE_done (by kernel_rfl) ?_ _
      refine NoPanic.normal ?_
      
      go_wp2_with fail
      go_roundg (o1.length - (k + 1))
      case measure => omega
      case rel => exact ⟨k + 1, by go_num, by omega, hHeld⟩
    · go_wp2_with fail
      go_ret
      exact ⟨rfl, hK⟩
/-- Two nets that lie apart, both of the call's own. -/
structure Two (w0 w : World) (t1 m1 : Nat) (X : NS) (R1 B1 : List Nat) (t2 m2 : Nat) (Y : NS) (R2 B2 : List Nat) : Prop where
  n1 : NetAt w t1 m1 X R1 B1
  n2 : NetAt w t2 m2 Y R2 B2
  ap : ∀ g ∈ t1 :: m1 :: R1, g ∉ t2 :: m2 :: R2
  o1 : ∀ g ∈ t1 :: m1 :: R1, w0.heap.size ≤ g
  o2 : ∀ g ∈ t2 :: m2 :: R2, w0.heap.size ≤ g
  k : Keep [] w0 w
section
variable {w0 w w' : World} {t1 m1 t2 m2 : Nat} {X Y X' Y' : NS} {R1 B1 R2 B2 R' B' : List Nat}
theorem NetAt.inB {t mb : Nat} {S : NS} {R B : List Nat} (h : NetAt w t mb S R B) : ∀ g ∈ B, ∃ cs, Blk w g 5 cs := by
  obtain ⟨_, D, _, hd⟩ := h
  exact hd.kindB
theorem NetAt.all_lt {t mb : Nat} {S : NS} {R B : List Nat} (h : NetAt w t mb S R B) : ∀ g ∈ t :: mb :: R, g < w.heap.size := fun g hg => by
  simp only [List.mem_cons] at hg
  rcases hg with rfl | rfl | hg
  · exact h.lt.1
  · exact h.lt.2.1
  · exact h.lt.2.2.1 g hg
theorem Two.keep0 (h : Two w0 w t1 m1 X R1 B1 t2 m2 Y R2 B2) (hk : Keep [] w w') : Two w0 w' t1 m1 X R1 B1 t2 m2 Y R2 B2 := ⟨h.n1.keep0 hk, h.n2.keep0 hk, h.ap, h.o1, h.o2, h.k.trans hk⟩
theorem Two.first (h : Two w0 w t1 m1 X R1 B1 t2 m2 Y R2 B2) (hN : NetAt w' t1 m1 X' R' B') (hR : ∀ g ∈ R', g ∈ R1 ∨ w.heap.size ≤ g) (hk : Keep (t1 :: m1 :: R1) w w') : Two w0 w' t1 m1 X' R' B' t2 m2 Y R2 B2 := by
  have hn2 : ∀ g ∈ t2 :: m2 :: R2, g ∉ t1 :: m1 :: R1 := fun g hg hm => h.ap g hm hg
  refine ⟨hN, h.n2.keep hk (hn2 _ (by simp)) (hn2 _ (by simp)) (fun g hg => hn2 g (by simp [hg])) (fun g hg => ?_), fun g hg => ?_, fun g hg => ?_, h.o2, h.k.own hk h.o1⟩
  · obtain ⟨cs, hb⟩ := h.n2.inB g hg
    exact h.n1.notIn hb (by decide) (by decide)
  · simp only [List.mem_cons] at hg
    rcases hg with rfl | rfl | hg
    · exact h.ap _ (by simp)
    · exact h.ap _ (by simp)
    · rcases hR g hg with h1 | h1
      · exact h.ap g (by simp [h1])
      · intro hm
        have := h.n2.all_lt g hm
        omega
  · simp only [List.mem_cons] at hg
    rcases hg with rfl | rfl | hg
    · exact h.o1 _ (by simp)
    · exact h.o1 _ (by simp)
    · rcases hR g hg with h1 | h1
      · exact h.o1 g (by simp [h1])
      · exact Nat.le_trans h.k.size h1
theorem Two.swap (h : Two w0 w t1 m1 X R1 B1 t2 m2 Y R2 B2) : Two w0 w t2 m2 Y R2 B2 t1 m1 X R1 B1 := ⟨h.n2, h.n1, fun g hg hm => h.ap g hm hg, h.o2, h.o1, h.k⟩
theorem own_out {α : Type} {t mb : Nat} {S : NS} {R B : List Nat} {base : Nat} {ty : TypeId} {k : Nat} {enc : α → Array Value} {v : Value} {l : List α} (hO : Own w base ty k enc v l) (hN : NetAt w t mb S R B) (h1 : ty ≠ 77) (h2 : ty ≠ 72) (hk : Keep (t :: mb :: R) w w') : Own w' base ty k enc v l :=
  hO.keep hk (fun g hg => by obtain ⟨cs, hb⟩ := hO.blk g hg; exact hN.notIn hb h1 h2)
theorem bytes_rd (U : World) (s : ByteArray) (hs : s.size ≤ 100) : RdV (Lib.bytesWorld U 5 s) 1 benc (.slice (some ⟨U.heap.size, 0, none⟩) s.size (grownCap U s.size 0 5)) (strB s) ∧ Keep [] U (Lib.bytesWorld U 5 s) := by
  obtain ⟨W, gb, cap, rfl, rfl, rfl, h1, h2, _⟩ := bytes_keep (Keep.refl [] U) s hs
  exact ⟨h1, h2⟩
end
end Go.Proofs.Ytcjbmbljmmakfaa
