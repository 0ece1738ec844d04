/- The law's do: a deed on both nets: its Send. -/
import Derived.Test.YtcjbmbljmmakfaaAlike
namespace Go.Proofs.Ytcjbmbljmmakfaa
open Go.RowKit Go.Bz

structure Deed where
  (w a b : Int) (s : ByteArray) (L : Value) (l : List Int)
@[reducible] def denc (d : Deed) : Array Value := #[.int .u8 d.w, .int .i64 d.a, .int .i64 d.b, .string d.s, d.L]
theorem denc_sz : ∀ x, (denc x).size = 5 := fun _ => rfl
/-- Both nets in memory. -/
structure BothAt (w0 w : World) (t mb g : Nat) (S : NS) (R B : List Nat) (N : RN) (V C : Value) : Prop where
  net : NetAt w t mb S R B
  blk : Blk w g 47 (rcells N V C)
  rn : RnAt w N V C
  ht : w0.heap.size ≤ t
  hmb : w0.heap.size ≤ mb
  hR : ∀ r ∈ R, w0.heap.size ≤ r
  hg : w0.heap.size ≤ g
  k : Keep [] w0 w
theorem BothAt.keep0 {w0 w w' : World} {t mb g : Nat} {S : NS} {R B : List Nat} {N : RN} {V C : Value} (h : BothAt w0 w t mb g S R B N V C) (hk : Keep [] w w') : BothAt w0 w' t mb g S R B N V C :=
  ⟨h.net.keep0 hk, h.blk.keep hk (by simp), h.rn.keep0 hk, h.ht, h.hmb, h.hR, h.hg, h.k.trans hk⟩
theorem bytes_keep {S : List Nat} {a U : World} (_ : Keep S a U) (s : ByteArray) (hs : s.size ≤ 100) : ∃ (W : World) (gb cap : Nat), W = Lib.bytesWorld U 5 s ∧ gb = U.heap.size ∧ cap = grownCap U s.size 0 5 ∧ RdV W 1 benc (.slice (some ⟨gb, 0, none⟩) s.size cap) (strB s) ∧ Keep [] U W ∧ Hid (W.heap.size = U.heap.size + 1) := by
  refine ⟨_, _, grownCap U s.size 0 5, rfl, rfl, rfl, ?_, ⟨rfl, rfl, rfl, by rw [Lib.bytesWorld_size]; omega, fun k hk _ => Lib.bytesWorld_at_old U 5 s k hk⟩, Lib.hid (Lib.bytesWorld_size U 5 s)⟩
  refine ⟨_, _, by rw [strB_len], by rw [strB_len]; exact grownCap_ge U _ 0 5, grownCap_le_maxLen U _ 0 5 (by unfold maxLen; omega), fun _ => ⟨_, 0, rfl, by rw [Lib.bytesWorld_size]; omega, fun i x hi j hj => ?_⟩⟩
  have hj0 : j = 0 := by omega
  subst hj0
  have hil : i < s.size := by rw [← strB_len]; exact (List.getElem?_eq_some_iff.1 hi).1
  have := Lib.bytesWorld_cell U 5 s i hil
  simp only [Nat.zero_add, Nat.mul_one, Nat.add_zero]
  rw [this]
  unfold strB at hi
  rw [List.getElem?_map] at hi
  have hil2 : i < s.data.toList.length := by rw [Array.length_toList]; exact hil
  rw [List.getElem?_eq_getElem hil2] at hi
  simp only [Option.map_some, Option.some.injEq] at hi
  simp [List.getD, List.getElem?_eq_getElem hil2, ← hi]
theorem none_keep {S : List Nat} {a U : World} (_ : Keep S a U) (n : Nat) (hn : n ≤ U.heap.size) : ∃ (W : World) (g : Nat), W = U.alloc (.cells #[] 3) ∧ g = U.heap.size ∧ Own W n 3 1 ienc (.slice (some ⟨g, 0, none⟩) 0 0) [] ∧ Keep [] U W ∧ Hid (W.heap.size = U.heap.size + 1) :=
  ⟨_, _, rfl, rfl, Own.none_ U hn 3 1 ienc, (Keep.refl _ _).alloc _, Lib.hid (by simp)⟩
theorem app29 : AppT Try.prog 29 3 1 8 (.int .i64 0) := ⟨Try.underlying29, by kernel_rfl, rfl, by decide⟩
theorem ienc_one : ∀ x : Int, ∀ u ∈ (ienc x).toList, u.oneCell' = true := by intro x u hu; simp at hu; subst hu; rfl
/-- What do leaves. -/
def DoPost (w0 w : World) (t mb g : Nat) (R : List Nat) (k : Nat) (e : Ending) (w' : World) : Prop :=
  e = .returned (.bool true) ∧ ∃ S' R' B' N' V' C', BothAt w0 w' t mb g S' R' B' N' V' C' ∧ ActS S' N' (k + 1) ∧ N'.cuts.length ≤ k + 1 ∧ (∀ x ∈ R', x ∈ R ∨ w.heap.size ≤ x) ∧ Keep (g :: t :: mb :: R) w w'
section
variable {w0 w : World} {t mb g : Nat} {S : NS} {R B : List Nat} {N : RN} {V C : Value} {k : Nat}
/-- The document's net is written over. -/
theorem both_put {w0 wx : World} {t mb g : Nat} {S : NS} {R B : List Nat} {N : RN} {V C x0 x1 x2 x3 : Value} (hN : NetAt wx t mb S R B) (hB : Blk wx g 47 #[x0, x1, x2, x3]) (hrn : RnAt wx N V C)
    (ht : w0.heap.size ≤ t) (hmb : w0.heap.size ≤ mb) (hR : ∀ r ∈ R, w0.heap.size ≤ r) (hg : w0.heap.size ≤ g) (hk : Keep [] w0 wx) :
    BothAt w0 ((((wx.setCell ⟨g, 0, none⟩ (.int .i64 N.P)).setCell ⟨g, 1, none⟩ (.int .i64 N.now)).setCell ⟨g, 2, none⟩ V).setCell ⟨g, 3, none⟩ C) t mb g S R B N V C ∧
    Keep [g] wx ((((wx.setCell ⟨g, 0, none⟩ (.int .i64 N.P)).setCell ⟨g, 1, none⟩ (.int .i64 N.now)).setCell ⟨g, 2, none⟩ V).setCell ⟨g, 3, none⟩ C) := by
  obtain ⟨p1, p2, p3⟩ := put4 hB hk hg (.int .i64 N.P) (.int .i64 N.now) V C
  have n1 := hN.notIn hB (by decide) (by decide)
  have n2 := hN.notB hB (by decide)
  simp only [List.mem_cons, not_or] at n1
  refine ⟨⟨hN.keep p3 (by simp; exact fun e => n1.1 e.symm) (by simp; exact fun e => n1.2.1 e.symm) (fun r hr hm => by simp at hm; exact n1.2.2 (hm ▸ hr)) (fun r hr hm => by simp at hm; exact n2 (hm ▸ hr)), p1, hrn.keep p3 (fun x hx hm => ?_) (fun x hx hm => ?_), ht, hmb, hR, hg, p2⟩, p3⟩
  · obtain ⟨cs, hb⟩ := hrn.tv x hx
    simp at hm
    subst hm
    exact hb.ne_ hB (by decide) rfl
  · obtain ⟨cs, hb⟩ := hrn.tc x hx
    simp at hm
    subst hm
    exact hb.ne_ hB (by decide) rfl
theorem RnAt.out {w w' : World} {t mb : Nat} {S : NS} {R B : List Nat} {N : RN} {V C : Value} (h : RnAt w N V C) (hN : NetAt w t mb S R B) (hk : Keep (t :: mb :: R) w w') : RnAt w' N V C :=
  h.keep hk (fun x hx => by obtain ⟨cs, hb⟩ := h.tv x hx; exact hN.notIn hb (by decide) (by decide)) (fun x hx => by obtain ⟨cs, hb⟩ := h.tc x hx; exact hN.notIn hb (by decide) (by decide))
theorem RnAt.far {w w' : World} {g : Nat} {N : RN} {V C : Value} {cs : Array Value} (h : RnAt w N V C) (hb : Blk w g 47 cs) (hk : Keep [g] w w') : RnAt w' N V C :=
  h.keep hk (fun x hx hm => by obtain ⟨cs, h1⟩ := h.tv x hx; simp at hm; subst hm; exact h1.ne_ hb (by decide) rfl) (fun x hx hm => by obtain ⟨cs, h1⟩ := h.tc x hx; simp at hm; subst hm; exact h1.ne_ hb (by decide) rfl)
theorem zero_keep {S : List Nat} {a U : World} (_ : Keep S a U) : ∃ (W : World) (g : Nat), W = U.alloc (.cells #[.int .i64 0, .int .i64 0, .slice none 0 0, .slice none 0 0] 47) ∧ g = U.heap.size ∧ Blk W g 47 #[.int .i64 0, .int .i64 0, .slice none 0 0, .slice none 0 0] ∧ Keep [] U W ∧ Hid (W.heap.size = U.heap.size + 1) :=
  ⟨_, _, rfl, rfl, Blk.new _ _ _, (Keep.refl _ _).alloc _, Lib.hid (by simp)⟩
theorem ActS.room {S : NS} {N : RN} {k : Nat} (h : ActS S N k) : N.way.length ≤ 4096 := by
  have := h.sim.way
  have := h.sim.wf.way
  have := h.sim.wf.room
  omega
theorem ActS.nowr {S : NS} {N : RN} {k : Nat} (h : ActS S N k) (hk : k ≤ 100) : 0 ≤ N.now ∧ N.now ≤ 1000000 := by
  have := h.sim.now
  have := h.now
  have := h.sim.wf.now
  omega
set_option maxRecDepth 100000 in
set_option maxHeartbeats 4000000 in
theorem do_send (h : BothAt w0 w t mb g S R B N V C) (hA : ActS S N k) (hk' : k ≤ 100) (hc : N.cuts.length ≤ k) (d : Deed) (hd : RdV w0 1 ienc d.L d.l) (hds : SomeOr d.L) (hs : d.s.size ≤ 100) (hw : d.w % 4 = 0) (hw0 : 0 ≤ d.w ∧ d.w ≤ 255) (hl : d.l.length ≤ 20) :
    Calls Try.prog 23 #[.pointer (some ⟨t, 0, none⟩), .pointer (some ⟨g, 0, none⟩), .agg (denc d)] w (DoPost w0 w t mb g R k) := by
  obtain ⟨dw, da, db, ds, L, l⟩ := d
  simp only at hd hds hs hw hw0 hl
  obtain ⟨AL, cL, rfl, _⟩ := id hd
  simp only [denc]
  obtain ⟨w1, hw1⟩ : ∃ W, W = w.alloc (.cells #[.int .u8 dw, .int .i64 da, .int .i64 db, .string ds, .slice AL l.length cL] 58) := ⟨_, rfl⟩
  have Bd : Blk w1 w.heap.size 58 #[.int .u8 dw, .int .i64 da, .int .i64 db, .string ds, .slice AL l.length cL] := by rw [hw1]; exact Blk.new _ _ _
  have hk1 : Keep [] w w1 := by rw [hw1]; exact (Keep.refl _ _).alloc _
  have h1 := h.keep0 hk1
  have nd := h1.net.notIn Bd (by decide) (by decide)
  have FD := fun W (hk : Keep (t :: mb :: R) w1 W) => (Bd.keep hk nd).cell
  have own0 : ∀ x ∈ t :: mb :: R, w0.heap.size ≤ x := fun x hx => by
    simp only [List.mem_cons] at hx
    rcases hx with rfl | rfl | hx
    · exact h.ht
    · exact h.hmb
    · exact h.hR x hx
  have FL := fun W (hk : Keep (t :: mb :: R) w1 W) => hd.keep0 (h1.k.own hk own0)
  have c0 := FD w1 (Keep.refl _ _)
  have hlt := h1.net.lt
  have hsend := fun W (hk : Keep [] w1 W) V b hV hVn L l hL hLn => send_any (h1.net.keep0 hk) hA.sim.wf (by have := hA.now; omega) (by have := hA.next; omega) (f := da) (dst := db) (V := V) (L := L) (b := b) (l := l) hV hVn hL hLn
  go_enter Try.func23, Try.ntmps23
  go_upto_region 1 with fail
  rw [← hw1]
  clear hw1
  go_upto_region 3 with fail
  have hcv := fun W => Lib.run_convert_string_bytes (P := Try.prog) W 9 33 5 ds Try.underlying9 Try.underlying33 Try.underlying5
  clear c0 hw
  go_cut [7] (fun v wx => ∃ (R' B' : List Nat), v = .int .i64 (S.err da db (strB ds).length l) ∧ NetAt wx t mb (S.send da db (strB ds) l) R' B' ∧ (∀ x ∈ R', x ∈ R ∨ w1.heap.size ≤ x) ∧ Keep (t :: mb :: R) w1 wx)
  case first =>
    refine wp_region_noPanic ?_
    refine Bz.wp_region_E (S := (fun w' => Keep (t :: mb :: R) w1 w')) (E := []) (by kernel_rfl) (by exact (Keep.refl _ _).drew) (fun hHeld => ?_)
    obtain ⟨wd, hwd⟩ : ∃ W, W = w1.drew := ⟨_, rfl⟩
    have hP : Keep [] w1 wd := by rw [hwd]; exact (Keep.refl _ _).drew
    rw [← hwd] at hHeld ⊢
    clear hwd
    have hz := Lib.hid hP.size
    refine Bz.wpAnyE_take (i := 0) (oi := { dst := some 21, op := Go.Op.move (Go.Operand.tmp 0), type := 23, pos := "law.go:63", after := #[], guard := none }) (v := ?_) rfl (by kernel_rfl) (by kernel_rfl) (by kernel_rfl) (by kernel_rfl) (fun _ _ _ h => h) (Or.inl ⟨by rfl, ?_⟩) hHeld ?_
    rotate_left 1
    · (intro w hSw; have q0 := FD w hSw; go_simp; first | done | with_reducible rfl)
    try simp only [Act.put, List.setIfInBounds_toArray, List.set_cons_zero, List.set_cons_succ]
    refine Bz.wpAnyE_take (i := 1) (oi := { dst := some 22, op := Go.Op.fieldAddr 58 (Go.Operand.tmp 5) 1, type := 0, pos := "law.go:63", after := #[], guard := none }) (v := ?_) rfl (by kernel_rfl) (by kernel_rfl) (by kernel_rfl) (by kernel_rfl) (fun _ _ _ h => h) (Or.inl ⟨by rfl, ?_⟩) hHeld ?_
    rotate_left 1
    · (intro w hSw; have q0 := FD w hSw; go_simp; first | done | with_reducible rfl)
    try simp only [Act.put, List.setIfInBounds_toArray, List.set_cons_zero, List.set_cons_succ]
    refine Bz.wpAnyE_take (i := 2) (oi := { dst := some 23, op := Go.Op.load 3 (Go.Operand.tmp 22), type := 3, pos := "law.go:63", after := #[{ on := 1, ground := Go.Ground.data }], guard := none }) (v := ?_) rfl (by kernel_rfl) (by kernel_rfl) (by kernel_rfl) (by kernel_rfl) (fun _ _ _ h => h) (Or.inl ⟨by rfl, ?_⟩) hHeld ?_
    rotate_left 1
    · (intro w hSw; have q0 := FD w hSw; go_simp; first | done | with_reducible rfl)
    try simp only [Act.put, List.setIfInBounds_toArray, List.set_cons_zero, List.set_cons_succ]
    refine Bz.wpAnyE_take (i := 3) (oi := { dst := some 24, op := Go.Op.fieldAddr 58 (Go.Operand.tmp 5) 2, type := 0, pos := "law.go:63", after := #[], guard := none }) (v := ?_) rfl (by kernel_rfl) (by kernel_rfl) (by kernel_rfl) (by kernel_rfl) (fun _ _ _ h => h) (Or.inl ⟨by rfl, ?_⟩) hHeld ?_
    rotate_left 1
    · (intro w hSw; have q0 := FD w hSw; go_simp; first | done | with_reducible rfl)
    try simp only [Act.put, List.setIfInBounds_toArray, List.set_cons_zero, List.set_cons_succ]
    refine Bz.wpAnyE_take (i := 4) (oi := { dst := some 25, op := Go.Op.load 3 (Go.Operand.tmp 24), type := 3, pos := "law.go:63", after := #[{ on := 3, ground := Go.Ground.data }], guard := none }) (v := ?_) rfl (by kernel_rfl) (by kernel_rfl) (by kernel_rfl) (by kernel_rfl) (fun _ _ _ h => h) (Or.inl ⟨by rfl, ?_⟩) hHeld ?_
    rotate_left 1
    · (intro w hSw; have q0 := FD w hSw; go_simp; first | done | with_reducible rfl)
    try simp only [Act.put, List.setIfInBounds_toArray, List.set_cons_zero, List.set_cons_succ]
    refine Bz.wpAnyE_take (i := 5) (oi := { dst := some 26, op := Go.Op.fieldAddr 58 (Go.Operand.tmp 5) 3, type := 0, pos := "law.go:63", after := #[], guard := none }) (v := ?_) rfl (by kernel_rfl) (by kernel_rfl) (by kernel_rfl) (by kernel_rfl) (fun _ _ _ h => h) (Or.inl ⟨by rfl, ?_⟩) hHeld ?_
    rotate_left 1
    · (intro w hSw; have q0 := FD w hSw; go_simp; first | done | with_reducible rfl)
    try simp only [Act.put, List.setIfInBounds_toArray, List.set_cons_zero, List.set_cons_succ]
    refine Bz.wpAnyE_take (i := 6) (oi := { dst := some 27, op := Go.Op.load 9 (Go.Operand.tmp 26), type := 9, pos := "law.go:63", after := #[{ on := 5, ground := Go.Ground.data }], guard := none }) (v := ?_) rfl (by kernel_rfl) (by kernel_rfl) (by kernel_rfl) (by kernel_rfl) (fun _ _ _ h => h) (Or.inl ⟨by rfl, ?_⟩) hHeld ?_
    rotate_left 1
    · (intro w hSw; have q0 := FD w hSw; go_simp; first | done | with_reducible rfl)
    try simp only [Act.put, List.setIfInBounds_toArray, List.set_cons_zero, List.set_cons_succ]
    refine Bz.wpAnyE_take (i := 10) (oi := { dst := some 31, op := Go.Op.fieldAddr 58 (Go.Operand.tmp 5) 4, type := 0, pos := "law.go:63", after := #[], guard := none }) (v := ?_) rfl (by kernel_rfl) (by kernel_rfl) (by kernel_rfl) (by kernel_rfl) (fun _ _ _ h => h) (Or.inl ⟨by rfl, ?_⟩) hHeld ?_
    rotate_left 1
    · (intro w hSw; have q0 := FD w hSw; go_simp; first | done | with_reducible rfl)
    try simp only [Act.put, List.setIfInBounds_toArray, List.set_cons_zero, List.set_cons_succ]
    refine Bz.wpAnyE_take (i := 11) (oi := { dst := some 32, op := Go.Op.load 29 (Go.Operand.tmp 31), type := 29, pos := "law.go:63", after := #[{ on := 10, ground := Go.Ground.data }], guard := none }) (v := ?_) rfl (by kernel_rfl) (by kernel_rfl) (by kernel_rfl) (by kernel_rfl) (fun _ _ _ h => h) (Or.inl ⟨by rfl, ?_⟩) hHeld ?_
    rotate_left 1
    · (intro w hSw; have q0 := FD w hSw; go_simp; first | done | with_reducible rfl)
    try simp only [Act.put, List.setIfInBounds_toArray, List.set_cons_zero, List.set_cons_succ]
    refine Bz.wpAnyE_ready (rs := [7, 9]) (by kernel_rfl) (by simp) ?_
    refine Bz.AllReadyE.cons (o := { dst := some 28, op := Go.Op.convert 9 33 (Go.Operand.tmp 27), type := 33, pos := "law.go:63", after := #[{ on := 6, ground := Go.Ground.data }], guard := none }) rfl (fun K hK => ?_) ?_
    · skip
      
      obtain ⟨wb, gb, cb, hwb, hgb, hcb, hRB, hkb, hzb⟩ := bytes_keep hHeld ds hs
      go_simp
      rw [← hwb, ← hgb]
      try rw [← hcb]
      have hVn : w1.heap.size ≤ gb := by rw [hgb]; exact hP.size
      have HGb := Lib.hid hgb
      clear hwb hcb hgb
      try have hO := hO.keep0 hkb
      try have hO6 := hO6.keep0 hkb
      have hP := hP.trans hkb
      refine hK.out _ _ (by exact hHeld.trans hkb.sub) ?_
      clear hHeld hK K; intro hHeld
      try simp only [Act.put, List.setIfInBounds_toArray, List.set_cons_zero, List.set_cons_succ]
      refine Bz.wpAnyE_take (i := 8) (oi := { dst := some 29, op := Go.Op.build 35 #[(0, Go.Operand.tmp 23), (1, Go.Operand.tmp 25), (2, Go.Operand.tmp 28)], type := 35, pos := "law.go:63", after := #[{ on := 2, ground := Go.Ground.data }, { on := 4, ground := Go.Ground.data }, { on := 7, ground := Go.Ground.data }], guard := none }) (v := ?_) rfl (by kernel_rfl) (by kernel_rfl) (by kernel_rfl) (by kernel_rfl) (fun _ _ _ h => h) (Or.inl ⟨by rfl, ?_⟩) hHeld ?_
      rotate_left 1
      · (intro w hSw; have q0 := FD w hSw; go_simp; first | done | with_reducible rfl)
      try simp only [Act.put, List.setIfInBounds_toArray, List.set_cons_zero, List.set_cons_succ]
      refine Bz.wpAnyE_ready (rs := [9]) (by kernel_rfl) (by simp) ?_
      refine Bz.AllReadyE.cons (o := { dst := some 30, op := Go.Op.buildSlice 29 0 #[], type := 29, pos := "law.go:63", after := #[], guard := none }) rfl (fun K hK => ?_) Bz.AllReadyE.nil
      
      obtain ⟨wo, go, hwo, hgo, hO, hko, hzo⟩ := none_keep hHeld w1.heap.size hP.size
      go_simp
      rw [← hwo, ← hgo]
      clear hwo
      have HGo := Lib.hid hgo
      clear hgo
      try have hRB := hRB.keep0 hko
      have hP := hP.trans hko
      refine hK.out _ _ (by exact hHeld.trans hko.sub) ?_
      clear hHeld hK K; intro hHeld
      try simp only [Act.put, List.setIfInBounds_toArray, List.set_cons_zero, List.set_cons_succ]
      refine Bz.wpAnyE_ready (rs := [12]) (by kernel_rfl) (by simp) ?_
      refine Bz.AllReadyE.cons (o := { dst := some 33, op := Go.Op.call { callee := Go.Callee.builtin Go.Builtin.append, args := #[Go.Operand.tmp 30, Go.Operand.tmp 32], argTypes := #[29, 29] }, type := 29, pos := "law.go:63", after := #[{ on := 9, ground := Go.Ground.data }, { on := 11, ground := Go.Ground.data }], guard := none }) rfl (fun K hK => ?_) Bz.AllReadyE.nil
      
      refine oper_append_m2 (v := .slice (some ⟨go, 0, none⟩) 0 0) _ _ 29 rfl app29 rfl hO rfl (FL _ hHeld) hds ienc_sz (fun x _ => ienc_one x) (by simp; omega) (by unfold maxLen; simp; omega) hP.size ?_
      intro v6 w6 hO6 hk6
      simp only [List.nil_append] at hO6
      have hP6 := hP.andThen hk6 (fun x hx => .inr (hO.lt x hx).1)
      try (have hRB := hRB.keep hk6 (fun _ x hx _ hm => by have e1 := HGo.out; have e2 := hzb.out; have e3 := HGb.out; simp [ownB, Value.ownBlock] at hx hm; first | omega | (have e4 := hzo.out; omega)))
      obtain ⟨A6, c6, rfl, _⟩ := hO6.sl ienc_sz
      have hP := hP6
      clear hP6
      refine hK.out _ _ (by exact hHeld.andThen hk6 (fun x hx => .inr (hO.lt x hx).1)) ?_
      clear hHeld hK K; intro hHeld
      try simp only [Act.put, List.setIfInBounds_toArray, List.set_cons_zero, List.set_cons_succ]
      refine Bz.wpAnyE_take (i := 13) (oi := { dst := some 34, op := Go.Op.build 31 #[(0, Go.Operand.tmp 33)], type := 31, pos := "law.go:63", after := #[{ on := 12, ground := Go.Ground.data }], guard := none }) (v := ?_) rfl (by kernel_rfl) (by kernel_rfl) (by kernel_rfl) (by kernel_rfl) (fun _ _ _ h => h) (Or.inl ⟨by rfl, ?_⟩) hHeld ?_
      rotate_left 1
      · (intro w hSw; have q0 := FD w hSw; go_simp; first | done | with_reducible rfl)
      try simp only [Act.put, List.setIfInBounds_toArray, List.set_cons_zero, List.set_cons_succ]
      refine Bz.wpAnyE_ready (rs := [14]) (by kernel_rfl) (by simp) ?_
      refine Bz.AllReadyE.cons (o := { dst := some 35, op := Go.Op.call { callee := Go.Callee.value (Go.Operand.func 13), args := #[Go.Operand.tmp 21, Go.Operand.tmp 29, Go.Operand.tmp 34], argTypes := #[23, 35, 31] }, type := 24, pos := "law.go:63", after := #[{ on := 0, ground := Go.Ground.data }, { on := 8, ground := Go.Ground.data }, { on := 13, ground := Go.Ground.data }, { on := 12, ground := Go.Ground.chain }], guard := none }) rfl (fun K hK => ?_) Bz.AllReadyE.nil
      go_simp
      
      refine (hsend _ hP (.slice (some ⟨gb, 0, none⟩) ds.size cb) (strB ds) hRB (fun _ x hx hm => by simp [ownB, Value.ownBlock] at hx; simp only [List.mem_cons] at hm; rcases hm with hm | hm | hm <;> first | omega | (have := hlt.2.2.1 x hm; omega)) (.slice A6 l.length c6) l (hO6.sl ienc_sz).rd (fun _ x hx hm => by have e1 := (hO6.lt x hx).1; simp only [List.mem_cons] at hm; rcases hm with hm | hm | hm <;> first | omega | (have := hlt.2.2.1 x hm; omega))).mono ?_
      rintro e w5 ⟨rfl, R', B', hN5, hR5, hB5, hk5⟩
      have hz5 := hP.size
      refine hK.out _ _ (by exact hHeld.trans hk5) ?_
      clear hHeld hK K; intro hHeld
      try simp only [Act.put, List.setIfInBounds_toArray, List.set_cons_zero, List.set_cons_succ]
      refine Bz.wpAnyE_take (i := 15) (oi := { dst := some 7, op := Go.Op.assign (Go.Operand.tmp 35), type := 24, pos := "law.go:63", after := #[{ on := 14, ground := Go.Ground.data }, { on := 14, ground := Go.Ground.chain }, { on := 0, ground := Go.Ground.phase }, { on := 1, ground := Go.Ground.phase }, { on := 2, ground := Go.Ground.phase }, { on := 3, ground := Go.Ground.phase }, { on := 4, ground := Go.Ground.phase }, { on := 5, ground := Go.Ground.phase }, { on := 6, ground := Go.Ground.phase }, { on := 7, ground := Go.Ground.phase }, { on := 8, ground := Go.Ground.phase }, { on := 9, ground := Go.Ground.phase }, { on := 10, ground := Go.Ground.phase }, { on := 11, ground := Go.Ground.phase }, { on := 12, ground := Go.Ground.phase }, { on := 13, ground := Go.Ground.phase }, { on := 14, ground := Go.Ground.phase }], guard := none }) (v := ?_) rfl (by kernel_rfl) (by kernel_rfl) (by kernel_rfl) (by kernel_rfl) (fun _ _ _ h => h) (Or.inl ⟨by rfl, ?_⟩) hHeld ?_
      rotate_left 1
      · (intro w hSw; have q0 := FD w hSw; go_simp; first | done | with_reducible rfl)
      try simp only [Act.put, List.setIfInBounds_toArray, List.set_cons_zero, List.set_cons_succ]
      refine Bz.wpAnyE_done (by kernel_rfl) ?_ _
      refine NoPanic.normal ?_
      clear FD FL hsend hO hRB hP
      go_wp2_with fail
      go_meet
      exact ⟨R', B', rfl, hN5, fun x hx => by rcases hR5 x hx with h5 | h5; exact .inl h5; exact .inr (by omega), hHeld⟩
    refine Bz.AllReadyE.cons (o := { dst := some 30, op := Go.Op.buildSlice 29 0 #[], type := 29, pos := "law.go:63", after := #[], guard := none }) rfl (fun K hK => ?_) ?_
    · skip
      
      obtain ⟨wo, go, hwo, hgo, hO, hko, hzo⟩ := none_keep hHeld w1.heap.size hP.size
      go_simp
      rw [← hwo, ← hgo]
      clear hwo
      have HGo := Lib.hid hgo
      clear hgo
      try have hRB := hRB.keep0 hko
      have hP := hP.trans hko
      refine hK.out _ _ (by exact hHeld.trans hko.sub) ?_
      clear hHeld hK K; intro hHeld
      try simp only [Act.put, List.setIfInBounds_toArray, List.set_cons_zero, List.set_cons_succ]
      refine Bz.wpAnyE_ready (rs := [7, 12]) (by kernel_rfl) (by simp) ?_
      refine Bz.AllReadyE.cons (o := { dst := some 28, op := Go.Op.convert 9 33 (Go.Operand.tmp 27), type := 33, pos := "law.go:63", after := #[{ on := 6, ground := Go.Ground.data }], guard := none }) rfl (fun K hK => ?_) ?_
      · skip
        
        obtain ⟨wb, gb, cb, hwb, hgb, hcb, hRB, hkb, hzb⟩ := bytes_keep hHeld ds hs
        go_simp
        rw [← hwb, ← hgb]
        try rw [← hcb]
        have hVn : w1.heap.size ≤ gb := by rw [hgb]; exact hP.size
        have HGb := Lib.hid hgb
        clear hwb hcb hgb
        try have hO := hO.keep0 hkb
        try have hO6 := hO6.keep0 hkb
        have hP := hP.trans hkb
        refine hK.out _ _ (by exact hHeld.trans hkb.sub) ?_
        clear hHeld hK K; intro hHeld
        try simp only [Act.put, List.setIfInBounds_toArray, List.set_cons_zero, List.set_cons_succ]
        refine Bz.wpAnyE_take (i := 8) (oi := { dst := some 29, op := Go.Op.build 35 #[(0, Go.Operand.tmp 23), (1, Go.Operand.tmp 25), (2, Go.Operand.tmp 28)], type := 35, pos := "law.go:63", after := #[{ on := 2, ground := Go.Ground.data }, { on := 4, ground := Go.Ground.data }, { on := 7, ground := Go.Ground.data }], guard := none }) (v := ?_) rfl (by kernel_rfl) (by kernel_rfl) (by kernel_rfl) (by kernel_rfl) (fun _ _ _ h => h) (Or.inl ⟨by rfl, ?_⟩) hHeld ?_
        rotate_left 1
        · (intro w hSw; have q0 := FD w hSw; go_simp; first | done | with_reducible rfl)
        try simp only [Act.put, List.setIfInBounds_toArray, List.set_cons_zero, List.set_cons_succ]
        refine Bz.wpAnyE_ready (rs := [12]) (by kernel_rfl) (by simp) ?_
        refine Bz.AllReadyE.cons (o := { dst := some 33, op := Go.Op.call { callee := Go.Callee.builtin Go.Builtin.append, args := #[Go.Operand.tmp 30, Go.Operand.tmp 32], argTypes := #[29, 29] }, type := 29, pos := "law.go:63", after := #[{ on := 9, ground := Go.Ground.data }, { on := 11, ground := Go.Ground.data }], guard := none }) rfl (fun K hK => ?_) Bz.AllReadyE.nil
        
        refine oper_append_m2 (v := .slice (some ⟨go, 0, none⟩) 0 0) _ _ 29 rfl app29 rfl hO rfl (FL _ hHeld) hds ienc_sz (fun x _ => ienc_one x) (by simp; omega) (by unfold maxLen; simp; omega) hP.size ?_
        intro v6 w6 hO6 hk6
        simp only [List.nil_append] at hO6
        have hP6 := hP.andThen hk6 (fun x hx => .inr (hO.lt x hx).1)
        try (have hRB := hRB.keep hk6 (fun _ x hx _ hm => by have e1 := HGo.out; have e2 := hzb.out; have e3 := HGb.out; simp [ownB, Value.ownBlock] at hx hm; first | omega | (have e4 := hzo.out; omega)))
        obtain ⟨A6, c6, rfl, _⟩ := hO6.sl ienc_sz
        have hP := hP6
        clear hP6
        refine hK.out _ _ (by exact hHeld.andThen hk6 (fun x hx => .inr (hO.lt x hx).1)) ?_
        clear hHeld hK K; intro hHeld
        try simp only [Act.put, List.setIfInBounds_toArray, List.set_cons_zero, List.set_cons_succ]
        refine Bz.wpAnyE_take (i := 13) (oi := { dst := some 34, op := Go.Op.build 31 #[(0, Go.Operand.tmp 33)], type := 31, pos := "law.go:63", after := #[{ on := 12, ground := Go.Ground.data }], guard := none }) (v := ?_) rfl (by kernel_rfl) (by kernel_rfl) (by kernel_rfl) (by kernel_rfl) (fun _ _ _ h => h) (Or.inl ⟨by rfl, ?_⟩) hHeld ?_
        rotate_left 1
        · (intro w hSw; have q0 := FD w hSw; go_simp; first | done | with_reducible rfl)
        try simp only [Act.put, List.setIfInBounds_toArray, List.set_cons_zero, List.set_cons_succ]
        refine Bz.wpAnyE_ready (rs := [14]) (by kernel_rfl) (by simp) ?_
        refine Bz.AllReadyE.cons (o := { dst := some 35, op := Go.Op.call { callee := Go.Callee.value (Go.Operand.func 13), args := #[Go.Operand.tmp 21, Go.Operand.tmp 29, Go.Operand.tmp 34], argTypes := #[23, 35, 31] }, type := 24, pos := "law.go:63", after := #[{ on := 0, ground := Go.Ground.data }, { on := 8, ground := Go.Ground.data }, { on := 13, ground := Go.Ground.data }, { on := 12, ground := Go.Ground.chain }], guard := none }) rfl (fun K hK => ?_) Bz.AllReadyE.nil
        go_simp
        
        refine (hsend _ hP (.slice (some ⟨gb, 0, none⟩) ds.size cb) (strB ds) hRB (fun _ x hx hm => by simp [ownB, Value.ownBlock] at hx; simp only [List.mem_cons] at hm; rcases hm with hm | hm | hm <;> first | omega | (have := hlt.2.2.1 x hm; omega)) (.slice A6 l.length c6) l (hO6.sl ienc_sz).rd (fun _ x hx hm => by have e1 := (hO6.lt x hx).1; simp only [List.mem_cons] at hm; rcases hm with hm | hm | hm <;> first | omega | (have := hlt.2.2.1 x hm; omega))).mono ?_
        rintro e w5 ⟨rfl, R', B', hN5, hR5, hB5, hk5⟩
        have hz5 := hP.size
        refine hK.out _ _ (by exact hHeld.trans hk5) ?_
        clear hHeld hK K; intro hHeld
        try simp only [Act.put, List.setIfInBounds_toArray, List.set_cons_zero, List.set_cons_succ]
        refine Bz.wpAnyE_take (i := 15) (oi := { dst := some 7, op := Go.Op.assign (Go.Operand.tmp 35), type := 24, pos := "law.go:63", after := #[{ on := 14, ground := Go.Ground.data }, { on := 14, ground := Go.Ground.chain }, { on := 0, ground := Go.Ground.phase }, { on := 1, ground := Go.Ground.phase }, { on := 2, ground := Go.Ground.phase }, { on := 3, ground := Go.Ground.phase }, { on := 4, ground := Go.Ground.phase }, { on := 5, ground := Go.Ground.phase }, { on := 6, ground := Go.Ground.phase }, { on := 7, ground := Go.Ground.phase }, { on := 8, ground := Go.Ground.phase }, { on := 9, ground := Go.Ground.phase }, { on := 10, ground := Go.Ground.phase }, { on := 11, ground := Go.Ground.phase }, { on := 12, ground := Go.Ground.phase }, { on := 13, ground := Go.Ground.phase }, { on := 14, ground := Go.Ground.phase }], guard := none }) (v := ?_) rfl (by kernel_rfl) (by kernel_rfl) (by kernel_rfl) (by kernel_rfl) (fun _ _ _ h => h) (Or.inl ⟨by rfl, ?_⟩) hHeld ?_
        rotate_left 1
        · (intro w hSw; have q0 := FD w hSw; go_simp; first | done | with_reducible rfl)
        try simp only [Act.put, List.setIfInBounds_toArray, List.set_cons_zero, List.set_cons_succ]
        refine Bz.wpAnyE_done (by kernel_rfl) ?_ _
        refine NoPanic.normal ?_
        clear FD FL hsend hO hRB hP
        go_wp2_with fail
        go_meet
        exact ⟨R', B', rfl, hN5, fun x hx => by rcases hR5 x hx with h5 | h5; exact .inl h5; exact .inr (by omega), hHeld⟩
      refine Bz.AllReadyE.cons (o := { dst := some 33, op := Go.Op.call { callee := Go.Callee.builtin Go.Builtin.append, args := #[Go.Operand.tmp 30, Go.Operand.tmp 32], argTypes := #[29, 29] }, type := 29, pos := "law.go:63", after := #[{ on := 9, ground := Go.Ground.data }, { on := 11, ground := Go.Ground.data }], guard := none }) rfl (fun K hK => ?_) ?_
      · skip
        
        refine oper_append_m2 (v := .slice (some ⟨go, 0, none⟩) 0 0) _ _ 29 rfl app29 rfl hO rfl (FL _ hHeld) hds ienc_sz (fun x _ => ienc_one x) (by simp; omega) (by unfold maxLen; simp; omega) hP.size ?_
        intro v6 w6 hO6 hk6
        simp only [List.nil_append] at hO6
        have hP6 := hP.andThen hk6 (fun x hx => .inr (hO.lt x hx).1)
        try (have hRB := hRB.keep hk6 (fun _ x hx _ hm => by have e1 := HGo.out; have e2 := hzb.out; have e3 := HGb.out; simp [ownB, Value.ownBlock] at hx hm; first | omega | (have e4 := hzo.out; omega)))
        obtain ⟨A6, c6, rfl, _⟩ := hO6.sl ienc_sz
        have hP := hP6
        clear hP6
        refine hK.out _ _ (by exact hHeld.andThen hk6 (fun x hx => .inr (hO.lt x hx).1)) ?_
        clear hHeld hK K; intro hHeld
        try simp only [Act.put, List.setIfInBounds_toArray, List.set_cons_zero, List.set_cons_succ]
        refine Bz.wpAnyE_take (i := 13) (oi := { dst := some 34, op := Go.Op.build 31 #[(0, Go.Operand.tmp 33)], type := 31, pos := "law.go:63", after := #[{ on := 12, ground := Go.Ground.data }], guard := none }) (v := ?_) rfl (by kernel_rfl) (by kernel_rfl) (by kernel_rfl) (by kernel_rfl) (fun _ _ _ h => h) (Or.inl ⟨by rfl, ?_⟩) hHeld ?_
        rotate_left 1
        · (intro w hSw; have q0 := FD w hSw; go_simp; first | done | with_reducible rfl)
        try simp only [Act.put, List.setIfInBounds_toArray, List.set_cons_zero, List.set_cons_succ]
        refine Bz.wpAnyE_ready (rs := [7]) (by kernel_rfl) (by simp) ?_
        refine Bz.AllReadyE.cons (o := { dst := some 28, op := Go.Op.convert 9 33 (Go.Operand.tmp 27), type := 33, pos := "law.go:63", after := #[{ on := 6, ground := Go.Ground.data }], guard := none }) rfl (fun K hK => ?_) Bz.AllReadyE.nil
        
        obtain ⟨wb, gb, cb, hwb, hgb, hcb, hRB, hkb, hzb⟩ := bytes_keep hHeld ds hs
        go_simp
        rw [← hwb, ← hgb]
        try rw [← hcb]
        have hVn : w1.heap.size ≤ gb := by rw [hgb]; exact hP.size
        have HGb := Lib.hid hgb
        clear hwb hcb hgb
        try have hO := hO.keep0 hkb
        try have hO6 := hO6.keep0 hkb
        have hP := hP.trans hkb
        refine hK.out _ _ (by exact hHeld.trans hkb.sub) ?_
        clear hHeld hK K; intro hHeld
        try simp only [Act.put, List.setIfInBounds_toArray, List.set_cons_zero, List.set_cons_succ]
        refine Bz.wpAnyE_take (i := 8) (oi := { dst := some 29, op := Go.Op.build 35 #[(0, Go.Operand.tmp 23), (1, Go.Operand.tmp 25), (2, Go.Operand.tmp 28)], type := 35, pos := "law.go:63", after := #[{ on := 2, ground := Go.Ground.data }, { on := 4, ground := Go.Ground.data }, { on := 7, ground := Go.Ground.data }], guard := none }) (v := ?_) rfl (by kernel_rfl) (by kernel_rfl) (by kernel_rfl) (by kernel_rfl) (fun _ _ _ h => h) (Or.inl ⟨by rfl, ?_⟩) hHeld ?_
        rotate_left 1
        · (intro w hSw; have q0 := FD w hSw; go_simp; first | done | with_reducible rfl)
        try simp only [Act.put, List.setIfInBounds_toArray, List.set_cons_zero, List.set_cons_succ]
        refine Bz.wpAnyE_ready (rs := [14]) (by kernel_rfl) (by simp) ?_
        refine Bz.AllReadyE.cons (o := { dst := some 35, op := Go.Op.call { callee := Go.Callee.value (Go.Operand.func 13), args := #[Go.Operand.tmp 21, Go.Operand.tmp 29, Go.Operand.tmp 34], argTypes := #[23, 35, 31] }, type := 24, pos := "law.go:63", after := #[{ on := 0, ground := Go.Ground.data }, { on := 8, ground := Go.Ground.data }, { on := 13, ground := Go.Ground.data }, { on := 12, ground := Go.Ground.chain }], guard := none }) rfl (fun K hK => ?_) Bz.AllReadyE.nil
        go_simp
        
        refine (hsend _ hP (.slice (some ⟨gb, 0, none⟩) ds.size cb) (strB ds) hRB (fun _ x hx hm => by simp [ownB, Value.ownBlock] at hx; simp only [List.mem_cons] at hm; rcases hm with hm | hm | hm <;> first | omega | (have := hlt.2.2.1 x hm; omega)) (.slice A6 l.length c6) l (hO6.sl ienc_sz).rd (fun _ x hx hm => by have e1 := (hO6.lt x hx).1; simp only [List.mem_cons] at hm; rcases hm with hm | hm | hm <;> first | omega | (have := hlt.2.2.1 x hm; omega))).mono ?_
        rintro e w5 ⟨rfl, R', B', hN5, hR5, hB5, hk5⟩
        have hz5 := hP.size
        refine hK.out _ _ (by exact hHeld.trans hk5) ?_
        clear hHeld hK K; intro hHeld
        try simp only [Act.put, List.setIfInBounds_toArray, List.set_cons_zero, List.set_cons_succ]
        refine Bz.wpAnyE_take (i := 15) (oi := { dst := some 7, op := Go.Op.assign (Go.Operand.tmp 35), type := 24, pos := "law.go:63", after := #[{ on := 14, ground := Go.Ground.data }, { on := 14, ground := Go.Ground.chain }, { on := 0, ground := Go.Ground.phase }, { on := 1, ground := Go.Ground.phase }, { on := 2, ground := Go.Ground.phase }, { on := 3, ground := Go.Ground.phase }, { on := 4, ground := Go.Ground.phase }, { on := 5, ground := Go.Ground.phase }, { on := 6, ground := Go.Ground.phase }, { on := 7, ground := Go.Ground.phase }, { on := 8, ground := Go.Ground.phase }, { on := 9, ground := Go.Ground.phase }, { on := 10, ground := Go.Ground.phase }, { on := 11, ground := Go.Ground.phase }, { on := 12, ground := Go.Ground.phase }, { on := 13, ground := Go.Ground.phase }, { on := 14, ground := Go.Ground.phase }], guard := none }) (v := ?_) rfl (by kernel_rfl) (by kernel_rfl) (by kernel_rfl) (by kernel_rfl) (fun _ _ _ h => h) (Or.inl ⟨by rfl, ?_⟩) hHeld ?_
        rotate_left 1
        · (intro w hSw; have q0 := FD w hSw; go_simp; first | done | with_reducible rfl)
        try simp only [Act.put, List.setIfInBounds_toArray, List.set_cons_zero, List.set_cons_succ]
        refine Bz.wpAnyE_done (by kernel_rfl) ?_ _
        refine NoPanic.normal ?_
        clear FD FL hsend hO hRB hP
        go_wp2_with fail
        go_meet
        exact ⟨R', B', rfl, hN5, fun x hx => by rcases hR5 x hx with h5 | h5; exact .inl h5; exact .inr (by omega), hHeld⟩
      exact Bz.AllReadyE.nil
    exact Bz.AllReadyE.nil
  case rest =>
    obtain ⟨R', B', rfl, hN2, hR2, hk2⟩ := hcut
    obtain ⟨wq, rfl⟩ : ∃ W, W = wc := ⟨_, rfl⟩
    clear hsend hcv
    obtain ⟨⟨AV, cV, hV⟩, AC, cC, hC⟩ := h.rn.sl
    have hrn2 := h1.rn.out h1.net hk2
    have hB2 := h1.blk.keep hk2 (h1.net.notIn h1.blk (by decide) (by decide))
    subst hV hC
    have hrs := fun W (hk : Keep [] wq W) => rsend_any (hrn2.keep0 hk) hA.room (hA.nowr hk') da db ds hs (FL W (hk2.trans hk.sub))
    rw [hA.sim.err] at hrs
    have hA2 := hA.send da db ds l hs
    have hcl2 : (N.send da db ds l).cuts.length ≤ k + 1 := by unfold RN.send; split <;> first | omega | (simp only; omega)
    obtain ⟨E, HE⟩ : ∃ E, Hid (E = S.err da db (strB ds).length l) := ⟨_, Lib.hid rfl⟩
    obtain ⟨N2, HN2⟩ : ∃ N2, Hid (N2 = N.send da db ds l) := ⟨_, Lib.hid rfl⟩
    obtain ⟨S2, HS2⟩ : ∃ S2, Hid (S2 = S.send da db (strB ds) l) := ⟨_, Lib.hid rfl⟩
    rw [← HE.out] at hrs ⊢
    rw [← HN2.out] at hrs hA2 hcl2
    rw [← HS2.out] at hN2 hA2
    have FD := fun W (hk : Keep [] wq W) => FD W (hk2.trans hk.sub)
    have FG := fun W (hk : Keep [] wq W) => (hB2.keep hk (by simp)).cell
    have hk0 : Keep [] w0 wq := h1.k.own hk2 own0
    obtain ⟨NP, Nn, Nw, Nc⟩ := N
    simp only [rcells] at FG hrs hB2
    simp only at hrn2
    clear FL
    go_upto_region 4 with fail
    go_cut [8, 9] (fun v8 v9 wx => ∃ (gn : Nat) (A' : Option Addr) (c' : Nat), v8 = .pointer (some ⟨gn, 0, none⟩) ∧ v9 = .int .i64 E ∧ Blk wx gn 47 (rcells N2 (.slice A' N2.way.length c') (.slice AC Nc.length cC)) ∧ RnAt wx N2 (.slice A' N2.way.length c') (.slice AC Nc.length cC) ∧ Keep [] wq wx)
    case first =>
      refine wp_region_noPanic ?_
      refine Bz.wp_region_E (S := (fun w' => Keep [] wq w')) (E := []) (by kernel_rfl) (by exact (Keep.refl _ _).drew) (fun hHeld => ?_)
      obtain ⟨wd, hwd⟩ : ∃ W, W = wq.drew := ⟨_, rfl⟩
      rw [← hwd] at hHeld ⊢
      clear hwd
      refine Bz.wpAnyE_take (i := 0) (oi := { dst := some 37, op := Go.Op.move (Go.Operand.tmp 1), type := 65, pos := "law.go:64", after := #[], guard := none }) (v := ?_) rfl (by kernel_rfl) (by kernel_rfl) (by kernel_rfl) (by kernel_rfl) (fun _ _ _ h => h) (Or.inl ⟨by rfl, ?_⟩) hHeld ?_
      rotate_left 1
      · (intro w hSw; have q0 := FD w hSw; have q1 := FG w hSw; go_simp; first | done | with_reducible rfl)
      try simp only [Act.put, List.setIfInBounds_toArray, List.set_cons_zero, List.set_cons_succ]
      refine Bz.wpAnyE_take (i := 1) (oi := { dst := some 38, op := Go.Op.nilCheck (Go.Operand.tmp 37), type := 0, pos := "law.go:64", after := #[{ on := 0, ground := Go.Ground.data }], guard := none }) (v := ?_) rfl (by kernel_rfl) (by kernel_rfl) (by kernel_rfl) (by kernel_rfl) (fun _ _ _ h => h) (Or.inl ⟨by rfl, ?_⟩) hHeld ?_
      rotate_left 1
      · (intro w hSw; have q0 := FD w hSw; have q1 := FG w hSw; go_simp; first | done | with_reducible rfl)
      try simp only [Act.put, List.setIfInBounds_toArray, List.set_cons_zero, List.set_cons_succ]
      refine Bz.wpAnyE_take (i := 2) (oi := { dst := some 39, op := Go.Op.load 47 (Go.Operand.tmp 38), type := 47, pos := "law.go:64", after := #[{ on := 1, ground := Go.Ground.data }], guard := none }) (v := ?_) rfl (by kernel_rfl) (by kernel_rfl) (by kernel_rfl) (by kernel_rfl) (fun _ _ _ h => h) (Or.inl ⟨by rfl, ?_⟩) hHeld ?_
      rotate_left 1
      · (intro w hSw; have q0 := FD w hSw; have q1 := FG w hSw; go_simp; first | done | with_reducible rfl)
      try simp only [Act.put, List.setIfInBounds_toArray, List.set_cons_zero, List.set_cons_succ]
      refine Bz.wpAnyE_take (i := 3) (oi := { dst := some 40, op := Go.Op.fieldAddr 58 (Go.Operand.tmp 5) 1, type := 0, pos := "law.go:64", after := #[], guard := none }) (v := ?_) rfl (by kernel_rfl) (by kernel_rfl) (by kernel_rfl) (by kernel_rfl) (fun _ _ _ h => h) (Or.inl ⟨by rfl, ?_⟩) hHeld ?_
      rotate_left 1
      · (intro w hSw; have q0 := FD w hSw; have q1 := FG w hSw; go_simp; first | done | with_reducible rfl)
      try simp only [Act.put, List.setIfInBounds_toArray, List.set_cons_zero, List.set_cons_succ]
      refine Bz.wpAnyE_take (i := 4) (oi := { dst := some 41, op := Go.Op.load 3 (Go.Operand.tmp 40), type := 3, pos := "law.go:64", after := #[{ on := 3, ground := Go.Ground.data }], guard := none }) (v := ?_) rfl (by kernel_rfl) (by kernel_rfl) (by kernel_rfl) (by kernel_rfl) (fun _ _ _ h => h) (Or.inl ⟨by rfl, ?_⟩) hHeld ?_
      rotate_left 1
      · (intro w hSw; have q0 := FD w hSw; have q1 := FG w hSw; go_simp; first | done | with_reducible rfl)
      try simp only [Act.put, List.setIfInBounds_toArray, List.set_cons_zero, List.set_cons_succ]
      refine Bz.wpAnyE_take (i := 5) (oi := { dst := some 42, op := Go.Op.fieldAddr 58 (Go.Operand.tmp 5) 2, type := 0, pos := "law.go:64", after := #[], guard := none }) (v := ?_) rfl (by kernel_rfl) (by kernel_rfl) (by kernel_rfl) (by kernel_rfl) (fun _ _ _ h => h) (Or.inl ⟨by rfl, ?_⟩) hHeld ?_
      rotate_left 1
      · (intro w hSw; have q0 := FD w hSw; have q1 := FG w hSw; go_simp; first | done | with_reducible rfl)
      try simp only [Act.put, List.setIfInBounds_toArray, List.set_cons_zero, List.set_cons_succ]
      refine Bz.wpAnyE_take (i := 6) (oi := { dst := some 43, op := Go.Op.load 3 (Go.Operand.tmp 42), type := 3, pos := "law.go:64", after := #[{ on := 5, ground := Go.Ground.data }], guard := none }) (v := ?_) rfl (by kernel_rfl) (by kernel_rfl) (by kernel_rfl) (by kernel_rfl) (fun _ _ _ h => h) (Or.inl ⟨by rfl, ?_⟩) hHeld ?_
      rotate_left 1
      · (intro w hSw; have q0 := FD w hSw; have q1 := FG w hSw; go_simp; first | done | with_reducible rfl)
      try simp only [Act.put, List.setIfInBounds_toArray, List.set_cons_zero, List.set_cons_succ]
      refine Bz.wpAnyE_take (i := 7) (oi := { dst := some 44, op := Go.Op.fieldAddr 58 (Go.Operand.tmp 5) 3, type := 0, pos := "law.go:64", after := #[], guard := none }) (v := ?_) rfl (by kernel_rfl) (by kernel_rfl) (by kernel_rfl) (by kernel_rfl) (fun _ _ _ h => h) (Or.inl ⟨by rfl, ?_⟩) hHeld ?_
      rotate_left 1
      · (intro w hSw; have q0 := FD w hSw; have q1 := FG w hSw; go_simp; first | done | with_reducible rfl)
      try simp only [Act.put, List.setIfInBounds_toArray, List.set_cons_zero, List.set_cons_succ]
      refine Bz.wpAnyE_take (i := 8) (oi := { dst := some 45, op := Go.Op.load 9 (Go.Operand.tmp 44), type := 9, pos := "law.go:64", after := #[{ on := 7, ground := Go.Ground.data }], guard := none }) (v := ?_) rfl (by kernel_rfl) (by kernel_rfl) (by kernel_rfl) (by kernel_rfl) (fun _ _ _ h => h) (Or.inl ⟨by rfl, ?_⟩) hHeld ?_
      rotate_left 1
      · (intro w hSw; have q0 := FD w hSw; have q1 := FG w hSw; go_simp; first | done | with_reducible rfl)
      try simp only [Act.put, List.setIfInBounds_toArray, List.set_cons_zero, List.set_cons_succ]
      refine Bz.wpAnyE_take (i := 9) (oi := { dst := some 46, op := Go.Op.fieldAddr 58 (Go.Operand.tmp 5) 4, type := 0, pos := "law.go:64", after := #[], guard := none }) (v := ?_) rfl (by kernel_rfl) (by kernel_rfl) (by kernel_rfl) (by kernel_rfl) (fun _ _ _ h => h) (Or.inl ⟨by rfl, ?_⟩) hHeld ?_
      rotate_left 1
      · (intro w hSw; have q0 := FD w hSw; have q1 := FG w hSw; go_simp; first | done | with_reducible rfl)
      try simp only [Act.put, List.setIfInBounds_toArray, List.set_cons_zero, List.set_cons_succ]
      refine Bz.wpAnyE_take (i := 10) (oi := { dst := some 47, op := Go.Op.load 29 (Go.Operand.tmp 46), type := 29, pos := "law.go:64", after := #[{ on := 9, ground := Go.Ground.data }], guard := none }) (v := ?_) rfl (by kernel_rfl) (by kernel_rfl) (by kernel_rfl) (by kernel_rfl) (fun _ _ _ h => h) (Or.inl ⟨by rfl, ?_⟩) hHeld ?_
      rotate_left 1
      · (intro w hSw; have q0 := FD w hSw; have q1 := FG w hSw; go_simp; first | done | with_reducible rfl)
      try simp only [Act.put, List.setIfInBounds_toArray, List.set_cons_zero, List.set_cons_succ]
      refine Bz.wpAnyE_ready (rs := [11, 15]) (by kernel_rfl) (by simp) ?_
      refine Bz.AllReadyE.cons (o := { dst := some 48, op := Go.Op.call { callee := Go.Callee.value (Go.Operand.func 35), args := #[Go.Operand.tmp 39, Go.Operand.tmp 41, Go.Operand.tmp 43, Go.Operand.tmp 45, Go.Operand.tmp 47], argTypes := #[47, 3, 3, 9, 29] }, type := 89, pos := "law.go:64", after := #[{ on := 2, ground := Go.Ground.data }, { on := 4, ground := Go.Ground.data }, { on := 6, ground := Go.Ground.data }, { on := 8, ground := Go.Ground.data }, { on := 10, ground := Go.Ground.data }], guard := none }) rfl (fun K hK => ?_) ?_
      · skip
        go_simp
        
        refine (hrs _ hHeld).mono ?_
        rintro e w6 ⟨V', rfl, hrn6, hk6⟩
        obtain ⟨⟨A', c', rfl⟩, _⟩ := hrn6.sl
        try have hBz := hBz.keep hk6 (by simp)
        refine hK.out _ _ (by exact hHeld.trans hk6) ?_
        clear hHeld hK K; intro hHeld
        try simp only [Act.put, List.setIfInBounds_toArray, List.set_cons_zero, List.set_cons_succ]
        refine Bz.wpAnyE_take (i := 12) (oi := { dst := some 36, op := Go.Op.move (Go.Operand.tmp 48), type := 89, pos := "law.go:64", after := #[{ on := 11, ground := Go.Ground.data }], guard := none }) (v := ?_) rfl (by kernel_rfl) (by kernel_rfl) (by kernel_rfl) (by kernel_rfl) (fun _ _ _ h => h) (Or.inl ⟨by rfl, ?_⟩) hHeld ?_
        rotate_left 1
        · (intro w hSw; have q0 := FD w hSw; have q1 := FG w hSw; go_simp; first | done | with_reducible rfl)
        try simp only [Act.put, List.setIfInBounds_toArray, List.set_cons_zero, List.set_cons_succ]
        refine Bz.wpAnyE_take (i := 13) (oi := { dst := some 49, op := Go.Op.extract (Go.Operand.tmp 36) 0, type := 47, pos := "law.go:64", after := #[{ on := 12, ground := Go.Ground.data }], guard := none }) (v := ?_) rfl (by kernel_rfl) (by kernel_rfl) (by kernel_rfl) (by kernel_rfl) (fun _ _ _ h => h) (Or.inl ⟨by rfl, ?_⟩) hHeld ?_
        rotate_left 1
        · (intro w hSw; have q0 := FD w hSw; have q1 := FG w hSw; go_simp; first | done | with_reducible rfl)
        try simp only [Act.put, List.setIfInBounds_toArray, List.set_cons_zero, List.set_cons_succ]
        refine Bz.wpAnyE_take (i := 14) (oi := { dst := some 50, op := Go.Op.extract (Go.Operand.tmp 36) 1, type := 3, pos := "law.go:64", after := #[{ on := 12, ground := Go.Ground.data }, { on := 16, ground := Go.Ground.gcOnly Go.Departure.lateStores }], guard := none }) (v := ?_) rfl (by kernel_rfl) (by kernel_rfl) (by kernel_rfl) (by kernel_rfl) (fun _ _ _ h => h) (Or.inl ⟨by rfl, ?_⟩) hHeld ?_
        rotate_left 1
        · (intro w hSw; have q0 := FD w hSw; have q1 := FG w hSw; go_simp; first | done | with_reducible rfl)
        try simp only [Act.put, List.setIfInBounds_toArray, List.set_cons_zero, List.set_cons_succ]
        refine Bz.wpAnyE_ready (rs := [15]) (by kernel_rfl) (by simp) ?_
        refine Bz.AllReadyE.cons (o := { dst := some 8, op := Go.Op.alloc 47, type := 0, pos := "law.go:64", after := #[], guard := none }) rfl (fun K hK => ?_) Bz.AllReadyE.nil
        
        obtain ⟨wa, gn, hwa, hgn, hBz, hka, hza⟩ := zero_keep hHeld
        go_simp
        rw [← hwa, ← hgn]
        have hgn0 : wq.heap.size ≤ gn := by rw [hgn]; exact hHeld.size
        clear hwa hgn
        try have hrn6 := hrn6.keep0 hka
        refine hK.out _ _ (by exact hHeld.trans hka) ?_
        clear hHeld hK K; intro hHeld
        try simp only [Act.put, List.setIfInBounds_toArray, List.set_cons_zero, List.set_cons_succ]
        refine Bz.wpAnyE_ready (rs := [16]) (by kernel_rfl) (by simp) ?_
        refine Bz.AllReadyE.cons (o := { dst := none, op := Go.Op.store 47 (Go.Operand.tmp 8) (Go.Operand.tmp 49), type := 0, pos := "law.go:64", after := #[{ on := 15, ground := Go.Ground.data }, { on := 13, ground := Go.Ground.data }, { on := 11, ground := Go.Ground.chain }, { on := 0, ground := Go.Ground.phase }, { on := 1, ground := Go.Ground.phase }, { on := 2, ground := Go.Ground.phase }, { on := 3, ground := Go.Ground.phase }, { on := 4, ground := Go.Ground.phase }, { on := 5, ground := Go.Ground.phase }, { on := 6, ground := Go.Ground.phase }, { on := 7, ground := Go.Ground.phase }, { on := 8, ground := Go.Ground.phase }, { on := 9, ground := Go.Ground.phase }, { on := 10, ground := Go.Ground.phase }, { on := 11, ground := Go.Ground.phase }, { on := 12, ground := Go.Ground.phase }, { on := 13, ground := Go.Ground.phase }, { on := 14, ground := Go.Ground.textOnly Go.Departure.lateStores }, { on := 15, ground := Go.Ground.phase }], guard := none }) rfl (fun K hK => ?_) Bz.AllReadyE.nil
        
        have z0 := hBz.cell
        have z1 := hBz.frozen
        obtain ⟨hp1, hp2, hp3⟩ := put4 hBz hHeld hgn0 (.int .i64 N2.P) (.int .i64 N2.now) (.slice A' N2.way.length c') (.slice AC Nc.length cC)
        have hrn7 := hrn6.far hBz hp3
        go_simp
        refine hK.out _ _ (by exact hp2) ?_
        clear hHeld hK K; intro hHeld
        try simp only [Act.put, List.setIfInBounds_toArray, List.set_cons_zero, List.set_cons_succ]
        refine Bz.wpAnyE_take (i := 17) (oi := { dst := some 9, op := Go.Op.assign (Go.Operand.tmp 50), type := 3, pos := "law.go:64", after := #[{ on := 14, ground := Go.Ground.data }, { on := 16, ground := Go.Ground.chain }, { on := 0, ground := Go.Ground.phase }, { on := 1, ground := Go.Ground.phase }, { on := 2, ground := Go.Ground.phase }, { on := 3, ground := Go.Ground.phase }, { on := 4, ground := Go.Ground.phase }, { on := 5, ground := Go.Ground.phase }, { on := 6, ground := Go.Ground.phase }, { on := 7, ground := Go.Ground.phase }, { on := 8, ground := Go.Ground.phase }, { on := 9, ground := Go.Ground.phase }, { on := 10, ground := Go.Ground.phase }, { on := 11, ground := Go.Ground.phase }, { on := 12, ground := Go.Ground.phase }, { on := 13, ground := Go.Ground.phase }, { on := 14, ground := Go.Ground.phase }, { on := 15, ground := Go.Ground.phase }, { on := 16, ground := Go.Ground.phase }], guard := none }) (v := ?_) rfl (by kernel_rfl) (by kernel_rfl) (by kernel_rfl) (by kernel_rfl) (fun _ _ _ h => h) (Or.inl ⟨by rfl, ?_⟩) hHeld ?_
        rotate_left 1
        · (intro w hSw; have q0 := FD w hSw; have q1 := FG w hSw; go_simp; first | done | with_reducible rfl)
        try simp only [Act.put, List.setIfInBounds_toArray, List.set_cons_zero, List.set_cons_succ]
        refine Bz.wpAnyE_done (by kernel_rfl) ?_ _
        refine NoPanic.normal ?_
        go_wp2_with fail
        go_meet
        exact ⟨gn, A', c', rfl, rfl, hp1, hrn7, hHeld⟩
      refine Bz.AllReadyE.cons (o := { dst := some 8, op := Go.Op.alloc 47, type := 0, pos := "law.go:64", after := #[], guard := none }) rfl (fun K hK => ?_) ?_
      · skip
        
        obtain ⟨wa, gn, hwa, hgn, hBz, hka, hza⟩ := zero_keep hHeld
        go_simp
        rw [← hwa, ← hgn]
        have hgn0 : wq.heap.size ≤ gn := by rw [hgn]; exact hHeld.size
        clear hwa hgn
        try have hrn6 := hrn6.keep0 hka
        refine hK.out _ _ (by exact hHeld.trans hka) ?_
        clear hHeld hK K; intro hHeld
        try simp only [Act.put, List.setIfInBounds_toArray, List.set_cons_zero, List.set_cons_succ]
        refine Bz.wpAnyE_ready (rs := [11]) (by kernel_rfl) (by simp) ?_
        refine Bz.AllReadyE.cons (o := { dst := some 48, op := Go.Op.call { callee := Go.Callee.value (Go.Operand.func 35), args := #[Go.Operand.tmp 39, Go.Operand.tmp 41, Go.Operand.tmp 43, Go.Operand.tmp 45, Go.Operand.tmp 47], argTypes := #[47, 3, 3, 9, 29] }, type := 89, pos := "law.go:64", after := #[{ on := 2, ground := Go.Ground.data }, { on := 4, ground := Go.Ground.data }, { on := 6, ground := Go.Ground.data }, { on := 8, ground := Go.Ground.data }, { on := 10, ground := Go.Ground.data }], guard := none }) rfl (fun K hK => ?_) Bz.AllReadyE.nil
        go_simp
        
        refine (hrs _ hHeld).mono ?_
        rintro e w6 ⟨V', rfl, hrn6, hk6⟩
        obtain ⟨⟨A', c', rfl⟩, _⟩ := hrn6.sl
        try have hBz := hBz.keep hk6 (by simp)
        refine hK.out _ _ (by exact hHeld.trans hk6) ?_
        clear hHeld hK K; intro hHeld
        try simp only [Act.put, List.setIfInBounds_toArray, List.set_cons_zero, List.set_cons_succ]
        refine Bz.wpAnyE_take (i := 12) (oi := { dst := some 36, op := Go.Op.move (Go.Operand.tmp 48), type := 89, pos := "law.go:64", after := #[{ on := 11, ground := Go.Ground.data }], guard := none }) (v := ?_) rfl (by kernel_rfl) (by kernel_rfl) (by kernel_rfl) (by kernel_rfl) (fun _ _ _ h => h) (Or.inl ⟨by rfl, ?_⟩) hHeld ?_
        rotate_left 1
        · (intro w hSw; have q0 := FD w hSw; have q1 := FG w hSw; go_simp; first | done | with_reducible rfl)
        try simp only [Act.put, List.setIfInBounds_toArray, List.set_cons_zero, List.set_cons_succ]
        refine Bz.wpAnyE_take (i := 13) (oi := { dst := some 49, op := Go.Op.extract (Go.Operand.tmp 36) 0, type := 47, pos := "law.go:64", after := #[{ on := 12, ground := Go.Ground.data }], guard := none }) (v := ?_) rfl (by kernel_rfl) (by kernel_rfl) (by kernel_rfl) (by kernel_rfl) (fun _ _ _ h => h) (Or.inl ⟨by rfl, ?_⟩) hHeld ?_
        rotate_left 1
        · (intro w hSw; have q0 := FD w hSw; have q1 := FG w hSw; go_simp; first | done | with_reducible rfl)
        try simp only [Act.put, List.setIfInBounds_toArray, List.set_cons_zero, List.set_cons_succ]
        refine Bz.wpAnyE_take (i := 14) (oi := { dst := some 50, op := Go.Op.extract (Go.Operand.tmp 36) 1, type := 3, pos := "law.go:64", after := #[{ on := 12, ground := Go.Ground.data }, { on := 16, ground := Go.Ground.gcOnly Go.Departure.lateStores }], guard := none }) (v := ?_) rfl (by kernel_rfl) (by kernel_rfl) (by kernel_rfl) (by kernel_rfl) (fun _ _ _ h => h) (Or.inl ⟨by rfl, ?_⟩) hHeld ?_
        rotate_left 1
        · (intro w hSw; have q0 := FD w hSw; have q1 := FG w hSw; go_simp; first | done | with_reducible rfl)
        try simp only [Act.put, List.setIfInBounds_toArray, List.set_cons_zero, List.set_cons_succ]
        refine Bz.wpAnyE_ready (rs := [16]) (by kernel_rfl) (by simp) ?_
        refine Bz.AllReadyE.cons (o := { dst := none, op := Go.Op.store 47 (Go.Operand.tmp 8) (Go.Operand.tmp 49), type := 0, pos := "law.go:64", after := #[{ on := 15, ground := Go.Ground.data }, { on := 13, ground := Go.Ground.data }, { on := 11, ground := Go.Ground.chain }, { on := 0, ground := Go.Ground.phase }, { on := 1, ground := Go.Ground.phase }, { on := 2, ground := Go.Ground.phase }, { on := 3, ground := Go.Ground.phase }, { on := 4, ground := Go.Ground.phase }, { on := 5, ground := Go.Ground.phase }, { on := 6, ground := Go.Ground.phase }, { on := 7, ground := Go.Ground.phase }, { on := 8, ground := Go.Ground.phase }, { on := 9, ground := Go.Ground.phase }, { on := 10, ground := Go.Ground.phase }, { on := 11, ground := Go.Ground.phase }, { on := 12, ground := Go.Ground.phase }, { on := 13, ground := Go.Ground.phase }, { on := 14, ground := Go.Ground.textOnly Go.Departure.lateStores }, { on := 15, ground := Go.Ground.phase }], guard := none }) rfl (fun K hK => ?_) Bz.AllReadyE.nil
        
        have z0 := hBz.cell
        have z1 := hBz.frozen
        obtain ⟨hp1, hp2, hp3⟩ := put4 hBz hHeld hgn0 (.int .i64 N2.P) (.int .i64 N2.now) (.slice A' N2.way.length c') (.slice AC Nc.length cC)
        have hrn7 := hrn6.far hBz hp3
        go_simp
        refine hK.out _ _ (by exact hp2) ?_
        clear hHeld hK K; intro hHeld
        try simp only [Act.put, List.setIfInBounds_toArray, List.set_cons_zero, List.set_cons_succ]
        refine Bz.wpAnyE_take (i := 17) (oi := { dst := some 9, op := Go.Op.assign (Go.Operand.tmp 50), type := 3, pos := "law.go:64", after := #[{ on := 14, ground := Go.Ground.data }, { on := 16, ground := Go.Ground.chain }, { on := 0, ground := Go.Ground.phase }, { on := 1, ground := Go.Ground.phase }, { on := 2, ground := Go.Ground.phase }, { on := 3, ground := Go.Ground.phase }, { on := 4, ground := Go.Ground.phase }, { on := 5, ground := Go.Ground.phase }, { on := 6, ground := Go.Ground.phase }, { on := 7, ground := Go.Ground.phase }, { on := 8, ground := Go.Ground.phase }, { on := 9, ground := Go.Ground.phase }, { on := 10, ground := Go.Ground.phase }, { on := 11, ground := Go.Ground.phase }, { on := 12, ground := Go.Ground.phase }, { on := 13, ground := Go.Ground.phase }, { on := 14, ground := Go.Ground.phase }, { on := 15, ground := Go.Ground.phase }, { on := 16, ground := Go.Ground.phase }], guard := none }) (v := ?_) rfl (by kernel_rfl) (by kernel_rfl) (by kernel_rfl) (by kernel_rfl) (fun _ _ _ h => h) (Or.inl ⟨by rfl, ?_⟩) hHeld ?_
        rotate_left 1
        · (intro w hSw; have q0 := FD w hSw; have q1 := FG w hSw; go_simp; first | done | with_reducible rfl)
        try simp only [Act.put, List.setIfInBounds_toArray, List.set_cons_zero, List.set_cons_succ]
        refine Bz.wpAnyE_done (by kernel_rfl) ?_ _
        refine NoPanic.normal ?_
        go_wp2_with fail
        go_meet
        exact ⟨gn, A', c', rfl, rfl, hp1, hrn7, hHeld⟩
      exact Bz.AllReadyE.nil
    case rest =>
      obtain ⟨gn, A', c', rfl, rfl, hBn, hrn3, hk3⟩ := hcut
      have q0 := hBn.cell
      have hB3 := hB2.keep hk3 (by simp)
      have q1 := hB3.cell
      have q2 := hB3.frozen
      have hR0 : ∀ r ∈ R', w0.heap.size ≤ r := fun r hr => by
        rcases hR2 r hr with h5 | h5
        · exact h.hR r h5
        · have := h1.k.size; omega
      obtain ⟨hb, hbk⟩ := both_put (hN2.keep0 hk3) hB3 hrn3 h.ht h.hmb hR0 h.hg (hk0.trans hk3)
      clear FD FG hrs
      go_wp2_with fail
      go_ret
      refine ⟨rfl, S2, R', B', N2, _, _, hb, hA2, hcl2, fun x hx => ?_, ?_⟩
      · rcases hR2 x hx with h5 | h5
        · exact .inl h5
        · have := hk1.size; exact .inr (by omega)
      · have e1 : Keep (g :: t :: mb :: R) w wq := hk1.sub.trans (hk2.mono (fun x _ hx => List.mem_cons_of_mem _ hx))
        exact (e1.trans hk3.sub).trans (hbk.mono (fun x _ hx => by simp at hx; simp [hx]))
end
end Go.Proofs.Ytcjbmbljmmakfaa
