/- Step walked. -/
import Derived.Test.YtcjbmbljmmakfaaSend2
import Derived.WalkMore
namespace Go.Proofs.Ytcjbmbljmmakfaa
open Go.RowKit Go.Bz

/-- A letter that comes: its cells, and what its bytes are. -/
structure LRaw where
  (f t : Int) (V : Value) (b : List Int)
@[reducible] def lenc (r : LRaw) : Array Value := #[.int .i64 r.f, .int .i64 r.t, r.V]
theorem lenc_sz : ∀ x, (lenc x).size = 3 := fun _ => rfl
theorem lenc_one (V : Value) (hV : V.oneCell' = true) (f t : Int) (b : List Int) : ∀ u ∈ (lenc ⟨f, t, V, b⟩).toList, u.oneCell' = true := by
  intro u hu
  simp at hu
  rcases hu with rfl | rfl | rfl
  · rfl
  · rfl
  · exact hV
/-- What a letter says. -/
structure Lt where
  (f t : Int) (b : List Int)
deriving DecidableEq
def LRaw.lt (r : LRaw) : Lt := ⟨r.f, r.t, r.b⟩
def Cp.lt (c : Cp) : Lt := ⟨c.f, c.t, c.b⟩
/-- Letters that came, of the call's own. -/
structure Came (w : World) (base : Nat) (v : Value) (outs : List LRaw) : Prop where
  own : Own w base 35 3 lenc v outs
  bytes : ∀ x ∈ outs, Own w base 5 1 benc x.V x.b
theorem Came.keep {w w' : World} {base : Nat} {v : Value} {outs : List LRaw} {L : List Nat} (h : Came w base v outs) (hk : Keep L w w') (h1 : ∀ g ∈ ownB v, g ∉ L) (h2 : ∀ x ∈ outs, ∀ g ∈ ownB x.V, g ∉ L) : Came w' base v outs :=
  ⟨h.own.keep hk h1, fun x hx => (h.bytes x hx).keep hk (h2 x hx)⟩
theorem Came.keep0 {w w' : World} {base : Nat} {v : Value} {outs : List LRaw} (h : Came w base v outs) (hk : Keep [] w w') : Came w' base v outs := h.keep hk (by simp) (by simp)
theorem app36 : AppT Try.prog 36 35 3 40 (.agg #[.int .i64 0, .int .i64 0, .slice none 0 0]) := ⟨Try.underlying36, by kernel_rfl, rfl, by decide⟩
def NS.comeOf (S : NS) (l : List Cp) : List Cp := l.filter fun c => !S.cut (c.f.toNat * 16 + c.t.toNat)
/-- The net, and the row of what is due. -/
structure StepW (w wr : World) (t mb : Nat) (S : NS) (R B : List Nat) (D : List (Int × Row)) (A : Option Addr) (cap : Nat) : Prop where
  net : NetAt wr t mb S R B
  row : Own wr 0 77 4 senc (.slice A (rowl D S.now).length cap) (rowl D S.now)
  bytes : ∀ x ∈ rowl D S.now, Own wr 0 5 1 benc x.V x.b
  k : Keep [] w wr
  rlt : ∀ g ∈ ownB (.slice A (rowl D S.now).length cap), g < w.heap.size
  blt : ∀ x ∈ rowl D S.now, ∀ g ∈ ownB x.V, g < w.heap.size
  nlt : t < w.heap.size ∧ mb < w.heap.size ∧ (∀ g ∈ R, g < w.heap.size) ∧ ∀ g ∈ B, g < w.heap.size
theorem StepW.keepO {w wr w' : World} {t mb : Nat} {S : NS} {R B : List Nat} {D : List (Int × Row)} {A : Option Addr} {cap : Nat} {L : List Nat} (h : StepW w wr t mb S R B D A cap) (hk : Keep L wr w') (hL : ∀ g ∈ L, w.heap.size ≤ g) : StepW w w' t mb S R B D A cap := by
  have no : ∀ g, g < w.heap.size → g ∉ L := fun g hg hm => by have := hL g hm; omega
  exact ⟨h.net.keep hk (no _ h.nlt.1) (no _ h.nlt.2.1) (fun g hg => no _ (h.nlt.2.2.1 g hg)) (fun g hg => no _ (h.nlt.2.2.2 g hg)), h.row.keep hk (fun g hg => no _ (h.rlt g hg)), fun x hx => (h.bytes x hx).keep hk (fun g hg => no _ (h.blt x hx g hg)), h.k.own hk hL, h.rlt, h.blt, h.nlt⟩
theorem Came.keepTy {w w' : World} {base : Nat} {v : Value} {outs : List LRaw} {L : List Nat} (h : Came w base v outs) (hk : Keep L w w') (hL : ∀ s ∈ L, ∀ ty cs, ty = 35 ∨ ty = 5 → ¬ Blk w s ty cs) : Came w' base v outs := by
  refine h.keep hk (fun g hg hm => ?_) (fun x hx g hg hm => ?_)
  · obtain ⟨cs, hb⟩ := h.own.blk g hg
    exact hL g hm 35 cs (.inl rfl) hb
  · obtain ⟨cs, hb⟩ := (h.bytes x hx).blk g hg
    exact hL g hm 5 cs (.inr rfl) hb
theorem NetAt.noT {w : World} {t mb : Nat} {S : NS} {R B : List Nat} (h : NetAt w t mb S R B) : (∀ s ∈ [t], ∀ ty cs, ty = 35 ∨ ty = 5 → ¬ Blk w s ty cs) ∧ ∀ s ∈ [mb], ∀ ty cs, ty = 35 ∨ ty = 5 → ¬ Blk w s ty cs :=
  ⟨fun s hs ty cs ht hb => by simp at hs; subst hs; rcases ht with rfl | rfl <;> exact h.ty (by decide) (by decide) s (by simp) _ hb, fun s hs ty cs ht hb => by simp at hs; subst hs; rcases ht with rfl | rfl <;> exact h.ty (by decide) (by decide) s (by simp) _ hb⟩
/-- 'delete(n.due, n.now)'. -/
theorem NetAt.del {w : World} {t mb : Nat} {S : NS} {R B : List Nat} (h : NetAt w t mb S R B) (k : Int) (ty : TypeId) :
    ∃ w', (Builtin.delete_ #[68, 3] ty #[.map (some mb), .int .i64 k]).run Try.prog w = .ok (.tuple #[]) w' ∧ NetAt w' t mb { S with due := mdel k S.due } R B ∧ Keep [mb] w w' := by
  obtain ⟨⟨cs, hb, hc⟩, D, hD, hd⟩ := h
  obtain ⟨w', hrun, hm, hk⟩ := hd.map.delete k3 Try.underlying68 k ty
  exact ⟨w', hrun, ⟨⟨cs, hb.keep hk (by simp; exact fun e => hd.map.ne_blk hb e.symm), ⟨hc.size, hc.c0, hc.c1, hc.c2, hc.c3, hc.c4, hc.cut⟩⟩, mdel k D, due_del hD k, hd.del hm hk⟩, hk⟩
theorem NetAt.look {w : World} {t mb : Nat} {S : NS} {R B : List Nat} (h : NetAt w t mb S R B) (k : Int) : ∃ A cap, ∀ W, Keep [] w W → (Instr.lookup 68 (.map (some mb)) (.int .i64 k) false).run Try.prog W = .ok (.slice A (S.at_ k).length cap) W := by
  obtain ⟨_, D, hD, hd⟩ := h
  obtain ⟨hr, _⟩ := hd.row k
  obtain ⟨A, cap, hv, _⟩ := hr.own.sl senc_sz
  have e : (rowl D k).length = (S.at_ k).length := by rw [← rowl_at hD k]; simp
  simp only at hv
  rw [e] at hv
  exact ⟨A, cap, fun W hk => by rw [← hv]; exact (hd.keep0 hk).look k⟩
theorem StepW.keep0 {w wr w' : World} {t mb : Nat} {S : NS} {R B : List Nat} {D : List (Int × Row)} {A : Option Addr} {cap : Nat} (h : StepW w wr t mb S R B D A cap) (hk : Keep [] wr w') : StepW w w' t mb S R B D A cap :=
  ⟨h.net.keep0 hk, h.row.keep0 hk, fun x hx => (h.bytes x hx).keep0 hk, h.k.trans hk, h.rlt, h.blt, h.nlt⟩
set_option maxRecDepth 100000 in
set_option maxHeartbeats 8000000 in
theorem step_any {w : World} {t mb : Nat} {S : NS} {R B : List Nat} (h : NetAt w t mb S R B) (hWF : S.WF) (hnow : S.now ≤ 1000000) (hbs : ∀ c ∈ S.at_ S.now, c.b.length ≤ 65536) :
    Calls Try.prog 14 #[.pointer (some ⟨t, 0, none⟩)] w (fun e w' => ∃ v outs, e = .returned v ∧ Came w' w.heap.size v outs ∧ outs.map LRaw.lt = S.come.map Cp.lt ∧ NetAt w' t mb S.step R B ∧ Keep [t, mb] w w') := by
  obtain ⟨_, D, hD, hd⟩ := id h
  obtain ⟨hr, hap⟩ := hd.row S.now
  obtain ⟨A, cap, hrv, hc1, hc2, _⟩ := hr.own.sl senc_sz
  have hat := rowl_at hD S.now
  have hrl : (rowl D S.now).length = (S.at_ S.now).length := by rw [← hat]; simp
  have hlen := hWF.at_len S.now
  have hends : ∀ x ∈ rowl D S.now, 0 ≤ x.f ∧ x.f < 16 ∧ 0 ≤ x.t ∧ x.t < 16 := fun x hx => hWF.at_ends S.now x.cp (by rw [← hat]; exact List.mem_map.2 ⟨x, hx, rfl⟩)
  have hby : ∀ x ∈ rowl D S.now, x.b.length ≤ 65536 := fun x hx => hbs x.cp (by rw [← hat]; exact List.mem_map.2 ⟨x, hx, rfl⟩)
  have hrow := hr.own
  simp only at hrv hc1 hrow
  rw [hrv] at hrow
  have hSW : StepW w w t mb S R B D A cap := ⟨h, hrow, hr.bytes, Keep.refl _ _, fun g hg => (hrow.lt g hg).2, fun x hx g hg => ((hr.bytes x hx).lt g hg).2, h.lt⟩
  have F0 := fun W (hk : Keep [] w W) => (h.keep0 hk).cells
  have FL : ∀ W, Keep [] w W → (Instr.lookup 68 (.map (some mb)) (.int .i64 S.now) false).run Try.prog W = .ok (.slice A (rowl D S.now).length cap) W := fun W hk => by rw [← hrv]; exact (hd.keep0 hk).look _
  have HL := Lib.hid (And.intro hrl hlen)
  have HD := Lib.hid (And.intro hD hat)
  clear hrl hlen hrow hrv hD hat hap
  go_enter Try.func14, Try.ntmps14
  go_wp2_with fail
  go_step3
  go_wp2_with fail
  go_step3
  go_wp2_with fail
  refine wp_region_noPanic ?_
  refine Bz.wp_region_E (S := (fun w' => Keep [] w w')) (E := []) (by kernel_rfl) (by exact (Keep.refl _ _).drew) (fun hHeld => ?_)
  refine Bz.wpAnyE_take (i := 0) (oi := { dst := some 8, op := Go.Op.move (Go.Operand.tmp 0), type := 23, pos := "net.go:95", after := #[], guard := none }) (v := ?_) rfl (by kernel_rfl) (by kernel_rfl) (by kernel_rfl) (by kernel_rfl) (fun _ _ _ h => h) (Or.inl ⟨by rfl, ?_⟩) hHeld ?_
  rotate_left 1
  · (intro w hSw; have f0 := F0 _ hSw; have fl := FL _ hSw; go_simp; first | done | with_reducible rfl)
  try simp only [Act.put, List.setIfInBounds_toArray, List.set_cons_zero, List.set_cons_succ]
  refine Bz.wpAnyE_take (i := 1) (oi := { dst := some 9, op := Go.Op.nilCheck (Go.Operand.tmp 8), type := 0, pos := "net.go:95", after := #[{ on := 0, ground := Go.Ground.data }], guard := none }) (v := ?_) rfl (by kernel_rfl) (by kernel_rfl) (by kernel_rfl) (by kernel_rfl) (fun _ _ _ h => h) (Or.inl ⟨by rfl, ?_⟩) hHeld ?_
  rotate_left 1
  · (intro w hSw; have f0 := F0 _ hSw; have fl := FL _ hSw; go_simp; first | done | with_reducible rfl)
  try simp only [Act.put, List.setIfInBounds_toArray, List.set_cons_zero, List.set_cons_succ]
  refine Bz.wpAnyE_take (i := 2) (oi := { dst := some 10, op := Go.Op.fieldAddr 72 (Go.Operand.tmp 9) 4, type := 0, pos := "net.go:95", after := #[{ on := 1, ground := Go.Ground.data }], guard := none }) (v := ?_) rfl (by kernel_rfl) (by kernel_rfl) (by kernel_rfl) (by kernel_rfl) (fun _ _ _ h => h) (Or.inl ⟨by rfl, ?_⟩) hHeld ?_
  rotate_left 1
  · (intro w hSw; have f0 := F0 _ hSw; have fl := FL _ hSw; go_simp; first | done | with_reducible rfl)
  try simp only [Act.put, List.setIfInBounds_toArray, List.set_cons_zero, List.set_cons_succ]
  refine Bz.wpAnyE_take (i := 3) (oi := { dst := some 11, op := Go.Op.load 68 (Go.Operand.tmp 10), type := 68, pos := "net.go:95", after := #[{ on := 2, ground := Go.Ground.data }], guard := none }) (v := ?_) rfl (by kernel_rfl) (by kernel_rfl) (by kernel_rfl) (by kernel_rfl) (fun _ _ _ h => h) (Or.inl ⟨by rfl, ?_⟩) hHeld ?_
  rotate_left 1
  · (intro w hSw; have f0 := F0 _ hSw; have fl := FL _ hSw; go_simp; first | done | with_reducible rfl)
  try simp only [Act.put, List.setIfInBounds_toArray, List.set_cons_zero, List.set_cons_succ]
  refine Bz.wpAnyE_take (i := 4) (oi := { dst := some 12, op := Go.Op.move (Go.Operand.tmp 0), type := 23, pos := "net.go:95", after := #[], guard := none }) (v := ?_) rfl (by kernel_rfl) (by kernel_rfl) (by kernel_rfl) (by kernel_rfl) (fun _ _ _ h => h) (Or.inl ⟨by rfl, ?_⟩) hHeld ?_
  rotate_left 1
  · (intro w hSw; have f0 := F0 _ hSw; have fl := FL _ hSw; go_simp; first | done | with_reducible rfl)
  try simp only [Act.put, List.setIfInBounds_toArray, List.set_cons_zero, List.set_cons_succ]
  refine Bz.wpAnyE_take (i := 5) (oi := { dst := some 13, op := Go.Op.nilCheck (Go.Operand.tmp 12), type := 0, pos := "net.go:95", after := #[{ on := 4, ground := Go.Ground.data }], guard := none }) (v := ?_) rfl (by kernel_rfl) (by kernel_rfl) (by kernel_rfl) (by kernel_rfl) (fun _ _ _ h => h) (Or.inl ⟨by rfl, ?_⟩) hHeld ?_
  rotate_left 1
  · (intro w hSw; have f0 := F0 _ hSw; have fl := FL _ hSw; go_simp; first | done | with_reducible rfl)
  try simp only [Act.put, List.setIfInBounds_toArray, List.set_cons_zero, List.set_cons_succ]
  refine Bz.wpAnyE_take (i := 6) (oi := { dst := some 14, op := Go.Op.fieldAddr 72 (Go.Operand.tmp 13) 1, type := 0, pos := "net.go:95", after := #[{ on := 5, ground := Go.Ground.data }], guard := none }) (v := ?_) rfl (by kernel_rfl) (by kernel_rfl) (by kernel_rfl) (by kernel_rfl) (fun _ _ _ h => h) (Or.inl ⟨by rfl, ?_⟩) hHeld ?_
  rotate_left 1
  · (intro w hSw; have f0 := F0 _ hSw; have fl := FL _ hSw; go_simp; first | done | with_reducible rfl)
  try simp only [Act.put, List.setIfInBounds_toArray, List.set_cons_zero, List.set_cons_succ]
  refine Bz.wpAnyE_take (i := 7) (oi := { dst := some 15, op := Go.Op.load 3 (Go.Operand.tmp 14), type := 3, pos := "net.go:95", after := #[{ on := 6, ground := Go.Ground.data }], guard := none }) (v := ?_) rfl (by kernel_rfl) (by kernel_rfl) (by kernel_rfl) (by kernel_rfl) (fun _ _ _ h => h) (Or.inl ⟨by rfl, ?_⟩) hHeld ?_
  rotate_left 1
  · (intro w hSw; have f0 := F0 _ hSw; have fl := FL _ hSw; go_simp; first | done | with_reducible rfl)
  try simp only [Act.put, List.setIfInBounds_toArray, List.set_cons_zero, List.set_cons_succ]
  refine Bz.wpAnyE_take (i := 8) (oi := { dst := some 16, op := Go.Op.lookup 68 (Go.Operand.tmp 11) (Go.Operand.tmp 15) false, type := 74, pos := "net.go:95", after := #[{ on := 3, ground := Go.Ground.data }, { on := 7, ground := Go.Ground.data }], guard := none }) (v := ?_) rfl (by kernel_rfl) (by kernel_rfl) (by kernel_rfl) (by kernel_rfl) (fun _ _ _ h => h) (Or.inl ⟨by rfl, ?_⟩) hHeld ?_
  rotate_left 1
  · (intro w hSw; have f0 := F0 _ hSw; have fl := FL _ hSw; go_simp; first | done | with_reducible rfl)
  try simp only [Act.put, List.setIfInBounds_toArray, List.set_cons_zero, List.set_cons_succ]
  refine Bz.wpAnyE_take (i := 9) (oi := { dst := some 17, op := Go.Op.call { callee := Go.Callee.builtin Go.Builtin.len, args := #[Go.Operand.tmp 16], argTypes := #[74] }, type := 3, pos := "net.go:95", after := #[{ on := 8, ground := Go.Ground.data }], guard := none }) (v := ?_) rfl (by kernel_rfl) (by kernel_rfl) (by kernel_rfl) (by kernel_rfl) (fun _ _ _ h => h) (Or.inl ⟨by rfl, ?_⟩) hHeld ?_
  rotate_left 1
  · (intro w hSw; have f0 := F0 _ hSw; have fl := FL _ hSw; go_simp; first | done | with_reducible rfl)
  try simp only [Act.put, List.setIfInBounds_toArray, List.set_cons_zero, List.set_cons_succ]
  refine Bz.wpAnyE_take (i := 10) (oi := { dst := some 18, op := Go.Op.move (Go.Operand.const (Go.Value.int Go.IntKind.i64 0)), type := 3, pos := "net.go:95", after := #[], guard := none }) (v := ?_) rfl (by kernel_rfl) (by kernel_rfl) (by kernel_rfl) (by kernel_rfl) (fun _ _ _ h => h) (Or.inl ⟨by rfl, ?_⟩) hHeld ?_
  rotate_left 1
  · (intro w hSw; have f0 := F0 _ hSw; have fl := FL _ hSw; go_simp; first | done | with_reducible rfl)
  try simp only [Act.put, List.setIfInBounds_toArray, List.set_cons_zero, List.set_cons_succ]
  refine Bz.wpAnyE_done (by kernel_rfl) ?_ _
  refine NoPanic.normal ?_
  
  have hSW := hSW.keep0 (Keep.refl _ _).drew
  obtain ⟨wd, hwd⟩ : ∃ W, W = w.drew := ⟨_, rfl⟩
  rw [← hwd] at hSW ⊢
  clear hwd hHeld
  go_wp2_with fail
  go_loopg [3, 18] (rowl D S.now).length (fun m v i wr => ∃ (k : Nat) (outs : List LRaw), i = .int .i64 k ∧ m + k = (rowl D S.now).length ∧ StepW w wr t mb S R B D A cap ∧ Came wr w.heap.size v outs ∧ outs.length ≤ k ∧ Hid (outs.map LRaw.lt = (S.comeOf (((rowl D S.now).take k).map Raw.cp)).map Cp.lt))
  case atStart => exact ⟨0, [], rfl, rfl, hSW, ⟨Own.nil .., by simp⟩, Nat.le_refl _, Lib.hid rfl⟩
  case round =>
    clear hSW
    obtain ⟨k, outs, rfl, hk, hSW, hCa, hok, HO⟩ := hrel
    by_cases hlt : k < (rowl D S.now).length
    · obtain ⟨x, hx⟩ : ∃ x, (rowl D S.now)[k]? = some x := ⟨_, List.getElem?_eq_getElem hlt⟩
      have hxm := List.mem_of_getElem? hx
      obtain ⟨g0, o0, cp0, hv0, _, hsl0⟩ := (hSW.row.sl senc_sz).at_ hx
      cases hv0
      have ca0 : wr.cell? ⟨g0, o0 + k * 4, none⟩ = some (.int .i64 x.f) := by simpa using hsl0.cell hx (j := 0) (by decide)
      have ca1 : wr.cell? ⟨g0, o0 + k * 4 + 1, none⟩ = some (.int .i64 x.t) := by simpa using hsl0.cell hx (j := 1) (by decide)
      have ca2 : wr.cell? ⟨g0, o0 + k * 4 + 2, none⟩ = some x.V := by simpa using hsl0.cell hx (j := 2) (by decide)
      have ca3 : wr.cell? ⟨g0, o0 + k * 4 + 3, none⟩ = some (.int .i64 x.num) := by simpa using hsl0.cell hx (j := 3) (by decide)
      obtain ⟨xi, hxi⟩ : ∃ i : Nat, x.f = i := ⟨x.f.toNat, by have := hends x hxm; omega⟩
      obtain ⟨xj, hxj⟩ : ∃ i : Nat, x.t = i := ⟨x.t.toNat, by have := hends x hxm; omega⟩
      have hi16 : xi < 16 := by have := hends x hxm; omega
      have hj16 : xj < 16 := by have := hends x hxm; omega
      have hi16' : (xi : Int) < 16 := by omega
      have hj16' : (xj : Int) < 16 := by omega
      obtain ⟨A1, cap1, hV1, hb1, hb2, _⟩ := (hSW.bytes x hxm).sl benc_sz
      have hS1 := (hSW.bytes x hxm).sl benc_sz
      have hbx := hby x hxm
      obtain ⟨xf, xt, xV, xb, xn⟩ := x
      simp only at hxi hxj hV1 hb1 hb2 hS1 ca0 ca1 ca2 ca3 hbx
      subst hxi
      subst hxj
      subst hV1
      have htk : (rowl D S.now).take (k + 1) = (rowl D S.now).take k ++ [⟨xi, xj, .slice A1 xb.length cap1, xb, xn⟩] := by rw [List.take_add_one, hx]; rfl
      obtain ⟨cb, HC⟩ : ∃ cb, Hid (cb = S.cut (xi * 16 + xj)) := ⟨_, Lib.hid rfl⟩
      have HT : Hid ((S.comeOf (((rowl D S.now).take (k + 1)).map Raw.cp)).map Cp.lt = (S.comeOf (((rowl D S.now).take k).map Raw.cp)).map Cp.lt ++ if cb = true then [] else [⟨xi, xj, xb⟩]) := Lib.hid (by
        rw [htk, List.map_append]
        unfold NS.comeOf
        rw [List.filter_append, List.map_append]
        congr 1
        rw [HC.out]
        simp only [List.map_cons, List.map_nil, Raw.cp]
        have e : ((xi : Int).toNat * 16 + (xj : Int).toNat) = xi * 16 + xj := by simp
        simp only [List.filter_cons, e, List.filter_nil]
        cases S.cut (xi * 16 + xj) <;> simp [Cp.lt])
      have hlc := fun w h => lclone_any (w := w) (f := xi) (t := xj) (V := .slice A1 xb.length cap1) (b := xb) h (by omega)
      have HK := Lib.hid hk
      have hk63 : (k : Int) ≤ 5000 := by have := HL.out; omega
      clear htk hx hxm hsl0 hbx hk
      go_wp2_with fail
      obtain ⟨w5, hw5⟩ : ∃ W, W = wr.alloc (.cells (senc ⟨xi, xj, .slice A1 xb.length cap1, xb, xn⟩) 77) := ⟨_, rfl⟩
      have hk5 : Keep [] wr w5 := by rw [hw5]; exact (Keep.refl _ _).alloc _
      have hSW := hSW.keep0 hk5
      have hCa := hCa.keep0 hk5
      have hS1 := hS1.keep0 hk5
      have B5 : Blk w5 wr.heap.size 77 (senc ⟨xi, xj, .slice A1 xb.length cap1, xb, xn⟩) := by rw [hw5]; exact Blk.new _ _ _
      rw [← hw5]
      clear hw5 ca0 ca1 ca2 ca3
      have F5 := fun W (hk : Keep [] w5 W) => (B5.keep hk (by simp)).cell
      have Fc : ∀ W, Keep [] w5 W → W.cell? ⟨t, 4, none⟩ = some (.map (some mb)) ∧ W.cell? ⟨t, 5 + xi * 16 + xj, none⟩ = some (.bool cb) := fun W hk => by
        have hc := (hSW.net.keep0 hk).cells
        refine ⟨hc.2.2.2.2.1, ?_⟩
        have := hc.2.2.2.2.2 (xi * 16 + xj) (by omega)
        rw [← Nat.add_assoc] at this
        rw [this, HC.out]
      refine wp_region_noPanic ?_
      refine Bz.wp_region_E (S := (fun w' => Keep [] w5 w')) (E := []) (by kernel_rfl) (by exact (Keep.refl _ _).drew) (fun hHeld => ?_)
      refine Bz.wpAnyE_take (i := 0) (oi := { dst := some 22, op := Go.Op.move (Go.Operand.tmp 0), type := 23, pos := "net.go:96", after := #[], guard := none }) (v := ?_) rfl (by kernel_rfl) (by kernel_rfl) (by kernel_rfl) (by kernel_rfl) (fun _ _ _ h => h) (Or.inl ⟨by rfl, ?_⟩) hHeld ?_
      rotate_left 1
      · (intro w hSw; have f5 := F5 _ hSw; have fc := Fc _ hSw; go_simp; first | done | with_reducible rfl)
      try simp only [Act.put, List.setIfInBounds_toArray, List.set_cons_zero, List.set_cons_succ]
      refine Bz.wpAnyE_take (i := 1) (oi := { dst := some 23, op := Go.Op.fieldAddr 77 (Go.Operand.tmp 5) 0, type := 0, pos := "net.go:96", after := #[], guard := none }) (v := ?_) rfl (by kernel_rfl) (by kernel_rfl) (by kernel_rfl) (by kernel_rfl) (fun _ _ _ h => h) (Or.inl ⟨by rfl, ?_⟩) hHeld ?_
      rotate_left 1
      · (intro w hSw; have f5 := F5 _ hSw; have fc := Fc _ hSw; go_simp; first | done | with_reducible rfl)
      try simp only [Act.put, List.setIfInBounds_toArray, List.set_cons_zero, List.set_cons_succ]
      refine Bz.wpAnyE_take (i := 2) (oi := { dst := some 24, op := Go.Op.fieldAddr 35 (Go.Operand.tmp 23) 0, type := 0, pos := "net.go:96", after := #[{ on := 1, ground := Go.Ground.data }], guard := none }) (v := ?_) rfl (by kernel_rfl) (by kernel_rfl) (by kernel_rfl) (by kernel_rfl) (fun _ _ _ h => h) (Or.inl ⟨by rfl, ?_⟩) hHeld ?_
      rotate_left 1
      · (intro w hSw; have f5 := F5 _ hSw; have fc := Fc _ hSw; go_simp; first | done | with_reducible rfl)
      try simp only [Act.put, List.setIfInBounds_toArray, List.set_cons_zero, List.set_cons_succ]
      refine Bz.wpAnyE_take (i := 3) (oi := { dst := some 25, op := Go.Op.load 3 (Go.Operand.tmp 24), type := 3, pos := "net.go:96", after := #[{ on := 2, ground := Go.Ground.data }], guard := none }) (v := ?_) rfl (by kernel_rfl) (by kernel_rfl) (by kernel_rfl) (by kernel_rfl) (fun _ _ _ h => h) (Or.inl ⟨by rfl, ?_⟩) hHeld ?_
      rotate_left 1
      · (intro w hSw; have f5 := F5 _ hSw; have fc := Fc _ hSw; go_simp; first | done | with_reducible rfl)
      try simp only [Act.put, List.setIfInBounds_toArray, List.set_cons_zero, List.set_cons_succ]
      refine Bz.wpAnyE_take (i := 4) (oi := { dst := some 26, op := Go.Op.fieldAddr 77 (Go.Operand.tmp 5) 0, type := 0, pos := "net.go:96", after := #[], guard := none }) (v := ?_) rfl (by kernel_rfl) (by kernel_rfl) (by kernel_rfl) (by kernel_rfl) (fun _ _ _ h => h) (Or.inl ⟨by rfl, ?_⟩) hHeld ?_
      rotate_left 1
      · (intro w hSw; have f5 := F5 _ hSw; have fc := Fc _ hSw; go_simp; first | done | with_reducible rfl)
      try simp only [Act.put, List.setIfInBounds_toArray, List.set_cons_zero, List.set_cons_succ]
      refine Bz.wpAnyE_take (i := 5) (oi := { dst := some 27, op := Go.Op.fieldAddr 35 (Go.Operand.tmp 26) 1, type := 0, pos := "net.go:96", after := #[{ on := 4, ground := Go.Ground.data }], guard := none }) (v := ?_) rfl (by kernel_rfl) (by kernel_rfl) (by kernel_rfl) (by kernel_rfl) (fun _ _ _ h => h) (Or.inl ⟨by rfl, ?_⟩) hHeld ?_
      rotate_left 1
      · (intro w hSw; have f5 := F5 _ hSw; have fc := Fc _ hSw; go_simp; first | done | with_reducible rfl)
      try simp only [Act.put, List.setIfInBounds_toArray, List.set_cons_zero, List.set_cons_succ]
      refine Bz.wpAnyE_take (i := 6) (oi := { dst := some 28, op := Go.Op.load 3 (Go.Operand.tmp 27), type := 3, pos := "net.go:96", after := #[{ on := 5, ground := Go.Ground.data }], guard := none }) (v := ?_) rfl (by kernel_rfl) (by kernel_rfl) (by kernel_rfl) (by kernel_rfl) (fun _ _ _ h => h) (Or.inl ⟨by rfl, ?_⟩) hHeld ?_
      rotate_left 1
      · (intro w hSw; have f5 := F5 _ hSw; have fc := Fc _ hSw; go_simp; first | done | with_reducible rfl)
      try simp only [Act.put, List.setIfInBounds_toArray, List.set_cons_zero, List.set_cons_succ]
      refine Bz.wpAnyE_take (i := 7) (oi := { dst := some 29, op := Go.Op.nilCheck (Go.Operand.tmp 22), type := 0, pos := "net.go:96", after := #[{ on := 0, ground := Go.Ground.data }], guard := none }) (v := ?_) rfl (by kernel_rfl) (by kernel_rfl) (by kernel_rfl) (by kernel_rfl) (fun _ _ _ h => h) (Or.inl ⟨by rfl, ?_⟩) hHeld ?_
      rotate_left 1
      · (intro w hSw; have f5 := F5 _ hSw; have fc := Fc _ hSw; go_simp; first | done | with_reducible rfl)
      try simp only [Act.put, List.setIfInBounds_toArray, List.set_cons_zero, List.set_cons_succ]
      refine Bz.wpAnyE_take (i := 8) (oi := { dst := some 30, op := Go.Op.fieldAddr 72 (Go.Operand.tmp 29) 5, type := 0, pos := "net.go:96", after := #[{ on := 7, ground := Go.Ground.data }], guard := none }) (v := ?_) rfl (by kernel_rfl) (by kernel_rfl) (by kernel_rfl) (by kernel_rfl) (fun _ _ _ h => h) (Or.inl ⟨by rfl, ?_⟩) hHeld ?_
      rotate_left 1
      · (intro w hSw; have f5 := F5 _ hSw; have fc := Fc _ hSw; go_simp; first | done | with_reducible rfl)
      try simp only [Act.put, List.setIfInBounds_toArray, List.set_cons_zero, List.set_cons_succ]
      refine Bz.wpAnyE_take (i := 9) (oi := { dst := some 31, op := Go.Op.indexAddr 70 (Go.Operand.tmp 30) (Go.Operand.tmp 25), type := 0, pos := "net.go:96", after := #[{ on := 8, ground := Go.Ground.data }, { on := 3, ground := Go.Ground.data }], guard := none }) (v := ?_) rfl (by kernel_rfl) (by kernel_rfl) (by kernel_rfl) (by kernel_rfl) (fun _ _ _ h => h) (Or.inl ⟨by rfl, ?_⟩) hHeld ?_
      rotate_left 1
      · (intro w hSw; have f5 := F5 _ hSw; have fc := Fc _ hSw; go_simp; first | done | with_reducible rfl)
      try simp only [Act.put, List.setIfInBounds_toArray, List.set_cons_zero, List.set_cons_succ]
      refine Bz.wpAnyE_take (i := 10) (oi := { dst := some 32, op := Go.Op.indexAddr 69 (Go.Operand.tmp 31) (Go.Operand.tmp 28), type := 0, pos := "net.go:96", after := #[{ on := 9, ground := Go.Ground.data }, { on := 6, ground := Go.Ground.data }], guard := none }) (v := ?_) rfl (by kernel_rfl) (by kernel_rfl) (by kernel_rfl) (by kernel_rfl) (fun _ _ _ h => h) (Or.inl ⟨by rfl, ?_⟩) hHeld ?_
      rotate_left 1
      · (intro w hSw; have f5 := F5 _ hSw; have fc := Fc _ hSw; go_simp; first | done | with_reducible rfl)
      try simp only [Act.put, List.setIfInBounds_toArray, List.set_cons_zero, List.set_cons_succ]
      refine Bz.wpAnyE_take (i := 11) (oi := { dst := some 33, op := Go.Op.load 4 (Go.Operand.tmp 32), type := 4, pos := "net.go:96", after := #[{ on := 10, ground := Go.Ground.data }], guard := none }) (v := ?_) rfl (by kernel_rfl) (by kernel_rfl) (by kernel_rfl) (by kernel_rfl) (fun _ _ _ h => h) (Or.inl ⟨by rfl, ?_⟩) hHeld ?_
      rotate_left 1
      · (intro w hSw; have f5 := F5 _ hSw; have fc := Fc _ hSw; go_simp; first | done | with_reducible rfl)
      try simp only [Act.put, List.setIfInBounds_toArray, List.set_cons_zero, List.set_cons_succ]
      refine Bz.wpAnyE_done (by kernel_rfl) ?_ _
      refine NoPanic.normal ?_
      
      obtain ⟨w6, hw6⟩ : ∃ W, W = w5.drew := ⟨_, rfl⟩
      have hSW : StepW w w6 t mb S R B D (some ⟨g0, o0, none⟩) cap := by rw [hw6]; exact hSW.keep0 (Keep.refl _ _).drew
      have hCa : Came w6 w.heap.size u3 outs := by rw [hw6]; exact hCa.keep0 (Keep.refl _ _).drew
      have hS1 : Sl w6 5 1 benc (.slice A1 xb.length cap1) xb := by rw [hw6]; exact hS1
      have B5 : Blk w6 wr.heap.size 77 (senc ⟨xi, xj, .slice A1 xb.length cap1, xb, xn⟩) := by rw [hw6]; exact B5
      rw [← hw6]
      clear hw6 F5 Fc hHeld
      have c5 := B5.cell
      cases cb with
      | true =>
        rw [if_pos rfl, List.append_nil] at HT
        go_wp2_with fail
        have hk := HK.out
        go_roundg ((rowl D S.now).length - (k + 1))
        case measure => omega
        case rel => exact ⟨k + 1, outs, by go_num, by omega, hSW, hCa, by omega, Lib.hid (by rw [HT.out, HO.out])⟩
      | false =>
        rw [if_neg (by simp)] at HT
        go_wp2_with (first
          | (go_at_call 27; refine (hlc _ hS1.rd).mono ?_; rintro e w7 ⟨⟨V7, rfl, hO7⟩, hk7⟩; have hO7 := hO7.mono hSW.k.size; have hSW := hSW.keep0 hk7; have hCa := hCa.keep0 hk7; obtain ⟨A7, cap7, rfl, _⟩ := hO7.sl benc_sz)
          | (at_builtin; refine wpList_append1 (y := (⟨xi, xj, .slice A7 xb.length cap7, xb⟩ : LRaw)) rfl _ _ 36 rfl app36 rfl (hCa.own.alloc _) rfl (Blk.new_ rfl) rfl (lenc_one _ rfl _ _ _) ?q1 ?q2 ?q3 ?q4))
        case q1 => have := HK.out; omega
        case q2 => have := HK.out; unfold maxLen at *; omega
        case q3 => have := hSW.k.size; simp; omega
        case q4 =>
          intro v8 w8 hO8 hk8
          have hSW8 := (hSW.keep0 ((Keep.refl _ w7).alloc (.cells (lenc ⟨xi, xj, .slice A7 xb.length cap7, xb⟩) 35))).keepO hk8 (fun g hg => (hCa.own.lt g hg).1)
          have hCb := hCa.keep0 ((Keep.refl _ w7).alloc (.cells (lenc ⟨xi, xj, .slice A7 xb.length cap7, xb⟩) 35))
          have hO7b := hO7.alloc (.cells (lenc ⟨xi, xj, .slice A7 xb.length cap7, xb⟩) 35)
          have nob : ∀ {V : Value} {b : List Int}, Own (w7.alloc (.cells (lenc ⟨xi, xj, .slice A7 xb.length cap7, xb⟩) 35)) w.heap.size 5 1 benc V b → ∀ g ∈ ownB V, g ∉ ownB u3 := by
            intro V b hV g hg hm
            obtain ⟨cs, h1⟩ := hV.blk g hg
            obtain ⟨cs', h2⟩ := hCb.own.blk g hm
            exact h1.ne_ h2 (by decide) rfl
          have hCa8 : Came w8 w.heap.size v8 (outs ++ [⟨xi, xj, .slice A7 xb.length cap7, xb⟩]) := by
            refine ⟨hO8, fun y hy => ?_⟩
            simp only [List.mem_append, List.mem_singleton] at hy
            rcases hy with hy | rfl
            · exact (hCb.bytes y hy).keep hk8 (nob (hCb.bytes y hy))
            · exact hO7b.keep hk8 (nob hO7b)
          clear hk8 hCb hO7b nob
          go_wp2_with fail
          have hk := HK.out
          go_roundg ((rowl D S.now).length - (k + 1))
          case measure => omega
          case rel => exact ⟨k + 1, _, by go_num, by omega, hSW8, hCa8, by simp; omega, Lib.hid (by rw [HT.out, List.map_append, HO.out]; rfl)⟩
    · have hka : k = (rowl D S.now).length := by omega
      subst hka
      have HO : Hid (outs.map LRaw.lt = S.come.map Cp.lt) := Lib.hid (by have := HO.out; rw [List.take_length, HD.out.2] at this; exact this)
      obtain ⟨A1, cap1, FL⟩ := hSW.net.look S.now
      have F0 := fun W (hk : Keep [] wr W) => (hSW.net.keep0 hk).cells
      have Ff := fun W (hk : Keep [] wr W) => (hSW.net.keep0 hk).frozen
      have hway := hWF.at_way S.now
      have q1 : IntKind.i64.wrap (S.way - ((S.at_ S.now).length : Int)) = S.way - (S.at_ S.now).length := IntWalk.i64_in _ (by omega)
      obtain ⟨n, HN⟩ : ∃ n, Hid (n = (S.at_ S.now).length) := ⟨_, Lib.hid rfl⟩
      rw [← HN.out] at FL q1 hway
      go_upto_region 10 with fail
      refine wp_region_noPanic ?_
      refine Bz.wp_region_E (S := (fun w' => Keep [] wr w')) (E := [17]) (by kernel_rfl) (by exact (Keep.refl _ _).drew) (fun hHeld => ?_)
      refine Bz.wpAnyE_take (i := 0) (oi := { dst := some 41, op := Go.Op.move (Go.Operand.tmp 0), type := 23, pos := "net.go:101", after := #[], guard := none }) (v := ?_) rfl (by kernel_rfl) (by kernel_rfl) (by kernel_rfl) (by kernel_rfl) (fun _ _ _ h => h) (Or.inl ⟨by rfl, ?_⟩) hHeld ?_
      rotate_left 1
      · (intro w hSw; have f0 := F0 w hSw; have fl := FL w hSw; go_simp; first | done | with_reducible rfl)
      try simp only [Act.put, List.setIfInBounds_toArray, List.set_cons_zero, List.set_cons_succ]
      refine Bz.wpAnyE_take (i := 1) (oi := { dst := some 42, op := Go.Op.nilCheck (Go.Operand.tmp 41), type := 0, pos := "net.go:101", after := #[{ on := 0, ground := Go.Ground.data }], guard := none }) (v := ?_) rfl (by kernel_rfl) (by kernel_rfl) (by kernel_rfl) (by kernel_rfl) (fun _ _ _ h => h) (Or.inl ⟨by rfl, ?_⟩) hHeld ?_
      rotate_left 1
      · (intro w hSw; have f0 := F0 w hSw; have fl := FL w hSw; go_simp; first | done | with_reducible rfl)
      try simp only [Act.put, List.setIfInBounds_toArray, List.set_cons_zero, List.set_cons_succ]
      refine Bz.wpAnyE_take (i := 2) (oi := { dst := some 43, op := Go.Op.fieldAddr 72 (Go.Operand.tmp 42) 2, type := 0, pos := "net.go:101", after := #[{ on := 1, ground := Go.Ground.data }], guard := none }) (v := ?_) rfl (by kernel_rfl) (by kernel_rfl) (by kernel_rfl) (by kernel_rfl) (fun _ _ _ h => h) (Or.inl ⟨by rfl, ?_⟩) hHeld ?_
      rotate_left 1
      · (intro w hSw; have f0 := F0 w hSw; have fl := FL w hSw; go_simp; first | done | with_reducible rfl)
      try simp only [Act.put, List.setIfInBounds_toArray, List.set_cons_zero, List.set_cons_succ]
      refine Bz.wpAnyE_take (i := 3) (oi := { dst := some 44, op := Go.Op.load 3 (Go.Operand.tmp 43), type := 3, pos := "net.go:101", after := #[{ on := 2, ground := Go.Ground.data }], guard := none }) (v := ?_) rfl (by kernel_rfl) (by kernel_rfl) (by kernel_rfl) (by kernel_rfl) (fun _ _ _ h => h) (Or.inl ⟨by rfl, ?_⟩) hHeld ?_
      rotate_left 1
      · (intro w hSw; have f0 := F0 w hSw; have fl := FL w hSw; go_simp; first | done | with_reducible rfl)
      try simp only [Act.put, List.setIfInBounds_toArray, List.set_cons_zero, List.set_cons_succ]
      refine Bz.wpAnyE_take (i := 4) (oi := { dst := some 45, op := Go.Op.move (Go.Operand.tmp 0), type := 23, pos := "net.go:101", after := #[], guard := none }) (v := ?_) rfl (by kernel_rfl) (by kernel_rfl) (by kernel_rfl) (by kernel_rfl) (fun _ _ _ h => h) (Or.inl ⟨by rfl, ?_⟩) hHeld ?_
      rotate_left 1
      · (intro w hSw; have f0 := F0 w hSw; have fl := FL w hSw; go_simp; first | done | with_reducible rfl)
      try simp only [Act.put, List.setIfInBounds_toArray, List.set_cons_zero, List.set_cons_succ]
      refine Bz.wpAnyE_take (i := 5) (oi := { dst := some 46, op := Go.Op.nilCheck (Go.Operand.tmp 45), type := 0, pos := "net.go:101", after := #[{ on := 4, ground := Go.Ground.data }], guard := none }) (v := ?_) rfl (by kernel_rfl) (by kernel_rfl) (by kernel_rfl) (by kernel_rfl) (fun _ _ _ h => h) (Or.inl ⟨by rfl, ?_⟩) hHeld ?_
      rotate_left 1
      · (intro w hSw; have f0 := F0 w hSw; have fl := FL w hSw; go_simp; first | done | with_reducible rfl)
      try simp only [Act.put, List.setIfInBounds_toArray, List.set_cons_zero, List.set_cons_succ]
      refine Bz.wpAnyE_take (i := 6) (oi := { dst := some 47, op := Go.Op.fieldAddr 72 (Go.Operand.tmp 46) 4, type := 0, pos := "net.go:101", after := #[{ on := 5, ground := Go.Ground.data }], guard := none }) (v := ?_) rfl (by kernel_rfl) (by kernel_rfl) (by kernel_rfl) (by kernel_rfl) (fun _ _ _ h => h) (Or.inl ⟨by rfl, ?_⟩) hHeld ?_
      rotate_left 1
      · (intro w hSw; have f0 := F0 w hSw; have fl := FL w hSw; go_simp; first | done | with_reducible rfl)
      try simp only [Act.put, List.setIfInBounds_toArray, List.set_cons_zero, List.set_cons_succ]
      refine Bz.wpAnyE_take (i := 7) (oi := { dst := some 48, op := Go.Op.load 68 (Go.Operand.tmp 47), type := 68, pos := "net.go:101", after := #[{ on := 6, ground := Go.Ground.data }], guard := none }) (v := ?_) rfl (by kernel_rfl) (by kernel_rfl) (by kernel_rfl) (by kernel_rfl) (fun _ _ _ h => h) (Or.inl ⟨by rfl, ?_⟩) hHeld ?_
      rotate_left 1
      · (intro w hSw; have f0 := F0 w hSw; have fl := FL w hSw; go_simp; first | done | with_reducible rfl)
      try simp only [Act.put, List.setIfInBounds_toArray, List.set_cons_zero, List.set_cons_succ]
      refine Bz.wpAnyE_take (i := 8) (oi := { dst := some 49, op := Go.Op.move (Go.Operand.tmp 0), type := 23, pos := "net.go:101", after := #[], guard := none }) (v := ?_) rfl (by kernel_rfl) (by kernel_rfl) (by kernel_rfl) (by kernel_rfl) (fun _ _ _ h => h) (Or.inl ⟨by rfl, ?_⟩) hHeld ?_
      rotate_left 1
      · (intro w hSw; have f0 := F0 w hSw; have fl := FL w hSw; go_simp; first | done | with_reducible rfl)
      try simp only [Act.put, List.setIfInBounds_toArray, List.set_cons_zero, List.set_cons_succ]
      refine Bz.wpAnyE_take (i := 9) (oi := { dst := some 50, op := Go.Op.nilCheck (Go.Operand.tmp 49), type := 0, pos := "net.go:101", after := #[{ on := 8, ground := Go.Ground.data }], guard := none }) (v := ?_) rfl (by kernel_rfl) (by kernel_rfl) (by kernel_rfl) (by kernel_rfl) (fun _ _ _ h => h) (Or.inl ⟨by rfl, ?_⟩) hHeld ?_
      rotate_left 1
      · (intro w hSw; have f0 := F0 w hSw; have fl := FL w hSw; go_simp; first | done | with_reducible rfl)
      try simp only [Act.put, List.setIfInBounds_toArray, List.set_cons_zero, List.set_cons_succ]
      refine Bz.wpAnyE_take (i := 10) (oi := { dst := some 51, op := Go.Op.fieldAddr 72 (Go.Operand.tmp 50) 1, type := 0, pos := "net.go:101", after := #[{ on := 9, ground := Go.Ground.data }], guard := none }) (v := ?_) rfl (by kernel_rfl) (by kernel_rfl) (by kernel_rfl) (by kernel_rfl) (fun _ _ _ h => h) (Or.inl ⟨by rfl, ?_⟩) hHeld ?_
      rotate_left 1
      · (intro w hSw; have f0 := F0 w hSw; have fl := FL w hSw; go_simp; first | done | with_reducible rfl)
      try simp only [Act.put, List.setIfInBounds_toArray, List.set_cons_zero, List.set_cons_succ]
      refine Bz.wpAnyE_take (i := 11) (oi := { dst := some 52, op := Go.Op.load 3 (Go.Operand.tmp 51), type := 3, pos := "net.go:101", after := #[{ on := 10, ground := Go.Ground.data }], guard := none }) (v := ?_) rfl (by kernel_rfl) (by kernel_rfl) (by kernel_rfl) (by kernel_rfl) (fun _ _ _ h => h) (Or.inl ⟨by rfl, ?_⟩) hHeld ?_
      rotate_left 1
      · (intro w hSw; have f0 := F0 w hSw; have fl := FL w hSw; go_simp; first | done | with_reducible rfl)
      try simp only [Act.put, List.setIfInBounds_toArray, List.set_cons_zero, List.set_cons_succ]
      refine Bz.wpAnyE_take (i := 12) (oi := { dst := some 53, op := Go.Op.lookup 68 (Go.Operand.tmp 48) (Go.Operand.tmp 52) false, type := 74, pos := "net.go:101", after := #[{ on := 7, ground := Go.Ground.data }, { on := 11, ground := Go.Ground.data }], guard := none }) (v := ?_) rfl (by kernel_rfl) (by kernel_rfl) (by kernel_rfl) (by kernel_rfl) (fun _ _ _ h => h) (Or.inl ⟨by rfl, ?_⟩) hHeld ?_
      rotate_left 1
      · (intro w hSw; have f0 := F0 w hSw; have fl := FL w hSw; go_simp; first | done | with_reducible rfl)
      try simp only [Act.put, List.setIfInBounds_toArray, List.set_cons_zero, List.set_cons_succ]
      refine Bz.wpAnyE_take (i := 13) (oi := { dst := some 54, op := Go.Op.call { callee := Go.Callee.builtin Go.Builtin.len, args := #[Go.Operand.tmp 53], argTypes := #[74] }, type := 3, pos := "net.go:101", after := #[{ on := 12, ground := Go.Ground.data }], guard := none }) (v := ?_) rfl (by kernel_rfl) (by kernel_rfl) (by kernel_rfl) (by kernel_rfl) (fun _ _ _ h => h) (Or.inl ⟨by rfl, ?_⟩) hHeld ?_
      rotate_left 1
      · (intro w hSw; have f0 := F0 w hSw; have fl := FL w hSw; go_simp; first | done | with_reducible rfl)
      try simp only [Act.put, List.setIfInBounds_toArray, List.set_cons_zero, List.set_cons_succ]
      refine Bz.wpAnyE_take (i := 14) (oi := { dst := some 55, op := Go.Op.binOp Go.BinOp.sub 3 (Go.Operand.tmp 44) (Go.Operand.tmp 54) 3, type := 3, pos := "net.go:101", after := #[{ on := 3, ground := Go.Ground.data }, { on := 13, ground := Go.Ground.data }], guard := none }) (v := ?_) rfl (by kernel_rfl) (by kernel_rfl) (by kernel_rfl) (by kernel_rfl) (fun _ _ _ h => h) (Or.inl ⟨by rfl, ?_⟩) hHeld ?_
      rotate_left 1
      · (intro w hSw; have f0 := F0 w hSw; have fl := FL w hSw; go_simp; first | done | with_reducible rfl)
      try simp only [Act.put, List.setIfInBounds_toArray, List.set_cons_zero, List.set_cons_succ]
      refine Bz.wpAnyE_takeT (i := 15) (oi := { dst := some 56, op := Go.Op.nilCheck (Go.Operand.tmp 41), type := 0, pos := "net.go:101", after := #[{ on := 0, ground := Go.Ground.data }, { on := 0, ground := Go.Ground.phase }, { on := 1, ground := Go.Ground.phase }, { on := 2, ground := Go.Ground.phase }, { on := 3, ground := Go.Ground.phase }, { on := 4, ground := Go.Ground.phase }, { on := 5, ground := Go.Ground.phase }, { on := 6, ground := Go.Ground.phase }, { on := 7, ground := Go.Ground.phase }, { on := 8, ground := Go.Ground.phase }, { on := 9, ground := Go.Ground.phase }, { on := 10, ground := Go.Ground.phase }, { on := 11, ground := Go.Ground.phase }, { on := 12, ground := Go.Ground.phase }, { on := 13, ground := Go.Ground.phase }, { on := 14, ground := Go.Ground.phase }], guard := none }) (v := ?_) rfl (by kernel_rfl) (by kernel_rfl) (by kernel_rfl) (fun _ _ _ h => h) (Or.inl ⟨by rfl, ?_⟩) ?_
      rotate_left 1
      · (intro w _; go_simp; first | done | with_reducible rfl)
      try simp only [Act.put, List.setIfInBounds_toArray, List.set_cons_zero, List.set_cons_succ]
      refine Bz.wpAnyE_take (i := 16) (oi := { dst := some 57, op := Go.Op.fieldAddr 72 (Go.Operand.tmp 56) 2, type := 0, pos := "net.go:101", after := #[{ on := 15, ground := Go.Ground.data }, { on := 0, ground := Go.Ground.phase }, { on := 1, ground := Go.Ground.phase }, { on := 2, ground := Go.Ground.phase }, { on := 3, ground := Go.Ground.phase }, { on := 4, ground := Go.Ground.phase }, { on := 5, ground := Go.Ground.phase }, { on := 6, ground := Go.Ground.phase }, { on := 7, ground := Go.Ground.phase }, { on := 8, ground := Go.Ground.phase }, { on := 9, ground := Go.Ground.phase }, { on := 10, ground := Go.Ground.phase }, { on := 11, ground := Go.Ground.phase }, { on := 12, ground := Go.Ground.phase }, { on := 13, ground := Go.Ground.phase }, { on := 14, ground := Go.Ground.phase }], guard := none }) (v := ?_) rfl (by kernel_rfl) (by kernel_rfl) (by kernel_rfl) (by kernel_rfl) (fun _ _ _ h => h) (Or.inl ⟨by rfl, ?_⟩) hHeld ?_
      rotate_left 1
      · (intro w hSw; have f0 := F0 w hSw; have fl := FL w hSw; go_simp; first | done | with_reducible rfl)
      try simp only [Act.put, List.setIfInBounds_toArray, List.set_cons_zero, List.set_cons_succ]
      refine Bz.wpAnyE_ready (rs := [17]) (by kernel_rfl) (by simp) ?_
      refine Bz.AllReadyE.last (o := { dst := none, op := Go.Op.store 3 (Go.Operand.tmp 57) (Go.Operand.tmp 55), type := 0, pos := "net.go:101", after := #[{ on := 16, ground := Go.Ground.data }, { on := 14, ground := Go.Ground.data }, { on := 0, ground := Go.Ground.phase }, { on := 1, ground := Go.Ground.phase }, { on := 2, ground := Go.Ground.phase }, { on := 3, ground := Go.Ground.phase }, { on := 4, ground := Go.Ground.phase }, { on := 5, ground := Go.Ground.phase }, { on := 6, ground := Go.Ground.phase }, { on := 7, ground := Go.Ground.phase }, { on := 8, ground := Go.Ground.phase }, { on := 9, ground := Go.Ground.phase }, { on := 10, ground := Go.Ground.phase }, { on := 11, ground := Go.Ground.phase }, { on := 12, ground := Go.Ground.phase }, { on := 13, ground := Go.Ground.phase }, { on := 14, ground := Go.Ground.phase }], guard := none }) rfl (by rfl) (fun K hK => ?_) Bz.AllReadyE.nil
      
      have f0 := F0 _ hHeld
      have ff := Ff _ hHeld
      go_simp
      refine hK.out _ _ ?_
      clear hK K
      try simp only [Act.put, List.setIfInBounds_toArray, List.set_cons_zero, List.set_cons_succ]
      refine Bz.wpAnyE_done (by kernel_rfl) ?_ _
      refine NoPanic.normal ?_
      
      obtain ⟨hn2, hk2⟩ := hSW.net.set_ (S' := { S with way := S.way - n }) 2 (.int .i64 (S.way - n)) rfl (fun cs hc => hc.way _)
      have hC2 := hCa.keepTy hk2 hSW.net.noT.1
      have hKw2 : Keep [t, mb] w (wr.setCell ⟨t, 2, none⟩ (.int .i64 (S.way - n))) := hSW.k.sub.andThen hk2 (fun k hk => .inl (by simp at hk; simp [hk]))
      obtain ⟨w2, hw2⟩ : ∃ W, W = (wr.setCell ⟨t, 2, none⟩ (.int .i64 (S.way - n))).drew := ⟨_, rfl⟩
      have hn2 : NetAt w2 t mb { S with way := S.way - n } R B := by rw [hw2]; exact hn2.keep0 (Keep.refl _ _).drew
      have hC2 : Came w2 w.heap.size u3 outs := by rw [hw2]; exact hC2.keep0 (Keep.refl _ _).drew
      have hKw2 : Keep [t, mb] w w2 := by rw [hw2]; exact hKw2.drew
      have hstep : Hid (S.step = { S with way := S.way - n, due := mdel S.now S.due, now := S.now + 1 }) := Lib.hid (by unfold NS.step; rw [HN.out])
      have hnow0 := hWF.now
      clear F0 Ff FL q1 hway hk2 hHeld hSW hCa
      go_upto_region 11 with fail
      rw [← hw2]
      clear hw2
      have F0 := fun W (hk : Keep [] w2 W) => (hn2.keep0 hk).cells
      refine wp_region_noPanic ?_
      refine Bz.wp_region_E (S := (fun w' => Keep [] w2 w')) (E := [8]) (by kernel_rfl) (by exact (Keep.refl _ _).drew) (fun hHeld => ?_)
      refine Bz.wpAnyE_takeT (i := 0) (oi := { dst := some 58, op := Go.Op.move (Go.Operand.tmp 0), type := 23, pos := "net.go:102", after := #[], guard := none }) (v := ?_) rfl (by kernel_rfl) (by kernel_rfl) (by kernel_rfl) (fun _ _ _ h => h) (Or.inl ⟨by rfl, ?_⟩) ?_
      rotate_left 1
      · (intro w _; go_simp; first | done | with_reducible rfl)
      try simp only [Act.put, List.setIfInBounds_toArray, List.set_cons_zero, List.set_cons_succ]
      refine Bz.wpAnyE_takeT (i := 1) (oi := { dst := some 59, op := Go.Op.nilCheck (Go.Operand.tmp 58), type := 0, pos := "net.go:102", after := #[{ on := 0, ground := Go.Ground.data }], guard := none }) (v := ?_) rfl (by kernel_rfl) (by kernel_rfl) (by kernel_rfl) (fun _ _ _ h => h) (Or.inl ⟨by rfl, ?_⟩) ?_
      rotate_left 1
      · (intro w _; go_simp; first | done | with_reducible rfl)
      try simp only [Act.put, List.setIfInBounds_toArray, List.set_cons_zero, List.set_cons_succ]
      refine Bz.wpAnyE_takeT (i := 2) (oi := { dst := some 60, op := Go.Op.fieldAddr 72 (Go.Operand.tmp 59) 4, type := 0, pos := "net.go:102", after := #[{ on := 1, ground := Go.Ground.data }], guard := none }) (v := ?_) rfl (by kernel_rfl) (by kernel_rfl) (by kernel_rfl) (fun _ _ _ h => h) (Or.inl ⟨by rfl, ?_⟩) ?_
      rotate_left 1
      · (intro w _; go_simp; first | done | with_reducible rfl)
      try simp only [Act.put, List.setIfInBounds_toArray, List.set_cons_zero, List.set_cons_succ]
      refine Bz.wpAnyE_take (i := 3) (oi := { dst := some 61, op := Go.Op.load 68 (Go.Operand.tmp 60), type := 68, pos := "net.go:102", after := #[{ on := 2, ground := Go.Ground.data }], guard := none }) (v := ?_) rfl (by kernel_rfl) (by kernel_rfl) (by kernel_rfl) (by kernel_rfl) (fun _ _ _ h => h) (Or.inl ⟨by rfl, ?_⟩) hHeld ?_
      rotate_left 1
      · (intro w hSw; have f0 := F0 w hSw; go_simp; first | done | with_reducible rfl)
      try simp only [Act.put, List.setIfInBounds_toArray, List.set_cons_zero, List.set_cons_succ]
      refine Bz.wpAnyE_takeT (i := 4) (oi := { dst := some 62, op := Go.Op.move (Go.Operand.tmp 0), type := 23, pos := "net.go:102", after := #[], guard := none }) (v := ?_) rfl (by kernel_rfl) (by kernel_rfl) (by kernel_rfl) (fun _ _ _ h => h) (Or.inl ⟨by rfl, ?_⟩) ?_
      rotate_left 1
      · (intro w _; go_simp; first | done | with_reducible rfl)
      try simp only [Act.put, List.setIfInBounds_toArray, List.set_cons_zero, List.set_cons_succ]
      refine Bz.wpAnyE_takeT (i := 5) (oi := { dst := some 63, op := Go.Op.nilCheck (Go.Operand.tmp 62), type := 0, pos := "net.go:102", after := #[{ on := 4, ground := Go.Ground.data }], guard := none }) (v := ?_) rfl (by kernel_rfl) (by kernel_rfl) (by kernel_rfl) (fun _ _ _ h => h) (Or.inl ⟨by rfl, ?_⟩) ?_
      rotate_left 1
      · (intro w _; go_simp; first | done | with_reducible rfl)
      try simp only [Act.put, List.setIfInBounds_toArray, List.set_cons_zero, List.set_cons_succ]
      refine Bz.wpAnyE_takeT (i := 6) (oi := { dst := some 64, op := Go.Op.fieldAddr 72 (Go.Operand.tmp 63) 1, type := 0, pos := "net.go:102", after := #[{ on := 5, ground := Go.Ground.data }], guard := none }) (v := ?_) rfl (by kernel_rfl) (by kernel_rfl) (by kernel_rfl) (fun _ _ _ h => h) (Or.inl ⟨by rfl, ?_⟩) ?_
      rotate_left 1
      · (intro w _; go_simp; first | done | with_reducible rfl)
      try simp only [Act.put, List.setIfInBounds_toArray, List.set_cons_zero, List.set_cons_succ]
      refine Bz.wpAnyE_take (i := 7) (oi := { dst := some 65, op := Go.Op.load 3 (Go.Operand.tmp 64), type := 3, pos := "net.go:102", after := #[{ on := 6, ground := Go.Ground.data }], guard := none }) (v := ?_) rfl (by kernel_rfl) (by kernel_rfl) (by kernel_rfl) (by kernel_rfl) (fun _ _ _ h => h) (Or.inl ⟨by rfl, ?_⟩) hHeld ?_
      rotate_left 1
      · (intro w hSw; have f0 := F0 w hSw; go_simp; first | done | with_reducible rfl)
      try simp only [Act.put, List.setIfInBounds_toArray, List.set_cons_zero, List.set_cons_succ]
      refine Bz.wpAnyE_ready (rs := [8]) (by kernel_rfl) (by simp) ?_
      refine Bz.AllReadyE.last (o := { dst := none, op := Go.Op.call { callee := Go.Callee.builtin Go.Builtin.delete, args := #[Go.Operand.tmp 61, Go.Operand.tmp 65], argTypes := #[68, 3] }, type := 0, pos := "net.go:102", after := #[{ on := 3, ground := Go.Ground.data }, { on := 7, ground := Go.Ground.data }], guard := none }) rfl (by rfl) (fun K hK => ?_) Bz.AllReadyE.nil
      
      obtain ⟨w3, hrun, hn3, hk3⟩ := (hn2.keep0 hHeld).del S.now 0
      go_simp
      refine hK.out _ _ ?_
      clear hK K
      try simp only [Act.put, List.setIfInBounds_toArray, List.set_cons_zero, List.set_cons_succ]
      refine Bz.wpAnyE_done (by kernel_rfl) ?_ _
      refine NoPanic.normal ?_
      
      have hC3 := (hC2.keep0 hHeld).keepTy hk3 (hn2.keep0 hHeld).noT.2
      have hKw3 : Keep [t, mb] w w3 := (hKw2.trans hHeld.sub).andThen hk3 (fun k hk => .inl (by simp at hk; simp [hk]))
      have c3 := hn3.cells
      have f3 := hn3.frozen
      clear F0 hHeld hk3 hrun hn2 hC2 hKw2
      go_wp2_with fail
      obtain ⟨hn4, hk4⟩ := hn3.set_ (S' := { S with way := S.way - n, due := mdel S.now S.due, now := S.now + 1 }) 1 (.int .i64 (S.now + 1)) rfl (fun cs hc => hc.now _)
      have hC4 := hC3.keepTy hk4 hn3.noT.1
      go_ret
      exact ⟨_, outs, rfl, hC4, HO.out, by rw [hstep.out]; exact hn4, hKw3.andThen hk4 (fun k hk => .inl (by simp at hk; simp [hk]))⟩
end Go.Proofs.Ytcjbmbljmmakfaa
