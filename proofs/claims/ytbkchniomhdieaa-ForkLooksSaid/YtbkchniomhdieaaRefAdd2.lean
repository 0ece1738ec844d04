/- The document's Add walked, where a block comes. -/
import Derived.Test.YtbkchniomhdieaaRefAdd
import Derived.Deep.DeepCutAuto
namespace Go.Proofs.Ytbkchniomhdieaa
open Go.RowKit Go.Bz

theorem rsz : ∀ q, (renc q).size = 16 := fun _ => rfl
theorem renc_one : ∀ (q : D8 × D8), ∀ u ∈ (renc q).toList, u.oneCell' = true := by
  intro q u hu
  simp [renc] at hu
  rcases hu with rfl | rfl | rfl | rfl | rfl | rfl | rfl | rfl | rfl | rfl | rfl | rfl | rfl | rfl | rfl | rfl <;> rfl
theorem RAdd.put {w w' : World} {V : Value} {R : RT} {x p : D8} (h : RAdd w w' V R x p) (V' : Value) (l' : List (D8 × D8)) : RAdd w (w'.setCell ⟨w.heap.size, 1, none⟩ V') V' ⟨R.depth, l', R.tip⟩ x p := by
  have hk : Keep [w.heap.size] w' (w'.setCell ⟨w.heap.size, 1, none⟩ V') := (Keep.refl _ _).setCell (.inl (by simp)) _
  refine ⟨?_, h.b1.keep hk (by simp), h.b2.keep hk (by simp; omega), h.b3.keep hk (by simp; omega), h.k.own hk (by simp)⟩
  have := h.b0.set_ 1 V'
  simpa only [rcells, List.setIfInBounds_toArray, List.set_cons_zero, List.set_cons_succ] using this
@[reducible] def tipStore (w : World) (b : Nat) (x : D8) : World :=
  (((((((w.setCell ⟨b, 2, none⟩ (.int .u8 x.a)).setCell ⟨b, 3, none⟩ (.int .u8 x.b)).setCell ⟨b, 4, none⟩ (.int .u8 x.c)).setCell ⟨b, 5, none⟩ (.int .u8 x.d)).setCell ⟨b, 6, none⟩ (.int .u8 x.e)).setCell ⟨b, 7, none⟩ (.int .u8 x.f)).setCell ⟨b, 8, none⟩ (.int .u8 x.g)).setCell ⟨b, 9, none⟩ (.int .u8 x.h)
theorem tipStore_keep (w : World) (b : Nat) (x : D8) : Keep [b] w (tipStore w b x) :=
  ((((((((Keep.refl [b] w).setCell (p := ⟨b, 2, none⟩) (.inl (by simp)) _).setCell (p := ⟨b, 3, none⟩) (.inl (by simp)) _).setCell (p := ⟨b, 4, none⟩) (.inl (by simp)) _).setCell (p := ⟨b, 5, none⟩) (.inl (by simp)) _).setCell (p := ⟨b, 6, none⟩) (.inl (by simp)) _).setCell (p := ⟨b, 7, none⟩) (.inl (by simp)) _).setCell (p := ⟨b, 8, none⟩) (.inl (by simp)) _).setCell (p := ⟨b, 9, none⟩) (.inl (by simp)) _
theorem RAdd.tip_ {w w' : World} {V : Value} {R : RT} {x p : D8} (h : RAdd w w' V R x p) : RAdd w (tipStore w' w.heap.size x) V ⟨R.depth, R.l, x⟩ x p := by
  have hk := tipStore_keep w' w.heap.size x
  refine ⟨?_, h.b1.keep hk (by simp), h.b2.keep hk (by simp; omega), h.b3.keep hk (by simp; omega), h.k.own hk (by simp)⟩
  have h9 := ((((((((h.b0).set_ 2 (.int .u8 x.a)).set_ 3 (.int .u8 x.b)).set_ 4 (.int .u8 x.c)).set_ 5 (.int .u8 x.d)).set_ 6 (.int .u8 x.e)).set_ 7 (.int .u8 x.f)).set_ 8 (.int .u8 x.g)).set_ 9 (.int .u8 x.h)
  simpa only [rcells, List.setIfInBounds_toArray, List.set_cons_zero, List.set_cons_succ] using h9
set_option maxHeartbeats 8000000 in
theorem radd_in {T : FT} (h : T.WF) (hh : T.Hd) (x p : D8) {w : World} {V : Value} (hs : Sl w 57 16 renc V T.ref) (hx : T.is x = false) (hp : T.is p = true) (hb : T.bl.length < 4096) :
    Calls Try.prog 22 #[rtv V T.rt, dv x, dv p] w (fun e w' => ∃ V', e = .returned (.tuple #[rtv V' (T.add x p).rt, .int .i64 (T.err x p)]) ∧ Sl w' 57 16 renc V' (T.add x p).ref ∧ Keep [] w w') := by
  have hW : RAdd w ((((w.alloc (.cells (rcells V T.rt) 42)).alloc (.cells (dcells x) 28)).alloc (.cells (dcells p) 28)).alloc (.cells rz 42)) V T.rt x p :=
    ⟨(((Blk.new w 42 (rcells V T.rt)).alloc _).alloc _).alloc _, ((Blk.new_ (by simp)).alloc _).alloc _, (Blk.new_ (by simp)).alloc _, Blk.new_ (by simp), ((((Keep.refl [] w).alloc _).alloc _).alloc _).alloc _⟩
  have hlen : T.rt.l.length = T.bl.length := T.ref_len
  have hRl : T.rt.l.length ≤ 5000 := by omega
  have hb' : decide ((4096 : Int) ≤ (T.rt.l.length : Int)) = false := by simp; omega
  have hs : Sl w 57 16 renc V T.rt.l := hs
  obtain ⟨A, cap, rfl, hc1, hc2, hc3⟩ := id hs
  have hk0 : findIn x T.rt.l = (-1 : Int) := T.ref_not hx
  obtain ⟨k, hk, hgk, _⟩ := h.ref_is hh hp
  have hk2 : findIn p T.rt.l = (k : Int) := hk
  have hne : T.rt.l ≠ [] := by intro e; have : T.ref = [] := e; rw [this] at hgk; simp at hgk
  have hti := h.tip_is
  have la : T.lines p = T.line p := by unfold FT.lines; rw [if_pos hp]
  have lb : T.lines T.tip = T.line T.tip := by unfold FT.lines; rw [if_pos hti]
  have ca := fun w V => rline_any h hh p (w := w) (V := V)
  have cb := fun w V => rline_any h hh T.tip (w := w) (V := V)
  rw [la] at ca
  rw [lb] at cb
  have ha := h.line_lt hp
  have hb1 := h.line_lt hti
  have n1 := h.nonneg hp
  have n2 := h.nonneg hti
  have ea : ((T.line p).length : Int) = (T.get p).2 + 1 := by rw [T.line_len]; omega
  have eb : ((T.line T.tip).length : Int) = (T.get T.tip).2 + 1 := by rw [T.line_len]; omega
  have hE : Hid (T.err x p = if T.rt.depth < (T.line T.tip).length - 1 - ((common (T.line p) (T.line T.tip) : Int) - 1) then 25 else 0) := Lib.hid (by
    unfold FT.err FT.below
    rw [if_neg (by simp [hx]), if_neg (by simp [hp]), if_neg (by omega)]
    have : T.rt.depth = T.depth := rfl
    congr 1
    simp only [eq_iff_iff]
    omega)
  have hR : Hid ((T.added x p).rt = ⟨T.rt.depth, T.rt.l ++ [(x, p)], if ((T.line T.tip).length : Int) - 1 < (T.line p).length then x else T.rt.tip⟩) := Lib.hid (by
    unfold FT.rt FT.ref
    rw [FT.added_bl, mput_new (FT.is_false.1 hx)]
    simp only [List.map_append, List.map_cons, List.map_nil]
    have e : (T.added x p).tip = if (T.get T.tip).2 < (T.get p).2 + 1 then x else T.tip := rfl
    rw [e]
    congr 1
    rw [ea, eb]
    congr 1
    simp only [eq_iff_iff]
    omega)
  have hcl := common_le (T.line p) (T.line T.tip)
  have hd : 0 ≤ T.rt.depth ∧ T.rt.depth ≤ 1000 := h.dep
  have mk : True := trivial
  generalize T.line p = a at *
  generalize T.line T.tip = b at *
  have HA := Lib.hid (And.intro ha hb1)
  clear ha hb1
  clear hk hgk ea eb n1 n2 la lb hti hlen hb
  go_enter Try.func22, Try.ntmps22
  go_wp2_with (first | (go_at_call 24; first | (clear mk; refine (find_any (hs.keep0 hW.k) x hRl).mono ?_; rw [hk0]; rintro e w1 ⟨rfl, hk1⟩; have hW := hW.on hk1; have c0 := hW.b0.cell; have c1 := hW.b1.cell; have c2 := hW.b2.cell; have c3 := hW.b3.cell; have f3 := hW.b3.frozen) | (refine (find_any (hs.keep0 hW.k) p hRl).mono ?_; rw [hk2]; rintro e w1 ⟨rfl, hk1⟩; have hW := hW.on hk1; have c0 := hW.b0.cell; have c1 := hW.b1.cell; have c2 := hW.b2.cell; have c3 := hW.b3.cell; have f3 := hW.b3.frozen)))
  have F0 := fun W (hk : Keep [] w1 W) => (hW.b0.keep hk (by simp)).cell
  have F2 := fun W (hk : Keep [] w1 W) => (hW.b2.keep hk (by simp)).cell
  refine wp_region_noPanic ?_
  refine Bz.wp_region_E (S := (fun w' => Keep [] w1 w')) (E := []) (by kernel_rfl) (by exact (Keep.refl _ _).drew) (fun hHeld => ?_)
  refine Bz.wpAnyE_take (i := 0) (oi := { dst := some 25, op := Go.Op.load 42 (Go.Operand.tmp 3), type := 42, pos := "ref.go:68", after := #[], guard := none }) (v := ?_) rfl (by kernel_rfl) (by kernel_rfl) (by kernel_rfl) (by kernel_rfl) (fun _ _ _ h => h) (Or.inl ⟨by rfl, ?_⟩) hHeld ?_
  rotate_left 1
  · (intro w hSw; have q0 := F0 w hSw; have q2 := F2 w hSw; go_simp; first | done | with_reducible rfl)
  try simp only [Act.put, List.setIfInBounds_toArray, List.set_cons_zero, List.set_cons_succ]
  refine Bz.wpAnyE_take (i := 1) (oi := { dst := some 26, op := Go.Op.load 28 (Go.Operand.tmp 5), type := 28, pos := "ref.go:68", after := #[], guard := none }) (v := ?_) rfl (by kernel_rfl) (by kernel_rfl) (by kernel_rfl) (by kernel_rfl) (fun _ _ _ h => h) (Or.inl ⟨by rfl, ?_⟩) hHeld ?_
  rotate_left 1
  · (intro w hSw; have q0 := F0 w hSw; have q2 := F2 w hSw; go_simp; first | done | with_reducible rfl)
  try simp only [Act.put, List.setIfInBounds_toArray, List.set_cons_zero, List.set_cons_succ]
  refine Bz.wpAnyE_take (i := 3) (oi := { dst := some 28, op := Go.Op.load 42 (Go.Operand.tmp 3), type := 42, pos := "ref.go:68", after := #[], guard := none }) (v := ?_) rfl (by kernel_rfl) (by kernel_rfl) (by kernel_rfl) (by kernel_rfl) (fun _ _ _ h => h) (Or.inl ⟨by rfl, ?_⟩) hHeld ?_
  rotate_left 1
  · (intro w hSw; have q0 := F0 w hSw; have q2 := F2 w hSw; go_simp; first | done | with_reducible rfl)
  try simp only [Act.put, List.setIfInBounds_toArray, List.set_cons_zero, List.set_cons_succ]
  refine Bz.wpAnyE_take (i := 4) (oi := { dst := some 29, op := Go.Op.fieldAddr 42 (Go.Operand.tmp 3) 2, type := 0, pos := "ref.go:68", after := #[], guard := none }) (v := ?_) rfl (by kernel_rfl) (by kernel_rfl) (by kernel_rfl) (by kernel_rfl) (fun _ _ _ h => h) (Or.inl ⟨by rfl, ?_⟩) hHeld ?_
  rotate_left 1
  · (intro w hSw; have q0 := F0 w hSw; have q2 := F2 w hSw; go_simp; first | done | with_reducible rfl)
  try simp only [Act.put, List.setIfInBounds_toArray, List.set_cons_zero, List.set_cons_succ]
  refine Bz.wpAnyE_take (i := 5) (oi := { dst := some 30, op := Go.Op.load 28 (Go.Operand.tmp 29), type := 28, pos := "ref.go:68", after := #[{ on := 4, ground := Go.Ground.data }], guard := none }) (v := ?_) rfl (by kernel_rfl) (by kernel_rfl) (by kernel_rfl) (by kernel_rfl) (fun _ _ _ h => h) (Or.inl ⟨by rfl, ?_⟩) hHeld ?_
  rotate_left 1
  · (intro w hSw; have q0 := F0 w hSw; have q2 := F2 w hSw; go_simp; first | done | with_reducible rfl)
  try simp only [Act.put, List.setIfInBounds_toArray, List.set_cons_zero, List.set_cons_succ]
  refine Bz.wpAnyE_ready (rs := [2]) (by kernel_rfl) (by simp) ?_
  refine Bz.AllReadyE.cons (o := { dst := some 27, op := Go.Op.call { callee := Go.Callee.value (Go.Operand.func 26), args := #[Go.Operand.tmp 25, Go.Operand.tmp 26], argTypes := #[42, 28] }, type := 47, pos := "ref.go:68", after := #[{ on := 0, ground := Go.Ground.data }, { on := 1, ground := Go.Ground.data }], guard := none }) rfl (fun K hK => ?_) Bz.AllReadyE.nil
  go_simp
  
  refine (ca _ _ (hs.keep0 (hW.k.trans hHeld))).mono ?_
  rintro e w5 ⟨va, rfl, hOa, hk5⟩
  try have hOb := hOb.keep0 hk5
  refine hK.out _ _ (by exact hHeld.trans hk5) ?_
  clear hHeld hK K; intro hHeld
  try simp only [Act.put, List.setIfInBounds_toArray, List.set_cons_zero, List.set_cons_succ]
  refine Bz.wpAnyE_ready (rs := [6]) (by kernel_rfl) (by simp) ?_
  refine Bz.AllReadyE.cons (o := { dst := some 31, op := Go.Op.call { callee := Go.Callee.value (Go.Operand.func 26), args := #[Go.Operand.tmp 28, Go.Operand.tmp 30], argTypes := #[42, 28] }, type := 47, pos := "ref.go:68", after := #[{ on := 3, ground := Go.Ground.data }, { on := 5, ground := Go.Ground.data }, { on := 2, ground := Go.Ground.chain }], guard := none }) rfl (fun K hK => ?_) Bz.AllReadyE.nil
  go_simp
  
  refine (cb _ _ (hs.keep0 (hW.k.trans hHeld))).mono ?_
  rintro e w5 ⟨vb, rfl, hOb, hk5⟩
  try have hOa := hOa.keep0 hk5
  refine hK.out _ _ (by exact hHeld.trans hk5) ?_
  clear hHeld hK K; intro hHeld
  try simp only [Act.put, List.setIfInBounds_toArray, List.set_cons_zero, List.set_cons_succ]
  refine Bz.wpAnyE_take (i := 7) (oi := { dst := some 8, op := Go.Op.assign (Go.Operand.tmp 27), type := 47, pos := "ref.go:68", after := #[{ on := 2, ground := Go.Ground.data }, { on := 6, ground := Go.Ground.chain }, { on := 0, ground := Go.Ground.phase }, { on := 1, ground := Go.Ground.phase }, { on := 2, ground := Go.Ground.phase }, { on := 3, ground := Go.Ground.textOnly Go.Departure.lateStores }, { on := 4, ground := Go.Ground.textOnly Go.Departure.lateStores }, { on := 5, ground := Go.Ground.textOnly Go.Departure.lateStores }, { on := 6, ground := Go.Ground.textOnly Go.Departure.lateStoresUnsure }], guard := none }) (v := ?_) rfl (by kernel_rfl) (by kernel_rfl) (by kernel_rfl) (by kernel_rfl) (fun _ _ _ h => h) (Or.inl ⟨by rfl, ?_⟩) hHeld ?_
  rotate_left 1
  · (intro w hSw; have q0 := F0 w hSw; have q2 := F2 w hSw; go_simp; first | done | with_reducible rfl)
  try simp only [Act.put, List.setIfInBounds_toArray, List.set_cons_zero, List.set_cons_succ]
  refine Bz.wpAnyE_take (i := 8) (oi := { dst := some 9, op := Go.Op.assign (Go.Operand.tmp 31), type := 47, pos := "ref.go:68", after := #[{ on := 6, ground := Go.Ground.data }, { on := 7, ground := Go.Ground.chain }, { on := 0, ground := Go.Ground.phase }, { on := 1, ground := Go.Ground.phase }, { on := 2, ground := Go.Ground.phase }, { on := 3, ground := Go.Ground.phase }, { on := 4, ground := Go.Ground.phase }, { on := 5, ground := Go.Ground.phase }, { on := 6, ground := Go.Ground.phase }, { on := 7, ground := Go.Ground.phase }], guard := none }) (v := ?_) rfl (by kernel_rfl) (by kernel_rfl) (by kernel_rfl) (by kernel_rfl) (fun _ _ _ h => h) (Or.inl ⟨by rfl, ?_⟩) hHeld ?_
  rotate_left 1
  · (intro w hSw; have q0 := F0 w hSw; have q2 := F2 w hSw; go_simp; first | done | with_reducible rfl)
  try simp only [Act.put, List.setIfInBounds_toArray, List.set_cons_zero, List.set_cons_succ]
  refine Bz.wpAnyE_done (by kernel_rfl) ?_ _
  refine NoPanic.normal ?_
  have hSa := hOa.sl dsz
  have hSb := hOb.sl dsz
  clear hOa hOb hk5
  obtain ⟨wz, hwz⟩ : ∃ W, W = w5 := ⟨_, rfl⟩
  have hW := hW.on (hwz ▸ hHeld : Keep [] w1 wz)
  rw [← hwz] at hSa hSb ⊢
  clear hwz hHeld F0 F2 ca cb
  skip
  obtain ⟨Aa, capa, rfl, ha1, ha2, ha3⟩ := id hSa
  obtain ⟨Ab, capb, rfl, hb1, hb2, hb3⟩ := id hSb
  have hla : a.length ≤ 5000 := by have := HA.out; omega
  have hlb : b.length ≤ 5000 := by have := HA.out; omega
  have F0 := fun W (hk : Keep [] wz W) => (hW.b0.keep hk (by simp)).cell
  go_wp2_with fail
  refine wp_region_noPanic ?_
  refine Bz.wp_region_E (S := (fun w' => Keep [] wz w')) (E := []) (by kernel_rfl) (by exact (Keep.refl _ _).drew) (fun hHeld => ?_)
  refine Bz.wpAnyE_take (i := 0) (oi := { dst := some 32, op := Go.Op.move (Go.Operand.tmp 9), type := 47, pos := "ref.go:69", after := #[], guard := none }) (v := ?_) rfl (by kernel_rfl) (by kernel_rfl) (by kernel_rfl) (by kernel_rfl) (fun _ _ _ h => h) (Or.inl ⟨by rfl, ?_⟩) hHeld ?_
  rotate_left 1
  · (intro w hSw; have q0 := F0 w hSw; go_simp; first | done | with_reducible rfl)
  try simp only [Act.put, List.setIfInBounds_toArray, List.set_cons_zero, List.set_cons_succ]
  refine Bz.wpAnyE_take (i := 1) (oi := { dst := some 33, op := Go.Op.call { callee := Go.Callee.builtin Go.Builtin.len, args := #[Go.Operand.tmp 32], argTypes := #[47] }, type := 3, pos := "ref.go:69", after := #[{ on := 0, ground := Go.Ground.data }], guard := none }) (v := ?_) rfl (by kernel_rfl) (by kernel_rfl) (by kernel_rfl) (by kernel_rfl) (fun _ _ _ h => h) (Or.inl ⟨by rfl, ?_⟩) hHeld ?_
  rotate_left 1
  · (intro w hSw; have q0 := F0 w hSw; go_simp; first | done | with_reducible rfl)
  try simp only [Act.put, List.setIfInBounds_toArray, List.set_cons_zero, List.set_cons_succ]
  refine Bz.wpAnyE_take (i := 2) (oi := { dst := some 34, op := Go.Op.binOp Go.BinOp.sub 3 (Go.Operand.tmp 33) (Go.Operand.const (Go.Value.int Go.IntKind.i64 1)) 3, type := 3, pos := "ref.go:69", after := #[{ on := 1, ground := Go.Ground.data }], guard := none }) (v := ?_) rfl (by kernel_rfl) (by kernel_rfl) (by kernel_rfl) (by kernel_rfl) (fun _ _ _ h => h) (Or.inl ⟨by rfl, ?_⟩) hHeld ?_
  rotate_left 1
  · (intro w hSw; have q0 := F0 w hSw; go_simp; first | done | with_reducible rfl)
  try simp only [Act.put, List.setIfInBounds_toArray, List.set_cons_zero, List.set_cons_succ]
  refine Bz.wpAnyE_take (i := 3) (oi := { dst := some 35, op := Go.Op.move (Go.Operand.tmp 8), type := 47, pos := "ref.go:69", after := #[], guard := none }) (v := ?_) rfl (by kernel_rfl) (by kernel_rfl) (by kernel_rfl) (by kernel_rfl) (fun _ _ _ h => h) (Or.inl ⟨by rfl, ?_⟩) hHeld ?_
  rotate_left 1
  · (intro w hSw; have q0 := F0 w hSw; go_simp; first | done | with_reducible rfl)
  try simp only [Act.put, List.setIfInBounds_toArray, List.set_cons_zero, List.set_cons_succ]
  refine Bz.wpAnyE_take (i := 4) (oi := { dst := some 36, op := Go.Op.move (Go.Operand.tmp 9), type := 47, pos := "ref.go:69", after := #[], guard := none }) (v := ?_) rfl (by kernel_rfl) (by kernel_rfl) (by kernel_rfl) (by kernel_rfl) (fun _ _ _ h => h) (Or.inl ⟨by rfl, ?_⟩) hHeld ?_
  rotate_left 1
  · (intro w hSw; have q0 := F0 w hSw; go_simp; first | done | with_reducible rfl)
  try simp only [Act.put, List.setIfInBounds_toArray, List.set_cons_zero, List.set_cons_succ]
  refine Bz.wpAnyE_take (i := 7) (oi := { dst := some 39, op := Go.Op.fieldAddr 42 (Go.Operand.tmp 3) 0, type := 0, pos := "ref.go:69", after := #[], guard := none }) (v := ?_) rfl (by kernel_rfl) (by kernel_rfl) (by kernel_rfl) (by kernel_rfl) (fun _ _ _ h => h) (Or.inl ⟨by rfl, ?_⟩) hHeld ?_
  rotate_left 1
  · (intro w hSw; have q0 := F0 w hSw; go_simp; first | done | with_reducible rfl)
  try simp only [Act.put, List.setIfInBounds_toArray, List.set_cons_zero, List.set_cons_succ]
  refine Bz.wpAnyE_take (i := 8) (oi := { dst := some 40, op := Go.Op.load 3 (Go.Operand.tmp 39), type := 3, pos := "ref.go:69", after := #[{ on := 7, ground := Go.Ground.data }], guard := none }) (v := ?_) rfl (by kernel_rfl) (by kernel_rfl) (by kernel_rfl) (by kernel_rfl) (fun _ _ _ h => h) (Or.inl ⟨by rfl, ?_⟩) hHeld ?_
  rotate_left 1
  · (intro w hSw; have q0 := F0 w hSw; go_simp; first | done | with_reducible rfl)
  try simp only [Act.put, List.setIfInBounds_toArray, List.set_cons_zero, List.set_cons_succ]
  refine Bz.wpAnyE_ready (rs := [5]) (by kernel_rfl) (by simp) ?_
  refine Bz.AllReadyE.cons (o := { dst := some 37, op := Go.Op.call { callee := Go.Callee.value (Go.Operand.func 35), args := #[Go.Operand.tmp 35, Go.Operand.tmp 36], argTypes := #[47, 47] }, type := 3, pos := "ref.go:69", after := #[{ on := 3, ground := Go.Ground.data }, { on := 4, ground := Go.Ground.data }], guard := none }) rfl (fun K hK => ?_) Bz.AllReadyE.nil
  go_simp
  
  refine (part_any (hSa.keep0 hHeld) (hSb.keep0 hHeld) hla hlb).mono ?_
  rintro e w5 ⟨rfl, hk5⟩
  refine hK.out _ _ (by exact hHeld.trans hk5) ?_
  clear hHeld hK K; intro hHeld
  try simp only [Act.put, List.setIfInBounds_toArray, List.set_cons_zero, List.set_cons_succ]
  refine Bz.wpAnyE_take (i := 6) (oi := { dst := some 38, op := Go.Op.binOp Go.BinOp.sub 3 (Go.Operand.tmp 34) (Go.Operand.tmp 37) 3, type := 3, pos := "ref.go:69", after := #[{ on := 2, ground := Go.Ground.data }, { on := 5, ground := Go.Ground.data }], guard := none }) (v := ?_) rfl (by kernel_rfl) (by kernel_rfl) (by kernel_rfl) (by kernel_rfl) (fun _ _ _ h => h) (Or.inl ⟨by rfl, ?_⟩) hHeld ?_
  rotate_left 1
  · (intro w hSw; have q0 := F0 w hSw; go_simp; first | done | with_reducible rfl)
  try simp only [Act.put, List.setIfInBounds_toArray, List.set_cons_zero, List.set_cons_succ]
  refine Bz.wpAnyE_take (i := 9) (oi := { dst := some 41, op := Go.Op.binOp Go.BinOp.gtr 3 (Go.Operand.tmp 38) (Go.Operand.tmp 40) 3, type := 4, pos := "ref.go:69", after := #[{ on := 6, ground := Go.Ground.data }, { on := 8, ground := Go.Ground.data }], guard := none }) (v := ?_) rfl (by kernel_rfl) (by kernel_rfl) (by kernel_rfl) (by kernel_rfl) (fun _ _ _ h => h) (Or.inl ⟨by rfl, ?_⟩) hHeld ?_
  rotate_left 1
  · (intro w hSw; have q0 := F0 w hSw; go_simp; first | done | with_reducible rfl)
  try simp only [Act.put, List.setIfInBounds_toArray, List.set_cons_zero, List.set_cons_succ]
  refine Bz.wpAnyE_done (by kernel_rfl) ?_ _
  refine NoPanic.normal ?_
  obtain ⟨wy, hwy⟩ : ∃ W, W = w5 := ⟨_, rfl⟩
  have hW := hW.on (hwy ▸ hHeld : Keep [] wz wy)
  rw [← hwy]
  clear hwy hHeld F0 hk5
  skip
  have c0 := hW.b0.cell
  have c1 := hW.b1.cell
  have c2 := hW.b2.cell
  have c3 := hW.b3.cell
  have f3 := hW.b3.frozen
  have q1 : IntKind.i64.wrap ((b.length : Int) - 1) = (b.length : Int) - 1 := IntWalk.i64_in _ (by omega)
  have q2 : IntKind.i64.wrap ((b.length : Int) - 1 - ((common a b : Int) - 1)) = (b.length : Int) - 1 - ((common a b : Int) - 1) := IntWalk.i64_in _ (by omega)
  rw [q1, q2]
  clear q1 q2
  by_cases hdp : T.rt.depth < b.length - 1 - ((common a b : Int) - 1)
  · rw [if_pos hdp] at hE
    go_wp2_with fail
    obtain ⟨W, hWd⟩ : ∃ W, W = rtStore wy (w.heap.size + 1 + 1 + 1) (.slice A T.rt.l.length cap) T.rt := ⟨_, rfl⟩
    have hS := rtStore_blk (V := .slice A T.rt.l.length cap) (R := T.rt) hW.b3
    rw [← hWd] at hS
    unfold rtStore at hWd
    rw [← hWd]
    have cS := hS.1.cell
    have eT : T.add x p = T := by unfold FT.add; rw [if_neg (by rw [hE.out]; decide)]
    have hKe := hW.k.own hS.2 (by simp; omega)
    exact bodyPost_ret (v := .tuple #[rtv (.slice A T.rt.l.length cap) T.rt, .int .i64 25]) (by simp [results, Try.results22, go_sem, cS]) rfl ⟨_, by rw [hE.out, eT], by rw [eT]; exact hs.keep0 hKe, hKe⟩
  · rw [if_neg hdp] at hE
    have eT : T.add x p = T.added x p := by unfold FT.add; rw [if_pos hE.out]
    have F1 := fun W (hk : Keep [] wy W) => (hW.b1.keep hk (by simp)).cell
    have F2 := fun W (hk : Keep [] wy W) => (hW.b2.keep hk (by simp)).cell
    have F0 := fun W (hk : Keep [] wy W) => (hW.b0.keep hk (by simp)).cell
    have Ff := fun W (hk : Keep [] wy W) => (hW.b0.keep hk (by simp)).frozen
    go_upto_region 10 with fail
    go_cut [] from 10 to 61 (fun wx => ∃ (A7 : Option Addr) (cap7 : Nat) (l7 : List (D8 × D8)), Hid (l7 = T.rt.l ++ [(x, p)]) ∧ RAdd w wx (.slice A7 l7.length cap7) ⟨T.rt.depth, l7, T.rt.tip⟩ x p ∧ Sl wx 57 16 renc (.slice A7 l7.length cap7) l7)
    case first =>
      refine wp_region_noPanic ?_
      refine Bz.wp_region_E (S := (fun w' => Keep [] wy w')) (E := [10]) (by kernel_rfl) (by exact (Keep.refl _ _).drew) (fun hHeld => ?_)
      obtain ⟨wd, hwd⟩ : ∃ W, W = wy.drew := ⟨_, rfl⟩
      have hz0 : wy.heap.size ≤ wd.heap.size := by rw [hwd]; exact hHeld.size
      rw [← hwd] at hHeld ⊢
      clear hwd
      refine Bz.wpAnyE_take (i := 1) (oi := { dst := some 44, op := Go.Op.fieldAddr 42 (Go.Operand.tmp 3) 1, type := 0, pos := "ref.go:72", after := #[], guard := none }) (v := ?_) rfl (by kernel_rfl) (by kernel_rfl) (by kernel_rfl) (by kernel_rfl) (fun _ _ _ h => h) (Or.inl ⟨by rfl, ?_⟩) hHeld ?_
      rotate_left 1
      · (intro w hSw; have q0 := F0 w hSw; have q1 := F1 w hSw; have q2 := F2 w hSw; go_simp; first | done | with_reducible rfl)
      try simp only [Act.put, List.setIfInBounds_toArray, List.set_cons_zero, List.set_cons_succ]
      refine Bz.wpAnyE_take (i := 2) (oi := { dst := some 45, op := Go.Op.load 40 (Go.Operand.tmp 44), type := 40, pos := "ref.go:72", after := #[{ on := 1, ground := Go.Ground.data }], guard := none }) (v := ?_) rfl (by kernel_rfl) (by kernel_rfl) (by kernel_rfl) (by kernel_rfl) (fun _ _ _ h => h) (Or.inl ⟨by rfl, ?_⟩) hHeld ?_
      rotate_left 1
      · (intro w hSw; have q0 := F0 w hSw; have q1 := F1 w hSw; have q2 := F2 w hSw; go_simp; first | done | with_reducible rfl)
      try simp only [Act.put, List.setIfInBounds_toArray, List.set_cons_zero, List.set_cons_succ]
      refine Bz.wpAnyE_take (i := 4) (oi := { dst := some 47, op := Go.Op.load 28 (Go.Operand.tmp 4), type := 28, pos := "ref.go:72", after := #[], guard := none }) (v := ?_) rfl (by kernel_rfl) (by kernel_rfl) (by kernel_rfl) (by kernel_rfl) (fun _ _ _ h => h) (Or.inl ⟨by rfl, ?_⟩) hHeld ?_
      rotate_left 1
      · (intro w hSw; have q0 := F0 w hSw; have q1 := F1 w hSw; have q2 := F2 w hSw; go_simp; first | done | with_reducible rfl)
      try simp only [Act.put, List.setIfInBounds_toArray, List.set_cons_zero, List.set_cons_succ]
      refine Bz.wpAnyE_take (i := 5) (oi := { dst := some 48, op := Go.Op.load 28 (Go.Operand.tmp 5), type := 28, pos := "ref.go:72", after := #[], guard := none }) (v := ?_) rfl (by kernel_rfl) (by kernel_rfl) (by kernel_rfl) (by kernel_rfl) (fun _ _ _ h => h) (Or.inl ⟨by rfl, ?_⟩) hHeld ?_
      rotate_left 1
      · (intro w hSw; have q0 := F0 w hSw; have q1 := F1 w hSw; have q2 := F2 w hSw; go_simp; first | done | with_reducible rfl)
      try simp only [Act.put, List.setIfInBounds_toArray, List.set_cons_zero, List.set_cons_succ]
      refine Bz.wpAnyE_take (i := 6) (oi := { dst := some 49, op := Go.Op.build 57 #[(0, Go.Operand.tmp 47), (1, Go.Operand.tmp 48)], type := 57, pos := "ref.go:72", after := #[{ on := 4, ground := Go.Ground.data }, { on := 5, ground := Go.Ground.data }], guard := none }) (v := ?_) rfl (by kernel_rfl) (by kernel_rfl) (by kernel_rfl) (by kernel_rfl) (fun _ _ _ h => h) (Or.inl ⟨by rfl, ?_⟩) hHeld ?_
      rotate_left 1
      · (intro w hSw; have q0 := F0 w hSw; have q1 := F1 w hSw; have q2 := F2 w hSw; go_simp; first | done | with_reducible rfl)
      try simp only [Act.put, List.setIfInBounds_toArray, List.set_cons_zero, List.set_cons_succ]
      refine Bz.wpAnyE_ready (rs := [0, 7]) (by kernel_rfl) (by simp) ?_
      refine Bz.AllReadyE.cons (o := { dst := some 43, op := Go.Op.buildSlice 40 0 #[], type := 40, pos := "ref.go:72", after := #[], guard := none }) rfl (fun K hK => ?_) ?_
      · skip
        
        go_simp
        first
          | (have hBn := hBn.alloc (.cells #[] 57); have hO : Own ((wd.alloc (.cells (renc (x, p)) 57)).alloc (.cells #[] 57)) wy.heap.size 57 16 renc (.slice (some ⟨wd.heap.size + 1, 0, none⟩) 0 0) [] := (by have hq := Own.none_ (base := wy.heap.size) (wd.alloc (.cells (renc (x, p)) 57)) (by simp; omega) 57 16 renc; rwa [show (wd.alloc (.cells (renc (x, p)) 57)).heap.size = wd.heap.size + 1 by simp] at hq))
          | (have hO := Own.none_ (base := wy.heap.size) wd hz0 57 16 renc)
        refine hK.out _ _ (by exact hHeld.alloc _) ?_
        clear hHeld hK K; intro hHeld
        try simp only [Act.put, List.setIfInBounds_toArray, List.set_cons_zero, List.set_cons_succ]
        refine Bz.wpAnyE_ready (rs := [3, 7]) (by kernel_rfl) (by simp) ?_
        refine Bz.AllReadyE.cons (o := { dst := some 46, op := Go.Op.call { callee := Go.Callee.builtin Go.Builtin.append, args := #[Go.Operand.tmp 43, Go.Operand.tmp 45], argTypes := #[40, 40] }, type := 40, pos := "ref.go:72", after := #[{ on := 0, ground := Go.Ground.data }, { on := 2, ground := Go.Ground.data }], guard := none }) rfl (fun K hK => ?_) ?_
        · skip
          
          refine oper_append_sl _ _ 40 rfl app40 rfl hO hne rfl (hs.keep0 (hW.k.trans hHeld)) rsz renc_one (by simp; omega) (by unfold maxLen; simp; omega) hHeld.size ?_
          intro v6 w6 hO6 hk6
          simp only [List.nil_append] at hO6
          try (have hn1 : wd.heap.size + 1 ∉ [wd.heap.size] := (by simp); have hn2 : wd.heap.size ∉ [wd.heap.size + 1] := (by simp); first | have hBn := hBn.keep hk6 hn1 | have hBn := hBn.keep hk6 hn2)
          refine hK.out _ _ (by exact hHeld.andThen hk6 (fun g hg => .inr (hO.lt g hg).1)) ?_
          clear hHeld hK K; intro hHeld
          try simp only [Act.put, List.setIfInBounds_toArray, List.set_cons_zero, List.set_cons_succ]
          refine Bz.wpAnyE_ready (rs := [7]) (by kernel_rfl) (by simp) ?_
          refine Bz.AllReadyE.cons (o := { dst := some 50, op := Go.Op.buildSlice 40 1 #[(0, Go.Operand.tmp 49)], type := 40, pos := "ref.go:72", after := #[{ on := 6, ground := Go.Ground.data }], guard := none }) rfl (fun K hK => ?_) Bz.AllReadyE.nil
          
          go_simp
          first
            | (have hO6 := hO6.alloc (.cells (renc (x, p)) 57); have hBn := Blk.new w6 57 (renc (x, p)))
            | (have hO := hO.alloc (.cells (renc (x, p)) 57); have hBn := Blk.new_ (w := wd.alloc (.cells #[] 57)) (t := 57) (cs := renc (x, p)) (g := wd.heap.size + 1) (by simp))
            | (have hBn := Blk.new wd 57 (renc (x, p)))
          refine hK.out _ _ (by exact hHeld.alloc _) ?_
          clear hHeld hK K; intro hHeld
          try simp only [Act.put, List.setIfInBounds_toArray, List.set_cons_zero, List.set_cons_succ]
          refine Bz.wpAnyE_ready (rs := [8]) (by kernel_rfl) (by simp) ?_
          refine Bz.AllReadyE.cons (o := { dst := some 51, op := Go.Op.call { callee := Go.Callee.builtin Go.Builtin.append, args := #[Go.Operand.tmp 46, Go.Operand.tmp 50], argTypes := #[40, 40] }, type := 40, pos := "ref.go:72", after := #[{ on := 3, ground := Go.Ground.data }, { on := 7, ground := Go.Ground.data }, { on := 3, ground := Go.Ground.chain }], guard := none }) rfl (fun K hK => ?_) Bz.AllReadyE.nil
          
          refine oper_append1 _ _ 40 rfl app40 rfl hO6 rfl hBn rfl (renc_one _) (by omega) (by unfold maxLen; omega) hHeld.size ?_
          intro v7 w7 hO7 hk7
          obtain ⟨l7, hl7⟩ : ∃ l7, l7 = T.rt.l ++ [(x, p)] := ⟨_, rfl⟩
          rw [← hl7] at hO7
          have HL7 := Lib.hid hl7
          clear hl7
          have hO7s := hO7.sl rsz
          obtain ⟨A7, cap7, rfl, h71, h72, h73⟩ := id hO7s
          refine hK.out _ _ (by exact hHeld.andThen hk7 (fun g hg => .inr (hO6.lt g hg).1)) ?_
          clear hHeld hK K; intro hHeld
          try simp only [Act.put, List.setIfInBounds_toArray, List.set_cons_zero, List.set_cons_succ]
          refine Bz.wpAnyE_take (i := 9) (oi := { dst := some 52, op := Go.Op.fieldAddr 42 (Go.Operand.tmp 3) 1, type := 0, pos := "ref.go:72", after := #[{ on := 0, ground := Go.Ground.phase }, { on := 1, ground := Go.Ground.phase }, { on := 2, ground := Go.Ground.phase }, { on := 3, ground := Go.Ground.phase }, { on := 4, ground := Go.Ground.phase }, { on := 5, ground := Go.Ground.phase }, { on := 6, ground := Go.Ground.phase }, { on := 7, ground := Go.Ground.phase }, { on := 8, ground := Go.Ground.phase }], guard := none }) (v := ?_) rfl (by kernel_rfl) (by kernel_rfl) (by kernel_rfl) (by kernel_rfl) (fun _ _ _ h => h) (Or.inl ⟨by rfl, ?_⟩) hHeld ?_
          rotate_left 1
          · (intro w hSw; have q0 := F0 w hSw; have q1 := F1 w hSw; have q2 := F2 w hSw; go_simp; first | done | with_reducible rfl)
          try simp only [Act.put, List.setIfInBounds_toArray, List.set_cons_zero, List.set_cons_succ]
          refine Bz.wpAnyE_ready (rs := [10]) (by kernel_rfl) (by simp) ?_
          refine Bz.AllReadyE.last (o := { dst := none, op := Go.Op.store 40 (Go.Operand.tmp 52) (Go.Operand.tmp 51), type := 0, pos := "ref.go:72", after := #[{ on := 9, ground := Go.Ground.data }, { on := 8, ground := Go.Ground.data }, { on := 8, ground := Go.Ground.chain }, { on := 0, ground := Go.Ground.phase }, { on := 1, ground := Go.Ground.phase }, { on := 2, ground := Go.Ground.phase }, { on := 3, ground := Go.Ground.phase }, { on := 4, ground := Go.Ground.phase }, { on := 5, ground := Go.Ground.phase }, { on := 6, ground := Go.Ground.phase }, { on := 7, ground := Go.Ground.phase }, { on := 8, ground := Go.Ground.phase }], guard := none }) rfl (by rfl) (fun K hK => ?_) Bz.AllReadyE.nil
          
          have q0 := F0 _ hHeld
          have q1 := Ff _ hHeld
          go_simp
          refine hK.out _ _ ?_
          clear hK K
          try simp only [Act.put, List.setIfInBounds_toArray, List.set_cons_zero, List.set_cons_succ]
          refine Bz.wpAnyE_done (by kernel_rfl) ?_ _
          refine NoPanic.normal ?_
          have hWq := (hW.on hHeld).put (.slice A7 l7.length cap7) l7
          have hSq := hO7s.keepTy ((Keep.refl [w.heap.size] w7).setCell (p := ⟨w.heap.size, 1, none⟩) (.inl (by simp)) (.slice A7 l7.length cap7)) (by intro s hs cs hb; simp at hs; subst hs; exact (hW.on hHeld).b0.ne_ hb (by decide) rfl)
          go_wp2_with fail
          go_meet
          exact ⟨A7, cap7, l7, HL7, hWq, hSq⟩
        refine Bz.AllReadyE.cons (o := { dst := some 50, op := Go.Op.buildSlice 40 1 #[(0, Go.Operand.tmp 49)], type := 40, pos := "ref.go:72", after := #[{ on := 6, ground := Go.Ground.data }], guard := none }) rfl (fun K hK => ?_) ?_
        · skip
          
          go_simp
          first
            | (have hO6 := hO6.alloc (.cells (renc (x, p)) 57); have hBn := Blk.new w6 57 (renc (x, p)))
            | (have hO := hO.alloc (.cells (renc (x, p)) 57); have hBn := Blk.new_ (w := wd.alloc (.cells #[] 57)) (t := 57) (cs := renc (x, p)) (g := wd.heap.size + 1) (by simp))
            | (have hBn := Blk.new wd 57 (renc (x, p)))
          refine hK.out _ _ (by exact hHeld.alloc _) ?_
          clear hHeld hK K; intro hHeld
          try simp only [Act.put, List.setIfInBounds_toArray, List.set_cons_zero, List.set_cons_succ]
          refine Bz.wpAnyE_ready (rs := [3]) (by kernel_rfl) (by simp) ?_
          refine Bz.AllReadyE.cons (o := { dst := some 46, op := Go.Op.call { callee := Go.Callee.builtin Go.Builtin.append, args := #[Go.Operand.tmp 43, Go.Operand.tmp 45], argTypes := #[40, 40] }, type := 40, pos := "ref.go:72", after := #[{ on := 0, ground := Go.Ground.data }, { on := 2, ground := Go.Ground.data }], guard := none }) rfl (fun K hK => ?_) Bz.AllReadyE.nil
          
          refine oper_append_sl _ _ 40 rfl app40 rfl hO hne rfl (hs.keep0 (hW.k.trans hHeld)) rsz renc_one (by simp; omega) (by unfold maxLen; simp; omega) hHeld.size ?_
          intro v6 w6 hO6 hk6
          simp only [List.nil_append] at hO6
          try (have hn1 : wd.heap.size + 1 ∉ [wd.heap.size] := (by simp); have hn2 : wd.heap.size ∉ [wd.heap.size + 1] := (by simp); first | have hBn := hBn.keep hk6 hn1 | have hBn := hBn.keep hk6 hn2)
          refine hK.out _ _ (by exact hHeld.andThen hk6 (fun g hg => .inr (hO.lt g hg).1)) ?_
          clear hHeld hK K; intro hHeld
          try simp only [Act.put, List.setIfInBounds_toArray, List.set_cons_zero, List.set_cons_succ]
          refine Bz.wpAnyE_ready (rs := [8]) (by kernel_rfl) (by simp) ?_
          refine Bz.AllReadyE.cons (o := { dst := some 51, op := Go.Op.call { callee := Go.Callee.builtin Go.Builtin.append, args := #[Go.Operand.tmp 46, Go.Operand.tmp 50], argTypes := #[40, 40] }, type := 40, pos := "ref.go:72", after := #[{ on := 3, ground := Go.Ground.data }, { on := 7, ground := Go.Ground.data }, { on := 3, ground := Go.Ground.chain }], guard := none }) rfl (fun K hK => ?_) Bz.AllReadyE.nil
          
          refine oper_append1 _ _ 40 rfl app40 rfl hO6 rfl hBn rfl (renc_one _) (by omega) (by unfold maxLen; omega) hHeld.size ?_
          intro v7 w7 hO7 hk7
          obtain ⟨l7, hl7⟩ : ∃ l7, l7 = T.rt.l ++ [(x, p)] := ⟨_, rfl⟩
          rw [← hl7] at hO7
          have HL7 := Lib.hid hl7
          clear hl7
          have hO7s := hO7.sl rsz
          obtain ⟨A7, cap7, rfl, h71, h72, h73⟩ := id hO7s
          refine hK.out _ _ (by exact hHeld.andThen hk7 (fun g hg => .inr (hO6.lt g hg).1)) ?_
          clear hHeld hK K; intro hHeld
          try simp only [Act.put, List.setIfInBounds_toArray, List.set_cons_zero, List.set_cons_succ]
          refine Bz.wpAnyE_take (i := 9) (oi := { dst := some 52, op := Go.Op.fieldAddr 42 (Go.Operand.tmp 3) 1, type := 0, pos := "ref.go:72", after := #[{ on := 0, ground := Go.Ground.phase }, { on := 1, ground := Go.Ground.phase }, { on := 2, ground := Go.Ground.phase }, { on := 3, ground := Go.Ground.phase }, { on := 4, ground := Go.Ground.phase }, { on := 5, ground := Go.Ground.phase }, { on := 6, ground := Go.Ground.phase }, { on := 7, ground := Go.Ground.phase }, { on := 8, ground := Go.Ground.phase }], guard := none }) (v := ?_) rfl (by kernel_rfl) (by kernel_rfl) (by kernel_rfl) (by kernel_rfl) (fun _ _ _ h => h) (Or.inl ⟨by rfl, ?_⟩) hHeld ?_
          rotate_left 1
          · (intro w hSw; have q0 := F0 w hSw; have q1 := F1 w hSw; have q2 := F2 w hSw; go_simp; first | done | with_reducible rfl)
          try simp only [Act.put, List.setIfInBounds_toArray, List.set_cons_zero, List.set_cons_succ]
          refine Bz.wpAnyE_ready (rs := [10]) (by kernel_rfl) (by simp) ?_
          refine Bz.AllReadyE.last (o := { dst := none, op := Go.Op.store 40 (Go.Operand.tmp 52) (Go.Operand.tmp 51), type := 0, pos := "ref.go:72", after := #[{ on := 9, ground := Go.Ground.data }, { on := 8, ground := Go.Ground.data }, { on := 8, ground := Go.Ground.chain }, { on := 0, ground := Go.Ground.phase }, { on := 1, ground := Go.Ground.phase }, { on := 2, ground := Go.Ground.phase }, { on := 3, ground := Go.Ground.phase }, { on := 4, ground := Go.Ground.phase }, { on := 5, ground := Go.Ground.phase }, { on := 6, ground := Go.Ground.phase }, { on := 7, ground := Go.Ground.phase }, { on := 8, ground := Go.Ground.phase }], guard := none }) rfl (by rfl) (fun K hK => ?_) Bz.AllReadyE.nil
          
          have q0 := F0 _ hHeld
          have q1 := Ff _ hHeld
          go_simp
          refine hK.out _ _ ?_
          clear hK K
          try simp only [Act.put, List.setIfInBounds_toArray, List.set_cons_zero, List.set_cons_succ]
          refine Bz.wpAnyE_done (by kernel_rfl) ?_ _
          refine NoPanic.normal ?_
          have hWq := (hW.on hHeld).put (.slice A7 l7.length cap7) l7
          have hSq := hO7s.keepTy ((Keep.refl [w.heap.size] w7).setCell (p := ⟨w.heap.size, 1, none⟩) (.inl (by simp)) (.slice A7 l7.length cap7)) (by intro s hs cs hb; simp at hs; subst hs; exact (hW.on hHeld).b0.ne_ hb (by decide) rfl)
          go_wp2_with fail
          go_meet
          exact ⟨A7, cap7, l7, HL7, hWq, hSq⟩
        exact Bz.AllReadyE.nil
      refine Bz.AllReadyE.cons (o := { dst := some 50, op := Go.Op.buildSlice 40 1 #[(0, Go.Operand.tmp 49)], type := 40, pos := "ref.go:72", after := #[{ on := 6, ground := Go.Ground.data }], guard := none }) rfl (fun K hK => ?_) ?_
      · skip
        
        go_simp
        first
          | (have hO6 := hO6.alloc (.cells (renc (x, p)) 57); have hBn := Blk.new w6 57 (renc (x, p)))
          | (have hO := hO.alloc (.cells (renc (x, p)) 57); have hBn := Blk.new_ (w := wd.alloc (.cells #[] 57)) (t := 57) (cs := renc (x, p)) (g := wd.heap.size + 1) (by simp))
          | (have hBn := Blk.new wd 57 (renc (x, p)))
        refine hK.out _ _ (by exact hHeld.alloc _) ?_
        clear hHeld hK K; intro hHeld
        try simp only [Act.put, List.setIfInBounds_toArray, List.set_cons_zero, List.set_cons_succ]
        refine Bz.wpAnyE_ready (rs := [0]) (by kernel_rfl) (by simp) ?_
        refine Bz.AllReadyE.cons (o := { dst := some 43, op := Go.Op.buildSlice 40 0 #[], type := 40, pos := "ref.go:72", after := #[], guard := none }) rfl (fun K hK => ?_) Bz.AllReadyE.nil
        
        go_simp
        first
          | (have hBn := hBn.alloc (.cells #[] 57); have hO : Own ((wd.alloc (.cells (renc (x, p)) 57)).alloc (.cells #[] 57)) wy.heap.size 57 16 renc (.slice (some ⟨wd.heap.size + 1, 0, none⟩) 0 0) [] := (by have hq := Own.none_ (base := wy.heap.size) (wd.alloc (.cells (renc (x, p)) 57)) (by simp; omega) 57 16 renc; rwa [show (wd.alloc (.cells (renc (x, p)) 57)).heap.size = wd.heap.size + 1 by simp] at hq))
          | (have hO := Own.none_ (base := wy.heap.size) wd hz0 57 16 renc)
        refine hK.out _ _ (by exact hHeld.alloc _) ?_
        clear hHeld hK K; intro hHeld
        try simp only [Act.put, List.setIfInBounds_toArray, List.set_cons_zero, List.set_cons_succ]
        refine Bz.wpAnyE_ready (rs := [3]) (by kernel_rfl) (by simp) ?_
        refine Bz.AllReadyE.cons (o := { dst := some 46, op := Go.Op.call { callee := Go.Callee.builtin Go.Builtin.append, args := #[Go.Operand.tmp 43, Go.Operand.tmp 45], argTypes := #[40, 40] }, type := 40, pos := "ref.go:72", after := #[{ on := 0, ground := Go.Ground.data }, { on := 2, ground := Go.Ground.data }], guard := none }) rfl (fun K hK => ?_) Bz.AllReadyE.nil
        
        refine oper_append_sl _ _ 40 rfl app40 rfl hO hne rfl (hs.keep0 (hW.k.trans hHeld)) rsz renc_one (by simp; omega) (by unfold maxLen; simp; omega) hHeld.size ?_
        intro v6 w6 hO6 hk6
        simp only [List.nil_append] at hO6
        try (have hn1 : wd.heap.size + 1 ∉ [wd.heap.size] := (by simp); have hn2 : wd.heap.size ∉ [wd.heap.size + 1] := (by simp); first | have hBn := hBn.keep hk6 hn1 | have hBn := hBn.keep hk6 hn2)
        refine hK.out _ _ (by exact hHeld.andThen hk6 (fun g hg => .inr (hO.lt g hg).1)) ?_
        clear hHeld hK K; intro hHeld
        try simp only [Act.put, List.setIfInBounds_toArray, List.set_cons_zero, List.set_cons_succ]
        refine Bz.wpAnyE_ready (rs := [8]) (by kernel_rfl) (by simp) ?_
        refine Bz.AllReadyE.cons (o := { dst := some 51, op := Go.Op.call { callee := Go.Callee.builtin Go.Builtin.append, args := #[Go.Operand.tmp 46, Go.Operand.tmp 50], argTypes := #[40, 40] }, type := 40, pos := "ref.go:72", after := #[{ on := 3, ground := Go.Ground.data }, { on := 7, ground := Go.Ground.data }, { on := 3, ground := Go.Ground.chain }], guard := none }) rfl (fun K hK => ?_) Bz.AllReadyE.nil
        
        refine oper_append1 _ _ 40 rfl app40 rfl hO6 rfl hBn rfl (renc_one _) (by omega) (by unfold maxLen; omega) hHeld.size ?_
        intro v7 w7 hO7 hk7
        obtain ⟨l7, hl7⟩ : ∃ l7, l7 = T.rt.l ++ [(x, p)] := ⟨_, rfl⟩
        rw [← hl7] at hO7
        have HL7 := Lib.hid hl7
        clear hl7
        have hO7s := hO7.sl rsz
        obtain ⟨A7, cap7, rfl, h71, h72, h73⟩ := id hO7s
        refine hK.out _ _ (by exact hHeld.andThen hk7 (fun g hg => .inr (hO6.lt g hg).1)) ?_
        clear hHeld hK K; intro hHeld
        try simp only [Act.put, List.setIfInBounds_toArray, List.set_cons_zero, List.set_cons_succ]
        refine Bz.wpAnyE_take (i := 9) (oi := { dst := some 52, op := Go.Op.fieldAddr 42 (Go.Operand.tmp 3) 1, type := 0, pos := "ref.go:72", after := #[{ on := 0, ground := Go.Ground.phase }, { on := 1, ground := Go.Ground.phase }, { on := 2, ground := Go.Ground.phase }, { on := 3, ground := Go.Ground.phase }, { on := 4, ground := Go.Ground.phase }, { on := 5, ground := Go.Ground.phase }, { on := 6, ground := Go.Ground.phase }, { on := 7, ground := Go.Ground.phase }, { on := 8, ground := Go.Ground.phase }], guard := none }) (v := ?_) rfl (by kernel_rfl) (by kernel_rfl) (by kernel_rfl) (by kernel_rfl) (fun _ _ _ h => h) (Or.inl ⟨by rfl, ?_⟩) hHeld ?_
        rotate_left 1
        · (intro w hSw; have q0 := F0 w hSw; have q1 := F1 w hSw; have q2 := F2 w hSw; go_simp; first | done | with_reducible rfl)
        try simp only [Act.put, List.setIfInBounds_toArray, List.set_cons_zero, List.set_cons_succ]
        refine Bz.wpAnyE_ready (rs := [10]) (by kernel_rfl) (by simp) ?_
        refine Bz.AllReadyE.last (o := { dst := none, op := Go.Op.store 40 (Go.Operand.tmp 52) (Go.Operand.tmp 51), type := 0, pos := "ref.go:72", after := #[{ on := 9, ground := Go.Ground.data }, { on := 8, ground := Go.Ground.data }, { on := 8, ground := Go.Ground.chain }, { on := 0, ground := Go.Ground.phase }, { on := 1, ground := Go.Ground.phase }, { on := 2, ground := Go.Ground.phase }, { on := 3, ground := Go.Ground.phase }, { on := 4, ground := Go.Ground.phase }, { on := 5, ground := Go.Ground.phase }, { on := 6, ground := Go.Ground.phase }, { on := 7, ground := Go.Ground.phase }, { on := 8, ground := Go.Ground.phase }], guard := none }) rfl (by rfl) (fun K hK => ?_) Bz.AllReadyE.nil
        
        have q0 := F0 _ hHeld
        have q1 := Ff _ hHeld
        go_simp
        refine hK.out _ _ ?_
        clear hK K
        try simp only [Act.put, List.setIfInBounds_toArray, List.set_cons_zero, List.set_cons_succ]
        refine Bz.wpAnyE_done (by kernel_rfl) ?_ _
        refine NoPanic.normal ?_
        have hWq := (hW.on hHeld).put (.slice A7 l7.length cap7) l7
        have hSq := hO7s.keepTy ((Keep.refl [w.heap.size] w7).setCell (p := ⟨w.heap.size, 1, none⟩) (.inl (by simp)) (.slice A7 l7.length cap7)) (by intro s hs cs hb; simp at hs; subst hs; exact (hW.on hHeld).b0.ne_ hb (by decide) rfl)
        go_wp2_with fail
        go_meet
        exact ⟨A7, cap7, l7, HL7, hWq, hSq⟩
      exact Bz.AllReadyE.nil
    case rest =>
      obtain ⟨A7, cap7, l7, HL7, hWq, hSq⟩ := hcut
      rw [← HL7.out] at hR
      clear F0 F1 F2 Ff c0 c1 c2 c3 f3 hdp
      have hE' : Hid (∃ tp, (T.added x p).rt = ⟨T.rt.depth, l7, tp⟩ ∧ tp = if ((b.length : Int) - 1 < a.length) then x else T.rt.tip) := Lib.hid ⟨_, hR.out, rfl⟩
      clear hR
      go_upto_if 58 with fail
      go_cut [] from 10 to 61 (fun wx => ∃ tp, Hid ((T.added x p).rt = ⟨T.rt.depth, l7, tp⟩) ∧ RAdd w wx (.slice A7 l7.length cap7) ⟨T.rt.depth, l7, tp⟩ x p ∧ Sl wx 57 16 renc (.slice A7 l7.length cap7) l7)
      case first =>
        have c0 := hWq.b0.cell
        have f0 := hWq.b0.frozen
        have c1 := hWq.b1.cell
        by_cases htip : (b.length : Int) - 1 < a.length
        · go_wp2_with fail
          obtain ⟨wt, hwt⟩ : ∃ W, W = tipStore wc w.heap.size x := ⟨_, rfl⟩
          have h1 := hWq.tip_
          have h2 := hSq.keepTy (tipStore_keep wc w.heap.size x) (by intro s hs cs hb; simp at hs; subst hs; exact hWq.b0.ne_ hb (by decide) rfl)
          rw [← hwt] at h1 h2
          unfold tipStore at hwt
          rw [← hwt]
          go_meet
          obtain ⟨tp, e1, e2⟩ := hE'.out
          rw [if_pos htip] at e2
          exact ⟨x, Lib.hid (by rw [e1, e2]), h1, h2⟩
        · go_wp2_with fail
          go_meet
          obtain ⟨tp, e1, e2⟩ := hE'.out
          rw [if_neg (by omega)] at e2
          exact ⟨T.rt.tip, Lib.hid (by rw [e1, e2]), hWq, hSq⟩
      case rest =>
        clear hWq hSq hE'
        rename_i wc0 wc
        obtain ⟨tp, HR, hWq, hSq⟩ := hcut
        have c0 := hWq.b0.cell
        have c3 := hWq.b3.cell
        have f3 := hWq.b3.frozen
        go_wp2_with fail
        obtain ⟨W, hWd⟩ : ∃ W, W = rtStore wc (w.heap.size + 1 + 1 + 1) (.slice A7 l7.length cap7) ⟨T.rt.depth, l7, tp⟩ := ⟨_, rfl⟩
        have hS := rtStore_blk (V := .slice A7 l7.length cap7) (R := ⟨T.rt.depth, l7, tp⟩) hWq.b3
        have hSf := hSq.keepTy (rtStore_blk (V := .slice A7 l7.length cap7) (R := ⟨T.rt.depth, l7, tp⟩) hWq.b3).2 (by intro s hs cs hb; simp at hs; subst hs; exact hWq.b3.ne_ hb (by decide) rfl)
        rw [← hWd] at hS hSf
        unfold rtStore at hWd
        rw [← hWd]
        have cS := hS.1.cell
        have eL : (T.added x p).ref = l7 := congrArg RT.l HR.out
        exact bodyPost_ret (v := .tuple #[rtv (.slice A7 l7.length cap7) ⟨T.rt.depth, l7, tp⟩, .int .i64 0]) (by simp [results, Try.results22, go_sem, cS]) rfl ⟨_, by rw [hE.out, eT, HR.out], by rw [eT, eL]; exact hSf, hWq.k.own hS.2 (by simp; omega)⟩
theorem radd_any {T : FT} (h : T.WF) (hh : T.Hd) (x p : D8) {w : World} {V : Value} (hs : Sl w 57 16 renc V T.ref) :
    Calls Try.prog 22 #[rtv V T.rt, dv x, dv p] w (fun e w' => ∃ V', e = .returned (.tuple #[rtv V' (T.add x p).rt, .int .i64 (T.err x p)]) ∧ Sl w' 57 16 renc V' (T.add x p).ref ∧ Keep [] w w') := by
  by_cases he : T.is x = true ∨ T.is p = false ∨ 4096 ≤ T.bl.length
  · refine (radd_no h hh x p hs he).mono ?_
    rintro e w' ⟨rfl, hk⟩
    have eT : T.add x p = T := by
      unfold FT.add FT.err
      rcases he with h1 | h1 | h1
      · simp [h1]
      · by_cases h0 : T.is x = true <;> simp [h0, h1]
      · by_cases h0 : T.is x = true
        · simp [h0]
        · by_cases h2 : T.is p = false <;> simp [h0, h2, h1]
    rw [eT]
    exact ⟨V, rfl, hs.keep0 hk, hk⟩
  · have h1 : ¬ T.is x = true := fun e => he (.inl e)
    have h2 : ¬ T.is p = false := fun e => he (.inr (.inl e))
    exact radd_in h hh x p hs (by simpa using h1) (by simpa using h2) (by have : ¬ 4096 ≤ T.bl.length := fun e => he (.inr (.inr e)); omega)
end Go.Proofs.Ytbkchniomhdieaa
