/- The document's Final, Undone walked. -/
import Derived.Test.YtbkchniomhdieaaRefPart
namespace Go.Proofs.Ytbkchniomhdieaa
open Go.RowKit Go.Bz

theorem _root_.Go.Bz.Sl.cut {α : Type} {w : World} {ty : TypeId} {k : Nat} {enc : α → Array Value} {A : Option Addr} {n cap : Nat} {l : List α} (h : Sl w ty k enc (.slice A n cap) l) {m : Nat} (hm : m ≤ l.length) : Sl w ty k enc (.slice A m cap) (l.take m) := by
  obtain ⟨A', cap', hv, h1, h2, h3⟩ := h
  cases hv
  have e : (l.take m).length = m := by rw [List.length_take]; omega
  refine ⟨A, cap, by rw [e], by rw [e]; omega, h2, fun hne => ?_⟩
  obtain ⟨g, o, hA, h4⟩ := h3 (by intro e; rw [e] at hne; simp at hne)
  exact ⟨g, o, hA, h4.take m⟩
set_option maxHeartbeats 2000000 in
theorem rfinal_any {T : FT} (h : T.WF) (hh : T.Hd) {w : World} {V : Value} (hs : Sl w 57 16 renc V T.ref) :
    Calls Try.prog 38 #[rtv V T.rt] w (fun e w' => ∃ v, e = .returned v ∧ Sl w' 28 8 dcells v T.final ∧ Keep [] w w') := by
  have hK := ((Keep.refl [] w).alloc (.cells (rcells V T.rt) 42))
  have hB := Blk.new w 42 (rcells V T.rt)
  obtain ⟨hl, hH⟩ := FT.lines_len h T.tip
  have hti := h.tip_is
  have hnn := h.nonneg hti
  have hli : T.lines T.tip = T.line T.tip := by unfold FT.lines; rw [if_pos hti]
  have hhe : T.height T.tip = (T.get T.tip).2 := by unfold FT.height; rw [if_pos hti]
  rw [hli] at hl hH
  rw [hhe] at hH
  have hd : 0 ≤ T.rt.depth ∧ T.rt.depth ≤ 1000 := h.dep
  have hdd : T.rt.depth = T.depth := rfl
  have hF : Hid (T.final = (T.line T.tip).take (max ((T.get T.tip).2 - T.depth) 0 + 1).toNat) := Lib.hid rfl
  have HR := Lib.hid (And.intro hH (And.intro hnn hdd))
  have hcall := fun w V => rline_any h hh T.tip (w := w) (V := V)
  rw [hli] at hcall
  have hL1 : 1 ≤ (T.line T.tip).length := by rw [T.line_len]; omega
  generalize T.line T.tip = L at *
  clear hH hnn hdd hti hli hhe
  go_enter Try.func38, Try.ntmps38
  go_wp2_with (first | (go_at_call 26; refine (hcall _ _ (hs.keep0 hK)).mono ?_; rintro e w1 ⟨v1, rfl, hO, hk1⟩; have hB := hB.keep hk1 (by simp); have hK := hK.trans hk1; have cB := hB.cell; obtain ⟨A, cap, rfl, hc1, hc2, hc3⟩ := hO.sl dsz))
  all_goals
    go_ret
    have hS := hO.sl dsz
    obtain ⟨e1, e2, e3⟩ := HR.out
  · refine ⟨_, rfl, ?_, hK⟩
    rw [hF.out, show (max ((T.get T.tip).2 - T.depth) 0 + 1).toNat = 1 by omega]
    exact hS.cut hL1
  · refine ⟨_, rfl, ?_, hK⟩
    rw [hF.out, show (max ((T.get T.tip).2 - T.depth) 0 + 1).toNat = ((L.length : Int) - T.rt.depth).toNat by omega]
    exact hS.cut (by omega)
set_option maxHeartbeats 4000000 in
theorem rundone_any {T : FT} (h : T.WF) (hh : T.Hd) (x y : D8) {w : World} {V : Value} (hs : Sl w 57 16 renc V T.ref) :
    Calls Try.prog 27 #[rtv V T.rt, dv x, dv y] w (fun e w' => ∃ v, e = .returned v ∧ Sl w' 28 8 dcells v (T.undone x y) ∧ Keep [] w w') := by
  have hKw := (((Keep.refl [] w).alloc (.cells (rcells V T.rt) 42)).alloc (.cells (dcells x) 28)).alloc (.cells (dcells y) 28)
  have hB0 := ((Blk.new w 42 (rcells V T.rt)).alloc (.cells (dcells x) 28)).alloc (.cells (dcells y) 28)
  have hB1 := (Blk.new_ (w := w.alloc (.cells (rcells V T.rt) 42)) (t := 28) (cs := dcells x) (g := w.heap.size + 1) (by simp)).alloc (.cells (dcells y) 28)
  have hB2 := (Blk.new_ (w := (w.alloc (.cells (rcells V T.rt) 42)).alloc (.cells (dcells x) 28)) (t := 28) (cs := dcells y) (g := w.heap.size + 1 + 1) (by simp))
  have hl1 := (FT.lines_len h x).1
  have hl2 := (FT.lines_len h y).1
  have c1 := fun w V => rline_any h hh x (w := w) (V := V)
  have c2 := fun w V => rline_any h hh y (w := w) (V := V)
  have HU : Hid (T.undone x y = if T.lines x = [] ∨ T.lines y = [] then [] else ((T.lines x).drop (common (T.lines x) (T.lines y))).reverse) := Lib.hid (by
    have hne : ∀ z, T.line z ≠ [] := fun z e => by have := T.line_len z; rw [e] at this; simp at this
    unfold FT.undone FT.lines
    by_cases hx : T.is x = true <;> by_cases hy : T.is y = true <;> simp [hx, hy, hne])
  generalize T.lines x = a at *
  generalize T.lines y = b at *
  obtain ⟨w0, hw0⟩ : ∃ W, W = ((w.alloc (.cells (rcells V T.rt) 42)).alloc (.cells (dcells x) 28)).alloc (.cells (dcells y) 28) := ⟨_, rfl⟩
  have F0 := fun W (hk : Keep [] w0 W) => ((hw0 ▸ hB0 : Blk w0 _ _ _).keep hk (by simp)).cell
  have F1 := fun W (hk : Keep [] w0 W) => ((hw0 ▸ hB1 : Blk w0 _ _ _).keep hk (by simp)).cell
  have F2 := fun W (hk : Keep [] w0 W) => ((hw0 ▸ hB2 : Blk w0 _ _ _).keep hk (by simp)).cell
  rw [← hw0] at hKw
  clear hB0 hB1 hB2
  go_enter Try.func27, Try.ntmps27
  go_wp2_with fail
  rw [← hw0]
  clear hw0
  refine wp_region_noPanic ?_
  refine Bz.wp_region_E (S := (fun w' => Keep [] w0 w')) (E := []) (by kernel_rfl) (by exact (Keep.refl _ _).drew) (fun hHeld => ?_)
  refine Bz.wpAnyE_take (i := 0) (oi := { dst := some 11, op := Go.Op.load 42 (Go.Operand.tmp 3), type := 42, pos := "ref.go:87", after := #[], guard := none }) (v := ?_) rfl (by kernel_rfl) (by kernel_rfl) (by kernel_rfl) (by kernel_rfl) (fun _ _ _ h => h) (Or.inl ⟨by rfl, ?_⟩) hHeld ?_
  rotate_left 1
  · (intro w hSw; have q0 := F0 w hSw; have q1 := F1 w hSw; have q2 := F2 w hSw; go_simp; first | done | with_reducible rfl)
  try simp only [Act.put, List.setIfInBounds_toArray, List.set_cons_zero, List.set_cons_succ]
  refine Bz.wpAnyE_take (i := 1) (oi := { dst := some 12, op := Go.Op.load 28 (Go.Operand.tmp 4), type := 28, pos := "ref.go:87", after := #[], guard := none }) (v := ?_) rfl (by kernel_rfl) (by kernel_rfl) (by kernel_rfl) (by kernel_rfl) (fun _ _ _ h => h) (Or.inl ⟨by rfl, ?_⟩) hHeld ?_
  rotate_left 1
  · (intro w hSw; have q0 := F0 w hSw; have q1 := F1 w hSw; have q2 := F2 w hSw; go_simp; first | done | with_reducible rfl)
  try simp only [Act.put, List.setIfInBounds_toArray, List.set_cons_zero, List.set_cons_succ]
  refine Bz.wpAnyE_take (i := 3) (oi := { dst := some 14, op := Go.Op.load 42 (Go.Operand.tmp 3), type := 42, pos := "ref.go:87", after := #[], guard := none }) (v := ?_) rfl (by kernel_rfl) (by kernel_rfl) (by kernel_rfl) (by kernel_rfl) (fun _ _ _ h => h) (Or.inl ⟨by rfl, ?_⟩) hHeld ?_
  rotate_left 1
  · (intro w hSw; have q0 := F0 w hSw; have q1 := F1 w hSw; have q2 := F2 w hSw; go_simp; first | done | with_reducible rfl)
  try simp only [Act.put, List.setIfInBounds_toArray, List.set_cons_zero, List.set_cons_succ]
  refine Bz.wpAnyE_take (i := 4) (oi := { dst := some 15, op := Go.Op.load 28 (Go.Operand.tmp 5), type := 28, pos := "ref.go:87", after := #[], guard := none }) (v := ?_) rfl (by kernel_rfl) (by kernel_rfl) (by kernel_rfl) (by kernel_rfl) (fun _ _ _ h => h) (Or.inl ⟨by rfl, ?_⟩) hHeld ?_
  rotate_left 1
  · (intro w hSw; have q0 := F0 w hSw; have q1 := F1 w hSw; have q2 := F2 w hSw; go_simp; first | done | with_reducible rfl)
  try simp only [Act.put, List.setIfInBounds_toArray, List.set_cons_zero, List.set_cons_succ]
  refine Bz.wpAnyE_ready (rs := [2]) (by kernel_rfl) (by simp) ?_
  refine Bz.AllReadyE.cons (o := { dst := some 13, op := Go.Op.call { callee := Go.Callee.value (Go.Operand.func 26), args := #[Go.Operand.tmp 11, Go.Operand.tmp 12], argTypes := #[42, 28] }, type := 47, pos := "ref.go:87", after := #[{ on := 0, ground := Go.Ground.data }, { on := 1, ground := Go.Ground.data }], guard := none }) rfl (fun K hK => ?_) Bz.AllReadyE.nil
  go_simp
  
  refine (c1 _ _ (hs.keep0 (hKw.trans hHeld))).mono ?_
  rintro e w5 ⟨va, rfl, hOa, hk5⟩
  try have hOb := hOb.keep0 hk5
  refine hK.out _ _ (by exact hHeld.trans hk5) ?_
  clear hHeld hK K; intro hHeld
  try simp only [Act.put, List.setIfInBounds_toArray, List.set_cons_zero, List.set_cons_succ]
  refine Bz.wpAnyE_ready (rs := [5]) (by kernel_rfl) (by simp) ?_
  refine Bz.AllReadyE.cons (o := { dst := some 16, op := Go.Op.call { callee := Go.Callee.value (Go.Operand.func 26), args := #[Go.Operand.tmp 14, Go.Operand.tmp 15], argTypes := #[42, 28] }, type := 47, pos := "ref.go:87", after := #[{ on := 3, ground := Go.Ground.data }, { on := 4, ground := Go.Ground.data }, { on := 2, ground := Go.Ground.chain }], guard := none }) rfl (fun K hK => ?_) Bz.AllReadyE.nil
  go_simp
  
  refine (c2 _ _ (hs.keep0 (hKw.trans hHeld))).mono ?_
  rintro e w5 ⟨vb, rfl, hOb, hk5⟩
  try have hOa := hOa.keep0 hk5
  refine hK.out _ _ (by exact hHeld.trans hk5) ?_
  clear hHeld hK K; intro hHeld
  try simp only [Act.put, List.setIfInBounds_toArray, List.set_cons_zero, List.set_cons_succ]
  refine Bz.wpAnyE_take (i := 6) (oi := { dst := some 7, op := Go.Op.assign (Go.Operand.tmp 13), type := 47, pos := "ref.go:87", after := #[{ on := 2, ground := Go.Ground.data }, { on := 5, ground := Go.Ground.chain }, { on := 0, ground := Go.Ground.phase }, { on := 1, ground := Go.Ground.phase }, { on := 2, ground := Go.Ground.phase }, { on := 3, ground := Go.Ground.textOnly Go.Departure.lateStores }, { on := 4, ground := Go.Ground.textOnly Go.Departure.lateStores }, { on := 5, ground := Go.Ground.textOnly Go.Departure.lateStoresUnsure }], guard := none }) (v := ?_) rfl (by kernel_rfl) (by kernel_rfl) (by kernel_rfl) (by kernel_rfl) (fun _ _ _ h => h) (Or.inl ⟨by rfl, ?_⟩) hHeld ?_
  rotate_left 1
  · (intro w hSw; have q0 := F0 w hSw; have q1 := F1 w hSw; have q2 := F2 w hSw; go_simp; first | done | with_reducible rfl)
  try simp only [Act.put, List.setIfInBounds_toArray, List.set_cons_zero, List.set_cons_succ]
  refine Bz.wpAnyE_take (i := 7) (oi := { dst := some 8, op := Go.Op.assign (Go.Operand.tmp 16), type := 47, pos := "ref.go:87", after := #[{ on := 5, ground := Go.Ground.data }, { on := 6, ground := Go.Ground.chain }, { on := 0, ground := Go.Ground.phase }, { on := 1, ground := Go.Ground.phase }, { on := 2, ground := Go.Ground.phase }, { on := 3, ground := Go.Ground.phase }, { on := 4, ground := Go.Ground.phase }, { on := 5, ground := Go.Ground.phase }, { on := 6, ground := Go.Ground.phase }], guard := none }) (v := ?_) rfl (by kernel_rfl) (by kernel_rfl) (by kernel_rfl) (by kernel_rfl) (fun _ _ _ h => h) (Or.inl ⟨by rfl, ?_⟩) hHeld ?_
  rotate_left 1
  · (intro w hSw; have q0 := F0 w hSw; have q1 := F1 w hSw; have q2 := F2 w hSw; go_simp; first | done | with_reducible rfl)
  try simp only [Act.put, List.setIfInBounds_toArray, List.set_cons_zero, List.set_cons_succ]
  refine Bz.wpAnyE_done (by kernel_rfl) ?_ _
  refine NoPanic.normal ?_
  have hSa := hOa.sl dsz
  have hSb := hOb.sl dsz
  clear hOa hOb hk5
  obtain ⟨wz, hwz⟩ : ∃ W, W = w5 := ⟨_, rfl⟩
  have hKz : Keep [] w wz := by rw [hwz]; exact hKw.trans hHeld
  rw [← hwz] at hSa hSb ⊢
  clear hwz hHeld F0 F1 F2 hKw c1 c2
  skip
  obtain ⟨A, cap, rfl, ha1, ha2, ha3⟩ := id hSa
  obtain ⟨A', cap', rfl, hb1, hb2, hb3⟩ := id hSb
  by_cases hz1 : a = []
  · subst hz1
    go_wp2_with fail
    go_ret
    exact ⟨_, rfl, by rw [HU.out]; simp; exact Sl.nil .., hKz⟩
  · have hz1' : ((a.length : Int) == 0) = false := by simp; exact hz1
    by_cases hz2 : b = []
    · subst hz2
      go_wp2_with fail
      go_ret
      exact ⟨_, rfl, by rw [HU.out]; simp; exact Sl.nil .., hKz⟩
    · have hz2' : ((b.length : Int) == 0) = false := by simp; exact hz2
      rw [if_neg (by simp [hz1, hz2])] at HU
      have hcl := common_le a b
      clear hb3 hz2
      go_wp2_with fail
      go_loopg [9, 10] (a.length - common a b) (fun m v i wr => ∃ k : Nat, i = .int .i64 ((k : Int) - 1) ∧ m + common a b = k ∧ k ≤ a.length ∧ Own wr wz.heap.size 28 8 dcells v (a.drop k).reverse ∧ Keep [] wz wr)
      case atStart => exact ⟨a.length, rfl, by omega, Nat.le_refl _, by simp; exact Own.nil .., Keep.refl _ _⟩
      case round =>
        obtain ⟨k, rfl, hk, hka, hown, hK⟩ := hrel
        have hSa' := hSa.keep0 hK
        have hSb' := hSb.keep0 hK
        by_cases hgt : common a b < k
        · obtain ⟨j, rfl⟩ : ∃ j, k = j + 1 := ⟨k - 1, by omega⟩
          obtain ⟨g, o, rfl, hsl⟩ := ha3 hz1
          obtain ⟨x', hx'⟩ : ∃ x', a[j]? = some x' := ⟨_, List.getElem?_eq_getElem (by omega)⟩
          have hrow := (hsl.keep hK (by simp))
          have hdr : (a.drop j).reverse = (a.drop (j + 1)).reverse ++ [x'] := by
            rw [← List.reverse_cons]
            congr 1
            exact (List.getElem_cons_drop (by omega)).symm.trans (by rw [(List.getElem?_eq_some_iff.1 hx').2])
          have hgt' : (common a b : Int) - 1 < (j : Int) := by omega
          have hja : j < a.length := by omega
          have e1 : ((j + 1 : Nat) : Int) - 1 = (j : Int) := by omega
          rw [e1]
          have hlo : (a.drop (j + 1)).reverse.length ≤ 4096 := by rw [List.length_reverse, List.length_drop]; omega
          have HL := Lib.hid (And.intro hk (And.intro hka hdr))
          clear hk hka hdr hgt e1 ha3
          go_wp2_with (first
            | (go_at_call 35; refine (part_any hSa' hSb' (by omega) (by omega)).mono ?_; rintro e w6 ⟨rfl, hk6⟩; have hown := hown.keep0 hk6; have hK := hK.trans hk6; have hat := (hrow.keep hk6 (by simp)).at8 hx'; unfold At8 at hat)
            | (at_builtin; refine wpList_append1 rfl _ _ 47 rfl app47 rfl (hown.alloc _) rfl (Blk.new_ rfl) rfl (dc_one _) ?q1 ?q2 ?q3 ?q4))
          case q1 => omega
          case q2 => unfold maxLen; omega
          case q3 => have := hK.size; simp; omega
          case q4 =>
            intro v' w' hown2 hk2
            have hk3 := ((Keep.refl (ownB u9) w6).alloc (.cells (dcells x') 28)).trans hk2
            have e1 : ∀ g ∈ ownB u9, wz.heap.size ≤ g := fun g hg => (hown.lt g hg).1
            clear hk2
            go_wp2_with fail
            obtain ⟨hk, hka, hdr⟩ := HL.out
            go_roundg (j - common a b)
            case measure => omega
            case rel => exact ⟨j, by go_num, by omega, by omega, by rw [hdr]; exact hown2, hK.andThen hk3 (fun g hg => .inr (e1 g hg))⟩
        · have hkc : k = common a b := by omega
          subst hkc
          clear hgt
          go_wp2_with (first
            | (go_at_call 35; refine (part_any hSa' hSb' (by omega) (by omega)).mono ?_; rintro e w6 ⟨rfl, hk6⟩; have hown := hown.keep0 hk6; have hK := hK.trans hk6))
          go_ret
          exact ⟨_, rfl, by rw [HU.out]; exact hown.sl dsz, hKz.trans hK⟩
end Go.Proofs.Ytbkchniomhdieaa
