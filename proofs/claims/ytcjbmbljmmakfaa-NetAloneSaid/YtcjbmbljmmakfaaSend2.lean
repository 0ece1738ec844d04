/- Send walked, where the letter goes. -/
import Derived.Test.YtcjbmbljmmakfaaSend
namespace Go.Proofs.Ytcjbmbljmmakfaa
open Go.RowKit Go.Bz

theorem NS.puts_snoc (S : NS) (f t : Int) (b : List Int) (l : List Int) (k : Int) : S.puts f t b (l ++ [k]) = (S.puts f t b l).put f t b k := by
  unfold NS.puts; rw [List.foldl_append]; rfl
theorem lateOf_false {l : List Int} (h : lateOf l = false) : l.length ≤ 8 ∧ ∀ x ∈ l, 0 ≤ x ∧ x ≤ 1000 := by
  unfold lateOf at h
  simp only [Bool.or_eq_false_iff, decide_eq_false_iff_not, List.any_eq_false] at h
  refine ⟨by omega, fun x hx => ?_⟩
  have := h.2 x hx
  simp at this
  omega
/-- What a Send's loop holds. -/
structure SendW (w wr : World) (t mb : Nat) (S : NS) (R B : List Nat) (f dst : Int) (A : Option Addr) (cap : Nat) (b : List Int) (AL : Option Addr) (capL : Nat) (l : List Int) (R' B' : List Nat) : Prop where
  net : NetAt wr t mb S R' B'
  b4 : Blk wr w.heap.size 35 #[.int .i64 f, .int .i64 dst, .slice A b.length cap]
  b5 : Blk wr (w.heap.size + 1) 31 #[.slice AL l.length capL]
  v : RdV wr 1 benc (.slice A b.length cap) b
  ll : RdV wr 1 ienc (.slice AL l.length capL) l
  vn : b ≠ [] → ∀ g ∈ ownB (.slice A b.length cap), g < w.heap.size ∧ g ∉ t :: mb :: R
  ln : l ≠ [] → ∀ g ∈ ownB (.slice AL l.length capL), g < w.heap.size ∧ g ∉ t :: mb :: R
  r : ∀ g ∈ R', g ∈ R ∨ w.heap.size ≤ g
  by_ : ∀ g ∈ B', g ∈ B ∨ w.heap.size ≤ g
  k : Keep (t :: mb :: R) w wr
theorem map_update {w : World} {mb : Nat} {D : List (Int × Row)} (h : MapAt w mb (Value.int .i64) Row.v D) (k : Int) (v : Value) (l : List Raw) :
    ∃ w', (Instr.mapUpdate 68 (.map (some mb)) (.int .i64 k) v).run Try.prog w = .ok () w' ∧ MapAt w' mb (Value.int .i64) Row.v (mput k ⟨v, l⟩ D) ∧ Keep [mb] w w' := h.update k3 Try.underlying68 k ⟨v, l⟩
theorem DueAt.keep0 {w w' : World} {mb : Nat} {D : List (Int × Row)} {R B : List Nat} (h : DueAt w mb D R B) (hk : Keep [] w w') : DueAt w' mb D R B := h.keep hk (by simp) (by simp) (by simp)
section
variable {w : World} {t mb : Nat} {S : NS} {R B : List Nat}
theorem NetAt.set_ (h : NetAt w t mb S R B) (i : Nat) (v : Value) (S' : NS) (hS : S'.due = S.due) (hc : ∀ cs, NC cs S mb → NC (cs.setIfInBounds i v) S' mb) : NetAt (w.setCell ⟨t, i, none⟩ v) t mb S' R B ∧ Keep [t] w (w.setCell ⟨t, i, none⟩ v) := by
  obtain ⟨⟨cs, hb, hn⟩, D, hD, hd⟩ := h
  have hk : Keep [t] w (w.setCell ⟨t, i, none⟩ v) := (Keep.refl _ _).setCell (.inl (by simp)) _
  exact ⟨⟨⟨_, hb.set_ _ _, hc _ hn⟩, D, hD.trans hS.symm, hd.keep hk (by simp; exact hd.map.ne_blk hb) (by simp; intro g hg e; subst e; exact hd.notR hb (by decide) hg) (by simp; intro g hg e; subst e; exact hd.notB hb (by decide) hg)⟩, hk⟩
end
theorem SendW.set_ {w wr : World} {t mb : Nat} {S S' : NS} {R B : List Nat} {f dst : Int} {A : Option Addr} {cap : Nat} {b : List Int} {AL : Option Addr} {capL : Nat} {l : List Int} {R' B' : List Nat} (h : SendW w wr t mb S R B f dst A cap b AL capL l R' B')
    (i : Nat) (v : Value) (hS : S'.due = S.due) (hc : ∀ cs, NC cs S mb → NC (cs.setIfInBounds i v) S' mb) : SendW w (wr.setCell ⟨t, i, none⟩ v) t mb S' R B f dst A cap b AL capL l R' B' := by
  obtain ⟨h1, h2⟩ := h.net.set_ i v S' hS hc
  obtain ⟨⟨cs, hb, hn⟩, _⟩ := h.net
  have nt : ∀ {ty : TypeId}, ty ≠ 72 → ∀ s ∈ [t], ∀ cs, ¬ Blk wr s ty cs := fun hne s hs cs' hb' => by simp at hs; subst hs; exact hb'.ne_ hb hne rfl
  exact ⟨h1, h.b4.keep h2 (fun hm => nt (by decide) _ hm _ h.b4), h.b5.keep h2 (fun hm => nt (by decide) _ hm _ h.b5), h.v.keep h2 (fun hne g hg _ hm => (h.vn hne g hg).2 (by simp at hm; simp [hm])), h.ll.keep h2 (fun hne g hg _ hm => (h.ln hne g hg).2 (by simp at hm; simp [hm])), h.vn, h.ln, h.r, h.by_, h.k.andThen h2 (fun k hk => .inl (by simp at hk; simp [hk]))⟩
theorem senc_one (V : Value) (hV : V.oneCell' = true) (f t n : Int) (b : List Int) : ∀ u ∈ (senc ⟨f, t, V, b, n⟩).toList, u.oneCell' = true := by
  intro u hu
  simp at hu
  rcases hu with rfl | rfl | rfl | rfl
  · rfl
  · rfl
  · exact hV
  · rfl
set_option maxRecDepth 100000 in
set_option maxHeartbeats 8000000 in
theorem send_ok {w : World} {t mb : Nat} {S : NS} {R B : List Nat} (h : NetAt w t mb S R B) (hWF : S.WF) (hnow : S.now ≤ 1000000) (hnext : S.next ≤ 1000000) {f dst : Int} {V L : Value} {b l : List Int} (hV : RdV w 1 benc V b) (hVn : b ≠ [] → ∀ g ∈ ownB V, g ∉ t :: mb :: R) (hL : RdV w 1 ienc L l) (hLn : l ≠ [] → ∀ g ∈ ownB L, g ∉ t :: mb :: R) (he : S.err f dst b.length l = 0) :
    Calls Try.prog 13 #[.pointer (some ⟨t, 0, none⟩), .agg #[.int .i64 f, .int .i64 dst, V], .agg #[L]] w (fun e w' => e = .returned (.int .i64 0) ∧ ∃ R' B', NetAt w' t mb (S.sent f dst b l) R' B' ∧ (∀ g ∈ R', g ∈ R ∨ w.heap.size ≤ g) ∧ (∀ g ∈ B', g ∈ B ∨ w.heap.size ≤ g) ∧ Keep (t :: mb :: R) w w') := by
  have hVn' := fun hne g hg => And.intro (hV.lt hne g hg) (hVn hne g hg)
  have hLn' := fun hne g hg => And.intro (hL.lt hne g hg) (hLn hne g hg)
  obtain ⟨A, cap, rfl, hv1, hv2, hv3⟩ := id hV
  obtain ⟨AL, capL, rfl, hl1, hl2, hl3⟩ := id hL
  have p1 := fun w h => party_any (w := w) (t := t) (mb := mb) (S := S) (R := R) (B := B) h f
  have p2 := fun w h => party_any (w := w) (t := t) (mb := mb) (S := S) (R := R) (B := B) h dst
  have lc := fun w h => late_any (w := w) (V := .slice AL l.length capL) (l := l) h
  have hx : S.party f = true ∧ S.party dst = true ∧ b.length ≤ 65536 ∧ lateOf l = false ∧ S.way + l.length ≤ 4096 := by
    unfold NS.err at he
    split at he
    · cases he
    rename_i h1
    split at he
    · cases he
    rename_i h2
    split at he
    · cases he
    rename_i h3
    split at he
    · cases he
    rename_i h4
    refine ⟨by simpa using fun e => h1 (.inl e), by simpa using fun e => h1 (.inr e), by omega, by simpa using h3, by omega⟩
  obtain ⟨hx1, hx2, hb, hx4, hroom⟩ := hx
  rw [hx1] at p1
  rw [hx2] at p2
  rw [hx4] at lc
  obtain ⟨hl8, hlr⟩ := lateOf_false hx4
  obtain ⟨w0, hw0⟩ : ∃ W, W = (w.alloc (.cells #[.int .i64 f, .int .i64 dst, .slice A b.length cap] 35)).alloc (.cells #[.slice AL l.length capL] 31) := ⟨_, rfl⟩
  have B4 : Blk w0 w.heap.size 35 #[.int .i64 f, .int .i64 dst, .slice A b.length cap] := by rw [hw0]; exact (Blk.new _ _ _).alloc _
  have B5 : Blk w0 (w.heap.size + 1) 31 #[.slice AL l.length capL] := by rw [hw0]; exact Blk.new_ (by simp)
  have hK : Keep [] w w0 := by rw [hw0]; exact ((Keep.refl _ _).alloc _).alloc _
  have hL := hL.keep0 hK
  have hV := hV.keep0 hK
  have h := h.keep0 hK
  have mk : True := trivial
  have hway : 0 ≤ S.way ∧ S.way ≤ 4096 := ⟨(hWF.at_way 0).2.1, (hWF.at_way 0).2.2⟩
  have c4 := B4.cell
  have c5 := B5.cell
  have hb' : decide ((65536 : Int) < (b.length : Int)) = false := by simp; omega
  have q1 : IntKind.i64.wrap (S.way + (l.length : Int)) = S.way + l.length := IntWalk.i64_in _ (by omega)
  have hfu : decide ((4096 : Int) < S.way + (l.length : Int)) = false := by simp; omega
  have hcl := fun w h => lclone_any (w := w) (f := f) (t := dst) (V := .slice A b.length cap) (b := b) h (by omega)
  have HB := Lib.hid hb
  have HR := Lib.hid hroom
  clear hb hroom he hx1 hx2 hx4
  go_enter Try.func13, Try.ntmps13
  go_wp2_with fail
  rw [← hw0]
  clear hw0
  go_wp2_with (first
    | (go_at_call 25; first
      | (clear mk; refine (p1 _ h).mono ?_; rintro e w9 ⟨rfl, hk9⟩; have h := h.keep0 hk9; have hL := hL.keep0 hk9; have hV := hV.keep0 hk9; have B4 := B4.keep hk9 (by simp); have B5 := B5.keep hk9 (by simp); have c4 := B4.cell; have c5 := B5.cell; have hK := hK.trans hk9)
      | (refine (p2 _ h).mono ?_; rintro e w9 ⟨rfl, hk9⟩; have h := h.keep0 hk9; have hL := hL.keep0 hk9; have hV := hV.keep0 hk9; have B4 := B4.keep hk9 (by simp); have B5 := B5.keep hk9 (by simp); have c4 := B4.cell; have c5 := B5.cell; have hK := hK.trans hk9))
    | (go_at_call 26; refine (lc _ hL).mono ?_; rintro e w9 ⟨rfl, hk9⟩; have h := h.keep0 hk9; have hL := hL.keep0 hk9; have hV := hV.keep0 hk9; have B4 := B4.keep hk9 (by simp); have B5 := B5.keep hk9 (by simp); have c4 := B4.cell; have c5 := B5.cell; have hK := hK.trans hk9))
  have F0 := fun W (hk : Keep [] w9 W) => (h.keep0 hk).cells
  have F5 := fun W (hk : Keep [] w9 W) => (B5.keep hk (by simp)).cell
  refine wp_region_noPanic ?_
  refine Bz.wp_region_E (S := (fun w' => Keep [] w9 w')) (E := []) (by kernel_rfl) (by exact (Keep.refl _ _).drew) (fun hHeld => ?_)
  refine Bz.wpAnyE_take (i := 0) (oi := { dst := some 34, op := Go.Op.move (Go.Operand.tmp 0), type := 23, pos := "net.go:77", after := #[], guard := none }) (v := ?_) rfl (by kernel_rfl) (by kernel_rfl) (by kernel_rfl) (by kernel_rfl) (fun _ _ _ h => h) (Or.inl ⟨by rfl, ?_⟩) hHeld ?_
  rotate_left 1
  · (intro w hSw; have f0 := F0 w hSw; have f5 := F5 w hSw; go_simp; first | done | with_reducible rfl)
  try simp only [Act.put, List.setIfInBounds_toArray, List.set_cons_zero, List.set_cons_succ]
  refine Bz.wpAnyE_take (i := 1) (oi := { dst := some 35, op := Go.Op.nilCheck (Go.Operand.tmp 34), type := 0, pos := "net.go:77", after := #[{ on := 0, ground := Go.Ground.data }], guard := none }) (v := ?_) rfl (by kernel_rfl) (by kernel_rfl) (by kernel_rfl) (by kernel_rfl) (fun _ _ _ h => h) (Or.inl ⟨by rfl, ?_⟩) hHeld ?_
  rotate_left 1
  · (intro w hSw; have f0 := F0 w hSw; have f5 := F5 w hSw; go_simp; first | done | with_reducible rfl)
  try simp only [Act.put, List.setIfInBounds_toArray, List.set_cons_zero, List.set_cons_succ]
  refine Bz.wpAnyE_take (i := 2) (oi := { dst := some 36, op := Go.Op.fieldAddr 72 (Go.Operand.tmp 35) 2, type := 0, pos := "net.go:77", after := #[{ on := 1, ground := Go.Ground.data }], guard := none }) (v := ?_) rfl (by kernel_rfl) (by kernel_rfl) (by kernel_rfl) (by kernel_rfl) (fun _ _ _ h => h) (Or.inl ⟨by rfl, ?_⟩) hHeld ?_
  rotate_left 1
  · (intro w hSw; have f0 := F0 w hSw; have f5 := F5 w hSw; go_simp; first | done | with_reducible rfl)
  try simp only [Act.put, List.setIfInBounds_toArray, List.set_cons_zero, List.set_cons_succ]
  refine Bz.wpAnyE_take (i := 3) (oi := { dst := some 37, op := Go.Op.load 3 (Go.Operand.tmp 36), type := 3, pos := "net.go:77", after := #[{ on := 2, ground := Go.Ground.data }], guard := none }) (v := ?_) rfl (by kernel_rfl) (by kernel_rfl) (by kernel_rfl) (by kernel_rfl) (fun _ _ _ h => h) (Or.inl ⟨by rfl, ?_⟩) hHeld ?_
  rotate_left 1
  · (intro w hSw; have f0 := F0 w hSw; have f5 := F5 w hSw; go_simp; first | done | with_reducible rfl)
  try simp only [Act.put, List.setIfInBounds_toArray, List.set_cons_zero, List.set_cons_succ]
  refine Bz.wpAnyE_take (i := 4) (oi := { dst := some 38, op := Go.Op.fieldAddr 31 (Go.Operand.tmp 5) 0, type := 0, pos := "net.go:77", after := #[], guard := none }) (v := ?_) rfl (by kernel_rfl) (by kernel_rfl) (by kernel_rfl) (by kernel_rfl) (fun _ _ _ h => h) (Or.inl ⟨by rfl, ?_⟩) hHeld ?_
  rotate_left 1
  · (intro w hSw; have f0 := F0 w hSw; have f5 := F5 w hSw; go_simp; first | done | with_reducible rfl)
  try simp only [Act.put, List.setIfInBounds_toArray, List.set_cons_zero, List.set_cons_succ]
  refine Bz.wpAnyE_take (i := 5) (oi := { dst := some 39, op := Go.Op.load 29 (Go.Operand.tmp 38), type := 29, pos := "net.go:77", after := #[{ on := 4, ground := Go.Ground.data }], guard := none }) (v := ?_) rfl (by kernel_rfl) (by kernel_rfl) (by kernel_rfl) (by kernel_rfl) (fun _ _ _ h => h) (Or.inl ⟨by rfl, ?_⟩) hHeld ?_
  rotate_left 1
  · (intro w hSw; have f0 := F0 w hSw; have f5 := F5 w hSw; go_simp; first | done | with_reducible rfl)
  try simp only [Act.put, List.setIfInBounds_toArray, List.set_cons_zero, List.set_cons_succ]
  refine Bz.wpAnyE_take (i := 6) (oi := { dst := some 40, op := Go.Op.call { callee := Go.Callee.builtin Go.Builtin.len, args := #[Go.Operand.tmp 39], argTypes := #[29] }, type := 3, pos := "net.go:77", after := #[{ on := 5, ground := Go.Ground.data }], guard := none }) (v := ?_) rfl (by kernel_rfl) (by kernel_rfl) (by kernel_rfl) (by kernel_rfl) (fun _ _ _ h => h) (Or.inl ⟨by rfl, ?_⟩) hHeld ?_
  rotate_left 1
  · (intro w hSw; have f0 := F0 w hSw; have f5 := F5 w hSw; go_simp; first | done | with_reducible rfl)
  try simp only [Act.put, List.setIfInBounds_toArray, List.set_cons_zero, List.set_cons_succ]
  refine Bz.wpAnyE_take (i := 7) (oi := { dst := some 41, op := Go.Op.binOp Go.BinOp.add 3 (Go.Operand.tmp 37) (Go.Operand.tmp 40) 3, type := 3, pos := "net.go:77", after := #[{ on := 3, ground := Go.Ground.data }, { on := 6, ground := Go.Ground.data }], guard := none }) (v := ?_) rfl (by kernel_rfl) (by kernel_rfl) (by kernel_rfl) (by kernel_rfl) (fun _ _ _ h => h) (Or.inl ⟨by rfl, ?_⟩) hHeld ?_
  rotate_left 1
  · (intro w hSw; have f0 := F0 w hSw; have f5 := F5 w hSw; go_simp; first | done | with_reducible rfl)
  try simp only [Act.put, List.setIfInBounds_toArray, List.set_cons_zero, List.set_cons_succ]
  refine Bz.wpAnyE_take (i := 8) (oi := { dst := some 42, op := Go.Op.binOp Go.BinOp.gtr 3 (Go.Operand.tmp 41) (Go.Operand.const (Go.Value.int Go.IntKind.i64 4096)) 3, type := 4, pos := "net.go:77", after := #[{ on := 7, ground := Go.Ground.data }], guard := none }) (v := ?_) rfl (by kernel_rfl) (by kernel_rfl) (by kernel_rfl) (by kernel_rfl) (fun _ _ _ h => h) (Or.inl ⟨by rfl, ?_⟩) hHeld ?_
  rotate_left 1
  · (intro w hSw; have f0 := F0 w hSw; have f5 := F5 w hSw; go_simp; first | done | with_reducible rfl)
  try simp only [Act.put, List.setIfInBounds_toArray, List.set_cons_zero, List.set_cons_succ]
  refine Bz.wpAnyE_take (i := 9) (oi := { dst := some 33, op := Go.Op.assign (Go.Operand.tmp 42), type := 4, pos := "net.go:77", after := #[{ on := 8, ground := Go.Ground.data }], guard := none }) (v := ?_) rfl (by kernel_rfl) (by kernel_rfl) (by kernel_rfl) (by kernel_rfl) (fun _ _ _ h => h) (Or.inl ⟨by rfl, ?_⟩) hHeld ?_
  rotate_left 1
  · (intro w hSw; have f0 := F0 w hSw; have f5 := F5 w hSw; go_simp; first | done | with_reducible rfl)
  try simp only [Act.put, List.setIfInBounds_toArray, List.set_cons_zero, List.set_cons_succ]
  refine Bz.wpAnyE_done (by kernel_rfl) ?_ _
  refine NoPanic.normal ?_
  
  obtain ⟨wa, hwa⟩ : ∃ W, W = w9.drew := ⟨_, rfl⟩
  have hSW : SendW w wa t mb S R B f dst A cap b AL capL l R B := by
    rw [hwa]
    exact ⟨h.keep0 (Keep.refl _ _).drew, B4.drew, B5.drew, hV.drew, hL.drew, hVn', hLn', fun g hg => .inl hg, fun g hg => .inl hg, hK.sub.drew⟩
  rw [← hwa]
  clear hwa h hL hV B4 B5 c4 c5 F0 F5 hHeld hK lc p1 p2 hl3 hv3 hb' hfu q1
  have c5 := hSW.b5.cell
  go_wp2_with fail
  go_loopg [8, 46] l.length (fun m _ i wr => ∃ (k : Nat) (R' B' : List Nat), i = .int .i64 k ∧ m + k = l.length ∧ SendW w wr t mb (S.puts f dst b (l.take k)) R B f dst A cap b AL capL l R' B')
  case atStart => exact ⟨0, R, B, rfl, rfl, by simpa [NS.puts] using hSW⟩
  case round =>
    clear c5 hSW
    obtain ⟨k, R', B', rfl, hk, hSW⟩ := hrel
    by_cases hlt : k < l.length
    · obtain ⟨x, hx⟩ : ∃ x, l[k]? = some x := ⟨_, List.getElem?_eq_getElem hlt⟩
      obtain ⟨hx0, hx1⟩ := hlr x (List.mem_of_getElem? hx)
      have htk : l.take (k + 1) = l.take k ++ [x] := by rw [List.take_add_one, hx]; rfl
      obtain ⟨T, HT⟩ : ∃ T, Hid (T = S.puts f dst b (l.take k)) := ⟨_, Lib.hid rfl⟩
      have HT' : Hid (S.puts f dst b (l.take (k + 1)) = T.put f dst b x) := Lib.hid (by rw [htk, NS.puts_snoc, HT.out])
      obtain ⟨e1, e2, e3, e4, e5, e6, e7⟩ := NS.puts_facts f dst b (l.take k) S hWF.nodup
      rw [← HT.out] at hSW e1 e2 e3 e4 e5 e6 e7
      have hlk : (l.take k).length = k := by rw [List.length_take]; omega
      have ht1 := hWF.next
      have ht2 := hWF.now
      have hT1 : 0 ≤ T.now ∧ T.now ≤ 1000000 := by rw [e2]; omega
      have hT2 : 0 ≤ T.next ∧ T.next ≤ 1000008 := by rw [e4, hlk]; omega
      have hT3 : total T.due ≤ 4104 := by rw [e6, hlk]; have := hWF.room; omega
      clear e1 e2 e3 e4 e5 e6 ht1 ht2 hlk htk
      obtain ⟨g0, o0, cp0, hv0, _, hsl0⟩ := hSW.ll.at_ hx
      cases hv0
      have hcell : wr.cell? ⟨g0, o0 + k, none⟩ = some (.int .i64 x) := by simpa using hsl0 0 (by decide)
      obtain ⟨⟨cs, hbt, hct⟩, D, hD, hd⟩ := id hSW.net
      have q1 : IntKind.i64.wrap (T.now + x) = T.now + x := IntWalk.i64_in _ (by omega)
      have q2 : IntKind.i64.wrap (T.next + 1) = T.next + 1 := IntWalk.i64_in _ (by omega)
      obtain ⟨hr, hap⟩ := hd.row (T.now + x)
      have hrl : (rowl D (T.now + x)).length ≤ 4104 := by
        have e := congrArg List.length (rowl_at hD (T.now + x))
        rw [List.length_map] at e
        have := total_at (T.now + x) T.due
        have e2 : ((T.at_ (T.now + x)).length : Int) = ((mlook (T.now + x) T.due).getD []).length := rfl
        omega
      have HRL := Lib.hid hrl
      clear hrl
      obtain ⟨LB, HLB⟩ : ∃ LB, Hid (LB = ownB (rowv D (T.now + x))) := ⟨_, Lib.hid rfl⟩
      have nty : ∀ {ty : TypeId}, ty ≠ 77 → ∀ s ∈ LB, ∀ cs, ¬ Blk wr s ty cs := fun hne s hs cs hb => by
        rw [HLB.out] at hs
        obtain ⟨cs', h'⟩ := hr.own.blk s hs
        exact hb.ne_ h' hne rfl
      have noLB : ∀ g, g < w.heap.size ∧ g ∉ t :: mb :: R → g ∉ LB := fun g hg hm => by
        rw [HLB.out] at hm
        rcases hSW.r g (hr.row g hm) with h1 | h1
        · exact hg.2 (by simp [h1])
        · omega
      have nmb : mb ∉ LB := fun hm => hd.mapR (hr.row mb (by rw [HLB.out] at hm; exact hm))
      have F0 : ∀ W, Keep LB wr W → W.cell? ⟨t, 1, none⟩ = some (.int .i64 T.now) ∧ W.cell? ⟨t, 3, none⟩ = some (.int .i64 T.next) ∧ W.cell? ⟨t, 4, none⟩ = some (.map (some mb)) := fun W hk => by
        have hb := hbt.keep hk (fun hm => nty (by decide) t hm _ hbt)
        simp only [hb.cell]
        exact ⟨hct.c1, hct.c3, hct.c4⟩
      have F4 := fun W (hk : Keep LB wr W) => (hSW.b4.keep hk (fun hm => nty (by decide) _ hm _ hSW.b4)).cell
      have FL : ∀ W, Keep LB wr W → (Instr.lookup 68 (.map (some mb)) (.int .i64 (T.now + x)) false).run Try.prog W = .ok (rowv D (T.now + x)) W := fun W hk => (hd.map.keep hk nmb).look_one k3 Try.underlying68 zero74 _
      have FV := fun W (hk : Keep LB wr W) => hSW.v.keep hk (fun hne g hg _ => noLB g (hSW.vn hne g hg))
      obtain ⟨RV, HRV⟩ : ∃ RV, Hid (RV = rowv D (T.now + x)) := ⟨_, Lib.hid rfl⟩
      rw [← HRV.out] at FL
      go_upto_region 14 with fail
      refine wp_region_noPanic ?_
      refine Bz.wp_region_E (S := (fun w' => Keep LB wr w')) (E := [30]) (by kernel_rfl) (by exact (Keep.refl _ _).drew) (fun hHeld => ?_)
      obtain ⟨wd, hwd⟩ : ∃ W, W = wr.drew := ⟨_, rfl⟩
      have hdd : DueAt wd mb D R' B' := by rw [hwd]; exact hd.keep0 (Keep.refl _ _).drew
      have hz0 : wr.heap.size ≤ wd.heap.size := by rw [hwd]; exact hHeld.size
      rw [← hwd] at hHeld ⊢
      clear hwd
      refine Bz.wpAnyE_take (i := 0) (oi := { dst := some 50, op := Go.Op.move (Go.Operand.tmp 0), type := 23, pos := "net.go:81", after := #[], guard := none }) (v := ?_) rfl (by kernel_rfl) (by kernel_rfl) (by kernel_rfl) (by kernel_rfl) (fun _ _ _ h => h) (Or.inl ⟨by rfl, ?_⟩) hHeld ?_
      rotate_left 1
      · (intro w hSw; have f0 := F0 w hSw; have f4 := F4 w hSw; have fl := FL w hSw; go_simp; first | done | with_reducible rfl)
      try simp only [Act.put, List.setIfInBounds_toArray, List.set_cons_zero, List.set_cons_succ]
      refine Bz.wpAnyE_take (i := 1) (oi := { dst := some 51, op := Go.Op.nilCheck (Go.Operand.tmp 50), type := 0, pos := "net.go:81", after := #[{ on := 0, ground := Go.Ground.data }], guard := none }) (v := ?_) rfl (by kernel_rfl) (by kernel_rfl) (by kernel_rfl) (by kernel_rfl) (fun _ _ _ h => h) (Or.inl ⟨by rfl, ?_⟩) hHeld ?_
      rotate_left 1
      · (intro w hSw; have f0 := F0 w hSw; have f4 := F4 w hSw; have fl := FL w hSw; go_simp; first | done | with_reducible rfl)
      try simp only [Act.put, List.setIfInBounds_toArray, List.set_cons_zero, List.set_cons_succ]
      refine Bz.wpAnyE_take (i := 2) (oi := { dst := some 52, op := Go.Op.fieldAddr 72 (Go.Operand.tmp 51) 4, type := 0, pos := "net.go:81", after := #[{ on := 1, ground := Go.Ground.data }], guard := none }) (v := ?_) rfl (by kernel_rfl) (by kernel_rfl) (by kernel_rfl) (by kernel_rfl) (fun _ _ _ h => h) (Or.inl ⟨by rfl, ?_⟩) hHeld ?_
      rotate_left 1
      · (intro w hSw; have f0 := F0 w hSw; have f4 := F4 w hSw; have fl := FL w hSw; go_simp; first | done | with_reducible rfl)
      try simp only [Act.put, List.setIfInBounds_toArray, List.set_cons_zero, List.set_cons_succ]
      refine Bz.wpAnyE_take (i := 3) (oi := { dst := some 53, op := Go.Op.load 68 (Go.Operand.tmp 52), type := 68, pos := "net.go:81", after := #[{ on := 2, ground := Go.Ground.data }], guard := none }) (v := ?_) rfl (by kernel_rfl) (by kernel_rfl) (by kernel_rfl) (by kernel_rfl) (fun _ _ _ h => h) (Or.inl ⟨by rfl, ?_⟩) hHeld ?_
      rotate_left 1
      · (intro w hSw; have f0 := F0 w hSw; have f4 := F4 w hSw; have fl := FL w hSw; go_simp; first | done | with_reducible rfl)
      try simp only [Act.put, List.setIfInBounds_toArray, List.set_cons_zero, List.set_cons_succ]
      refine Bz.wpAnyE_take (i := 4) (oi := { dst := some 54, op := Go.Op.move (Go.Operand.tmp 0), type := 23, pos := "net.go:81", after := #[], guard := none }) (v := ?_) rfl (by kernel_rfl) (by kernel_rfl) (by kernel_rfl) (by kernel_rfl) (fun _ _ _ h => h) (Or.inl ⟨by rfl, ?_⟩) hHeld ?_
      rotate_left 1
      · (intro w hSw; have f0 := F0 w hSw; have f4 := F4 w hSw; have fl := FL w hSw; go_simp; first | done | with_reducible rfl)
      try simp only [Act.put, List.setIfInBounds_toArray, List.set_cons_zero, List.set_cons_succ]
      refine Bz.wpAnyE_take (i := 5) (oi := { dst := some 55, op := Go.Op.nilCheck (Go.Operand.tmp 54), type := 0, pos := "net.go:81", after := #[{ on := 4, ground := Go.Ground.data }], guard := none }) (v := ?_) rfl (by kernel_rfl) (by kernel_rfl) (by kernel_rfl) (by kernel_rfl) (fun _ _ _ h => h) (Or.inl ⟨by rfl, ?_⟩) hHeld ?_
      rotate_left 1
      · (intro w hSw; have f0 := F0 w hSw; have f4 := F4 w hSw; have fl := FL w hSw; go_simp; first | done | with_reducible rfl)
      try simp only [Act.put, List.setIfInBounds_toArray, List.set_cons_zero, List.set_cons_succ]
      refine Bz.wpAnyE_take (i := 6) (oi := { dst := some 56, op := Go.Op.fieldAddr 72 (Go.Operand.tmp 55) 1, type := 0, pos := "net.go:81", after := #[{ on := 5, ground := Go.Ground.data }], guard := none }) (v := ?_) rfl (by kernel_rfl) (by kernel_rfl) (by kernel_rfl) (by kernel_rfl) (fun _ _ _ h => h) (Or.inl ⟨by rfl, ?_⟩) hHeld ?_
      rotate_left 1
      · (intro w hSw; have f0 := F0 w hSw; have f4 := F4 w hSw; have fl := FL w hSw; go_simp; first | done | with_reducible rfl)
      try simp only [Act.put, List.setIfInBounds_toArray, List.set_cons_zero, List.set_cons_succ]
      refine Bz.wpAnyE_take (i := 7) (oi := { dst := some 57, op := Go.Op.load 3 (Go.Operand.tmp 56), type := 3, pos := "net.go:81", after := #[{ on := 6, ground := Go.Ground.data }], guard := none }) (v := ?_) rfl (by kernel_rfl) (by kernel_rfl) (by kernel_rfl) (by kernel_rfl) (fun _ _ _ h => h) (Or.inl ⟨by rfl, ?_⟩) hHeld ?_
      rotate_left 1
      · (intro w hSw; have f0 := F0 w hSw; have f4 := F4 w hSw; have fl := FL w hSw; go_simp; first | done | with_reducible rfl)
      try simp only [Act.put, List.setIfInBounds_toArray, List.set_cons_zero, List.set_cons_succ]
      refine Bz.wpAnyE_take (i := 8) (oi := { dst := some 58, op := Go.Op.move (Go.Operand.tmp 8), type := 3, pos := "net.go:81", after := #[], guard := none }) (v := ?_) rfl (by kernel_rfl) (by kernel_rfl) (by kernel_rfl) (by kernel_rfl) (fun _ _ _ h => h) (Or.inl ⟨by rfl, ?_⟩) hHeld ?_
      rotate_left 1
      · (intro w hSw; have f0 := F0 w hSw; have f4 := F4 w hSw; have fl := FL w hSw; go_simp; first | done | with_reducible rfl)
      try simp only [Act.put, List.setIfInBounds_toArray, List.set_cons_zero, List.set_cons_succ]
      refine Bz.wpAnyE_take (i := 9) (oi := { dst := some 59, op := Go.Op.binOp Go.BinOp.add 3 (Go.Operand.tmp 57) (Go.Operand.tmp 58) 3, type := 3, pos := "net.go:81", after := #[{ on := 7, ground := Go.Ground.data }, { on := 8, ground := Go.Ground.data }], guard := none }) (v := ?_) rfl (by kernel_rfl) (by kernel_rfl) (by kernel_rfl) (by kernel_rfl) (fun _ _ _ h => h) (Or.inl ⟨by rfl, ?_⟩) hHeld ?_
      rotate_left 1
      · (intro w hSw; have f0 := F0 w hSw; have f4 := F4 w hSw; have fl := FL w hSw; go_simp; first | done | with_reducible rfl)
      try simp only [Act.put, List.setIfInBounds_toArray, List.set_cons_zero, List.set_cons_succ]
      refine Bz.wpAnyE_take (i := 10) (oi := { dst := some 60, op := Go.Op.move (Go.Operand.tmp 0), type := 23, pos := "net.go:81", after := #[], guard := none }) (v := ?_) rfl (by kernel_rfl) (by kernel_rfl) (by kernel_rfl) (by kernel_rfl) (fun _ _ _ h => h) (Or.inl ⟨by rfl, ?_⟩) hHeld ?_
      rotate_left 1
      · (intro w hSw; have f0 := F0 w hSw; have f4 := F4 w hSw; have fl := FL w hSw; go_simp; first | done | with_reducible rfl)
      try simp only [Act.put, List.setIfInBounds_toArray, List.set_cons_zero, List.set_cons_succ]
      refine Bz.wpAnyE_take (i := 11) (oi := { dst := some 61, op := Go.Op.nilCheck (Go.Operand.tmp 60), type := 0, pos := "net.go:81", after := #[{ on := 10, ground := Go.Ground.data }], guard := none }) (v := ?_) rfl (by kernel_rfl) (by kernel_rfl) (by kernel_rfl) (by kernel_rfl) (fun _ _ _ h => h) (Or.inl ⟨by rfl, ?_⟩) hHeld ?_
      rotate_left 1
      · (intro w hSw; have f0 := F0 w hSw; have f4 := F4 w hSw; have fl := FL w hSw; go_simp; first | done | with_reducible rfl)
      try simp only [Act.put, List.setIfInBounds_toArray, List.set_cons_zero, List.set_cons_succ]
      refine Bz.wpAnyE_take (i := 12) (oi := { dst := some 62, op := Go.Op.fieldAddr 72 (Go.Operand.tmp 61) 4, type := 0, pos := "net.go:81", after := #[{ on := 11, ground := Go.Ground.data }], guard := none }) (v := ?_) rfl (by kernel_rfl) (by kernel_rfl) (by kernel_rfl) (by kernel_rfl) (fun _ _ _ h => h) (Or.inl ⟨by rfl, ?_⟩) hHeld ?_
      rotate_left 1
      · (intro w hSw; have f0 := F0 w hSw; have f4 := F4 w hSw; have fl := FL w hSw; go_simp; first | done | with_reducible rfl)
      try simp only [Act.put, List.setIfInBounds_toArray, List.set_cons_zero, List.set_cons_succ]
      refine Bz.wpAnyE_take (i := 13) (oi := { dst := some 63, op := Go.Op.load 68 (Go.Operand.tmp 62), type := 68, pos := "net.go:81", after := #[{ on := 12, ground := Go.Ground.data }], guard := none }) (v := ?_) rfl (by kernel_rfl) (by kernel_rfl) (by kernel_rfl) (by kernel_rfl) (fun _ _ _ h => h) (Or.inl ⟨by rfl, ?_⟩) hHeld ?_
      rotate_left 1
      · (intro w hSw; have f0 := F0 w hSw; have f4 := F4 w hSw; have fl := FL w hSw; go_simp; first | done | with_reducible rfl)
      try simp only [Act.put, List.setIfInBounds_toArray, List.set_cons_zero, List.set_cons_succ]
      refine Bz.wpAnyE_take (i := 14) (oi := { dst := some 64, op := Go.Op.move (Go.Operand.tmp 0), type := 23, pos := "net.go:81", after := #[], guard := none }) (v := ?_) rfl (by kernel_rfl) (by kernel_rfl) (by kernel_rfl) (by kernel_rfl) (fun _ _ _ h => h) (Or.inl ⟨by rfl, ?_⟩) hHeld ?_
      rotate_left 1
      · (intro w hSw; have f0 := F0 w hSw; have f4 := F4 w hSw; have fl := FL w hSw; go_simp; first | done | with_reducible rfl)
      try simp only [Act.put, List.setIfInBounds_toArray, List.set_cons_zero, List.set_cons_succ]
      refine Bz.wpAnyE_take (i := 15) (oi := { dst := some 65, op := Go.Op.nilCheck (Go.Operand.tmp 64), type := 0, pos := "net.go:81", after := #[{ on := 14, ground := Go.Ground.data }], guard := none }) (v := ?_) rfl (by kernel_rfl) (by kernel_rfl) (by kernel_rfl) (by kernel_rfl) (fun _ _ _ h => h) (Or.inl ⟨by rfl, ?_⟩) hHeld ?_
      rotate_left 1
      · (intro w hSw; have f0 := F0 w hSw; have f4 := F4 w hSw; have fl := FL w hSw; go_simp; first | done | with_reducible rfl)
      try simp only [Act.put, List.setIfInBounds_toArray, List.set_cons_zero, List.set_cons_succ]
      refine Bz.wpAnyE_take (i := 16) (oi := { dst := some 66, op := Go.Op.fieldAddr 72 (Go.Operand.tmp 65) 1, type := 0, pos := "net.go:81", after := #[{ on := 15, ground := Go.Ground.data }], guard := none }) (v := ?_) rfl (by kernel_rfl) (by kernel_rfl) (by kernel_rfl) (by kernel_rfl) (fun _ _ _ h => h) (Or.inl ⟨by rfl, ?_⟩) hHeld ?_
      rotate_left 1
      · (intro w hSw; have f0 := F0 w hSw; have f4 := F4 w hSw; have fl := FL w hSw; go_simp; first | done | with_reducible rfl)
      try simp only [Act.put, List.setIfInBounds_toArray, List.set_cons_zero, List.set_cons_succ]
      refine Bz.wpAnyE_take (i := 17) (oi := { dst := some 67, op := Go.Op.load 3 (Go.Operand.tmp 66), type := 3, pos := "net.go:81", after := #[{ on := 16, ground := Go.Ground.data }], guard := none }) (v := ?_) rfl (by kernel_rfl) (by kernel_rfl) (by kernel_rfl) (by kernel_rfl) (fun _ _ _ h => h) (Or.inl ⟨by rfl, ?_⟩) hHeld ?_
      rotate_left 1
      · (intro w hSw; have f0 := F0 w hSw; have f4 := F4 w hSw; have fl := FL w hSw; go_simp; first | done | with_reducible rfl)
      try simp only [Act.put, List.setIfInBounds_toArray, List.set_cons_zero, List.set_cons_succ]
      refine Bz.wpAnyE_take (i := 18) (oi := { dst := some 68, op := Go.Op.move (Go.Operand.tmp 8), type := 3, pos := "net.go:81", after := #[], guard := none }) (v := ?_) rfl (by kernel_rfl) (by kernel_rfl) (by kernel_rfl) (by kernel_rfl) (fun _ _ _ h => h) (Or.inl ⟨by rfl, ?_⟩) hHeld ?_
      rotate_left 1
      · (intro w hSw; have f0 := F0 w hSw; have f4 := F4 w hSw; have fl := FL w hSw; go_simp; first | done | with_reducible rfl)
      try simp only [Act.put, List.setIfInBounds_toArray, List.set_cons_zero, List.set_cons_succ]
      refine Bz.wpAnyE_take (i := 19) (oi := { dst := some 69, op := Go.Op.binOp Go.BinOp.add 3 (Go.Operand.tmp 67) (Go.Operand.tmp 68) 3, type := 3, pos := "net.go:81", after := #[{ on := 17, ground := Go.Ground.data }, { on := 18, ground := Go.Ground.data }], guard := none }) (v := ?_) rfl (by kernel_rfl) (by kernel_rfl) (by kernel_rfl) (by kernel_rfl) (fun _ _ _ h => h) (Or.inl ⟨by rfl, ?_⟩) hHeld ?_
      rotate_left 1
      · (intro w hSw; have f0 := F0 w hSw; have f4 := F4 w hSw; have fl := FL w hSw; go_simp; first | done | with_reducible rfl)
      try simp only [Act.put, List.setIfInBounds_toArray, List.set_cons_zero, List.set_cons_succ]
      refine Bz.wpAnyE_take (i := 20) (oi := { dst := some 70, op := Go.Op.lookup 68 (Go.Operand.tmp 63) (Go.Operand.tmp 69) false, type := 74, pos := "net.go:81", after := #[{ on := 13, ground := Go.Ground.data }, { on := 19, ground := Go.Ground.data }], guard := none }) (v := ?_) rfl (by kernel_rfl) (by kernel_rfl) (by kernel_rfl) (by kernel_rfl) (fun _ _ _ h => h) (Or.inl ⟨by rfl, ?_⟩) hHeld ?_
      rotate_left 1
      · (intro w hSw; have f0 := F0 w hSw; have f4 := F4 w hSw; have fl := FL w hSw; go_simp; first | done | with_reducible rfl)
      try simp only [Act.put, List.setIfInBounds_toArray, List.set_cons_zero, List.set_cons_succ]
      refine Bz.wpAnyE_take (i := 21) (oi := { dst := some 71, op := Go.Op.load 35 (Go.Operand.tmp 4), type := 35, pos := "net.go:81", after := #[], guard := none }) (v := ?_) rfl (by kernel_rfl) (by kernel_rfl) (by kernel_rfl) (by kernel_rfl) (fun _ _ _ h => h) (Or.inl ⟨by rfl, ?_⟩) hHeld ?_
      rotate_left 1
      · (intro w hSw; have f0 := F0 w hSw; have f4 := F4 w hSw; have fl := FL w hSw; go_simp; first | done | with_reducible rfl)
      try simp only [Act.put, List.setIfInBounds_toArray, List.set_cons_zero, List.set_cons_succ]
      refine Bz.wpAnyE_take (i := 23) (oi := { dst := some 73, op := Go.Op.move (Go.Operand.tmp 0), type := 23, pos := "net.go:81", after := #[], guard := none }) (v := ?_) rfl (by kernel_rfl) (by kernel_rfl) (by kernel_rfl) (by kernel_rfl) (fun _ _ _ h => h) (Or.inl ⟨by rfl, ?_⟩) hHeld ?_
      rotate_left 1
      · (intro w hSw; have f0 := F0 w hSw; have f4 := F4 w hSw; have fl := FL w hSw; go_simp; first | done | with_reducible rfl)
      try simp only [Act.put, List.setIfInBounds_toArray, List.set_cons_zero, List.set_cons_succ]
      refine Bz.wpAnyE_take (i := 24) (oi := { dst := some 74, op := Go.Op.nilCheck (Go.Operand.tmp 73), type := 0, pos := "net.go:81", after := #[{ on := 23, ground := Go.Ground.data }], guard := none }) (v := ?_) rfl (by kernel_rfl) (by kernel_rfl) (by kernel_rfl) (by kernel_rfl) (fun _ _ _ h => h) (Or.inl ⟨by rfl, ?_⟩) hHeld ?_
      rotate_left 1
      · (intro w hSw; have f0 := F0 w hSw; have f4 := F4 w hSw; have fl := FL w hSw; go_simp; first | done | with_reducible rfl)
      try simp only [Act.put, List.setIfInBounds_toArray, List.set_cons_zero, List.set_cons_succ]
      refine Bz.wpAnyE_take (i := 25) (oi := { dst := some 75, op := Go.Op.fieldAddr 72 (Go.Operand.tmp 74) 3, type := 0, pos := "net.go:81", after := #[{ on := 24, ground := Go.Ground.data }], guard := none }) (v := ?_) rfl (by kernel_rfl) (by kernel_rfl) (by kernel_rfl) (by kernel_rfl) (fun _ _ _ h => h) (Or.inl ⟨by rfl, ?_⟩) hHeld ?_
      rotate_left 1
      · (intro w hSw; have f0 := F0 w hSw; have f4 := F4 w hSw; have fl := FL w hSw; go_simp; first | done | with_reducible rfl)
      try simp only [Act.put, List.setIfInBounds_toArray, List.set_cons_zero, List.set_cons_succ]
      refine Bz.wpAnyE_take (i := 26) (oi := { dst := some 76, op := Go.Op.load 3 (Go.Operand.tmp 75), type := 3, pos := "net.go:81", after := #[{ on := 25, ground := Go.Ground.data }], guard := none }) (v := ?_) rfl (by kernel_rfl) (by kernel_rfl) (by kernel_rfl) (by kernel_rfl) (fun _ _ _ h => h) (Or.inl ⟨by rfl, ?_⟩) hHeld ?_
      rotate_left 1
      · (intro w hSw; have f0 := F0 w hSw; have f4 := F4 w hSw; have fl := FL w hSw; go_simp; first | done | with_reducible rfl)
      try simp only [Act.put, List.setIfInBounds_toArray, List.set_cons_zero, List.set_cons_succ]
      refine Bz.wpAnyE_ready (rs := [22]) (by kernel_rfl) (by simp) ?_
      refine Bz.AllReadyE.cons (o := { dst := some 72, op := Go.Op.call { callee := Go.Callee.value (Go.Operand.func 27), args := #[Go.Operand.tmp 71], argTypes := #[35] }, type := 35, pos := "net.go:81", after := #[{ on := 21, ground := Go.Ground.data }], guard := none }) rfl (fun K hK => ?_) Bz.AllReadyE.nil
      go_simp
      
      refine (hcl _ (FV _ hHeld)).mono ?_
      rintro e w5 ⟨⟨V5, rfl, hO5⟩, hk5⟩
      have hdd := hdd.keep0 hk5
      have hz5 := hk5.size
      obtain ⟨A5, cap5, rfl, _⟩ := hO5.sl benc_sz
      refine hK.out _ _ (by exact hHeld.trans hk5.sub) ?_
      clear hHeld hK K; intro hHeld
      try simp only [Act.put, List.setIfInBounds_toArray, List.set_cons_zero, List.set_cons_succ]
      refine Bz.wpAnyE_take (i := 27) (oi := { dst := some 77, op := Go.Op.build 77 #[(0, Go.Operand.tmp 72), (1, Go.Operand.tmp 76)], type := 77, pos := "net.go:81", after := #[{ on := 22, ground := Go.Ground.data }, { on := 26, ground := Go.Ground.data }], guard := none }) (v := ?_) rfl (by kernel_rfl) (by kernel_rfl) (by kernel_rfl) (by kernel_rfl) (fun _ _ _ h => h) (Or.inl ⟨by rfl, ?_⟩) hHeld ?_
      rotate_left 1
      · (intro w hSw; have f0 := F0 w hSw; have f4 := F4 w hSw; have fl := FL w hSw; go_simp; first | done | with_reducible rfl)
      try simp only [Act.put, List.setIfInBounds_toArray, List.set_cons_zero, List.set_cons_succ]
      refine Bz.wpAnyE_ready (rs := [28]) (by kernel_rfl) (by simp) ?_
      refine Bz.AllReadyE.cons (o := { dst := some 78, op := Go.Op.buildSlice 74 1 #[(0, Go.Operand.tmp 77)], type := 74, pos := "net.go:81", after := #[{ on := 27, ground := Go.Ground.data }], guard := none }) rfl (fun K hK => ?_) Bz.AllReadyE.nil
      
      go_simp
      have hBn := Blk.new w5 77 (senc ⟨f, dst, .slice A5 b.length cap5, b, T.next⟩)
      have hdd := hdd.keep0 ((Keep.refl _ w5).alloc (.cells (senc ⟨f, dst, .slice A5 b.length cap5, b, T.next⟩) 77))
      have hO5 := hO5.alloc (.cells (senc ⟨f, dst, .slice A5 b.length cap5, b, T.next⟩) 77)
      refine hK.out _ _ (by exact hHeld.alloc _) ?_
      clear hHeld hK K; intro hHeld
      try simp only [Act.put, List.setIfInBounds_toArray, List.set_cons_zero, List.set_cons_succ]
      refine Bz.wpAnyE_ready (rs := [29]) (by kernel_rfl) (by simp) ?_
      refine Bz.AllReadyE.cons (o := { dst := some 79, op := Go.Op.call { callee := Go.Callee.builtin Go.Builtin.append, args := #[Go.Operand.tmp 70, Go.Operand.tmp 78], argTypes := #[74, 74] }, type := 74, pos := "net.go:81", after := #[{ on := 20, ground := Go.Ground.data }, { on := 28, ground := Go.Ground.data }, { on := 22, ground := Go.Ground.chain }], guard := none }) rfl (fun K hK => ?_) Bz.AllReadyE.nil
      
      refine oper_append1_new _ _ 74 rfl app74 rfl (by rw [HRV.out]; exact (hdd.row (T.now + x)).1.own) rfl hBn rfl (senc_one _ rfl _ _ _ _) (by have := HRL.out; simp only; omega) (by have := HRL.out; unfold maxLen; simp only; omega) (Nat.zero_le _) ?_
      intro v6 w6 hO6 hk6 hf6
      have hk6 : Keep (ownB RV) _ w6 := hk6
      have hf6 : ∀ g ∈ ownB v6, g ∈ ownB RV ∨ (w5.alloc (.cells (senc ⟨f, dst, .slice A5 b.length cap5, b, T.next⟩) 77)).heap.size ≤ g := hf6
      rw [HRV.out] at hk6 hf6
      have hO6 : Own w6 0 77 4 senc v6 (rowl D (T.now + x) ++ [⟨f, dst, .slice A5 b.length cap5, b, T.next⟩]) := hO6
      obtain ⟨A6, cap6, rfl, _⟩ := hO6.sl senc_sz
      obtain ⟨n6, HN6⟩ : ∃ n6, Hid (n6 = (rowl D (T.now + x) ++ [(⟨f, dst, .slice A5 b.length cap5, b, T.next⟩ : Raw)]).length) := ⟨_, Lib.hid rfl⟩
      rw [← HN6.out] at hO6 hf6 ⊢
      refine hK.out _ _ (by exact hHeld.trans (by rw [HLB.out]; exact hk6)) ?_
      clear hHeld hK K; intro hHeld
      try simp only [Act.put, List.setIfInBounds_toArray, List.set_cons_zero, List.set_cons_succ]
      refine Bz.wpAnyE_ready (rs := [30]) (by kernel_rfl) (by simp) ?_
      refine Bz.AllReadyE.last (o := { dst := none, op := Go.Op.mapUpdate 68 (Go.Operand.tmp 53) (Go.Operand.tmp 59) (Go.Operand.tmp 79), type := 0, pos := "net.go:81", after := #[{ on := 3, ground := Go.Ground.data }, { on := 9, ground := Go.Ground.data }, { on := 29, ground := Go.Ground.data }, { on := 29, ground := Go.Ground.chain }, { on := 0, ground := Go.Ground.phase }, { on := 1, ground := Go.Ground.phase }, { on := 2, ground := Go.Ground.phase }, { on := 3, ground := Go.Ground.phase }, { on := 4, ground := Go.Ground.phase }, { on := 5, ground := Go.Ground.phase }, { on := 6, ground := Go.Ground.phase }, { on := 7, ground := Go.Ground.phase }, { on := 8, ground := Go.Ground.phase }, { on := 9, ground := Go.Ground.phase }, { on := 10, ground := Go.Ground.phase }, { on := 11, ground := Go.Ground.phase }, { on := 12, ground := Go.Ground.phase }, { on := 13, ground := Go.Ground.phase }, { on := 14, ground := Go.Ground.phase }, { on := 15, ground := Go.Ground.phase }, { on := 16, ground := Go.Ground.phase }, { on := 17, ground := Go.Ground.phase }, { on := 18, ground := Go.Ground.phase }, { on := 19, ground := Go.Ground.phase }, { on := 20, ground := Go.Ground.phase }, { on := 21, ground := Go.Ground.phase }, { on := 22, ground := Go.Ground.phase }, { on := 23, ground := Go.Ground.phase }, { on := 24, ground := Go.Ground.phase }, { on := 25, ground := Go.Ground.phase }, { on := 26, ground := Go.Ground.phase }, { on := 27, ground := Go.Ground.phase }, { on := 28, ground := Go.Ground.phase }, { on := 29, ground := Go.Ground.phase }], guard := none }) rfl (by rfl) (fun K hK => ?_) Bz.AllReadyE.nil
      
      have hm6 : MapAt w6 mb (Value.int .i64) Row.v D := hdd.map.keep hk6 (by rw [← HLB.out]; exact nmb)
      obtain ⟨w7, hmu, hm7, hk7⟩ := map_update hm6 (T.now + x) (.slice A6 n6 cap6) (rowl D (T.now + x) ++ [⟨f, dst, .slice A5 b.length cap5, b, T.next⟩])
      go_simp
      refine hK.out _ _ ?_
      clear hK K
      try simp only [Act.put, List.setIfInBounds_toArray, List.set_cons_zero, List.set_cons_succ]
      refine Bz.wpAnyE_done (by kernel_rfl) ?_ _
      refine NoPanic.normal ?_
      have hput := hdd.put hO6 hk6 hf6 (hO5.mono (Nat.zero_le _)) hm7 hk7
      have hkT : Keep (mb :: LB) wr w7 := (hHeld.mono (fun k _ hm => List.mem_cons_of_mem _ hm)).andThen hk7 (fun k hk => .inl (by simp at hk; simp [hk]))
      have nty2 : ∀ {ty : TypeId}, ty ≠ 77 → ∀ s ∈ mb :: LB, ∀ cs, ¬ Blk wr s ty cs := fun hne s hs cs hb => by
        rcases List.mem_cons.1 hs with rfl | hs
        · exact hd.map.ne_blk hb rfl
        · exact nty hne s hs cs hb
      have hw5 : w.heap.size ≤ w5.heap.size := by have := hSW.k.size; omega
      have hSW7 : ∃ R'' B'', SendW w w7 t mb { T with due := mput (T.now + x) (T.at_ (T.now + x) ++ [⟨f, dst, b, T.next⟩]) T.due } R B f dst A cap b (some ⟨g0, o0, none⟩) capL l R'' B'' := by
        refine ⟨_, _, ⟨⟨cs, hbt.keep hkT (fun hm => nty2 (by decide) t hm _ hbt), ⟨hct.size, hct.c0, hct.c1, hct.c2, hct.c3, hct.c4, hct.cut⟩⟩, _, due_put hD _ _ _, hput⟩, hSW.b4.keep hkT (fun hm => nty2 (by decide) _ hm _ hSW.b4), hSW.b5.keep hkT (fun hm => nty2 (by decide) _ hm _ hSW.b5), hSW.v.keep hkT (fun hne g hg _ hm => by rcases List.mem_cons.1 hm with e | hm; exact (hSW.vn hne g hg).2 (by simp [e]); exact noLB g (hSW.vn hne g hg) hm), hSW.ll.keep hkT (fun hne g hg _ hm => by rcases List.mem_cons.1 hm with e | hm; exact (hSW.ln hne g hg).2 (by simp [e]); exact noLB g (hSW.ln hne g hg) hm), hSW.vn, hSW.ln, fun g hg => ?_, fun g hg => ?_, hSW.k.andThen hkT (fun g hg => ?_)⟩
        · rw [List.mem_append, List.mem_filter] at hg
          rcases hg with ⟨hg, _⟩ | hg
          · exact hSW.r g hg
          · rcases hf6 g hg with h1 | h1
            · exact hSW.r g (hr.row g h1)
            · exact .inr (by simp at h1; omega)
        · rw [List.mem_append] at hg
          rcases hg with hg | hg
          · exact hSW.by_ g hg
          · exact .inr (by have := (hO5.lt g hg).1; have := hSW.k.size; omega)
        · rcases List.mem_cons.1 hg with rfl | hg
          · exact .inl (by simp)
          · rw [HLB.out] at hg
            rcases hSW.r g (hr.row g hg) with h1 | h1
            · exact .inl (by simp [h1])
            · exact .inr h1
      obtain ⟨R'', B'', hSW7⟩ := hSW7
      have c7 := hSW7.net.cells
      have f7 := hSW7.net.frozen
      clear F0 F4 FL FV hput hkT nty nty2 noLB hO6 hO5 hBn hm7 hdd hap
      go_wp2_with fail
      have hS8 := hSW7.set_ (S' := T.put f dst b x) 3 (.int .i64 (T.next + 1)) rfl (fun cs hc => hc.next _)
      rw [← HT'.out] at hS8
      go_roundg (l.length - (k + 1))
      case measure => omega
      case rel => exact ⟨k + 1, _, _, by go_num, by omega, hS8⟩
    · have hkl : k = l.length := by omega
      subst hkl
      rw [List.take_length] at hSW
      obtain ⟨T, HT⟩ : ∃ T, Hid (T = S.puts f dst b l) := ⟨_, Lib.hid rfl⟩
      obtain ⟨_, _, e3, _⟩ := NS.puts_facts f dst b l S hWF.nodup
      rw [← HT.out] at hSW e3
      have hroom := HR.out
      have q1 : IntKind.i64.wrap (T.way + (l.length : Int)) = T.way + l.length := IntWalk.i64_in _ (by omega)
      have hE : Hid (S.sent f dst b l = { T with way := T.way + l.length }) := Lib.hid (by unfold NS.sent; rw [← HT.out, e3])
      have F0 := fun W (hk : Keep [] wr W) => (hSW.net.keep0 hk).cells
      have F5 := fun W (hk : Keep [] wr W) => (hSW.b5.keep hk (by simp)).cell
      have Ff := fun W (hk : Keep [] wr W) => (hSW.net.keep0 hk).frozen
      clear e3 hroom
      go_upto_region 17 with fail
      refine wp_region_noPanic ?_
      refine Bz.wp_region_E (S := (fun w' => Keep [] wr w')) (E := [10]) (by kernel_rfl) (by exact (Keep.refl _ _).drew) (fun hHeld => ?_)
      refine Bz.wpAnyE_take (i := 0) (oi := { dst := some 88, op := Go.Op.move (Go.Operand.tmp 0), type := 23, pos := "net.go:84", after := #[], guard := none }) (v := ?_) rfl (by kernel_rfl) (by kernel_rfl) (by kernel_rfl) (by kernel_rfl) (fun _ _ _ h => h) (Or.inl ⟨by rfl, ?_⟩) hHeld ?_
      rotate_left 1
      · (intro w hSw; have f0 := F0 w hSw; have f5 := F5 w hSw; go_simp; first | done | with_reducible rfl)
      try simp only [Act.put, List.setIfInBounds_toArray, List.set_cons_zero, List.set_cons_succ]
      refine Bz.wpAnyE_take (i := 1) (oi := { dst := some 89, op := Go.Op.nilCheck (Go.Operand.tmp 88), type := 0, pos := "net.go:84", after := #[{ on := 0, ground := Go.Ground.data }], guard := none }) (v := ?_) rfl (by kernel_rfl) (by kernel_rfl) (by kernel_rfl) (by kernel_rfl) (fun _ _ _ h => h) (Or.inl ⟨by rfl, ?_⟩) hHeld ?_
      rotate_left 1
      · (intro w hSw; have f0 := F0 w hSw; have f5 := F5 w hSw; go_simp; first | done | with_reducible rfl)
      try simp only [Act.put, List.setIfInBounds_toArray, List.set_cons_zero, List.set_cons_succ]
      refine Bz.wpAnyE_take (i := 2) (oi := { dst := some 90, op := Go.Op.fieldAddr 72 (Go.Operand.tmp 89) 2, type := 0, pos := "net.go:84", after := #[{ on := 1, ground := Go.Ground.data }], guard := none }) (v := ?_) rfl (by kernel_rfl) (by kernel_rfl) (by kernel_rfl) (by kernel_rfl) (fun _ _ _ h => h) (Or.inl ⟨by rfl, ?_⟩) hHeld ?_
      rotate_left 1
      · (intro w hSw; have f0 := F0 w hSw; have f5 := F5 w hSw; go_simp; first | done | with_reducible rfl)
      try simp only [Act.put, List.setIfInBounds_toArray, List.set_cons_zero, List.set_cons_succ]
      refine Bz.wpAnyE_take (i := 3) (oi := { dst := some 91, op := Go.Op.load 3 (Go.Operand.tmp 90), type := 3, pos := "net.go:84", after := #[{ on := 2, ground := Go.Ground.data }], guard := none }) (v := ?_) rfl (by kernel_rfl) (by kernel_rfl) (by kernel_rfl) (by kernel_rfl) (fun _ _ _ h => h) (Or.inl ⟨by rfl, ?_⟩) hHeld ?_
      rotate_left 1
      · (intro w hSw; have f0 := F0 w hSw; have f5 := F5 w hSw; go_simp; first | done | with_reducible rfl)
      try simp only [Act.put, List.setIfInBounds_toArray, List.set_cons_zero, List.set_cons_succ]
      refine Bz.wpAnyE_take (i := 4) (oi := { dst := some 92, op := Go.Op.fieldAddr 31 (Go.Operand.tmp 5) 0, type := 0, pos := "net.go:84", after := #[], guard := none }) (v := ?_) rfl (by kernel_rfl) (by kernel_rfl) (by kernel_rfl) (by kernel_rfl) (fun _ _ _ h => h) (Or.inl ⟨by rfl, ?_⟩) hHeld ?_
      rotate_left 1
      · (intro w hSw; have f0 := F0 w hSw; have f5 := F5 w hSw; go_simp; first | done | with_reducible rfl)
      try simp only [Act.put, List.setIfInBounds_toArray, List.set_cons_zero, List.set_cons_succ]
      refine Bz.wpAnyE_take (i := 5) (oi := { dst := some 93, op := Go.Op.load 29 (Go.Operand.tmp 92), type := 29, pos := "net.go:84", after := #[{ on := 4, ground := Go.Ground.data }], guard := none }) (v := ?_) rfl (by kernel_rfl) (by kernel_rfl) (by kernel_rfl) (by kernel_rfl) (fun _ _ _ h => h) (Or.inl ⟨by rfl, ?_⟩) hHeld ?_
      rotate_left 1
      · (intro w hSw; have f0 := F0 w hSw; have f5 := F5 w hSw; go_simp; first | done | with_reducible rfl)
      try simp only [Act.put, List.setIfInBounds_toArray, List.set_cons_zero, List.set_cons_succ]
      refine Bz.wpAnyE_take (i := 6) (oi := { dst := some 94, op := Go.Op.call { callee := Go.Callee.builtin Go.Builtin.len, args := #[Go.Operand.tmp 93], argTypes := #[29] }, type := 3, pos := "net.go:84", after := #[{ on := 5, ground := Go.Ground.data }], guard := none }) (v := ?_) rfl (by kernel_rfl) (by kernel_rfl) (by kernel_rfl) (by kernel_rfl) (fun _ _ _ h => h) (Or.inl ⟨by rfl, ?_⟩) hHeld ?_
      rotate_left 1
      · (intro w hSw; have f0 := F0 w hSw; have f5 := F5 w hSw; go_simp; first | done | with_reducible rfl)
      try simp only [Act.put, List.setIfInBounds_toArray, List.set_cons_zero, List.set_cons_succ]
      refine Bz.wpAnyE_take (i := 7) (oi := { dst := some 95, op := Go.Op.binOp Go.BinOp.add 3 (Go.Operand.tmp 91) (Go.Operand.tmp 94) 3, type := 3, pos := "net.go:84", after := #[{ on := 3, ground := Go.Ground.data }, { on := 6, ground := Go.Ground.data }], guard := none }) (v := ?_) rfl (by kernel_rfl) (by kernel_rfl) (by kernel_rfl) (by kernel_rfl) (fun _ _ _ h => h) (Or.inl ⟨by rfl, ?_⟩) hHeld ?_
      rotate_left 1
      · (intro w hSw; have f0 := F0 w hSw; have f5 := F5 w hSw; go_simp; first | done | with_reducible rfl)
      try simp only [Act.put, List.setIfInBounds_toArray, List.set_cons_zero, List.set_cons_succ]
      refine Bz.wpAnyE_takeT (i := 8) (oi := { dst := some 96, op := Go.Op.nilCheck (Go.Operand.tmp 88), type := 0, pos := "net.go:84", after := #[{ on := 0, ground := Go.Ground.data }, { on := 0, ground := Go.Ground.phase }, { on := 1, ground := Go.Ground.phase }, { on := 2, ground := Go.Ground.phase }, { on := 3, ground := Go.Ground.phase }, { on := 4, ground := Go.Ground.phase }, { on := 5, ground := Go.Ground.phase }, { on := 6, ground := Go.Ground.phase }, { on := 7, ground := Go.Ground.phase }], guard := none }) (v := ?_) rfl (by kernel_rfl) (by kernel_rfl) (by kernel_rfl) (fun _ _ _ h => h) (Or.inl ⟨by rfl, ?_⟩) ?_
      rotate_left 1
      · (intro w _; go_simp; first | done | with_reducible rfl)
      try simp only [Act.put, List.setIfInBounds_toArray, List.set_cons_zero, List.set_cons_succ]
      refine Bz.wpAnyE_take (i := 9) (oi := { dst := some 97, op := Go.Op.fieldAddr 72 (Go.Operand.tmp 96) 2, type := 0, pos := "net.go:84", after := #[{ on := 8, ground := Go.Ground.data }, { on := 0, ground := Go.Ground.phase }, { on := 1, ground := Go.Ground.phase }, { on := 2, ground := Go.Ground.phase }, { on := 3, ground := Go.Ground.phase }, { on := 4, ground := Go.Ground.phase }, { on := 5, ground := Go.Ground.phase }, { on := 6, ground := Go.Ground.phase }, { on := 7, ground := Go.Ground.phase }], guard := none }) (v := ?_) rfl (by kernel_rfl) (by kernel_rfl) (by kernel_rfl) (by kernel_rfl) (fun _ _ _ h => h) (Or.inl ⟨by rfl, ?_⟩) hHeld ?_
      rotate_left 1
      · (intro w hSw; have f0 := F0 w hSw; have f5 := F5 w hSw; go_simp; first | done | with_reducible rfl)
      try simp only [Act.put, List.setIfInBounds_toArray, List.set_cons_zero, List.set_cons_succ]
      refine Bz.wpAnyE_ready (rs := [10]) (by kernel_rfl) (by simp) ?_
      refine Bz.AllReadyE.last (o := { dst := none, op := Go.Op.store 3 (Go.Operand.tmp 97) (Go.Operand.tmp 95), type := 0, pos := "net.go:84", after := #[{ on := 9, ground := Go.Ground.data }, { on := 7, ground := Go.Ground.data }, { on := 0, ground := Go.Ground.phase }, { on := 1, ground := Go.Ground.phase }, { on := 2, ground := Go.Ground.phase }, { on := 3, ground := Go.Ground.phase }, { on := 4, ground := Go.Ground.phase }, { on := 5, ground := Go.Ground.phase }, { on := 6, ground := Go.Ground.phase }, { on := 7, ground := Go.Ground.phase }], guard := none }) rfl (by rfl) (fun K hK => ?_) Bz.AllReadyE.nil
      
      have f0 := F0 _ hHeld
      have ff := Ff _ hHeld
      go_simp
      refine hK.out _ _ ?_
      clear hK K
      try simp only [Act.put, List.setIfInBounds_toArray, List.set_cons_zero, List.set_cons_succ]
      refine Bz.wpAnyE_done (by kernel_rfl) ?_ _
      refine NoPanic.normal ?_
      
      have hSd : SendW w wr.drew t mb T R B f dst A cap b AL capL l R' B' := ⟨hSW.net.keep0 (Keep.refl _ _).drew, hSW.b4.drew, hSW.b5.drew, hSW.v.drew, hSW.ll.drew, hSW.vn, hSW.ln, hSW.r, hSW.by_, hSW.k.drew⟩
      have hS8 := hSd.set_ (S' := { T with way := T.way + l.length }) 2 (.int .i64 (T.way + l.length)) rfl (fun cs hc => hc.way _)
      go_wp2_with fail
      go_ret
      exact ⟨rfl, R', B', by rw [hE.out]; exact hS8.net, hS8.r, hS8.by_, hS8.k⟩
/-- Send, whatever the letter and its fate. -/
theorem send_any {w : World} {t mb : Nat} {S : NS} {R B : List Nat} (h : NetAt w t mb S R B) (hWF : S.WF) (hnow : S.now ≤ 1000000) (hnext : S.next ≤ 1000000) {f dst : Int} {V L : Value} {b l : List Int} (hV : RdV w 1 benc V b) (hVn : b ≠ [] → ∀ g ∈ ownB V, g ∉ t :: mb :: R) (hL : RdV w 1 ienc L l) (hLn : l ≠ [] → ∀ g ∈ ownB L, g ∉ t :: mb :: R) :
    Calls Try.prog 13 #[.pointer (some ⟨t, 0, none⟩), .agg #[.int .i64 f, .int .i64 dst, V], .agg #[L]] w (fun e w' => e = .returned (.int .i64 (S.err f dst b.length l)) ∧ ∃ R' B', NetAt w' t mb (S.send f dst b l) R' B' ∧ (∀ g ∈ R', g ∈ R ∨ w.heap.size ≤ g) ∧ (∀ g ∈ B', g ∈ B ∨ w.heap.size ≤ g) ∧ Keep (t :: mb :: R) w w') := by
  by_cases he : S.err f dst b.length l = 0
  · have e : S.send f dst b l = S.sent f dst b l := by unfold NS.send; rw [if_pos he]
    rw [he, e]
    exact send_ok h hWF hnow hnext hV hVn hL hLn he
  · have e : S.send f dst b l = S := by unfold NS.send; rw [if_neg he]
    rw [e]
    refine (send_no h hWF hV hL he).mono ?_
    rintro e w' ⟨rfl, hk⟩
    exact ⟨rfl, R, B, h.keep0 hk, fun g hg => .inl hg, fun g hg => .inl hg, hk.sub⟩
end Go.Proofs.Ytcjbmbljmmakfaa
