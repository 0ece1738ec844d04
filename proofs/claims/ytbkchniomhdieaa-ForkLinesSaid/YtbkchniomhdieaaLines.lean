/- ForkLines walked. -/
import Derived.Test.YtbkchniomhdieaaLinesLaw
import Derived.Test.YtbkchniomhdieaaComing
namespace Go.Proofs.Ytbkchniomhdieaa
open Go.RowKit Go.Bz

theorem meet2 {P : Program} {c : Code} {Q : Exit → Act → World → Prop} {R : Nat → Nat → World → Prop} {f : Nat → Nat → Act} {a0 : Act} {w0 : World}
    (h : (∀ a b W, R a b W → Q .normal (f a b) W) → c.wp P Q a0 w0) (k : ∀ a b W, R a b W → Q .normal (f a b) W) : c.wp P Q a0 w0 := h k
theorem blk_alloc {W Wa : World} {t : TypeId} {cs : Array Value} (h : W.alloc (.cells cs t) = Wa) : ∃ g, g = W.heap.size ∧ Blk Wa g t cs := ⟨_, rfl, h ▸ Blk.new W t cs⟩
theorem blk_apart {W : World} {g t : Nat} {cs : Array Value} {g' : Nat} (h : Blk W g t cs) (e : g' = W.heap.size) : g ≠ g' := by have := h.lt; omega
/-- What the great test reads. -/
def LinesS (g8 g9 ga oa n : Nat) (x y : Int) (W : World) : Prop :=
  (∀ i, W.cell? ⟨g8, i, none⟩ = (dcells (idv x))[i]?) ∧ (∀ i, W.cell? ⟨g9, i, none⟩ = (dcells (idv y))[i]?) ∧ At8 W ga oa (idv 0) ∧ At8 W ga (oa + n * 8) (idv x)
structure LinesW (w : World) (t mb : Nat) (T : FT) (g8 g9 ga oa n capa : Nat) (Ab : Option Addr) (capb : Nat) (L : List D8) (x y : Int) (W : World) : Prop where
  tree : TreeAt W t mb T
  b8 : Blk W g8 29 (dcells (idv x))
  b9 : Blk W g9 29 (dcells (idv y))
  n_ : L.length = n
  head : L[0]? = some (idv 0)
  a : SlAt W 29 8 dcells ga oa (L ++ [idv x])
  ca : n + 1 ≤ capa ∧ capa ≤ maxLen
  b : Sl W 29 8 dcells (.slice Ab n capb) L
  keep : Keep [] w W
section
variable {w W W' : World} {t mb : Nat} {T : FT} {g8 g9 ga oa n capa : Nat} {Ab : Option Addr} {capb : Nat} {L : List D8} {x y : Int}
theorem LinesW.on (h : LinesW w t mb T g8 g9 ga oa n capa Ab capb L x y W) (hk : Keep [] W W') : LinesW w t mb T g8 g9 ga oa n capa Ab capb L x y W' :=
  ⟨h.tree.keep0 hk, h.b8.keep hk (by simp), h.b9.keep hk (by simp), h.n_, h.head, h.a.keep hk (by simp), h.ca, h.b.keep0 hk, h.keep.trans hk⟩
theorem LinesW.drew (h : LinesW w t mb T g8 g9 ga oa n capa Ab capb L x y W) : LinesW w t mb T g8 g9 ga oa n capa Ab capb L x y W.drew := h.on (Keep.refl _ _).drew
theorem LinesW.s (h : LinesW w t mb T g8 g9 ga oa n capa Ab capb L x y W) : LinesS g8 g9 ga oa n x y W := by
  refine ⟨h.b8.cell, h.b9.cell, ?_, ?_⟩
  · have h0 : (L ++ [idv x])[0]? = some (idv 0) := by
      have := h.head
      rw [List.getElem?_append_left (List.getElem?_eq_some_iff.1 this).1]; exact this
    have := h.a.at8 h0
    simpa using this
  · exact h.a.at8 (by rw [← h.n_]; simp)
theorem LinesW.cut (h : LinesW w t mb T g8 g9 ga oa n capa Ab capb L x y W) : Sl W 29 8 dcells (.slice (some ⟨ga, oa, none⟩) n capa) L := by
  refine ⟨_, capa, by rw [h.n_], by rw [h.n_]; have := h.ca; omega, h.ca.2, fun _ => ⟨ga, oa, rfl, ?_⟩⟩
  have := h.a.take n
  rwa [List.take_append_of_le_length (by rw [h.n_]; omega), ← h.n_, List.take_length] at this
end
set_option maxRecDepth 100000 in
set_option maxHeartbeats 4000000 in
theorem lines_any (dep : Int) (A : Option Addr) (l : List (Int × Int)) (cap : Nat) (w : World) (hlen : l.length ≤ 9223372036854775807) (hR : Rd w 2 cenc A l) :
    Calls Try.prog 4 #[.int .i64 dep, .slice A l.length cap] w (fun e w' => e = .returned (.bool true) ∧ Keep [] w w') := by
  go_enter Try.func4, Try.ntmps4
  go_wp2_with (first
    | (go_at_call 17; refine (begin_any _ _).mono ?_; rintro e w1 ⟨n, t, mb, V, hn0, hn1, rfl, ht, hmb, hT, ⟨AV, capV, rfl, _⟩, hKw⟩)
    | (go_at_call 12; refine (told_any _).mono ?_; rintro e w3 ⟨rfl, hk3⟩; have hT := (hT.alloc _).keep0 hk3; have hKw := (hKw.alloc _).trans hk3))
  have own : ∀ g ∈ [t, mb], w.heap.size ≤ g := by intro g hg; simp at hg; rcases hg with rfl | rfl <;> assumption
  go_loopg [7] l.length (fun m i wr => ∃ (k : Nat) (T : FT), i = .int .i64 k ∧ m + k = l.length ∧ TreeAt wr t mb T ∧ T.WF ∧ T.first = idv 0 ∧ Keep [] w wr)
  case atStart =>
    exact ⟨0, _, rfl, rfl, hT, FT.new_wf _ hn0 hn1, rfl, hKw⟩
  case round =>
    clear hKw hT
    obtain ⟨k, T, rfl, hk, hT, hWF, hfst, hKw⟩ := hrel
    by_cases hlt : k < l.length
    · by_cases h80 : k < 40
      · obtain ⟨ab, ao, rfl, hab, x, y, hxy, hcl⟩ := coming hR hlt
        go_wp2_with fail
        refine meet2 (f := ?f) (R := fun g8 g9 W => TreeAt W t mb T ∧ Keep [] w W ∧ Blk W g8 29 (dcells (idv x)) ∧ Blk W g9 29 (dcells (idv y)) ∧ w.heap.size ≤ g8 ∧ w.heap.size ≤ g9) (fun key => ?r1) ?r2
        case r1 =>
          refine wp_region_noPanic ?_
          refine Bz.wp_region_E (S := (fun w' => w'.cell? ⟨ab, ao + k * 2, none⟩ = some (.int .u8 x) ∧ w'.cell? ⟨ab, ao + k * 2 + 1, none⟩ = some (.int .u8 y))) (E := [15]) (by kernel_rfl) (by exact hcl _ hKw.drew) (fun hHeld => ?_)
          obtain ⟨wd, hwd⟩ : ∃ W, W = wr.drew := ⟨_, rfl⟩
          rw [← hwd] at hHeld ⊢
          have hT : TreeAt wd t mb T := by rw [hwd]; exact hT
          have hKw : Keep [] w wd := by rw [hwd]; exact hKw.drew
          clear hwd
          refine Bz.wpAnyE_take (i := 0) (oi := { dst := some 33, op := Go.Op.move (Go.Operand.tmp 1), type := 22, pos := "law.go:142", after := #[], guard := none }) (v := ?_) rfl (by kernel_rfl) (by kernel_rfl) (by kernel_rfl) (by kernel_rfl) (fun _ _ _ h => h) (Or.inl ⟨by rfl, ?_⟩) hHeld ?_
          rotate_left 1
          · (intro w hSw; (try dsimp only at hSw); go_simp; first | done | with_reducible rfl)
          try simp only [Act.put, List.setIfInBounds_toArray, List.set_cons_zero, List.set_cons_succ]
          refine Bz.wpAnyE_take (i := 1) (oi := { dst := some 34, op := Go.Op.move (Go.Operand.tmp 7), type := 3, pos := "law.go:142", after := #[], guard := none }) (v := ?_) rfl (by kernel_rfl) (by kernel_rfl) (by kernel_rfl) (by kernel_rfl) (fun _ _ _ h => h) (Or.inl ⟨by rfl, ?_⟩) hHeld ?_
          rotate_left 1
          · (intro w hSw; (try dsimp only at hSw); go_simp; first | done | with_reducible rfl)
          try simp only [Act.put, List.setIfInBounds_toArray, List.set_cons_zero, List.set_cons_succ]
          refine Bz.wpAnyE_take (i := 2) (oi := { dst := some 35, op := Go.Op.indexAddr 22 (Go.Operand.tmp 33) (Go.Operand.tmp 34), type := 0, pos := "law.go:142", after := #[{ on := 0, ground := Go.Ground.data }, { on := 1, ground := Go.Ground.data }], guard := none }) (v := ?_) rfl (by kernel_rfl) (by kernel_rfl) (by kernel_rfl) (by kernel_rfl) (fun _ _ _ h => h) (Or.inl ⟨by rfl, ?_⟩) hHeld ?_
          rotate_left 1
          · (intro w hSw; (try dsimp only at hSw); go_simp; first | done | with_reducible rfl)
          try simp only [Act.put, List.setIfInBounds_toArray, List.set_cons_zero, List.set_cons_succ]
          refine Bz.wpAnyE_take (i := 3) (oi := { dst := some 36, op := Go.Op.fieldAddr 35 (Go.Operand.tmp 35) 0, type := 0, pos := "law.go:142", after := #[{ on := 2, ground := Go.Ground.data }], guard := none }) (v := ?_) rfl (by kernel_rfl) (by kernel_rfl) (by kernel_rfl) (by kernel_rfl) (fun _ _ _ h => h) (Or.inl ⟨by rfl, ?_⟩) hHeld ?_
          rotate_left 1
          · (intro w hSw; (try dsimp only at hSw); go_simp; first | done | with_reducible rfl)
          try simp only [Act.put, List.setIfInBounds_toArray, List.set_cons_zero, List.set_cons_succ]
          refine Bz.wpAnyE_take (i := 4) (oi := { dst := some 37, op := Go.Op.load 5 (Go.Operand.tmp 36), type := 5, pos := "law.go:142", after := #[{ on := 3, ground := Go.Ground.data }], guard := none }) (v := ?_) rfl (by kernel_rfl) (by kernel_rfl) (by kernel_rfl) (by kernel_rfl) (fun _ _ _ h => h) (Or.inl ⟨by rfl, ?_⟩) hHeld ?_
          rotate_left 1
          · (intro w hSw; (try dsimp only at hSw); go_simp; first | done | with_reducible rfl)
          try simp only [Act.put, List.setIfInBounds_toArray, List.set_cons_zero, List.set_cons_succ]
          refine Bz.wpAnyE_take (i := 6) (oi := { dst := some 39, op := Go.Op.move (Go.Operand.tmp 1), type := 22, pos := "law.go:142", after := #[], guard := none }) (v := ?_) rfl (by kernel_rfl) (by kernel_rfl) (by kernel_rfl) (by kernel_rfl) (fun _ _ _ h => h) (Or.inl ⟨by rfl, ?_⟩) hHeld ?_
          rotate_left 1
          · (intro w hSw; (try dsimp only at hSw); go_simp; first | done | with_reducible rfl)
          try simp only [Act.put, List.setIfInBounds_toArray, List.set_cons_zero, List.set_cons_succ]
          refine Bz.wpAnyE_take (i := 7) (oi := { dst := some 40, op := Go.Op.move (Go.Operand.tmp 7), type := 3, pos := "law.go:142", after := #[], guard := none }) (v := ?_) rfl (by kernel_rfl) (by kernel_rfl) (by kernel_rfl) (by kernel_rfl) (fun _ _ _ h => h) (Or.inl ⟨by rfl, ?_⟩) hHeld ?_
          rotate_left 1
          · (intro w hSw; (try dsimp only at hSw); go_simp; first | done | with_reducible rfl)
          try simp only [Act.put, List.setIfInBounds_toArray, List.set_cons_zero, List.set_cons_succ]
          refine Bz.wpAnyE_take (i := 8) (oi := { dst := some 41, op := Go.Op.indexAddr 22 (Go.Operand.tmp 39) (Go.Operand.tmp 40), type := 0, pos := "law.go:142", after := #[{ on := 6, ground := Go.Ground.data }, { on := 7, ground := Go.Ground.data }], guard := none }) (v := ?_) rfl (by kernel_rfl) (by kernel_rfl) (by kernel_rfl) (by kernel_rfl) (fun _ _ _ h => h) (Or.inl ⟨by rfl, ?_⟩) hHeld ?_
          rotate_left 1
          · (intro w hSw; (try dsimp only at hSw); go_simp; first | done | with_reducible rfl)
          try simp only [Act.put, List.setIfInBounds_toArray, List.set_cons_zero, List.set_cons_succ]
          refine Bz.wpAnyE_take (i := 9) (oi := { dst := some 42, op := Go.Op.fieldAddr 35 (Go.Operand.tmp 41) 1, type := 0, pos := "law.go:142", after := #[{ on := 8, ground := Go.Ground.data }], guard := none }) (v := ?_) rfl (by kernel_rfl) (by kernel_rfl) (by kernel_rfl) (by kernel_rfl) (fun _ _ _ h => h) (Or.inl ⟨by rfl, ?_⟩) hHeld ?_
          rotate_left 1
          · (intro w hSw; (try dsimp only at hSw); go_simp; first | done | with_reducible rfl)
          try simp only [Act.put, List.setIfInBounds_toArray, List.set_cons_zero, List.set_cons_succ]
          refine Bz.wpAnyE_take (i := 10) (oi := { dst := some 43, op := Go.Op.load 5 (Go.Operand.tmp 42), type := 5, pos := "law.go:142", after := #[{ on := 9, ground := Go.Ground.data }], guard := none }) (v := ?_) rfl (by kernel_rfl) (by kernel_rfl) (by kernel_rfl) (by kernel_rfl) (fun _ _ _ h => h) (Or.inl ⟨by rfl, ?_⟩) hHeld ?_
          rotate_left 1
          · (intro w hSw; (try dsimp only at hSw); go_simp; first | done | with_reducible rfl)
          try simp only [Act.put, List.setIfInBounds_toArray, List.set_cons_zero, List.set_cons_succ]
          refine Bz.wpAnyE_ready (rs := [5, 12, 13]) (by kernel_rfl) (by simp) ?_
          refine Bz.AllReadyE.cons (o := { dst := some 38, op := Go.Op.call { callee := Go.Callee.value (Go.Operand.func 11), args := #[Go.Operand.tmp 37], argTypes := #[5] }, type := 29, pos := "law.go:142", after := #[{ on := 4, ground := Go.Ground.data }], guard := none }) rfl (fun K hK => ?_) ?_
          · skip
            go_simp
            
            refine (id_any _ _).mono ?_
            rintro e w5 ⟨rfl, hk5⟩
            have hT := hT.keep0 hk5
            have hKw := hKw.trans hk5
            try have hB8 := hB8.keep hk5 (by simp)
            try have hB9 := hB9.keep hk5 (by simp)
            refine hK.out _ _ (by exact hcl _ hKw) ?_
            clear hHeld hK K; intro hHeld
            try simp only [Act.put, List.setIfInBounds_toArray, List.set_cons_zero, List.set_cons_succ]
            refine Bz.wpAnyE_ready (rs := [11, 12, 13]) (by kernel_rfl) (by simp) ?_
            refine Bz.AllReadyE.cons (o := { dst := some 44, op := Go.Op.call { callee := Go.Callee.value (Go.Operand.func 11), args := #[Go.Operand.tmp 43], argTypes := #[5] }, type := 29, pos := "law.go:142", after := #[{ on := 10, ground := Go.Ground.data }, { on := 5, ground := Go.Ground.chain }], guard := none }) rfl (fun K hK => ?_) ?_
            · skip
              go_simp
              
              refine (id_any _ _).mono ?_
              rintro e w5 ⟨rfl, hk5⟩
              have hT := hT.keep0 hk5
              have hKw := hKw.trans hk5
              try have hB8 := hB8.keep hk5 (by simp)
              try have hB9 := hB9.keep hk5 (by simp)
              refine hK.out _ _ (by exact hcl _ hKw) ?_
              clear hHeld hK K; intro hHeld
              try simp only [Act.put, List.setIfInBounds_toArray, List.set_cons_zero, List.set_cons_succ]
              refine Bz.wpAnyE_ready (rs := [12, 13]) (by kernel_rfl) (by simp) ?_
              refine Bz.AllReadyE.cons (o := { dst := some 8, op := Go.Op.alloc 29, type := 0, pos := "law.go:142", after := #[], guard := none }) rfl (fun K hK => ?_) ?_
              · skip
                
                go_simp
                generalize hWa : World.alloc _ _ = Wa
                obtain ⟨g8, e8, hB8⟩ := blk_alloc (t := 29) (cs := dcells d0) hWa
                rw [← e8]
                try have hne := blk_apart hB9 e8
                have hg8 : w.heap.size ≤ g8 := by rw [e8]; exact hKw.size
                try have hB9 : Blk Wa g9 29 (dcells d0) := by rw [← hWa]; exact hB9.alloc _
                have hT : TreeAt Wa t mb T := by rw [← hWa]; exact hT.alloc _
                have hKw : Keep [] w Wa := by rw [← hWa]; exact hKw.alloc _
                clear hWa e8
                refine hK.out _ _ (by exact hcl _ hKw) ?_
                clear hHeld hK K; intro hHeld
                try simp only [Act.put, List.setIfInBounds_toArray, List.set_cons_zero, List.set_cons_succ]
                refine Bz.wpAnyE_ready (rs := [13]) (by kernel_rfl) (by simp) ?_
                refine Bz.AllReadyE.cons (o := { dst := some 9, op := Go.Op.alloc 29, type := 0, pos := "law.go:142", after := #[], guard := none }) rfl (fun K hK => ?_) Bz.AllReadyE.nil
                
                go_simp
                generalize hWa : World.alloc _ _ = Wa
                obtain ⟨g9, e9, hB9⟩ := blk_alloc (t := 29) (cs := dcells d0) hWa
                rw [← e9]
                try have hne := blk_apart hB8 e9
                have hg9 : w.heap.size ≤ g9 := by rw [e9]; exact hKw.size
                try have hB8 : Blk Wa g8 29 (dcells d0) := by rw [← hWa]; exact hB8.alloc _
                have hT : TreeAt Wa t mb T := by rw [← hWa]; exact hT.alloc _
                have hKw : Keep [] w Wa := by rw [← hWa]; exact hKw.alloc _
                clear hWa e9
                refine hK.out _ _ (by exact hcl _ hKw) ?_
                clear hHeld hK K; intro hHeld
                try simp only [Act.put, List.setIfInBounds_toArray, List.set_cons_zero, List.set_cons_succ]
                refine Bz.wpAnyE_ready (rs := [14]) (by kernel_rfl) (by simp) ?_
                refine Bz.AllReadyE.cons (o := { dst := none, op := Go.Op.store 29 (Go.Operand.tmp 8) (Go.Operand.tmp 38), type := 0, pos := "law.go:142", after := #[{ on := 12, ground := Go.Ground.data }, { on := 5, ground := Go.Ground.data }, { on := 11, ground := Go.Ground.chain }, { on := 0, ground := Go.Ground.phase }, { on := 1, ground := Go.Ground.phase }, { on := 2, ground := Go.Ground.phase }, { on := 3, ground := Go.Ground.phase }, { on := 4, ground := Go.Ground.phase }, { on := 5, ground := Go.Ground.phase }, { on := 6, ground := Go.Ground.textOnly Go.Departure.lateStores }, { on := 7, ground := Go.Ground.textOnly Go.Departure.lateStores }, { on := 8, ground := Go.Ground.textOnly Go.Departure.lateStores }, { on := 9, ground := Go.Ground.textOnly Go.Departure.lateStores }, { on := 10, ground := Go.Ground.textOnly Go.Departure.lateStores }, { on := 11, ground := Go.Ground.textOnly Go.Departure.lateStoresUnsure }, { on := 12, ground := Go.Ground.phase }, { on := 13, ground := Go.Ground.phase }], guard := none }) rfl (fun K hK => ?_) Bz.AllReadyE.nil
                
                have c8 := hB8.cell
                have f8 := hB8.frozen
                go_simp
                generalize hWs : World.setCell _ _ _ = Ws
                have q1 : t ∉ [g8] := by simp; exact fun e => hT.1.ne_ hB8 (by decide) e
                have q2 : mb ∉ [g8] := by simp; exact fun e => hT.2.ne_blk hB8 e
                have hT : TreeAt Ws t mb T := by rw [← hWs]; exact hT.keep ((Keep.refl [g8] _).put8 (by simp) (idv x)) q1 q2
                have hKw : Keep [] w Ws := by rw [← hWs]; exact hKw.put8 (.inr hg8) (idv x)
                have hB9 : Blk Ws g9 29 (dcells d0) := by rw [← hWs]; exact hB9.keep ((Keep.refl [g8] _).put8 (by simp) (idv x)) (by simp; first | exact hne | exact Ne.symm hne)
                have hB8 : Blk Ws g8 29 (dcells (idv x)) := by rw [← hWs]; exact hB8.put8 (idv x)
                clear hWs c8 f8
                refine hK.out _ _ (by exact hcl _ hKw) ?_
                clear hHeld hK K; intro hHeld
                try simp only [Act.put, List.setIfInBounds_toArray, List.set_cons_zero, List.set_cons_succ]
                refine Bz.wpAnyE_ready (rs := [15]) (by kernel_rfl) (by simp) ?_
                refine Bz.AllReadyE.last (o := { dst := none, op := Go.Op.store 29 (Go.Operand.tmp 9) (Go.Operand.tmp 44), type := 0, pos := "law.go:142", after := #[{ on := 13, ground := Go.Ground.data }, { on := 11, ground := Go.Ground.data }, { on := 14, ground := Go.Ground.chain }, { on := 0, ground := Go.Ground.phase }, { on := 1, ground := Go.Ground.phase }, { on := 2, ground := Go.Ground.phase }, { on := 3, ground := Go.Ground.phase }, { on := 4, ground := Go.Ground.phase }, { on := 5, ground := Go.Ground.phase }, { on := 6, ground := Go.Ground.phase }, { on := 7, ground := Go.Ground.phase }, { on := 8, ground := Go.Ground.phase }, { on := 9, ground := Go.Ground.phase }, { on := 10, ground := Go.Ground.phase }, { on := 11, ground := Go.Ground.phase }, { on := 12, ground := Go.Ground.phase }, { on := 13, ground := Go.Ground.phase }, { on := 14, ground := Go.Ground.phase }], guard := none }) rfl (by rfl) (fun K hK => ?_) Bz.AllReadyE.nil
                
                have c9 := hB9.cell
                have f9 := hB9.frozen
                go_simp
                generalize hWs : World.setCell _ _ _ = Ws
                have q1 : t ∉ [g9] := by simp; exact fun e => hT.1.ne_ hB9 (by decide) e
                have q2 : mb ∉ [g9] := by simp; exact fun e => hT.2.ne_blk hB9 e
                have hT : TreeAt Ws t mb T := by rw [← hWs]; exact hT.keep ((Keep.refl [g9] _).put8 (by simp) (idv y)) q1 q2
                have hKw : Keep [] w Ws := by rw [← hWs]; exact hKw.put8 (.inr hg9) (idv y)
                have hB8 : Blk Ws g8 29 (dcells (idv x)) := by rw [← hWs]; exact hB8.keep ((Keep.refl [g9] _).put8 (by simp) (idv y)) (by simp; first | exact hne | exact Ne.symm hne)
                have hB9 : Blk Ws g9 29 (dcells (idv y)) := by rw [← hWs]; exact hB9.put8 (idv y)
                clear hWs c9 f9
                refine hK.out _ _ ?_
                clear hK K
                try simp only [Act.put, List.setIfInBounds_toArray, List.set_cons_zero, List.set_cons_succ]
                refine Bz.wpAnyE_done (by kernel_rfl) ?_ _
                refine NoPanic.normal ?_
                clear hHeld
                exact key g8 g9 _ ⟨hT, hKw, hB8, hB9, hg8, hg9⟩
              refine Bz.AllReadyE.cons (o := { dst := some 9, op := Go.Op.alloc 29, type := 0, pos := "law.go:142", after := #[], guard := none }) rfl (fun K hK => ?_) ?_
              · skip
                
                go_simp
                generalize hWa : World.alloc _ _ = Wa
                obtain ⟨g9, e9, hB9⟩ := blk_alloc (t := 29) (cs := dcells d0) hWa
                rw [← e9]
                try have hne := blk_apart hB8 e9
                have hg9 : w.heap.size ≤ g9 := by rw [e9]; exact hKw.size
                try have hB8 : Blk Wa g8 29 (dcells d0) := by rw [← hWa]; exact hB8.alloc _
                have hT : TreeAt Wa t mb T := by rw [← hWa]; exact hT.alloc _
                have hKw : Keep [] w Wa := by rw [← hWa]; exact hKw.alloc _
                clear hWa e9
                refine hK.out _ _ (by exact hcl _ hKw) ?_
                clear hHeld hK K; intro hHeld
                try simp only [Act.put, List.setIfInBounds_toArray, List.set_cons_zero, List.set_cons_succ]
                refine Bz.wpAnyE_ready (rs := [12]) (by kernel_rfl) (by simp) ?_
                refine Bz.AllReadyE.cons (o := { dst := some 8, op := Go.Op.alloc 29, type := 0, pos := "law.go:142", after := #[], guard := none }) rfl (fun K hK => ?_) Bz.AllReadyE.nil
                
                go_simp
                generalize hWa : World.alloc _ _ = Wa
                obtain ⟨g8, e8, hB8⟩ := blk_alloc (t := 29) (cs := dcells d0) hWa
                rw [← e8]
                try have hne := blk_apart hB9 e8
                have hg8 : w.heap.size ≤ g8 := by rw [e8]; exact hKw.size
                try have hB9 : Blk Wa g9 29 (dcells d0) := by rw [← hWa]; exact hB9.alloc _
                have hT : TreeAt Wa t mb T := by rw [← hWa]; exact hT.alloc _
                have hKw : Keep [] w Wa := by rw [← hWa]; exact hKw.alloc _
                clear hWa e8
                refine hK.out _ _ (by exact hcl _ hKw) ?_
                clear hHeld hK K; intro hHeld
                try simp only [Act.put, List.setIfInBounds_toArray, List.set_cons_zero, List.set_cons_succ]
                refine Bz.wpAnyE_ready (rs := [14]) (by kernel_rfl) (by simp) ?_
                refine Bz.AllReadyE.cons (o := { dst := none, op := Go.Op.store 29 (Go.Operand.tmp 8) (Go.Operand.tmp 38), type := 0, pos := "law.go:142", after := #[{ on := 12, ground := Go.Ground.data }, { on := 5, ground := Go.Ground.data }, { on := 11, ground := Go.Ground.chain }, { on := 0, ground := Go.Ground.phase }, { on := 1, ground := Go.Ground.phase }, { on := 2, ground := Go.Ground.phase }, { on := 3, ground := Go.Ground.phase }, { on := 4, ground := Go.Ground.phase }, { on := 5, ground := Go.Ground.phase }, { on := 6, ground := Go.Ground.textOnly Go.Departure.lateStores }, { on := 7, ground := Go.Ground.textOnly Go.Departure.lateStores }, { on := 8, ground := Go.Ground.textOnly Go.Departure.lateStores }, { on := 9, ground := Go.Ground.textOnly Go.Departure.lateStores }, { on := 10, ground := Go.Ground.textOnly Go.Departure.lateStores }, { on := 11, ground := Go.Ground.textOnly Go.Departure.lateStoresUnsure }, { on := 12, ground := Go.Ground.phase }, { on := 13, ground := Go.Ground.phase }], guard := none }) rfl (fun K hK => ?_) Bz.AllReadyE.nil
                
                have c8 := hB8.cell
                have f8 := hB8.frozen
                go_simp
                generalize hWs : World.setCell _ _ _ = Ws
                have q1 : t ∉ [g8] := by simp; exact fun e => hT.1.ne_ hB8 (by decide) e
                have q2 : mb ∉ [g8] := by simp; exact fun e => hT.2.ne_blk hB8 e
                have hT : TreeAt Ws t mb T := by rw [← hWs]; exact hT.keep ((Keep.refl [g8] _).put8 (by simp) (idv x)) q1 q2
                have hKw : Keep [] w Ws := by rw [← hWs]; exact hKw.put8 (.inr hg8) (idv x)
                have hB9 : Blk Ws g9 29 (dcells d0) := by rw [← hWs]; exact hB9.keep ((Keep.refl [g8] _).put8 (by simp) (idv x)) (by simp; first | exact hne | exact Ne.symm hne)
                have hB8 : Blk Ws g8 29 (dcells (idv x)) := by rw [← hWs]; exact hB8.put8 (idv x)
                clear hWs c8 f8
                refine hK.out _ _ (by exact hcl _ hKw) ?_
                clear hHeld hK K; intro hHeld
                try simp only [Act.put, List.setIfInBounds_toArray, List.set_cons_zero, List.set_cons_succ]
                refine Bz.wpAnyE_ready (rs := [15]) (by kernel_rfl) (by simp) ?_
                refine Bz.AllReadyE.last (o := { dst := none, op := Go.Op.store 29 (Go.Operand.tmp 9) (Go.Operand.tmp 44), type := 0, pos := "law.go:142", after := #[{ on := 13, ground := Go.Ground.data }, { on := 11, ground := Go.Ground.data }, { on := 14, ground := Go.Ground.chain }, { on := 0, ground := Go.Ground.phase }, { on := 1, ground := Go.Ground.phase }, { on := 2, ground := Go.Ground.phase }, { on := 3, ground := Go.Ground.phase }, { on := 4, ground := Go.Ground.phase }, { on := 5, ground := Go.Ground.phase }, { on := 6, ground := Go.Ground.phase }, { on := 7, ground := Go.Ground.phase }, { on := 8, ground := Go.Ground.phase }, { on := 9, ground := Go.Ground.phase }, { on := 10, ground := Go.Ground.phase }, { on := 11, ground := Go.Ground.phase }, { on := 12, ground := Go.Ground.phase }, { on := 13, ground := Go.Ground.phase }, { on := 14, ground := Go.Ground.phase }], guard := none }) rfl (by rfl) (fun K hK => ?_) Bz.AllReadyE.nil
                
                have c9 := hB9.cell
                have f9 := hB9.frozen
                go_simp
                generalize hWs : World.setCell _ _ _ = Ws
                have q1 : t ∉ [g9] := by simp; exact fun e => hT.1.ne_ hB9 (by decide) e
                have q2 : mb ∉ [g9] := by simp; exact fun e => hT.2.ne_blk hB9 e
                have hT : TreeAt Ws t mb T := by rw [← hWs]; exact hT.keep ((Keep.refl [g9] _).put8 (by simp) (idv y)) q1 q2
                have hKw : Keep [] w Ws := by rw [← hWs]; exact hKw.put8 (.inr hg9) (idv y)
                have hB8 : Blk Ws g8 29 (dcells (idv x)) := by rw [← hWs]; exact hB8.keep ((Keep.refl [g9] _).put8 (by simp) (idv y)) (by simp; first | exact hne | exact Ne.symm hne)
                have hB9 : Blk Ws g9 29 (dcells (idv y)) := by rw [← hWs]; exact hB9.put8 (idv y)
                clear hWs c9 f9
                refine hK.out _ _ ?_
                clear hK K
                try simp only [Act.put, List.setIfInBounds_toArray, List.set_cons_zero, List.set_cons_succ]
                refine Bz.wpAnyE_done (by kernel_rfl) ?_ _
                refine NoPanic.normal ?_
                clear hHeld
                exact key g8 g9 _ ⟨hT, hKw, hB8, hB9, hg8, hg9⟩
              exact Bz.AllReadyE.nil
            refine Bz.AllReadyE.cons (o := { dst := some 8, op := Go.Op.alloc 29, type := 0, pos := "law.go:142", after := #[], guard := none }) rfl (fun K hK => ?_) ?_
            · skip
              
              go_simp
              generalize hWa : World.alloc _ _ = Wa
              obtain ⟨g8, e8, hB8⟩ := blk_alloc (t := 29) (cs := dcells d0) hWa
              rw [← e8]
              try have hne := blk_apart hB9 e8
              have hg8 : w.heap.size ≤ g8 := by rw [e8]; exact hKw.size
              try have hB9 : Blk Wa g9 29 (dcells d0) := by rw [← hWa]; exact hB9.alloc _
              have hT : TreeAt Wa t mb T := by rw [← hWa]; exact hT.alloc _
              have hKw : Keep [] w Wa := by rw [← hWa]; exact hKw.alloc _
              clear hWa e8
              refine hK.out _ _ (by exact hcl _ hKw) ?_
              clear hHeld hK K; intro hHeld
              try simp only [Act.put, List.setIfInBounds_toArray, List.set_cons_zero, List.set_cons_succ]
              refine Bz.wpAnyE_ready (rs := [11, 13]) (by kernel_rfl) (by simp) ?_
              refine Bz.AllReadyE.cons (o := { dst := some 44, op := Go.Op.call { callee := Go.Callee.value (Go.Operand.func 11), args := #[Go.Operand.tmp 43], argTypes := #[5] }, type := 29, pos := "law.go:142", after := #[{ on := 10, ground := Go.Ground.data }, { on := 5, ground := Go.Ground.chain }], guard := none }) rfl (fun K hK => ?_) ?_
              · skip
                go_simp
                
                refine (id_any _ _).mono ?_
                rintro e w5 ⟨rfl, hk5⟩
                have hT := hT.keep0 hk5
                have hKw := hKw.trans hk5
                try have hB8 := hB8.keep hk5 (by simp)
                try have hB9 := hB9.keep hk5 (by simp)
                refine hK.out _ _ (by exact hcl _ hKw) ?_
                clear hHeld hK K; intro hHeld
                try simp only [Act.put, List.setIfInBounds_toArray, List.set_cons_zero, List.set_cons_succ]
                refine Bz.wpAnyE_ready (rs := [13]) (by kernel_rfl) (by simp) ?_
                refine Bz.AllReadyE.cons (o := { dst := some 9, op := Go.Op.alloc 29, type := 0, pos := "law.go:142", after := #[], guard := none }) rfl (fun K hK => ?_) Bz.AllReadyE.nil
                
                go_simp
                generalize hWa : World.alloc _ _ = Wa
                obtain ⟨g9, e9, hB9⟩ := blk_alloc (t := 29) (cs := dcells d0) hWa
                rw [← e9]
                try have hne := blk_apart hB8 e9
                have hg9 : w.heap.size ≤ g9 := by rw [e9]; exact hKw.size
                try have hB8 : Blk Wa g8 29 (dcells d0) := by rw [← hWa]; exact hB8.alloc _
                have hT : TreeAt Wa t mb T := by rw [← hWa]; exact hT.alloc _
                have hKw : Keep [] w Wa := by rw [← hWa]; exact hKw.alloc _
                clear hWa e9
                refine hK.out _ _ (by exact hcl _ hKw) ?_
                clear hHeld hK K; intro hHeld
                try simp only [Act.put, List.setIfInBounds_toArray, List.set_cons_zero, List.set_cons_succ]
                refine Bz.wpAnyE_ready (rs := [14]) (by kernel_rfl) (by simp) ?_
                refine Bz.AllReadyE.cons (o := { dst := none, op := Go.Op.store 29 (Go.Operand.tmp 8) (Go.Operand.tmp 38), type := 0, pos := "law.go:142", after := #[{ on := 12, ground := Go.Ground.data }, { on := 5, ground := Go.Ground.data }, { on := 11, ground := Go.Ground.chain }, { on := 0, ground := Go.Ground.phase }, { on := 1, ground := Go.Ground.phase }, { on := 2, ground := Go.Ground.phase }, { on := 3, ground := Go.Ground.phase }, { on := 4, ground := Go.Ground.phase }, { on := 5, ground := Go.Ground.phase }, { on := 6, ground := Go.Ground.textOnly Go.Departure.lateStores }, { on := 7, ground := Go.Ground.textOnly Go.Departure.lateStores }, { on := 8, ground := Go.Ground.textOnly Go.Departure.lateStores }, { on := 9, ground := Go.Ground.textOnly Go.Departure.lateStores }, { on := 10, ground := Go.Ground.textOnly Go.Departure.lateStores }, { on := 11, ground := Go.Ground.textOnly Go.Departure.lateStoresUnsure }, { on := 12, ground := Go.Ground.phase }, { on := 13, ground := Go.Ground.phase }], guard := none }) rfl (fun K hK => ?_) Bz.AllReadyE.nil
                
                have c8 := hB8.cell
                have f8 := hB8.frozen
                go_simp
                generalize hWs : World.setCell _ _ _ = Ws
                have q1 : t ∉ [g8] := by simp; exact fun e => hT.1.ne_ hB8 (by decide) e
                have q2 : mb ∉ [g8] := by simp; exact fun e => hT.2.ne_blk hB8 e
                have hT : TreeAt Ws t mb T := by rw [← hWs]; exact hT.keep ((Keep.refl [g8] _).put8 (by simp) (idv x)) q1 q2
                have hKw : Keep [] w Ws := by rw [← hWs]; exact hKw.put8 (.inr hg8) (idv x)
                have hB9 : Blk Ws g9 29 (dcells d0) := by rw [← hWs]; exact hB9.keep ((Keep.refl [g8] _).put8 (by simp) (idv x)) (by simp; first | exact hne | exact Ne.symm hne)
                have hB8 : Blk Ws g8 29 (dcells (idv x)) := by rw [← hWs]; exact hB8.put8 (idv x)
                clear hWs c8 f8
                refine hK.out _ _ (by exact hcl _ hKw) ?_
                clear hHeld hK K; intro hHeld
                try simp only [Act.put, List.setIfInBounds_toArray, List.set_cons_zero, List.set_cons_succ]
                refine Bz.wpAnyE_ready (rs := [15]) (by kernel_rfl) (by simp) ?_
                refine Bz.AllReadyE.last (o := { dst := none, op := Go.Op.store 29 (Go.Operand.tmp 9) (Go.Operand.tmp 44), type := 0, pos := "law.go:142", after := #[{ on := 13, ground := Go.Ground.data }, { on := 11, ground := Go.Ground.data }, { on := 14, ground := Go.Ground.chain }, { on := 0, ground := Go.Ground.phase }, { on := 1, ground := Go.Ground.phase }, { on := 2, ground := Go.Ground.phase }, { on := 3, ground := Go.Ground.phase }, { on := 4, ground := Go.Ground.phase }, { on := 5, ground := Go.Ground.phase }, { on := 6, ground := Go.Ground.phase }, { on := 7, ground := Go.Ground.phase }, { on := 8, ground := Go.Ground.phase }, { on := 9, ground := Go.Ground.phase }, { on := 10, ground := Go.Ground.phase }, { on := 11, ground := Go.Ground.phase }, { on := 12, ground := Go.Ground.phase }, { on := 13, ground := Go.Ground.phase }, { on := 14, ground := Go.Ground.phase }], guard := none }) rfl (by rfl) (fun K hK => ?_) Bz.AllReadyE.nil
                
                have c9 := hB9.cell
                have f9 := hB9.frozen
                go_simp
                generalize hWs : World.setCell _ _ _ = Ws
                have q1 : t ∉ [g9] := by simp; exact fun e => hT.1.ne_ hB9 (by decide) e
                have q2 : mb ∉ [g9] := by simp; exact fun e => hT.2.ne_blk hB9 e
                have hT : TreeAt Ws t mb T := by rw [← hWs]; exact hT.keep ((Keep.refl [g9] _).put8 (by simp) (idv y)) q1 q2
                have hKw : Keep [] w Ws := by rw [← hWs]; exact hKw.put8 (.inr hg9) (idv y)
                have hB8 : Blk Ws g8 29 (dcells (idv x)) := by rw [← hWs]; exact hB8.keep ((Keep.refl [g9] _).put8 (by simp) (idv y)) (by simp; first | exact hne | exact Ne.symm hne)
                have hB9 : Blk Ws g9 29 (dcells (idv y)) := by rw [← hWs]; exact hB9.put8 (idv y)
                clear hWs c9 f9
                refine hK.out _ _ ?_
                clear hK K
                try simp only [Act.put, List.setIfInBounds_toArray, List.set_cons_zero, List.set_cons_succ]
                refine Bz.wpAnyE_done (by kernel_rfl) ?_ _
                refine NoPanic.normal ?_
                clear hHeld
                exact key g8 g9 _ ⟨hT, hKw, hB8, hB9, hg8, hg9⟩
              refine Bz.AllReadyE.cons (o := { dst := some 9, op := Go.Op.alloc 29, type := 0, pos := "law.go:142", after := #[], guard := none }) rfl (fun K hK => ?_) ?_
              · skip
                
                go_simp
                generalize hWa : World.alloc _ _ = Wa
                obtain ⟨g9, e9, hB9⟩ := blk_alloc (t := 29) (cs := dcells d0) hWa
                rw [← e9]
                try have hne := blk_apart hB8 e9
                have hg9 : w.heap.size ≤ g9 := by rw [e9]; exact hKw.size
                try have hB8 : Blk Wa g8 29 (dcells d0) := by rw [← hWa]; exact hB8.alloc _
                have hT : TreeAt Wa t mb T := by rw [← hWa]; exact hT.alloc _
                have hKw : Keep [] w Wa := by rw [← hWa]; exact hKw.alloc _
                clear hWa e9
                refine hK.out _ _ (by exact hcl _ hKw) ?_
                clear hHeld hK K; intro hHeld
                try simp only [Act.put, List.setIfInBounds_toArray, List.set_cons_zero, List.set_cons_succ]
                refine Bz.wpAnyE_ready (rs := [11]) (by kernel_rfl) (by simp) ?_
                refine Bz.AllReadyE.cons (o := { dst := some 44, op := Go.Op.call { callee := Go.Callee.value (Go.Operand.func 11), args := #[Go.Operand.tmp 43], argTypes := #[5] }, type := 29, pos := "law.go:142", after := #[{ on := 10, ground := Go.Ground.data }, { on := 5, ground := Go.Ground.chain }], guard := none }) rfl (fun K hK => ?_) Bz.AllReadyE.nil
                go_simp
                
                refine (id_any _ _).mono ?_
                rintro e w5 ⟨rfl, hk5⟩
                have hT := hT.keep0 hk5
                have hKw := hKw.trans hk5
                try have hB8 := hB8.keep hk5 (by simp)
                try have hB9 := hB9.keep hk5 (by simp)
                refine hK.out _ _ (by exact hcl _ hKw) ?_
                clear hHeld hK K; intro hHeld
                try simp only [Act.put, List.setIfInBounds_toArray, List.set_cons_zero, List.set_cons_succ]
                refine Bz.wpAnyE_ready (rs := [14]) (by kernel_rfl) (by simp) ?_
                refine Bz.AllReadyE.cons (o := { dst := none, op := Go.Op.store 29 (Go.Operand.tmp 8) (Go.Operand.tmp 38), type := 0, pos := "law.go:142", after := #[{ on := 12, ground := Go.Ground.data }, { on := 5, ground := Go.Ground.data }, { on := 11, ground := Go.Ground.chain }, { on := 0, ground := Go.Ground.phase }, { on := 1, ground := Go.Ground.phase }, { on := 2, ground := Go.Ground.phase }, { on := 3, ground := Go.Ground.phase }, { on := 4, ground := Go.Ground.phase }, { on := 5, ground := Go.Ground.phase }, { on := 6, ground := Go.Ground.textOnly Go.Departure.lateStores }, { on := 7, ground := Go.Ground.textOnly Go.Departure.lateStores }, { on := 8, ground := Go.Ground.textOnly Go.Departure.lateStores }, { on := 9, ground := Go.Ground.textOnly Go.Departure.lateStores }, { on := 10, ground := Go.Ground.textOnly Go.Departure.lateStores }, { on := 11, ground := Go.Ground.textOnly Go.Departure.lateStoresUnsure }, { on := 12, ground := Go.Ground.phase }, { on := 13, ground := Go.Ground.phase }], guard := none }) rfl (fun K hK => ?_) Bz.AllReadyE.nil
                
                have c8 := hB8.cell
                have f8 := hB8.frozen
                go_simp
                generalize hWs : World.setCell _ _ _ = Ws
                have q1 : t ∉ [g8] := by simp; exact fun e => hT.1.ne_ hB8 (by decide) e
                have q2 : mb ∉ [g8] := by simp; exact fun e => hT.2.ne_blk hB8 e
                have hT : TreeAt Ws t mb T := by rw [← hWs]; exact hT.keep ((Keep.refl [g8] _).put8 (by simp) (idv x)) q1 q2
                have hKw : Keep [] w Ws := by rw [← hWs]; exact hKw.put8 (.inr hg8) (idv x)
                have hB9 : Blk Ws g9 29 (dcells d0) := by rw [← hWs]; exact hB9.keep ((Keep.refl [g8] _).put8 (by simp) (idv x)) (by simp; first | exact hne | exact Ne.symm hne)
                have hB8 : Blk Ws g8 29 (dcells (idv x)) := by rw [← hWs]; exact hB8.put8 (idv x)
                clear hWs c8 f8
                refine hK.out _ _ (by exact hcl _ hKw) ?_
                clear hHeld hK K; intro hHeld
                try simp only [Act.put, List.setIfInBounds_toArray, List.set_cons_zero, List.set_cons_succ]
                refine Bz.wpAnyE_ready (rs := [15]) (by kernel_rfl) (by simp) ?_
                refine Bz.AllReadyE.last (o := { dst := none, op := Go.Op.store 29 (Go.Operand.tmp 9) (Go.Operand.tmp 44), type := 0, pos := "law.go:142", after := #[{ on := 13, ground := Go.Ground.data }, { on := 11, ground := Go.Ground.data }, { on := 14, ground := Go.Ground.chain }, { on := 0, ground := Go.Ground.phase }, { on := 1, ground := Go.Ground.phase }, { on := 2, ground := Go.Ground.phase }, { on := 3, ground := Go.Ground.phase }, { on := 4, ground := Go.Ground.phase }, { on := 5, ground := Go.Ground.phase }, { on := 6, ground := Go.Ground.phase }, { on := 7, ground := Go.Ground.phase }, { on := 8, ground := Go.Ground.phase }, { on := 9, ground := Go.Ground.phase }, { on := 10, ground := Go.Ground.phase }, { on := 11, ground := Go.Ground.phase }, { on := 12, ground := Go.Ground.phase }, { on := 13, ground := Go.Ground.phase }, { on := 14, ground := Go.Ground.phase }], guard := none }) rfl (by rfl) (fun K hK => ?_) Bz.AllReadyE.nil
                
                have c9 := hB9.cell
                have f9 := hB9.frozen
                go_simp
                generalize hWs : World.setCell _ _ _ = Ws
                have q1 : t ∉ [g9] := by simp; exact fun e => hT.1.ne_ hB9 (by decide) e
                have q2 : mb ∉ [g9] := by simp; exact fun e => hT.2.ne_blk hB9 e
                have hT : TreeAt Ws t mb T := by rw [← hWs]; exact hT.keep ((Keep.refl [g9] _).put8 (by simp) (idv y)) q1 q2
                have hKw : Keep [] w Ws := by rw [← hWs]; exact hKw.put8 (.inr hg9) (idv y)
                have hB8 : Blk Ws g8 29 (dcells (idv x)) := by rw [← hWs]; exact hB8.keep ((Keep.refl [g9] _).put8 (by simp) (idv y)) (by simp; first | exact hne | exact Ne.symm hne)
                have hB9 : Blk Ws g9 29 (dcells (idv y)) := by rw [← hWs]; exact hB9.put8 (idv y)
                clear hWs c9 f9
                refine hK.out _ _ ?_
                clear hK K
                try simp only [Act.put, List.setIfInBounds_toArray, List.set_cons_zero, List.set_cons_succ]
                refine Bz.wpAnyE_done (by kernel_rfl) ?_ _
                refine NoPanic.normal ?_
                clear hHeld
                exact key g8 g9 _ ⟨hT, hKw, hB8, hB9, hg8, hg9⟩
              exact Bz.AllReadyE.nil
            refine Bz.AllReadyE.cons (o := { dst := some 9, op := Go.Op.alloc 29, type := 0, pos := "law.go:142", after := #[], guard := none }) rfl (fun K hK => ?_) ?_
            · skip
              
              go_simp
              generalize hWa : World.alloc _ _ = Wa
              obtain ⟨g9, e9, hB9⟩ := blk_alloc (t := 29) (cs := dcells d0) hWa
              rw [← e9]
              try have hne := blk_apart hB8 e9
              have hg9 : w.heap.size ≤ g9 := by rw [e9]; exact hKw.size
              try have hB8 : Blk Wa g8 29 (dcells d0) := by rw [← hWa]; exact hB8.alloc _
              have hT : TreeAt Wa t mb T := by rw [← hWa]; exact hT.alloc _
              have hKw : Keep [] w Wa := by rw [← hWa]; exact hKw.alloc _
              clear hWa e9
              refine hK.out _ _ (by exact hcl _ hKw) ?_
              clear hHeld hK K; intro hHeld
              try simp only [Act.put, List.setIfInBounds_toArray, List.set_cons_zero, List.set_cons_succ]
              refine Bz.wpAnyE_ready (rs := [11, 12]) (by kernel_rfl) (by simp) ?_
              refine Bz.AllReadyE.cons (o := { dst := some 44, op := Go.Op.call { callee := Go.Callee.value (Go.Operand.func 11), args := #[Go.Operand.tmp 43], argTypes := #[5] }, type := 29, pos := "law.go:142", after := #[{ on := 10, ground := Go.Ground.data }, { on := 5, ground := Go.Ground.chain }], guard := none }) rfl (fun K hK => ?_) ?_
              · skip
                go_simp
                
                refine (id_any _ _).mono ?_
                rintro e w5 ⟨rfl, hk5⟩
                have hT := hT.keep0 hk5
                have hKw := hKw.trans hk5
                try have hB8 := hB8.keep hk5 (by simp)
                try have hB9 := hB9.keep hk5 (by simp)
                refine hK.out _ _ (by exact hcl _ hKw) ?_
                clear hHeld hK K; intro hHeld
                try simp only [Act.put, List.setIfInBounds_toArray, List.set_cons_zero, List.set_cons_succ]
                refine Bz.wpAnyE_ready (rs := [12]) (by kernel_rfl) (by simp) ?_
                refine Bz.AllReadyE.cons (o := { dst := some 8, op := Go.Op.alloc 29, type := 0, pos := "law.go:142", after := #[], guard := none }) rfl (fun K hK => ?_) Bz.AllReadyE.nil
                
                go_simp
                generalize hWa : World.alloc _ _ = Wa
                obtain ⟨g8, e8, hB8⟩ := blk_alloc (t := 29) (cs := dcells d0) hWa
                rw [← e8]
                try have hne := blk_apart hB9 e8
                have hg8 : w.heap.size ≤ g8 := by rw [e8]; exact hKw.size
                try have hB9 : Blk Wa g9 29 (dcells d0) := by rw [← hWa]; exact hB9.alloc _
                have hT : TreeAt Wa t mb T := by rw [← hWa]; exact hT.alloc _
                have hKw : Keep [] w Wa := by rw [← hWa]; exact hKw.alloc _
                clear hWa e8
                refine hK.out _ _ (by exact hcl _ hKw) ?_
                clear hHeld hK K; intro hHeld
                try simp only [Act.put, List.setIfInBounds_toArray, List.set_cons_zero, List.set_cons_succ]
                refine Bz.wpAnyE_ready (rs := [14]) (by kernel_rfl) (by simp) ?_
                refine Bz.AllReadyE.cons (o := { dst := none, op := Go.Op.store 29 (Go.Operand.tmp 8) (Go.Operand.tmp 38), type := 0, pos := "law.go:142", after := #[{ on := 12, ground := Go.Ground.data }, { on := 5, ground := Go.Ground.data }, { on := 11, ground := Go.Ground.chain }, { on := 0, ground := Go.Ground.phase }, { on := 1, ground := Go.Ground.phase }, { on := 2, ground := Go.Ground.phase }, { on := 3, ground := Go.Ground.phase }, { on := 4, ground := Go.Ground.phase }, { on := 5, ground := Go.Ground.phase }, { on := 6, ground := Go.Ground.textOnly Go.Departure.lateStores }, { on := 7, ground := Go.Ground.textOnly Go.Departure.lateStores }, { on := 8, ground := Go.Ground.textOnly Go.Departure.lateStores }, { on := 9, ground := Go.Ground.textOnly Go.Departure.lateStores }, { on := 10, ground := Go.Ground.textOnly Go.Departure.lateStores }, { on := 11, ground := Go.Ground.textOnly Go.Departure.lateStoresUnsure }, { on := 12, ground := Go.Ground.phase }, { on := 13, ground := Go.Ground.phase }], guard := none }) rfl (fun K hK => ?_) Bz.AllReadyE.nil
                
                have c8 := hB8.cell
                have f8 := hB8.frozen
                go_simp
                generalize hWs : World.setCell _ _ _ = Ws
                have q1 : t ∉ [g8] := by simp; exact fun e => hT.1.ne_ hB8 (by decide) e
                have q2 : mb ∉ [g8] := by simp; exact fun e => hT.2.ne_blk hB8 e
                have hT : TreeAt Ws t mb T := by rw [← hWs]; exact hT.keep ((Keep.refl [g8] _).put8 (by simp) (idv x)) q1 q2
                have hKw : Keep [] w Ws := by rw [← hWs]; exact hKw.put8 (.inr hg8) (idv x)
                have hB9 : Blk Ws g9 29 (dcells d0) := by rw [← hWs]; exact hB9.keep ((Keep.refl [g8] _).put8 (by simp) (idv x)) (by simp; first | exact hne | exact Ne.symm hne)
                have hB8 : Blk Ws g8 29 (dcells (idv x)) := by rw [← hWs]; exact hB8.put8 (idv x)
                clear hWs c8 f8
                refine hK.out _ _ (by exact hcl _ hKw) ?_
                clear hHeld hK K; intro hHeld
                try simp only [Act.put, List.setIfInBounds_toArray, List.set_cons_zero, List.set_cons_succ]
                refine Bz.wpAnyE_ready (rs := [15]) (by kernel_rfl) (by simp) ?_
                refine Bz.AllReadyE.last (o := { dst := none, op := Go.Op.store 29 (Go.Operand.tmp 9) (Go.Operand.tmp 44), type := 0, pos := "law.go:142", after := #[{ on := 13, ground := Go.Ground.data }, { on := 11, ground := Go.Ground.data }, { on := 14, ground := Go.Ground.chain }, { on := 0, ground := Go.Ground.phase }, { on := 1, ground := Go.Ground.phase }, { on := 2, ground := Go.Ground.phase }, { on := 3, ground := Go.Ground.phase }, { on := 4, ground := Go.Ground.phase }, { on := 5, ground := Go.Ground.phase }, { on := 6, ground := Go.Ground.phase }, { on := 7, ground := Go.Ground.phase }, { on := 8, ground := Go.Ground.phase }, { on := 9, ground := Go.Ground.phase }, { on := 10, ground := Go.Ground.phase }, { on := 11, ground := Go.Ground.phase }, { on := 12, ground := Go.Ground.phase }, { on := 13, ground := Go.Ground.phase }, { on := 14, ground := Go.Ground.phase }], guard := none }) rfl (by rfl) (fun K hK => ?_) Bz.AllReadyE.nil
                
                have c9 := hB9.cell
                have f9 := hB9.frozen
                go_simp
                generalize hWs : World.setCell _ _ _ = Ws
                have q1 : t ∉ [g9] := by simp; exact fun e => hT.1.ne_ hB9 (by decide) e
                have q2 : mb ∉ [g9] := by simp; exact fun e => hT.2.ne_blk hB9 e
                have hT : TreeAt Ws t mb T := by rw [← hWs]; exact hT.keep ((Keep.refl [g9] _).put8 (by simp) (idv y)) q1 q2
                have hKw : Keep [] w Ws := by rw [← hWs]; exact hKw.put8 (.inr hg9) (idv y)
                have hB8 : Blk Ws g8 29 (dcells (idv x)) := by rw [← hWs]; exact hB8.keep ((Keep.refl [g9] _).put8 (by simp) (idv y)) (by simp; first | exact hne | exact Ne.symm hne)
                have hB9 : Blk Ws g9 29 (dcells (idv y)) := by rw [← hWs]; exact hB9.put8 (idv y)
                clear hWs c9 f9
                refine hK.out _ _ ?_
                clear hK K
                try simp only [Act.put, List.setIfInBounds_toArray, List.set_cons_zero, List.set_cons_succ]
                refine Bz.wpAnyE_done (by kernel_rfl) ?_ _
                refine NoPanic.normal ?_
                clear hHeld
                exact key g8 g9 _ ⟨hT, hKw, hB8, hB9, hg8, hg9⟩
              refine Bz.AllReadyE.cons (o := { dst := some 8, op := Go.Op.alloc 29, type := 0, pos := "law.go:142", after := #[], guard := none }) rfl (fun K hK => ?_) ?_
              · skip
                
                go_simp
                generalize hWa : World.alloc _ _ = Wa
                obtain ⟨g8, e8, hB8⟩ := blk_alloc (t := 29) (cs := dcells d0) hWa
                rw [← e8]
                try have hne := blk_apart hB9 e8
                have hg8 : w.heap.size ≤ g8 := by rw [e8]; exact hKw.size
                try have hB9 : Blk Wa g9 29 (dcells d0) := by rw [← hWa]; exact hB9.alloc _
                have hT : TreeAt Wa t mb T := by rw [← hWa]; exact hT.alloc _
                have hKw : Keep [] w Wa := by rw [← hWa]; exact hKw.alloc _
                clear hWa e8
                refine hK.out _ _ (by exact hcl _ hKw) ?_
                clear hHeld hK K; intro hHeld
                try simp only [Act.put, List.setIfInBounds_toArray, List.set_cons_zero, List.set_cons_succ]
                refine Bz.wpAnyE_ready (rs := [11]) (by kernel_rfl) (by simp) ?_
                refine Bz.AllReadyE.cons (o := { dst := some 44, op := Go.Op.call { callee := Go.Callee.value (Go.Operand.func 11), args := #[Go.Operand.tmp 43], argTypes := #[5] }, type := 29, pos := "law.go:142", after := #[{ on := 10, ground := Go.Ground.data }, { on := 5, ground := Go.Ground.chain }], guard := none }) rfl (fun K hK => ?_) Bz.AllReadyE.nil
                go_simp
                
                refine (id_any _ _).mono ?_
                rintro e w5 ⟨rfl, hk5⟩
                have hT := hT.keep0 hk5
                have hKw := hKw.trans hk5
                try have hB8 := hB8.keep hk5 (by simp)
                try have hB9 := hB9.keep hk5 (by simp)
                refine hK.out _ _ (by exact hcl _ hKw) ?_
                clear hHeld hK K; intro hHeld
                try simp only [Act.put, List.setIfInBounds_toArray, List.set_cons_zero, List.set_cons_succ]
                refine Bz.wpAnyE_ready (rs := [14]) (by kernel_rfl) (by simp) ?_
                refine Bz.AllReadyE.cons (o := { dst := none, op := Go.Op.store 29 (Go.Operand.tmp 8) (Go.Operand.tmp 38), type := 0, pos := "law.go:142", after := #[{ on := 12, ground := Go.Ground.data }, { on := 5, ground := Go.Ground.data }, { on := 11, ground := Go.Ground.chain }, { on := 0, ground := Go.Ground.phase }, { on := 1, ground := Go.Ground.phase }, { on := 2, ground := Go.Ground.phase }, { on := 3, ground := Go.Ground.phase }, { on := 4, ground := Go.Ground.phase }, { on := 5, ground := Go.Ground.phase }, { on := 6, ground := Go.Ground.textOnly Go.Departure.lateStores }, { on := 7, ground := Go.Ground.textOnly Go.Departure.lateStores }, { on := 8, ground := Go.Ground.textOnly Go.Departure.lateStores }, { on := 9, ground := Go.Ground.textOnly Go.Departure.lateStores }, { on := 10, ground := Go.Ground.textOnly Go.Departure.lateStores }, { on := 11, ground := Go.Ground.textOnly Go.Departure.lateStoresUnsure }, { on := 12, ground := Go.Ground.phase }, { on := 13, ground := Go.Ground.phase }], guard := none }) rfl (fun K hK => ?_) Bz.AllReadyE.nil
                
                have c8 := hB8.cell
                have f8 := hB8.frozen
                go_simp
                generalize hWs : World.setCell _ _ _ = Ws
                have q1 : t ∉ [g8] := by simp; exact fun e => hT.1.ne_ hB8 (by decide) e
                have q2 : mb ∉ [g8] := by simp; exact fun e => hT.2.ne_blk hB8 e
                have hT : TreeAt Ws t mb T := by rw [← hWs]; exact hT.keep ((Keep.refl [g8] _).put8 (by simp) (idv x)) q1 q2
                have hKw : Keep [] w Ws := by rw [← hWs]; exact hKw.put8 (.inr hg8) (idv x)
                have hB9 : Blk Ws g9 29 (dcells d0) := by rw [← hWs]; exact hB9.keep ((Keep.refl [g8] _).put8 (by simp) (idv x)) (by simp; first | exact hne | exact Ne.symm hne)
                have hB8 : Blk Ws g8 29 (dcells (idv x)) := by rw [← hWs]; exact hB8.put8 (idv x)
                clear hWs c8 f8
                refine hK.out _ _ (by exact hcl _ hKw) ?_
                clear hHeld hK K; intro hHeld
                try simp only [Act.put, List.setIfInBounds_toArray, List.set_cons_zero, List.set_cons_succ]
                refine Bz.wpAnyE_ready (rs := [15]) (by kernel_rfl) (by simp) ?_
                refine Bz.AllReadyE.last (o := { dst := none, op := Go.Op.store 29 (Go.Operand.tmp 9) (Go.Operand.tmp 44), type := 0, pos := "law.go:142", after := #[{ on := 13, ground := Go.Ground.data }, { on := 11, ground := Go.Ground.data }, { on := 14, ground := Go.Ground.chain }, { on := 0, ground := Go.Ground.phase }, { on := 1, ground := Go.Ground.phase }, { on := 2, ground := Go.Ground.phase }, { on := 3, ground := Go.Ground.phase }, { on := 4, ground := Go.Ground.phase }, { on := 5, ground := Go.Ground.phase }, { on := 6, ground := Go.Ground.phase }, { on := 7, ground := Go.Ground.phase }, { on := 8, ground := Go.Ground.phase }, { on := 9, ground := Go.Ground.phase }, { on := 10, ground := Go.Ground.phase }, { on := 11, ground := Go.Ground.phase }, { on := 12, ground := Go.Ground.phase }, { on := 13, ground := Go.Ground.phase }, { on := 14, ground := Go.Ground.phase }], guard := none }) rfl (by rfl) (fun K hK => ?_) Bz.AllReadyE.nil
                
                have c9 := hB9.cell
                have f9 := hB9.frozen
                go_simp
                generalize hWs : World.setCell _ _ _ = Ws
                have q1 : t ∉ [g9] := by simp; exact fun e => hT.1.ne_ hB9 (by decide) e
                have q2 : mb ∉ [g9] := by simp; exact fun e => hT.2.ne_blk hB9 e
                have hT : TreeAt Ws t mb T := by rw [← hWs]; exact hT.keep ((Keep.refl [g9] _).put8 (by simp) (idv y)) q1 q2
                have hKw : Keep [] w Ws := by rw [← hWs]; exact hKw.put8 (.inr hg9) (idv y)
                have hB8 : Blk Ws g8 29 (dcells (idv x)) := by rw [← hWs]; exact hB8.keep ((Keep.refl [g9] _).put8 (by simp) (idv y)) (by simp; first | exact hne | exact Ne.symm hne)
                have hB9 : Blk Ws g9 29 (dcells (idv y)) := by rw [← hWs]; exact hB9.put8 (idv y)
                clear hWs c9 f9
                refine hK.out _ _ ?_
                clear hK K
                try simp only [Act.put, List.setIfInBounds_toArray, List.set_cons_zero, List.set_cons_succ]
                refine Bz.wpAnyE_done (by kernel_rfl) ?_ _
                refine NoPanic.normal ?_
                clear hHeld
                exact key g8 g9 _ ⟨hT, hKw, hB8, hB9, hg8, hg9⟩
              exact Bz.AllReadyE.nil
            exact Bz.AllReadyE.nil
          refine Bz.AllReadyE.cons (o := { dst := some 8, op := Go.Op.alloc 29, type := 0, pos := "law.go:142", after := #[], guard := none }) rfl (fun K hK => ?_) ?_
          · skip
            
            go_simp
            generalize hWa : World.alloc _ _ = Wa
            obtain ⟨g8, e8, hB8⟩ := blk_alloc (t := 29) (cs := dcells d0) hWa
            rw [← e8]
            try have hne := blk_apart hB9 e8
            have hg8 : w.heap.size ≤ g8 := by rw [e8]; exact hKw.size
            try have hB9 : Blk Wa g9 29 (dcells d0) := by rw [← hWa]; exact hB9.alloc _
            have hT : TreeAt Wa t mb T := by rw [← hWa]; exact hT.alloc _
            have hKw : Keep [] w Wa := by rw [← hWa]; exact hKw.alloc _
            clear hWa e8
            refine hK.out _ _ (by exact hcl _ hKw) ?_
            clear hHeld hK K; intro hHeld
            try simp only [Act.put, List.setIfInBounds_toArray, List.set_cons_zero, List.set_cons_succ]
            refine Bz.wpAnyE_ready (rs := [5, 13]) (by kernel_rfl) (by simp) ?_
            refine Bz.AllReadyE.cons (o := { dst := some 38, op := Go.Op.call { callee := Go.Callee.value (Go.Operand.func 11), args := #[Go.Operand.tmp 37], argTypes := #[5] }, type := 29, pos := "law.go:142", after := #[{ on := 4, ground := Go.Ground.data }], guard := none }) rfl (fun K hK => ?_) ?_
            · skip
              go_simp
              
              refine (id_any _ _).mono ?_
              rintro e w5 ⟨rfl, hk5⟩
              have hT := hT.keep0 hk5
              have hKw := hKw.trans hk5
              try have hB8 := hB8.keep hk5 (by simp)
              try have hB9 := hB9.keep hk5 (by simp)
              refine hK.out _ _ (by exact hcl _ hKw) ?_
              clear hHeld hK K; intro hHeld
              try simp only [Act.put, List.setIfInBounds_toArray, List.set_cons_zero, List.set_cons_succ]
              refine Bz.wpAnyE_ready (rs := [11, 13]) (by kernel_rfl) (by simp) ?_
              refine Bz.AllReadyE.cons (o := { dst := some 44, op := Go.Op.call { callee := Go.Callee.value (Go.Operand.func 11), args := #[Go.Operand.tmp 43], argTypes := #[5] }, type := 29, pos := "law.go:142", after := #[{ on := 10, ground := Go.Ground.data }, { on := 5, ground := Go.Ground.chain }], guard := none }) rfl (fun K hK => ?_) ?_
              · skip
                go_simp
                
                refine (id_any _ _).mono ?_
                rintro e w5 ⟨rfl, hk5⟩
                have hT := hT.keep0 hk5
                have hKw := hKw.trans hk5
                try have hB8 := hB8.keep hk5 (by simp)
                try have hB9 := hB9.keep hk5 (by simp)
                refine hK.out _ _ (by exact hcl _ hKw) ?_
                clear hHeld hK K; intro hHeld
                try simp only [Act.put, List.setIfInBounds_toArray, List.set_cons_zero, List.set_cons_succ]
                refine Bz.wpAnyE_ready (rs := [13]) (by kernel_rfl) (by simp) ?_
                refine Bz.AllReadyE.cons (o := { dst := some 9, op := Go.Op.alloc 29, type := 0, pos := "law.go:142", after := #[], guard := none }) rfl (fun K hK => ?_) Bz.AllReadyE.nil
                
                go_simp
                generalize hWa : World.alloc _ _ = Wa
                obtain ⟨g9, e9, hB9⟩ := blk_alloc (t := 29) (cs := dcells d0) hWa
                rw [← e9]
                try have hne := blk_apart hB8 e9
                have hg9 : w.heap.size ≤ g9 := by rw [e9]; exact hKw.size
                try have hB8 : Blk Wa g8 29 (dcells d0) := by rw [← hWa]; exact hB8.alloc _
                have hT : TreeAt Wa t mb T := by rw [← hWa]; exact hT.alloc _
                have hKw : Keep [] w Wa := by rw [← hWa]; exact hKw.alloc _
                clear hWa e9
                refine hK.out _ _ (by exact hcl _ hKw) ?_
                clear hHeld hK K; intro hHeld
                try simp only [Act.put, List.setIfInBounds_toArray, List.set_cons_zero, List.set_cons_succ]
                refine Bz.wpAnyE_ready (rs := [14]) (by kernel_rfl) (by simp) ?_
                refine Bz.AllReadyE.cons (o := { dst := none, op := Go.Op.store 29 (Go.Operand.tmp 8) (Go.Operand.tmp 38), type := 0, pos := "law.go:142", after := #[{ on := 12, ground := Go.Ground.data }, { on := 5, ground := Go.Ground.data }, { on := 11, ground := Go.Ground.chain }, { on := 0, ground := Go.Ground.phase }, { on := 1, ground := Go.Ground.phase }, { on := 2, ground := Go.Ground.phase }, { on := 3, ground := Go.Ground.phase }, { on := 4, ground := Go.Ground.phase }, { on := 5, ground := Go.Ground.phase }, { on := 6, ground := Go.Ground.textOnly Go.Departure.lateStores }, { on := 7, ground := Go.Ground.textOnly Go.Departure.lateStores }, { on := 8, ground := Go.Ground.textOnly Go.Departure.lateStores }, { on := 9, ground := Go.Ground.textOnly Go.Departure.lateStores }, { on := 10, ground := Go.Ground.textOnly Go.Departure.lateStores }, { on := 11, ground := Go.Ground.textOnly Go.Departure.lateStoresUnsure }, { on := 12, ground := Go.Ground.phase }, { on := 13, ground := Go.Ground.phase }], guard := none }) rfl (fun K hK => ?_) Bz.AllReadyE.nil
                
                have c8 := hB8.cell
                have f8 := hB8.frozen
                go_simp
                generalize hWs : World.setCell _ _ _ = Ws
                have q1 : t ∉ [g8] := by simp; exact fun e => hT.1.ne_ hB8 (by decide) e
                have q2 : mb ∉ [g8] := by simp; exact fun e => hT.2.ne_blk hB8 e
                have hT : TreeAt Ws t mb T := by rw [← hWs]; exact hT.keep ((Keep.refl [g8] _).put8 (by simp) (idv x)) q1 q2
                have hKw : Keep [] w Ws := by rw [← hWs]; exact hKw.put8 (.inr hg8) (idv x)
                have hB9 : Blk Ws g9 29 (dcells d0) := by rw [← hWs]; exact hB9.keep ((Keep.refl [g8] _).put8 (by simp) (idv x)) (by simp; first | exact hne | exact Ne.symm hne)
                have hB8 : Blk Ws g8 29 (dcells (idv x)) := by rw [← hWs]; exact hB8.put8 (idv x)
                clear hWs c8 f8
                refine hK.out _ _ (by exact hcl _ hKw) ?_
                clear hHeld hK K; intro hHeld
                try simp only [Act.put, List.setIfInBounds_toArray, List.set_cons_zero, List.set_cons_succ]
                refine Bz.wpAnyE_ready (rs := [15]) (by kernel_rfl) (by simp) ?_
                refine Bz.AllReadyE.last (o := { dst := none, op := Go.Op.store 29 (Go.Operand.tmp 9) (Go.Operand.tmp 44), type := 0, pos := "law.go:142", after := #[{ on := 13, ground := Go.Ground.data }, { on := 11, ground := Go.Ground.data }, { on := 14, ground := Go.Ground.chain }, { on := 0, ground := Go.Ground.phase }, { on := 1, ground := Go.Ground.phase }, { on := 2, ground := Go.Ground.phase }, { on := 3, ground := Go.Ground.phase }, { on := 4, ground := Go.Ground.phase }, { on := 5, ground := Go.Ground.phase }, { on := 6, ground := Go.Ground.phase }, { on := 7, ground := Go.Ground.phase }, { on := 8, ground := Go.Ground.phase }, { on := 9, ground := Go.Ground.phase }, { on := 10, ground := Go.Ground.phase }, { on := 11, ground := Go.Ground.phase }, { on := 12, ground := Go.Ground.phase }, { on := 13, ground := Go.Ground.phase }, { on := 14, ground := Go.Ground.phase }], guard := none }) rfl (by rfl) (fun K hK => ?_) Bz.AllReadyE.nil
                
                have c9 := hB9.cell
                have f9 := hB9.frozen
                go_simp
                generalize hWs : World.setCell _ _ _ = Ws
                have q1 : t ∉ [g9] := by simp; exact fun e => hT.1.ne_ hB9 (by decide) e
                have q2 : mb ∉ [g9] := by simp; exact fun e => hT.2.ne_blk hB9 e
                have hT : TreeAt Ws t mb T := by rw [← hWs]; exact hT.keep ((Keep.refl [g9] _).put8 (by simp) (idv y)) q1 q2
                have hKw : Keep [] w Ws := by rw [← hWs]; exact hKw.put8 (.inr hg9) (idv y)
                have hB8 : Blk Ws g8 29 (dcells (idv x)) := by rw [← hWs]; exact hB8.keep ((Keep.refl [g9] _).put8 (by simp) (idv y)) (by simp; first | exact hne | exact Ne.symm hne)
                have hB9 : Blk Ws g9 29 (dcells (idv y)) := by rw [← hWs]; exact hB9.put8 (idv y)
                clear hWs c9 f9
                refine hK.out _ _ ?_
                clear hK K
                try simp only [Act.put, List.setIfInBounds_toArray, List.set_cons_zero, List.set_cons_succ]
                refine Bz.wpAnyE_done (by kernel_rfl) ?_ _
                refine NoPanic.normal ?_
                clear hHeld
                exact key g8 g9 _ ⟨hT, hKw, hB8, hB9, hg8, hg9⟩
              refine Bz.AllReadyE.cons (o := { dst := some 9, op := Go.Op.alloc 29, type := 0, pos := "law.go:142", after := #[], guard := none }) rfl (fun K hK => ?_) ?_
              · skip
                
                go_simp
                generalize hWa : World.alloc _ _ = Wa
                obtain ⟨g9, e9, hB9⟩ := blk_alloc (t := 29) (cs := dcells d0) hWa
                rw [← e9]
                try have hne := blk_apart hB8 e9
                have hg9 : w.heap.size ≤ g9 := by rw [e9]; exact hKw.size
                try have hB8 : Blk Wa g8 29 (dcells d0) := by rw [← hWa]; exact hB8.alloc _
                have hT : TreeAt Wa t mb T := by rw [← hWa]; exact hT.alloc _
                have hKw : Keep [] w Wa := by rw [← hWa]; exact hKw.alloc _
                clear hWa e9
                refine hK.out _ _ (by exact hcl _ hKw) ?_
                clear hHeld hK K; intro hHeld
                try simp only [Act.put, List.setIfInBounds_toArray, List.set_cons_zero, List.set_cons_succ]
                refine Bz.wpAnyE_ready (rs := [11]) (by kernel_rfl) (by simp) ?_
                refine Bz.AllReadyE.cons (o := { dst := some 44, op := Go.Op.call { callee := Go.Callee.value (Go.Operand.func 11), args := #[Go.Operand.tmp 43], argTypes := #[5] }, type := 29, pos := "law.go:142", after := #[{ on := 10, ground := Go.Ground.data }, { on := 5, ground := Go.Ground.chain }], guard := none }) rfl (fun K hK => ?_) Bz.AllReadyE.nil
                go_simp
                
                refine (id_any _ _).mono ?_
                rintro e w5 ⟨rfl, hk5⟩
                have hT := hT.keep0 hk5
                have hKw := hKw.trans hk5
                try have hB8 := hB8.keep hk5 (by simp)
                try have hB9 := hB9.keep hk5 (by simp)
                refine hK.out _ _ (by exact hcl _ hKw) ?_
                clear hHeld hK K; intro hHeld
                try simp only [Act.put, List.setIfInBounds_toArray, List.set_cons_zero, List.set_cons_succ]
                refine Bz.wpAnyE_ready (rs := [14]) (by kernel_rfl) (by simp) ?_
                refine Bz.AllReadyE.cons (o := { dst := none, op := Go.Op.store 29 (Go.Operand.tmp 8) (Go.Operand.tmp 38), type := 0, pos := "law.go:142", after := #[{ on := 12, ground := Go.Ground.data }, { on := 5, ground := Go.Ground.data }, { on := 11, ground := Go.Ground.chain }, { on := 0, ground := Go.Ground.phase }, { on := 1, ground := Go.Ground.phase }, { on := 2, ground := Go.Ground.phase }, { on := 3, ground := Go.Ground.phase }, { on := 4, ground := Go.Ground.phase }, { on := 5, ground := Go.Ground.phase }, { on := 6, ground := Go.Ground.textOnly Go.Departure.lateStores }, { on := 7, ground := Go.Ground.textOnly Go.Departure.lateStores }, { on := 8, ground := Go.Ground.textOnly Go.Departure.lateStores }, { on := 9, ground := Go.Ground.textOnly Go.Departure.lateStores }, { on := 10, ground := Go.Ground.textOnly Go.Departure.lateStores }, { on := 11, ground := Go.Ground.textOnly Go.Departure.lateStoresUnsure }, { on := 12, ground := Go.Ground.phase }, { on := 13, ground := Go.Ground.phase }], guard := none }) rfl (fun K hK => ?_) Bz.AllReadyE.nil
                
                have c8 := hB8.cell
                have f8 := hB8.frozen
                go_simp
                generalize hWs : World.setCell _ _ _ = Ws
                have q1 : t ∉ [g8] := by simp; exact fun e => hT.1.ne_ hB8 (by decide) e
                have q2 : mb ∉ [g8] := by simp; exact fun e => hT.2.ne_blk hB8 e
                have hT : TreeAt Ws t mb T := by rw [← hWs]; exact hT.keep ((Keep.refl [g8] _).put8 (by simp) (idv x)) q1 q2
                have hKw : Keep [] w Ws := by rw [← hWs]; exact hKw.put8 (.inr hg8) (idv x)
                have hB9 : Blk Ws g9 29 (dcells d0) := by rw [← hWs]; exact hB9.keep ((Keep.refl [g8] _).put8 (by simp) (idv x)) (by simp; first | exact hne | exact Ne.symm hne)
                have hB8 : Blk Ws g8 29 (dcells (idv x)) := by rw [← hWs]; exact hB8.put8 (idv x)
                clear hWs c8 f8
                refine hK.out _ _ (by exact hcl _ hKw) ?_
                clear hHeld hK K; intro hHeld
                try simp only [Act.put, List.setIfInBounds_toArray, List.set_cons_zero, List.set_cons_succ]
                refine Bz.wpAnyE_ready (rs := [15]) (by kernel_rfl) (by simp) ?_
                refine Bz.AllReadyE.last (o := { dst := none, op := Go.Op.store 29 (Go.Operand.tmp 9) (Go.Operand.tmp 44), type := 0, pos := "law.go:142", after := #[{ on := 13, ground := Go.Ground.data }, { on := 11, ground := Go.Ground.data }, { on := 14, ground := Go.Ground.chain }, { on := 0, ground := Go.Ground.phase }, { on := 1, ground := Go.Ground.phase }, { on := 2, ground := Go.Ground.phase }, { on := 3, ground := Go.Ground.phase }, { on := 4, ground := Go.Ground.phase }, { on := 5, ground := Go.Ground.phase }, { on := 6, ground := Go.Ground.phase }, { on := 7, ground := Go.Ground.phase }, { on := 8, ground := Go.Ground.phase }, { on := 9, ground := Go.Ground.phase }, { on := 10, ground := Go.Ground.phase }, { on := 11, ground := Go.Ground.phase }, { on := 12, ground := Go.Ground.phase }, { on := 13, ground := Go.Ground.phase }, { on := 14, ground := Go.Ground.phase }], guard := none }) rfl (by rfl) (fun K hK => ?_) Bz.AllReadyE.nil
                
                have c9 := hB9.cell
                have f9 := hB9.frozen
                go_simp
                generalize hWs : World.setCell _ _ _ = Ws
                have q1 : t ∉ [g9] := by simp; exact fun e => hT.1.ne_ hB9 (by decide) e
                have q2 : mb ∉ [g9] := by simp; exact fun e => hT.2.ne_blk hB9 e
                have hT : TreeAt Ws t mb T := by rw [← hWs]; exact hT.keep ((Keep.refl [g9] _).put8 (by simp) (idv y)) q1 q2
                have hKw : Keep [] w Ws := by rw [← hWs]; exact hKw.put8 (.inr hg9) (idv y)
                have hB8 : Blk Ws g8 29 (dcells (idv x)) := by rw [← hWs]; exact hB8.keep ((Keep.refl [g9] _).put8 (by simp) (idv y)) (by simp; first | exact hne | exact Ne.symm hne)
                have hB9 : Blk Ws g9 29 (dcells (idv y)) := by rw [← hWs]; exact hB9.put8 (idv y)
                clear hWs c9 f9
                refine hK.out _ _ ?_
                clear hK K
                try simp only [Act.put, List.setIfInBounds_toArray, List.set_cons_zero, List.set_cons_succ]
                refine Bz.wpAnyE_done (by kernel_rfl) ?_ _
                refine NoPanic.normal ?_
                clear hHeld
                exact key g8 g9 _ ⟨hT, hKw, hB8, hB9, hg8, hg9⟩
              exact Bz.AllReadyE.nil
            refine Bz.AllReadyE.cons (o := { dst := some 9, op := Go.Op.alloc 29, type := 0, pos := "law.go:142", after := #[], guard := none }) rfl (fun K hK => ?_) ?_
            · skip
              
              go_simp
              generalize hWa : World.alloc _ _ = Wa
              obtain ⟨g9, e9, hB9⟩ := blk_alloc (t := 29) (cs := dcells d0) hWa
              rw [← e9]
              try have hne := blk_apart hB8 e9
              have hg9 : w.heap.size ≤ g9 := by rw [e9]; exact hKw.size
              try have hB8 : Blk Wa g8 29 (dcells d0) := by rw [← hWa]; exact hB8.alloc _
              have hT : TreeAt Wa t mb T := by rw [← hWa]; exact hT.alloc _
              have hKw : Keep [] w Wa := by rw [← hWa]; exact hKw.alloc _
              clear hWa e9
              refine hK.out _ _ (by exact hcl _ hKw) ?_
              clear hHeld hK K; intro hHeld
              try simp only [Act.put, List.setIfInBounds_toArray, List.set_cons_zero, List.set_cons_succ]
              refine Bz.wpAnyE_ready (rs := [5]) (by kernel_rfl) (by simp) ?_
              refine Bz.AllReadyE.cons (o := { dst := some 38, op := Go.Op.call { callee := Go.Callee.value (Go.Operand.func 11), args := #[Go.Operand.tmp 37], argTypes := #[5] }, type := 29, pos := "law.go:142", after := #[{ on := 4, ground := Go.Ground.data }], guard := none }) rfl (fun K hK => ?_) Bz.AllReadyE.nil
              go_simp
              
              refine (id_any _ _).mono ?_
              rintro e w5 ⟨rfl, hk5⟩
              have hT := hT.keep0 hk5
              have hKw := hKw.trans hk5
              try have hB8 := hB8.keep hk5 (by simp)
              try have hB9 := hB9.keep hk5 (by simp)
              refine hK.out _ _ (by exact hcl _ hKw) ?_
              clear hHeld hK K; intro hHeld
              try simp only [Act.put, List.setIfInBounds_toArray, List.set_cons_zero, List.set_cons_succ]
              refine Bz.wpAnyE_ready (rs := [11]) (by kernel_rfl) (by simp) ?_
              refine Bz.AllReadyE.cons (o := { dst := some 44, op := Go.Op.call { callee := Go.Callee.value (Go.Operand.func 11), args := #[Go.Operand.tmp 43], argTypes := #[5] }, type := 29, pos := "law.go:142", after := #[{ on := 10, ground := Go.Ground.data }, { on := 5, ground := Go.Ground.chain }], guard := none }) rfl (fun K hK => ?_) Bz.AllReadyE.nil
              go_simp
              
              refine (id_any _ _).mono ?_
              rintro e w5 ⟨rfl, hk5⟩
              have hT := hT.keep0 hk5
              have hKw := hKw.trans hk5
              try have hB8 := hB8.keep hk5 (by simp)
              try have hB9 := hB9.keep hk5 (by simp)
              refine hK.out _ _ (by exact hcl _ hKw) ?_
              clear hHeld hK K; intro hHeld
              try simp only [Act.put, List.setIfInBounds_toArray, List.set_cons_zero, List.set_cons_succ]
              refine Bz.wpAnyE_ready (rs := [14]) (by kernel_rfl) (by simp) ?_
              refine Bz.AllReadyE.cons (o := { dst := none, op := Go.Op.store 29 (Go.Operand.tmp 8) (Go.Operand.tmp 38), type := 0, pos := "law.go:142", after := #[{ on := 12, ground := Go.Ground.data }, { on := 5, ground := Go.Ground.data }, { on := 11, ground := Go.Ground.chain }, { on := 0, ground := Go.Ground.phase }, { on := 1, ground := Go.Ground.phase }, { on := 2, ground := Go.Ground.phase }, { on := 3, ground := Go.Ground.phase }, { on := 4, ground := Go.Ground.phase }, { on := 5, ground := Go.Ground.phase }, { on := 6, ground := Go.Ground.textOnly Go.Departure.lateStores }, { on := 7, ground := Go.Ground.textOnly Go.Departure.lateStores }, { on := 8, ground := Go.Ground.textOnly Go.Departure.lateStores }, { on := 9, ground := Go.Ground.textOnly Go.Departure.lateStores }, { on := 10, ground := Go.Ground.textOnly Go.Departure.lateStores }, { on := 11, ground := Go.Ground.textOnly Go.Departure.lateStoresUnsure }, { on := 12, ground := Go.Ground.phase }, { on := 13, ground := Go.Ground.phase }], guard := none }) rfl (fun K hK => ?_) Bz.AllReadyE.nil
              
              have c8 := hB8.cell
              have f8 := hB8.frozen
              go_simp
              generalize hWs : World.setCell _ _ _ = Ws
              have q1 : t ∉ [g8] := by simp; exact fun e => hT.1.ne_ hB8 (by decide) e
              have q2 : mb ∉ [g8] := by simp; exact fun e => hT.2.ne_blk hB8 e
              have hT : TreeAt Ws t mb T := by rw [← hWs]; exact hT.keep ((Keep.refl [g8] _).put8 (by simp) (idv x)) q1 q2
              have hKw : Keep [] w Ws := by rw [← hWs]; exact hKw.put8 (.inr hg8) (idv x)
              have hB9 : Blk Ws g9 29 (dcells d0) := by rw [← hWs]; exact hB9.keep ((Keep.refl [g8] _).put8 (by simp) (idv x)) (by simp; first | exact hne | exact Ne.symm hne)
              have hB8 : Blk Ws g8 29 (dcells (idv x)) := by rw [← hWs]; exact hB8.put8 (idv x)
              clear hWs c8 f8
              refine hK.out _ _ (by exact hcl _ hKw) ?_
              clear hHeld hK K; intro hHeld
              try simp only [Act.put, List.setIfInBounds_toArray, List.set_cons_zero, List.set_cons_succ]
              refine Bz.wpAnyE_ready (rs := [15]) (by kernel_rfl) (by simp) ?_
              refine Bz.AllReadyE.last (o := { dst := none, op := Go.Op.store 29 (Go.Operand.tmp 9) (Go.Operand.tmp 44), type := 0, pos := "law.go:142", after := #[{ on := 13, ground := Go.Ground.data }, { on := 11, ground := Go.Ground.data }, { on := 14, ground := Go.Ground.chain }, { on := 0, ground := Go.Ground.phase }, { on := 1, ground := Go.Ground.phase }, { on := 2, ground := Go.Ground.phase }, { on := 3, ground := Go.Ground.phase }, { on := 4, ground := Go.Ground.phase }, { on := 5, ground := Go.Ground.phase }, { on := 6, ground := Go.Ground.phase }, { on := 7, ground := Go.Ground.phase }, { on := 8, ground := Go.Ground.phase }, { on := 9, ground := Go.Ground.phase }, { on := 10, ground := Go.Ground.phase }, { on := 11, ground := Go.Ground.phase }, { on := 12, ground := Go.Ground.phase }, { on := 13, ground := Go.Ground.phase }, { on := 14, ground := Go.Ground.phase }], guard := none }) rfl (by rfl) (fun K hK => ?_) Bz.AllReadyE.nil
              
              have c9 := hB9.cell
              have f9 := hB9.frozen
              go_simp
              generalize hWs : World.setCell _ _ _ = Ws
              have q1 : t ∉ [g9] := by simp; exact fun e => hT.1.ne_ hB9 (by decide) e
              have q2 : mb ∉ [g9] := by simp; exact fun e => hT.2.ne_blk hB9 e
              have hT : TreeAt Ws t mb T := by rw [← hWs]; exact hT.keep ((Keep.refl [g9] _).put8 (by simp) (idv y)) q1 q2
              have hKw : Keep [] w Ws := by rw [← hWs]; exact hKw.put8 (.inr hg9) (idv y)
              have hB8 : Blk Ws g8 29 (dcells (idv x)) := by rw [← hWs]; exact hB8.keep ((Keep.refl [g9] _).put8 (by simp) (idv y)) (by simp; first | exact hne | exact Ne.symm hne)
              have hB9 : Blk Ws g9 29 (dcells (idv y)) := by rw [← hWs]; exact hB9.put8 (idv y)
              clear hWs c9 f9
              refine hK.out _ _ ?_
              clear hK K
              try simp only [Act.put, List.setIfInBounds_toArray, List.set_cons_zero, List.set_cons_succ]
              refine Bz.wpAnyE_done (by kernel_rfl) ?_ _
              refine NoPanic.normal ?_
              clear hHeld
              exact key g8 g9 _ ⟨hT, hKw, hB8, hB9, hg8, hg9⟩
            exact Bz.AllReadyE.nil
          refine Bz.AllReadyE.cons (o := { dst := some 9, op := Go.Op.alloc 29, type := 0, pos := "law.go:142", after := #[], guard := none }) rfl (fun K hK => ?_) ?_
          · skip
            
            go_simp
            generalize hWa : World.alloc _ _ = Wa
            obtain ⟨g9, e9, hB9⟩ := blk_alloc (t := 29) (cs := dcells d0) hWa
            rw [← e9]
            try have hne := blk_apart hB8 e9
            have hg9 : w.heap.size ≤ g9 := by rw [e9]; exact hKw.size
            try have hB8 : Blk Wa g8 29 (dcells d0) := by rw [← hWa]; exact hB8.alloc _
            have hT : TreeAt Wa t mb T := by rw [← hWa]; exact hT.alloc _
            have hKw : Keep [] w Wa := by rw [← hWa]; exact hKw.alloc _
            clear hWa e9
            refine hK.out _ _ (by exact hcl _ hKw) ?_
            clear hHeld hK K; intro hHeld
            try simp only [Act.put, List.setIfInBounds_toArray, List.set_cons_zero, List.set_cons_succ]
            refine Bz.wpAnyE_ready (rs := [5, 12]) (by kernel_rfl) (by simp) ?_
            refine Bz.AllReadyE.cons (o := { dst := some 38, op := Go.Op.call { callee := Go.Callee.value (Go.Operand.func 11), args := #[Go.Operand.tmp 37], argTypes := #[5] }, type := 29, pos := "law.go:142", after := #[{ on := 4, ground := Go.Ground.data }], guard := none }) rfl (fun K hK => ?_) ?_
            · skip
              go_simp
              
              refine (id_any _ _).mono ?_
              rintro e w5 ⟨rfl, hk5⟩
              have hT := hT.keep0 hk5
              have hKw := hKw.trans hk5
              try have hB8 := hB8.keep hk5 (by simp)
              try have hB9 := hB9.keep hk5 (by simp)
              refine hK.out _ _ (by exact hcl _ hKw) ?_
              clear hHeld hK K; intro hHeld
              try simp only [Act.put, List.setIfInBounds_toArray, List.set_cons_zero, List.set_cons_succ]
              refine Bz.wpAnyE_ready (rs := [11, 12]) (by kernel_rfl) (by simp) ?_
              refine Bz.AllReadyE.cons (o := { dst := some 44, op := Go.Op.call { callee := Go.Callee.value (Go.Operand.func 11), args := #[Go.Operand.tmp 43], argTypes := #[5] }, type := 29, pos := "law.go:142", after := #[{ on := 10, ground := Go.Ground.data }, { on := 5, ground := Go.Ground.chain }], guard := none }) rfl (fun K hK => ?_) ?_
              · skip
                go_simp
                
                refine (id_any _ _).mono ?_
                rintro e w5 ⟨rfl, hk5⟩
                have hT := hT.keep0 hk5
                have hKw := hKw.trans hk5
                try have hB8 := hB8.keep hk5 (by simp)
                try have hB9 := hB9.keep hk5 (by simp)
                refine hK.out _ _ (by exact hcl _ hKw) ?_
                clear hHeld hK K; intro hHeld
                try simp only [Act.put, List.setIfInBounds_toArray, List.set_cons_zero, List.set_cons_succ]
                refine Bz.wpAnyE_ready (rs := [12]) (by kernel_rfl) (by simp) ?_
                refine Bz.AllReadyE.cons (o := { dst := some 8, op := Go.Op.alloc 29, type := 0, pos := "law.go:142", after := #[], guard := none }) rfl (fun K hK => ?_) Bz.AllReadyE.nil
                
                go_simp
                generalize hWa : World.alloc _ _ = Wa
                obtain ⟨g8, e8, hB8⟩ := blk_alloc (t := 29) (cs := dcells d0) hWa
                rw [← e8]
                try have hne := blk_apart hB9 e8
                have hg8 : w.heap.size ≤ g8 := by rw [e8]; exact hKw.size
                try have hB9 : Blk Wa g9 29 (dcells d0) := by rw [← hWa]; exact hB9.alloc _
                have hT : TreeAt Wa t mb T := by rw [← hWa]; exact hT.alloc _
                have hKw : Keep [] w Wa := by rw [← hWa]; exact hKw.alloc _
                clear hWa e8
                refine hK.out _ _ (by exact hcl _ hKw) ?_
                clear hHeld hK K; intro hHeld
                try simp only [Act.put, List.setIfInBounds_toArray, List.set_cons_zero, List.set_cons_succ]
                refine Bz.wpAnyE_ready (rs := [14]) (by kernel_rfl) (by simp) ?_
                refine Bz.AllReadyE.cons (o := { dst := none, op := Go.Op.store 29 (Go.Operand.tmp 8) (Go.Operand.tmp 38), type := 0, pos := "law.go:142", after := #[{ on := 12, ground := Go.Ground.data }, { on := 5, ground := Go.Ground.data }, { on := 11, ground := Go.Ground.chain }, { on := 0, ground := Go.Ground.phase }, { on := 1, ground := Go.Ground.phase }, { on := 2, ground := Go.Ground.phase }, { on := 3, ground := Go.Ground.phase }, { on := 4, ground := Go.Ground.phase }, { on := 5, ground := Go.Ground.phase }, { on := 6, ground := Go.Ground.textOnly Go.Departure.lateStores }, { on := 7, ground := Go.Ground.textOnly Go.Departure.lateStores }, { on := 8, ground := Go.Ground.textOnly Go.Departure.lateStores }, { on := 9, ground := Go.Ground.textOnly Go.Departure.lateStores }, { on := 10, ground := Go.Ground.textOnly Go.Departure.lateStores }, { on := 11, ground := Go.Ground.textOnly Go.Departure.lateStoresUnsure }, { on := 12, ground := Go.Ground.phase }, { on := 13, ground := Go.Ground.phase }], guard := none }) rfl (fun K hK => ?_) Bz.AllReadyE.nil
                
                have c8 := hB8.cell
                have f8 := hB8.frozen
                go_simp
                generalize hWs : World.setCell _ _ _ = Ws
                have q1 : t ∉ [g8] := by simp; exact fun e => hT.1.ne_ hB8 (by decide) e
                have q2 : mb ∉ [g8] := by simp; exact fun e => hT.2.ne_blk hB8 e
                have hT : TreeAt Ws t mb T := by rw [← hWs]; exact hT.keep ((Keep.refl [g8] _).put8 (by simp) (idv x)) q1 q2
                have hKw : Keep [] w Ws := by rw [← hWs]; exact hKw.put8 (.inr hg8) (idv x)
                have hB9 : Blk Ws g9 29 (dcells d0) := by rw [← hWs]; exact hB9.keep ((Keep.refl [g8] _).put8 (by simp) (idv x)) (by simp; first | exact hne | exact Ne.symm hne)
                have hB8 : Blk Ws g8 29 (dcells (idv x)) := by rw [← hWs]; exact hB8.put8 (idv x)
                clear hWs c8 f8
                refine hK.out _ _ (by exact hcl _ hKw) ?_
                clear hHeld hK K; intro hHeld
                try simp only [Act.put, List.setIfInBounds_toArray, List.set_cons_zero, List.set_cons_succ]
                refine Bz.wpAnyE_ready (rs := [15]) (by kernel_rfl) (by simp) ?_
                refine Bz.AllReadyE.last (o := { dst := none, op := Go.Op.store 29 (Go.Operand.tmp 9) (Go.Operand.tmp 44), type := 0, pos := "law.go:142", after := #[{ on := 13, ground := Go.Ground.data }, { on := 11, ground := Go.Ground.data }, { on := 14, ground := Go.Ground.chain }, { on := 0, ground := Go.Ground.phase }, { on := 1, ground := Go.Ground.phase }, { on := 2, ground := Go.Ground.phase }, { on := 3, ground := Go.Ground.phase }, { on := 4, ground := Go.Ground.phase }, { on := 5, ground := Go.Ground.phase }, { on := 6, ground := Go.Ground.phase }, { on := 7, ground := Go.Ground.phase }, { on := 8, ground := Go.Ground.phase }, { on := 9, ground := Go.Ground.phase }, { on := 10, ground := Go.Ground.phase }, { on := 11, ground := Go.Ground.phase }, { on := 12, ground := Go.Ground.phase }, { on := 13, ground := Go.Ground.phase }, { on := 14, ground := Go.Ground.phase }], guard := none }) rfl (by rfl) (fun K hK => ?_) Bz.AllReadyE.nil
                
                have c9 := hB9.cell
                have f9 := hB9.frozen
                go_simp
                generalize hWs : World.setCell _ _ _ = Ws
                have q1 : t ∉ [g9] := by simp; exact fun e => hT.1.ne_ hB9 (by decide) e
                have q2 : mb ∉ [g9] := by simp; exact fun e => hT.2.ne_blk hB9 e
                have hT : TreeAt Ws t mb T := by rw [← hWs]; exact hT.keep ((Keep.refl [g9] _).put8 (by simp) (idv y)) q1 q2
                have hKw : Keep [] w Ws := by rw [← hWs]; exact hKw.put8 (.inr hg9) (idv y)
                have hB8 : Blk Ws g8 29 (dcells (idv x)) := by rw [← hWs]; exact hB8.keep ((Keep.refl [g9] _).put8 (by simp) (idv y)) (by simp; first | exact hne | exact Ne.symm hne)
                have hB9 : Blk Ws g9 29 (dcells (idv y)) := by rw [← hWs]; exact hB9.put8 (idv y)
                clear hWs c9 f9
                refine hK.out _ _ ?_
                clear hK K
                try simp only [Act.put, List.setIfInBounds_toArray, List.set_cons_zero, List.set_cons_succ]
                refine Bz.wpAnyE_done (by kernel_rfl) ?_ _
                refine NoPanic.normal ?_
                clear hHeld
                exact key g8 g9 _ ⟨hT, hKw, hB8, hB9, hg8, hg9⟩
              refine Bz.AllReadyE.cons (o := { dst := some 8, op := Go.Op.alloc 29, type := 0, pos := "law.go:142", after := #[], guard := none }) rfl (fun K hK => ?_) ?_
              · skip
                
                go_simp
                generalize hWa : World.alloc _ _ = Wa
                obtain ⟨g8, e8, hB8⟩ := blk_alloc (t := 29) (cs := dcells d0) hWa
                rw [← e8]
                try have hne := blk_apart hB9 e8
                have hg8 : w.heap.size ≤ g8 := by rw [e8]; exact hKw.size
                try have hB9 : Blk Wa g9 29 (dcells d0) := by rw [← hWa]; exact hB9.alloc _
                have hT : TreeAt Wa t mb T := by rw [← hWa]; exact hT.alloc _
                have hKw : Keep [] w Wa := by rw [← hWa]; exact hKw.alloc _
                clear hWa e8
                refine hK.out _ _ (by exact hcl _ hKw) ?_
                clear hHeld hK K; intro hHeld
                try simp only [Act.put, List.setIfInBounds_toArray, List.set_cons_zero, List.set_cons_succ]
                refine Bz.wpAnyE_ready (rs := [11]) (by kernel_rfl) (by simp) ?_
                refine Bz.AllReadyE.cons (o := { dst := some 44, op := Go.Op.call { callee := Go.Callee.value (Go.Operand.func 11), args := #[Go.Operand.tmp 43], argTypes := #[5] }, type := 29, pos := "law.go:142", after := #[{ on := 10, ground := Go.Ground.data }, { on := 5, ground := Go.Ground.chain }], guard := none }) rfl (fun K hK => ?_) Bz.AllReadyE.nil
                go_simp
                
                refine (id_any _ _).mono ?_
                rintro e w5 ⟨rfl, hk5⟩
                have hT := hT.keep0 hk5
                have hKw := hKw.trans hk5
                try have hB8 := hB8.keep hk5 (by simp)
                try have hB9 := hB9.keep hk5 (by simp)
                refine hK.out _ _ (by exact hcl _ hKw) ?_
                clear hHeld hK K; intro hHeld
                try simp only [Act.put, List.setIfInBounds_toArray, List.set_cons_zero, List.set_cons_succ]
                refine Bz.wpAnyE_ready (rs := [14]) (by kernel_rfl) (by simp) ?_
                refine Bz.AllReadyE.cons (o := { dst := none, op := Go.Op.store 29 (Go.Operand.tmp 8) (Go.Operand.tmp 38), type := 0, pos := "law.go:142", after := #[{ on := 12, ground := Go.Ground.data }, { on := 5, ground := Go.Ground.data }, { on := 11, ground := Go.Ground.chain }, { on := 0, ground := Go.Ground.phase }, { on := 1, ground := Go.Ground.phase }, { on := 2, ground := Go.Ground.phase }, { on := 3, ground := Go.Ground.phase }, { on := 4, ground := Go.Ground.phase }, { on := 5, ground := Go.Ground.phase }, { on := 6, ground := Go.Ground.textOnly Go.Departure.lateStores }, { on := 7, ground := Go.Ground.textOnly Go.Departure.lateStores }, { on := 8, ground := Go.Ground.textOnly Go.Departure.lateStores }, { on := 9, ground := Go.Ground.textOnly Go.Departure.lateStores }, { on := 10, ground := Go.Ground.textOnly Go.Departure.lateStores }, { on := 11, ground := Go.Ground.textOnly Go.Departure.lateStoresUnsure }, { on := 12, ground := Go.Ground.phase }, { on := 13, ground := Go.Ground.phase }], guard := none }) rfl (fun K hK => ?_) Bz.AllReadyE.nil
                
                have c8 := hB8.cell
                have f8 := hB8.frozen
                go_simp
                generalize hWs : World.setCell _ _ _ = Ws
                have q1 : t ∉ [g8] := by simp; exact fun e => hT.1.ne_ hB8 (by decide) e
                have q2 : mb ∉ [g8] := by simp; exact fun e => hT.2.ne_blk hB8 e
                have hT : TreeAt Ws t mb T := by rw [← hWs]; exact hT.keep ((Keep.refl [g8] _).put8 (by simp) (idv x)) q1 q2
                have hKw : Keep [] w Ws := by rw [← hWs]; exact hKw.put8 (.inr hg8) (idv x)
                have hB9 : Blk Ws g9 29 (dcells d0) := by rw [← hWs]; exact hB9.keep ((Keep.refl [g8] _).put8 (by simp) (idv x)) (by simp; first | exact hne | exact Ne.symm hne)
                have hB8 : Blk Ws g8 29 (dcells (idv x)) := by rw [← hWs]; exact hB8.put8 (idv x)
                clear hWs c8 f8
                refine hK.out _ _ (by exact hcl _ hKw) ?_
                clear hHeld hK K; intro hHeld
                try simp only [Act.put, List.setIfInBounds_toArray, List.set_cons_zero, List.set_cons_succ]
                refine Bz.wpAnyE_ready (rs := [15]) (by kernel_rfl) (by simp) ?_
                refine Bz.AllReadyE.last (o := { dst := none, op := Go.Op.store 29 (Go.Operand.tmp 9) (Go.Operand.tmp 44), type := 0, pos := "law.go:142", after := #[{ on := 13, ground := Go.Ground.data }, { on := 11, ground := Go.Ground.data }, { on := 14, ground := Go.Ground.chain }, { on := 0, ground := Go.Ground.phase }, { on := 1, ground := Go.Ground.phase }, { on := 2, ground := Go.Ground.phase }, { on := 3, ground := Go.Ground.phase }, { on := 4, ground := Go.Ground.phase }, { on := 5, ground := Go.Ground.phase }, { on := 6, ground := Go.Ground.phase }, { on := 7, ground := Go.Ground.phase }, { on := 8, ground := Go.Ground.phase }, { on := 9, ground := Go.Ground.phase }, { on := 10, ground := Go.Ground.phase }, { on := 11, ground := Go.Ground.phase }, { on := 12, ground := Go.Ground.phase }, { on := 13, ground := Go.Ground.phase }, { on := 14, ground := Go.Ground.phase }], guard := none }) rfl (by rfl) (fun K hK => ?_) Bz.AllReadyE.nil
                
                have c9 := hB9.cell
                have f9 := hB9.frozen
                go_simp
                generalize hWs : World.setCell _ _ _ = Ws
                have q1 : t ∉ [g9] := by simp; exact fun e => hT.1.ne_ hB9 (by decide) e
                have q2 : mb ∉ [g9] := by simp; exact fun e => hT.2.ne_blk hB9 e
                have hT : TreeAt Ws t mb T := by rw [← hWs]; exact hT.keep ((Keep.refl [g9] _).put8 (by simp) (idv y)) q1 q2
                have hKw : Keep [] w Ws := by rw [← hWs]; exact hKw.put8 (.inr hg9) (idv y)
                have hB8 : Blk Ws g8 29 (dcells (idv x)) := by rw [← hWs]; exact hB8.keep ((Keep.refl [g9] _).put8 (by simp) (idv y)) (by simp; first | exact hne | exact Ne.symm hne)
                have hB9 : Blk Ws g9 29 (dcells (idv y)) := by rw [← hWs]; exact hB9.put8 (idv y)
                clear hWs c9 f9
                refine hK.out _ _ ?_
                clear hK K
                try simp only [Act.put, List.setIfInBounds_toArray, List.set_cons_zero, List.set_cons_succ]
                refine Bz.wpAnyE_done (by kernel_rfl) ?_ _
                refine NoPanic.normal ?_
                clear hHeld
                exact key g8 g9 _ ⟨hT, hKw, hB8, hB9, hg8, hg9⟩
              exact Bz.AllReadyE.nil
            refine Bz.AllReadyE.cons (o := { dst := some 8, op := Go.Op.alloc 29, type := 0, pos := "law.go:142", after := #[], guard := none }) rfl (fun K hK => ?_) ?_
            · skip
              
              go_simp
              generalize hWa : World.alloc _ _ = Wa
              obtain ⟨g8, e8, hB8⟩ := blk_alloc (t := 29) (cs := dcells d0) hWa
              rw [← e8]
              try have hne := blk_apart hB9 e8
              have hg8 : w.heap.size ≤ g8 := by rw [e8]; exact hKw.size
              try have hB9 : Blk Wa g9 29 (dcells d0) := by rw [← hWa]; exact hB9.alloc _
              have hT : TreeAt Wa t mb T := by rw [← hWa]; exact hT.alloc _
              have hKw : Keep [] w Wa := by rw [← hWa]; exact hKw.alloc _
              clear hWa e8
              refine hK.out _ _ (by exact hcl _ hKw) ?_
              clear hHeld hK K; intro hHeld
              try simp only [Act.put, List.setIfInBounds_toArray, List.set_cons_zero, List.set_cons_succ]
              refine Bz.wpAnyE_ready (rs := [5]) (by kernel_rfl) (by simp) ?_
              refine Bz.AllReadyE.cons (o := { dst := some 38, op := Go.Op.call { callee := Go.Callee.value (Go.Operand.func 11), args := #[Go.Operand.tmp 37], argTypes := #[5] }, type := 29, pos := "law.go:142", after := #[{ on := 4, ground := Go.Ground.data }], guard := none }) rfl (fun K hK => ?_) Bz.AllReadyE.nil
              go_simp
              
              refine (id_any _ _).mono ?_
              rintro e w5 ⟨rfl, hk5⟩
              have hT := hT.keep0 hk5
              have hKw := hKw.trans hk5
              try have hB8 := hB8.keep hk5 (by simp)
              try have hB9 := hB9.keep hk5 (by simp)
              refine hK.out _ _ (by exact hcl _ hKw) ?_
              clear hHeld hK K; intro hHeld
              try simp only [Act.put, List.setIfInBounds_toArray, List.set_cons_zero, List.set_cons_succ]
              refine Bz.wpAnyE_ready (rs := [11]) (by kernel_rfl) (by simp) ?_
              refine Bz.AllReadyE.cons (o := { dst := some 44, op := Go.Op.call { callee := Go.Callee.value (Go.Operand.func 11), args := #[Go.Operand.tmp 43], argTypes := #[5] }, type := 29, pos := "law.go:142", after := #[{ on := 10, ground := Go.Ground.data }, { on := 5, ground := Go.Ground.chain }], guard := none }) rfl (fun K hK => ?_) Bz.AllReadyE.nil
              go_simp
              
              refine (id_any _ _).mono ?_
              rintro e w5 ⟨rfl, hk5⟩
              have hT := hT.keep0 hk5
              have hKw := hKw.trans hk5
              try have hB8 := hB8.keep hk5 (by simp)
              try have hB9 := hB9.keep hk5 (by simp)
              refine hK.out _ _ (by exact hcl _ hKw) ?_
              clear hHeld hK K; intro hHeld
              try simp only [Act.put, List.setIfInBounds_toArray, List.set_cons_zero, List.set_cons_succ]
              refine Bz.wpAnyE_ready (rs := [14]) (by kernel_rfl) (by simp) ?_
              refine Bz.AllReadyE.cons (o := { dst := none, op := Go.Op.store 29 (Go.Operand.tmp 8) (Go.Operand.tmp 38), type := 0, pos := "law.go:142", after := #[{ on := 12, ground := Go.Ground.data }, { on := 5, ground := Go.Ground.data }, { on := 11, ground := Go.Ground.chain }, { on := 0, ground := Go.Ground.phase }, { on := 1, ground := Go.Ground.phase }, { on := 2, ground := Go.Ground.phase }, { on := 3, ground := Go.Ground.phase }, { on := 4, ground := Go.Ground.phase }, { on := 5, ground := Go.Ground.phase }, { on := 6, ground := Go.Ground.textOnly Go.Departure.lateStores }, { on := 7, ground := Go.Ground.textOnly Go.Departure.lateStores }, { on := 8, ground := Go.Ground.textOnly Go.Departure.lateStores }, { on := 9, ground := Go.Ground.textOnly Go.Departure.lateStores }, { on := 10, ground := Go.Ground.textOnly Go.Departure.lateStores }, { on := 11, ground := Go.Ground.textOnly Go.Departure.lateStoresUnsure }, { on := 12, ground := Go.Ground.phase }, { on := 13, ground := Go.Ground.phase }], guard := none }) rfl (fun K hK => ?_) Bz.AllReadyE.nil
              
              have c8 := hB8.cell
              have f8 := hB8.frozen
              go_simp
              generalize hWs : World.setCell _ _ _ = Ws
              have q1 : t ∉ [g8] := by simp; exact fun e => hT.1.ne_ hB8 (by decide) e
              have q2 : mb ∉ [g8] := by simp; exact fun e => hT.2.ne_blk hB8 e
              have hT : TreeAt Ws t mb T := by rw [← hWs]; exact hT.keep ((Keep.refl [g8] _).put8 (by simp) (idv x)) q1 q2
              have hKw : Keep [] w Ws := by rw [← hWs]; exact hKw.put8 (.inr hg8) (idv x)
              have hB9 : Blk Ws g9 29 (dcells d0) := by rw [← hWs]; exact hB9.keep ((Keep.refl [g8] _).put8 (by simp) (idv x)) (by simp; first | exact hne | exact Ne.symm hne)
              have hB8 : Blk Ws g8 29 (dcells (idv x)) := by rw [← hWs]; exact hB8.put8 (idv x)
              clear hWs c8 f8
              refine hK.out _ _ (by exact hcl _ hKw) ?_
              clear hHeld hK K; intro hHeld
              try simp only [Act.put, List.setIfInBounds_toArray, List.set_cons_zero, List.set_cons_succ]
              refine Bz.wpAnyE_ready (rs := [15]) (by kernel_rfl) (by simp) ?_
              refine Bz.AllReadyE.last (o := { dst := none, op := Go.Op.store 29 (Go.Operand.tmp 9) (Go.Operand.tmp 44), type := 0, pos := "law.go:142", after := #[{ on := 13, ground := Go.Ground.data }, { on := 11, ground := Go.Ground.data }, { on := 14, ground := Go.Ground.chain }, { on := 0, ground := Go.Ground.phase }, { on := 1, ground := Go.Ground.phase }, { on := 2, ground := Go.Ground.phase }, { on := 3, ground := Go.Ground.phase }, { on := 4, ground := Go.Ground.phase }, { on := 5, ground := Go.Ground.phase }, { on := 6, ground := Go.Ground.phase }, { on := 7, ground := Go.Ground.phase }, { on := 8, ground := Go.Ground.phase }, { on := 9, ground := Go.Ground.phase }, { on := 10, ground := Go.Ground.phase }, { on := 11, ground := Go.Ground.phase }, { on := 12, ground := Go.Ground.phase }, { on := 13, ground := Go.Ground.phase }, { on := 14, ground := Go.Ground.phase }], guard := none }) rfl (by rfl) (fun K hK => ?_) Bz.AllReadyE.nil
              
              have c9 := hB9.cell
              have f9 := hB9.frozen
              go_simp
              generalize hWs : World.setCell _ _ _ = Ws
              have q1 : t ∉ [g9] := by simp; exact fun e => hT.1.ne_ hB9 (by decide) e
              have q2 : mb ∉ [g9] := by simp; exact fun e => hT.2.ne_blk hB9 e
              have hT : TreeAt Ws t mb T := by rw [← hWs]; exact hT.keep ((Keep.refl [g9] _).put8 (by simp) (idv y)) q1 q2
              have hKw : Keep [] w Ws := by rw [← hWs]; exact hKw.put8 (.inr hg9) (idv y)
              have hB8 : Blk Ws g8 29 (dcells (idv x)) := by rw [← hWs]; exact hB8.keep ((Keep.refl [g9] _).put8 (by simp) (idv y)) (by simp; first | exact hne | exact Ne.symm hne)
              have hB9 : Blk Ws g9 29 (dcells (idv y)) := by rw [← hWs]; exact hB9.put8 (idv y)
              clear hWs c9 f9
              refine hK.out _ _ ?_
              clear hK K
              try simp only [Act.put, List.setIfInBounds_toArray, List.set_cons_zero, List.set_cons_succ]
              refine Bz.wpAnyE_done (by kernel_rfl) ?_ _
              refine NoPanic.normal ?_
              clear hHeld
              exact key g8 g9 _ ⟨hT, hKw, hB8, hB9, hg8, hg9⟩
            exact Bz.AllReadyE.nil
          exact Bz.AllReadyE.nil
        case r2 =>
          clear hT hKw hcl hxy
          rintro g8 g9 W8 ⟨hT, hKw, hB8, hB9, hg8, hg9⟩
          have c8 := hB8.cell
          have c9 := hB9.cell
          have q8 : g8 ∉ [t, mb] := by simp; exact ⟨fun e => hT.1.ne_ hB8 (by decide) e.symm, fun e => hT.2.ne_blk hB8 e.symm⟩
          have q9 : g9 ∉ [t, mb] := by simp; exact ⟨fun e => hT.1.ne_ hB9 (by decide) e.symm, fun e => hT.2.ne_blk hB9 e.symm⟩
          go_wp2_with fail
          refine (add_any hT hWF (idv x) (idv y)).mono ?_
          obtain ⟨er, her⟩ : ∃ er, er = T.err (idv x) (idv y) := ⟨_, rfl⟩
          rw [← her]
          rintro e w6 ⟨rfl, hT6, hk6⟩
          have hB8 := hB8.keep hk6 q8
          have hB9 := hB9.keep hk6 q9
          have hKw := hKw.own hk6 own
          clear c8 c9 q8 q9 hT
          have c8 := hB8.cell
          have c9 := hB9.cell
          by_cases h0 : er = 0
          · have HL := Lib.hid (hWF.lined _ _ (her.symm.trans h0))
            have hf6 : (T.add (idv x) (idv y)).first = idv 0 := by rw [FT.add_first]; exact hfst
            clear her
            subst h0
            go_wp2_with fail
            obtain ⟨T', hT'⟩ : ∃ T', T' = T.add (idv x) (idv y) := ⟨_, rfl⟩
            obtain ⟨L, hL⟩ : ∃ L, L = T.line (idv y) := ⟨_, rfl⟩
            obtain ⟨n, hn⟩ : ∃ n, n = L.length := ⟨_, rfl⟩
            have hl := HL.out
            rw [← hT'] at hl hT6 hf6
            obtain ⟨hWF6, hlx, hlp, hhd, hht, hun, hlen5⟩ := hl
            rw [← hL] at hlx hlp hhd hht hlen5
            rw [← hn] at hht hlen5
            rw [hfst] at hhd
            have hn1 : 1 ≤ n := by rw [hn]; have := (List.getElem?_eq_some_iff.1 hhd).1; omega
            have H1 := Lib.hid (And.intro hlx (And.intro hlp (And.intro hhd (And.intro hht (And.intro hun hn)))))
            clear hT' hL hlx hlp hhd hht hun HL hfst hn hWF
            have LA : ∀ W, TreeAt W t mb T' → Calls Try.prog 18 #[.pointer (some ⟨t, 0, none⟩), dv (idv x)] W (fun e W' => ∃ ga oa capa, e = .returned (.slice (some ⟨ga, oa, none⟩) (n + 1) capa) ∧ n + 1 ≤ capa ∧ capa ≤ maxLen ∧ SlAt W' 29 8 dcells ga oa (L ++ [idv x]) ∧ Keep [] W W') := by
              intro W hW
              obtain ⟨h1, h2, h3, h4, h5, h6⟩ := H1.out
              refine (line_call hW hWF6 _).mono ?_
              rw [h1]
              rintro e W' ⟨v, rfl, ⟨A, c, rfl, q1, q2, q3⟩, hk⟩
              obtain ⟨g, o, rfl, hs⟩ := q3 (by simp)
              refine ⟨g, o, c, by rw [h6]; simp, by rw [h6]; simpa using q1, q2, hs, hk⟩
            have LB : ∀ W, TreeAt W t mb T' → Calls Try.prog 18 #[.pointer (some ⟨t, 0, none⟩), dv (idv y)] W (fun e W' => ∃ Ab capb, e = .returned (.slice Ab n capb) ∧ Sl W' 29 8 dcells (.slice Ab n capb) L ∧ Keep [] W W') := by
              intro W hW
              obtain ⟨h1, h2, h3, h4, h5, h6⟩ := H1.out
              refine (line_call hW hWF6 _).mono ?_
              rw [h2]
              rintro e W' ⟨v, rfl, ⟨A, c, rfl, q⟩, hk⟩
              rw [h6]
              exact ⟨A, c, rfl, ⟨A, c, rfl, q⟩, hk⟩
            refine wp_region_noPanic ?_
            refine Bz.wp_region_E (S := (fun w' => (∀ i, w'.cell? ⟨g8, i, none⟩ = (dcells (idv x))[i]?) ∧ (∀ i, w'.cell? ⟨g9, i, none⟩ = (dcells (idv y))[i]?))) (E := []) (by kernel_rfl) (by exact ⟨c8, c9⟩) (fun hHeld => ?_)
            refine Bz.wpAnyE_take (i := 0) (oi := { dst := some 50, op := Go.Op.move (Go.Operand.tmp 5), type := 24, pos := "law.go:146", after := #[], guard := none }) (v := ?_) rfl (by kernel_rfl) (by kernel_rfl) (by kernel_rfl) (by kernel_rfl) (fun _ _ _ h => h) (Or.inl ⟨by rfl, ?_⟩) hHeld ?_
            rotate_left 1
            · (intro w hSw; (try dsimp only at hSw); go_simp; first | done | with_reducible rfl)
            try simp only [Act.put, List.setIfInBounds_toArray, List.set_cons_zero, List.set_cons_succ]
            refine Bz.wpAnyE_take (i := 1) (oi := { dst := some 51, op := Go.Op.load 29 (Go.Operand.tmp 8), type := 29, pos := "law.go:146", after := #[], guard := none }) (v := ?_) rfl (by kernel_rfl) (by kernel_rfl) (by kernel_rfl) (by kernel_rfl) (fun _ _ _ h => h) (Or.inl ⟨by rfl, ?_⟩) hHeld ?_
            rotate_left 1
            · (intro w hSw; (try dsimp only at hSw); go_simp; first | done | with_reducible rfl)
            try simp only [Act.put, List.setIfInBounds_toArray, List.set_cons_zero, List.set_cons_succ]
            refine Bz.wpAnyE_take (i := 3) (oi := { dst := some 53, op := Go.Op.move (Go.Operand.tmp 5), type := 24, pos := "law.go:146", after := #[], guard := none }) (v := ?_) rfl (by kernel_rfl) (by kernel_rfl) (by kernel_rfl) (by kernel_rfl) (fun _ _ _ h => h) (Or.inl ⟨by rfl, ?_⟩) hHeld ?_
            rotate_left 1
            · (intro w hSw; (try dsimp only at hSw); go_simp; first | done | with_reducible rfl)
            try simp only [Act.put, List.setIfInBounds_toArray, List.set_cons_zero, List.set_cons_succ]
            refine Bz.wpAnyE_take (i := 4) (oi := { dst := some 54, op := Go.Op.load 29 (Go.Operand.tmp 9), type := 29, pos := "law.go:146", after := #[], guard := none }) (v := ?_) rfl (by kernel_rfl) (by kernel_rfl) (by kernel_rfl) (by kernel_rfl) (fun _ _ _ h => h) (Or.inl ⟨by rfl, ?_⟩) hHeld ?_
            rotate_left 1
            · (intro w hSw; (try dsimp only at hSw); go_simp; first | done | with_reducible rfl)
            try simp only [Act.put, List.setIfInBounds_toArray, List.set_cons_zero, List.set_cons_succ]
            refine Bz.wpAnyE_ready (rs := [2]) (by kernel_rfl) (by simp) ?_
            refine Bz.AllReadyE.cons (o := { dst := some 52, op := Go.Op.call { callee := Go.Callee.value (Go.Operand.func 18), args := #[Go.Operand.tmp 50, Go.Operand.tmp 51], argTypes := #[24, 29] }, type := 36, pos := "law.go:146", after := #[{ on := 0, ground := Go.Ground.data }, { on := 1, ground := Go.Ground.data }], guard := none }) rfl (fun K hK => ?_) Bz.AllReadyE.nil
            go_simp
            
            refine (LA _ hT6.drew).mono ?_
            rintro e w7 ⟨ga, oa, capa, rfl, ha1, ha2, hsa, hk7⟩
            have hk7 := hk7.undrew
            have hT6 := hT6.keep0 hk7
            have hKw := hKw.trans hk7
            have hB8 := hB8.keep hk7 (by simp)
            have hB9 := hB9.keep hk7 (by simp)
            refine hK.out _ _ (by exact ⟨hB8.cell, hB9.cell⟩) ?_
            clear hHeld hK K; intro hHeld
            try simp only [Act.put, List.setIfInBounds_toArray, List.set_cons_zero, List.set_cons_succ]
            refine Bz.wpAnyE_ready (rs := [5]) (by kernel_rfl) (by simp) ?_
            refine Bz.AllReadyE.cons (o := { dst := some 55, op := Go.Op.call { callee := Go.Callee.value (Go.Operand.func 18), args := #[Go.Operand.tmp 53, Go.Operand.tmp 54], argTypes := #[24, 29] }, type := 36, pos := "law.go:146", after := #[{ on := 3, ground := Go.Ground.data }, { on := 4, ground := Go.Ground.data }, { on := 2, ground := Go.Ground.chain }], guard := none }) rfl (fun K hK => ?_) Bz.AllReadyE.nil
            go_simp
            
            refine (LB _ hT6).mono ?_
            rintro e w8 ⟨Ab, capb, rfl, hsb, hk8⟩
            have hT6 := hT6.keep0 hk8
            have hKw := hKw.trans hk8
            have hsa := hsa.keep hk8 (by simp)
            have hB8 := hB8.keep hk8 (by simp)
            have hB9 := hB9.keep hk8 (by simp)
            refine hK.out _ _ (by exact ⟨hB8.cell, hB9.cell⟩) ?_
            clear hHeld hK K; intro hHeld
            try simp only [Act.put, List.setIfInBounds_toArray, List.set_cons_zero, List.set_cons_succ]
            refine Bz.wpAnyE_take (i := 6) (oi := { dst := some 10, op := Go.Op.assign (Go.Operand.tmp 52), type := 36, pos := "law.go:146", after := #[{ on := 2, ground := Go.Ground.data }, { on := 5, ground := Go.Ground.chain }, { on := 0, ground := Go.Ground.phase }, { on := 1, ground := Go.Ground.phase }, { on := 2, ground := Go.Ground.phase }, { on := 3, ground := Go.Ground.textOnly Go.Departure.lateStores }, { on := 4, ground := Go.Ground.textOnly Go.Departure.lateStores }, { on := 5, ground := Go.Ground.textOnly Go.Departure.lateStoresUnsure }], guard := none }) (v := ?_) rfl (by kernel_rfl) (by kernel_rfl) (by kernel_rfl) (by kernel_rfl) (fun _ _ _ h => h) (Or.inl ⟨by rfl, ?_⟩) hHeld ?_
            rotate_left 1
            · (intro w hSw; (try dsimp only at hSw); go_simp; first | done | with_reducible rfl)
            try simp only [Act.put, List.setIfInBounds_toArray, List.set_cons_zero, List.set_cons_succ]
            refine Bz.wpAnyE_take (i := 7) (oi := { dst := some 11, op := Go.Op.assign (Go.Operand.tmp 55), type := 36, pos := "law.go:146", after := #[{ on := 5, ground := Go.Ground.data }, { on := 6, ground := Go.Ground.chain }, { on := 0, ground := Go.Ground.phase }, { on := 1, ground := Go.Ground.phase }, { on := 2, ground := Go.Ground.phase }, { on := 3, ground := Go.Ground.phase }, { on := 4, ground := Go.Ground.phase }, { on := 5, ground := Go.Ground.phase }, { on := 6, ground := Go.Ground.phase }], guard := none }) (v := ?_) rfl (by kernel_rfl) (by kernel_rfl) (by kernel_rfl) (by kernel_rfl) (fun _ _ _ h => h) (Or.inl ⟨by rfl, ?_⟩) hHeld ?_
            rotate_left 1
            · (intro w hSw; (try dsimp only at hSw); go_simp; first | done | with_reducible rfl)
            try simp only [Act.put, List.setIfInBounds_toArray, List.set_cons_zero, List.set_cons_succ]
            refine Bz.wpAnyE_done (by kernel_rfl) ?_ _
            refine NoPanic.normal ?_
            
            clear hHeld LA LB
            obtain ⟨hlx, hlp, hhd, hht, hun, hn⟩ := H1.out
            have hW : LinesW w t mb T' g8 g9 ga oa n capa Ab capb L x y w8 := ⟨hT6, hB8, hB9, hn.symm, hhd, hsa, ⟨ha1, ha2⟩, hsb, hKw⟩
            have q1 : IntKind.i64.wrap ((n : Int) + 1) = (n : Int) + 1 := IntWalk.i64_in _ (by omega)
            have q2 : IntKind.i64.wrap (n : Int) = (n : Int) := IntWalk.i64_in _ (by omega)
            have q6 : (n : Int) < (n : Int) + 1 := by omega
            have q3 : decide ((n : Int) < 1) = false := by simp; omega
            have q4 := fun W => run_eqD8 (P := Try.prog) W dt29 9998 ⟨0, 1, 0, 0, 0, 0, 0, 0⟩ ⟨0, 1, 0, 0, 0, 0, 0, 0⟩
            have q5 := fun W => run_eqD8 (P := Try.prog) W dt29 9998 ⟨x, 1, 0, 0, 0, 0, 0, 0⟩ ⟨x, 1, 0, 0, 0, 0, 0, 0⟩
            rw [decide_eq_true rfl] at q4 q5
            have hnc : n ≤ capa := by omega
            clear hlx hlp hhd hht hun hn hT6 hB8 hB9 hsa hsb hKw c8 c9
            go_wp2_with fail
            refine wp_region_noPanic ?_
            refine Bz.wp_region_E (S := (LinesS g8 g9 ga oa n x y)) (E := []) (by kernel_rfl) (by exact hW.drew.s) (fun hHeld => ?_)
            obtain ⟨wd, hwd⟩ : ∃ W, W = w8.drew := ⟨_, rfl⟩
            rw [← hwd] at hHeld ⊢
            have hW : LinesW w t mb T' g8 g9 ga oa n capa Ab capb L x y wd := by rw [hwd]; exact hW.drew
            clear hwd
            refine Bz.wpAnyE_take (i := 0) (oi := { dst := some 56, op := Go.Op.move (Go.Operand.tmp 10), type := 36, pos := "law.go:147", after := #[], guard := none }) (v := ?_) rfl (by kernel_rfl) (by kernel_rfl) (by kernel_rfl) (by kernel_rfl) (fun _ _ _ h => h) (Or.inl ⟨by rfl, ?_⟩) hHeld ?_
            rotate_left 1
            · (intro w hSw; simp only [LinesS, At8] at hSw; go_simp; first | done | with_reducible rfl)
            try simp only [Act.put, List.setIfInBounds_toArray, List.set_cons_zero, List.set_cons_succ]
            refine Bz.wpAnyE_take (i := 1) (oi := { dst := some 57, op := Go.Op.call { callee := Go.Callee.builtin Go.Builtin.len, args := #[Go.Operand.tmp 56], argTypes := #[36] }, type := 3, pos := "law.go:147", after := #[{ on := 0, ground := Go.Ground.data }], guard := none }) (v := ?_) rfl (by kernel_rfl) (by kernel_rfl) (by kernel_rfl) (by kernel_rfl) (fun _ _ _ h => h) (Or.inl ⟨by rfl, ?_⟩) hHeld ?_
            rotate_left 1
            · (intro w hSw; simp only [LinesS, At8] at hSw; go_simp; first | done | with_reducible rfl)
            try simp only [Act.put, List.setIfInBounds_toArray, List.set_cons_zero, List.set_cons_succ]
            refine Bz.wpAnyE_take (i := 2) (oi := { dst := some 58, op := Go.Op.move (Go.Operand.tmp 11), type := 36, pos := "law.go:147", after := #[], guard := none }) (v := ?_) rfl (by kernel_rfl) (by kernel_rfl) (by kernel_rfl) (by kernel_rfl) (fun _ _ _ h => h) (Or.inl ⟨by rfl, ?_⟩) hHeld ?_
            rotate_left 1
            · (intro w hSw; simp only [LinesS, At8] at hSw; go_simp; first | done | with_reducible rfl)
            try simp only [Act.put, List.setIfInBounds_toArray, List.set_cons_zero, List.set_cons_succ]
            refine Bz.wpAnyE_take (i := 3) (oi := { dst := some 59, op := Go.Op.call { callee := Go.Callee.builtin Go.Builtin.len, args := #[Go.Operand.tmp 58], argTypes := #[36] }, type := 3, pos := "law.go:147", after := #[{ on := 2, ground := Go.Ground.data }], guard := none }) (v := ?_) rfl (by kernel_rfl) (by kernel_rfl) (by kernel_rfl) (by kernel_rfl) (fun _ _ _ h => h) (Or.inl ⟨by rfl, ?_⟩) hHeld ?_
            rotate_left 1
            · (intro w hSw; simp only [LinesS, At8] at hSw; go_simp; first | done | with_reducible rfl)
            try simp only [Act.put, List.setIfInBounds_toArray, List.set_cons_zero, List.set_cons_succ]
            refine Bz.wpAnyE_take (i := 4) (oi := { dst := some 60, op := Go.Op.binOp Go.BinOp.add 3 (Go.Operand.tmp 59) (Go.Operand.const (Go.Value.int Go.IntKind.i64 1)) 3, type := 3, pos := "law.go:147", after := #[{ on := 3, ground := Go.Ground.data }], guard := none }) (v := ?_) rfl (by kernel_rfl) (by kernel_rfl) (by kernel_rfl) (by kernel_rfl) (fun _ _ _ h => h) (Or.inl ⟨by rfl, ?_⟩) hHeld ?_
            rotate_left 1
            · (intro w hSw; simp only [LinesS, At8] at hSw; go_simp; first | done | with_reducible rfl)
            try simp only [Act.put, List.setIfInBounds_toArray, List.set_cons_zero, List.set_cons_succ]
            refine Bz.wpAnyE_take (i := 5) (oi := { dst := some 61, op := Go.Op.binOp Go.BinOp.neq 3 (Go.Operand.tmp 57) (Go.Operand.tmp 60) 3, type := 4, pos := "law.go:147", after := #[{ on := 1, ground := Go.Ground.data }, { on := 4, ground := Go.Ground.data }], guard := none }) (v := ?_) rfl (by kernel_rfl) (by kernel_rfl) (by kernel_rfl) (by kernel_rfl) (fun _ _ _ h => h) (Or.inl ⟨by rfl, ?_⟩) hHeld ?_
            rotate_left 1
            · (intro w hSw; simp only [LinesS, At8] at hSw; go_simp; first | done | with_reducible rfl)
            try simp only [Act.put, List.setIfInBounds_toArray, List.set_cons_zero, List.set_cons_succ]
            refine Bz.wpAnyE_take (i := 6) (oi := { dst := some 62, op := Go.Op.move (Go.Operand.tmp 61), type := 4, pos := "law.go:147", after := #[{ on := 5, ground := Go.Ground.data }], guard := none }) (v := ?_) rfl (by kernel_rfl) (by kernel_rfl) (by kernel_rfl) (by kernel_rfl) (fun _ _ _ h => h) (Or.inl ⟨by rfl, ?_⟩) hHeld ?_
            rotate_left 1
            · (intro w hSw; simp only [LinesS, At8] at hSw; go_simp; first | done | with_reducible rfl)
            try simp only [Act.put, List.setIfInBounds_toArray, List.set_cons_zero, List.set_cons_succ]
            refine Bz.wpAnyE_take (i := 7) (oi := { dst := some 63, op := Go.Op.move (Go.Operand.tmp 11), type := 36, pos := "law.go:147", after := #[{ on := 6, ground := Go.Ground.guard }], guard := some (6, false) }) (v := ?_) rfl (by kernel_rfl) (by kernel_rfl) (by kernel_rfl) (by kernel_rfl) (fun _ _ _ h => h) (Or.inl ⟨by rfl, ?_⟩) hHeld ?_
            rotate_left 1
            · (intro w hSw; simp only [LinesS, At8] at hSw; go_simp; first | done | with_reducible rfl)
            try simp only [Act.put, List.setIfInBounds_toArray, List.set_cons_zero, List.set_cons_succ]
            refine Bz.wpAnyE_take (i := 8) (oi := { dst := some 64, op := Go.Op.call { callee := Go.Callee.builtin Go.Builtin.len, args := #[Go.Operand.tmp 63], argTypes := #[36] }, type := 3, pos := "law.go:147", after := #[{ on := 7, ground := Go.Ground.data }, { on := 6, ground := Go.Ground.guard }], guard := some (6, false) }) (v := ?_) rfl (by kernel_rfl) (by kernel_rfl) (by kernel_rfl) (by kernel_rfl) (fun _ _ _ h => h) (Or.inl ⟨by rfl, ?_⟩) hHeld ?_
            rotate_left 1
            · (intro w hSw; simp only [LinesS, At8] at hSw; go_simp; first | done | with_reducible rfl)
            try simp only [Act.put, List.setIfInBounds_toArray, List.set_cons_zero, List.set_cons_succ]
            refine Bz.wpAnyE_take (i := 9) (oi := { dst := some 65, op := Go.Op.binOp Go.BinOp.lss 3 (Go.Operand.tmp 64) (Go.Operand.const (Go.Value.int Go.IntKind.i64 1)) 3, type := 4, pos := "law.go:147", after := #[{ on := 8, ground := Go.Ground.data }, { on := 6, ground := Go.Ground.guard }], guard := some (6, false) }) (v := ?_) rfl (by kernel_rfl) (by kernel_rfl) (by kernel_rfl) (by kernel_rfl) (fun _ _ _ h => h) (Or.inl ⟨by rfl, ?_⟩) hHeld ?_
            rotate_left 1
            · (intro w hSw; simp only [LinesS, At8] at hSw; go_simp; first | done | with_reducible rfl)
            try simp only [Act.put, List.setIfInBounds_toArray, List.set_cons_zero, List.set_cons_succ]
            refine Bz.wpAnyE_take (i := 10) (oi := { dst := some 66, op := Go.Op.pick (Go.Operand.tmp 62) (Go.Operand.const (Go.Value.bool true)) (Go.Operand.tmp 65), type := 4, pos := "law.go:147", after := #[{ on := 6, ground := Go.Ground.data }, { on := 9, ground := Go.Ground.data }], guard := none }) (v := ?_) rfl (by kernel_rfl) (by kernel_rfl) (by kernel_rfl) (by kernel_rfl) (fun _ _ _ h => h) (Or.inl ⟨by rfl, ?_⟩) hHeld ?_
            rotate_left 1
            · (intro w hSw; simp only [LinesS, At8] at hSw; go_simp; first | done | with_reducible rfl)
            try simp only [Act.put, List.setIfInBounds_toArray, List.set_cons_zero, List.set_cons_succ]
            refine Bz.wpAnyE_take (i := 11) (oi := { dst := some 67, op := Go.Op.move (Go.Operand.tmp 66), type := 4, pos := "law.go:147", after := #[{ on := 10, ground := Go.Ground.data }, { on := 6, ground := Go.Ground.chain }], guard := none }) (v := ?_) rfl (by kernel_rfl) (by kernel_rfl) (by kernel_rfl) (by kernel_rfl) (fun _ _ _ h => h) (Or.inl ⟨by rfl, ?_⟩) hHeld ?_
            rotate_left 1
            · (intro w hSw; simp only [LinesS, At8] at hSw; go_simp; first | done | with_reducible rfl)
            try simp only [Act.put, List.setIfInBounds_toArray, List.set_cons_zero, List.set_cons_succ]
            refine Bz.wpAnyE_take (i := 12) (oi := { dst := some 68, op := Go.Op.move (Go.Operand.tmp 10), type := 36, pos := "law.go:147", after := #[{ on := 11, ground := Go.Ground.guard }], guard := some (11, false) }) (v := ?_) rfl (by kernel_rfl) (by kernel_rfl) (by kernel_rfl) (by kernel_rfl) (fun _ _ _ h => h) (Or.inl ⟨by rfl, ?_⟩) hHeld ?_
            rotate_left 1
            · (intro w hSw; simp only [LinesS, At8] at hSw; go_simp; first | done | with_reducible rfl)
            try simp only [Act.put, List.setIfInBounds_toArray, List.set_cons_zero, List.set_cons_succ]
            refine Bz.wpAnyE_take (i := 13) (oi := { dst := some 69, op := Go.Op.indexAddr 36 (Go.Operand.tmp 68) (Go.Operand.const (Go.Value.int Go.IntKind.i64 0)), type := 0, pos := "law.go:147", after := #[{ on := 12, ground := Go.Ground.data }, { on := 11, ground := Go.Ground.guard }], guard := some (11, false) }) (v := ?_) rfl (by kernel_rfl) (by kernel_rfl) (by kernel_rfl) (by kernel_rfl) (fun _ _ _ h => h) (Or.inl ⟨by rfl, ?_⟩) hHeld ?_
            rotate_left 1
            · (intro w hSw; simp only [LinesS, At8] at hSw; go_simp; first | done | with_reducible rfl)
            try simp only [Act.put, List.setIfInBounds_toArray, List.set_cons_zero, List.set_cons_succ]
            refine Bz.wpAnyE_take (i := 14) (oi := { dst := some 70, op := Go.Op.load 29 (Go.Operand.tmp 69), type := 29, pos := "law.go:147", after := #[{ on := 13, ground := Go.Ground.data }, { on := 11, ground := Go.Ground.guard }], guard := some (11, false) }) (v := ?_) rfl (by kernel_rfl) (by kernel_rfl) (by kernel_rfl) (by kernel_rfl) (fun _ _ _ h => h) (Or.inl ⟨by rfl, ?_⟩) hHeld ?_
            rotate_left 1
            · (intro w hSw; simp only [LinesS, At8] at hSw; go_simp; first | done | with_reducible rfl)
            try simp only [Act.put, List.setIfInBounds_toArray, List.set_cons_zero, List.set_cons_succ]
            refine Bz.wpAnyE_ready (rs := [15]) (by kernel_rfl) (by simp) ?_
            refine Bz.AllReadyE.cons (o := { dst := some 71, op := Go.Op.call { callee := Go.Callee.value (Go.Operand.func 11), args := #[Go.Operand.const (Go.Value.int Go.IntKind.u8 0)], argTypes := #[5] }, type := 29, pos := "law.go:147", after := #[{ on := 11, ground := Go.Ground.chain }, { on := 11, ground := Go.Ground.guard }], guard := some (11, false) }) rfl (fun K hK => ?_) Bz.AllReadyE.nil
            go_simp
            
            refine (id_any _ _).mono ?_
            rintro e w5 ⟨rfl, hk5⟩
            have hW := hW.on hk5
            refine hK.out _ _ (by exact hW.s) ?_
            clear hHeld hK K; intro hHeld
            try simp only [Act.put, List.setIfInBounds_toArray, List.set_cons_zero, List.set_cons_succ]
            refine Bz.wpAnyE_take (i := 16) (oi := { dst := some 72, op := Go.Op.binOp Go.BinOp.neq 29 (Go.Operand.tmp 70) (Go.Operand.tmp 71) 29, type := 4, pos := "law.go:147", after := #[{ on := 14, ground := Go.Ground.data }, { on := 15, ground := Go.Ground.data }, { on := 11, ground := Go.Ground.guard }], guard := some (11, false) }) (v := ?_) rfl (by kernel_rfl) (by kernel_rfl) (by kernel_rfl) (by kernel_rfl) (fun _ _ _ h => h) (Or.inl ⟨by rfl, ?_⟩) hHeld ?_
            rotate_left 1
            · (intro w hSw; simp only [LinesS, At8] at hSw; go_simp; first | done | with_reducible rfl)
            try simp only [Act.put, List.setIfInBounds_toArray, List.set_cons_zero, List.set_cons_succ]
            refine Bz.wpAnyE_take (i := 17) (oi := { dst := some 73, op := Go.Op.pick (Go.Operand.tmp 67) (Go.Operand.const (Go.Value.bool true)) (Go.Operand.tmp 72), type := 4, pos := "law.go:147", after := #[{ on := 11, ground := Go.Ground.data }, { on := 16, ground := Go.Ground.data }], guard := none }) (v := ?_) rfl (by kernel_rfl) (by kernel_rfl) (by kernel_rfl) (by kernel_rfl) (fun _ _ _ h => h) (Or.inl ⟨by rfl, ?_⟩) hHeld ?_
            rotate_left 1
            · (intro w hSw; simp only [LinesS, At8] at hSw; go_simp; first | done | with_reducible rfl)
            try simp only [Act.put, List.setIfInBounds_toArray, List.set_cons_zero, List.set_cons_succ]
            refine Bz.wpAnyE_take (i := 18) (oi := { dst := some 74, op := Go.Op.move (Go.Operand.tmp 73), type := 4, pos := "law.go:147", after := #[{ on := 17, ground := Go.Ground.data }, { on := 15, ground := Go.Ground.chain }], guard := none }) (v := ?_) rfl (by kernel_rfl) (by kernel_rfl) (by kernel_rfl) (by kernel_rfl) (fun _ _ _ h => h) (Or.inl ⟨by rfl, ?_⟩) hHeld ?_
            rotate_left 1
            · (intro w hSw; simp only [LinesS, At8] at hSw; go_simp; first | done | with_reducible rfl)
            try simp only [Act.put, List.setIfInBounds_toArray, List.set_cons_zero, List.set_cons_succ]
            refine Bz.wpAnyE_take (i := 19) (oi := { dst := some 75, op := Go.Op.move (Go.Operand.tmp 10), type := 36, pos := "law.go:147", after := #[{ on := 18, ground := Go.Ground.guard }], guard := some (18, false) }) (v := ?_) rfl (by kernel_rfl) (by kernel_rfl) (by kernel_rfl) (by kernel_rfl) (fun _ _ _ h => h) (Or.inl ⟨by rfl, ?_⟩) hHeld ?_
            rotate_left 1
            · (intro w hSw; simp only [LinesS, At8] at hSw; go_simp; first | done | with_reducible rfl)
            try simp only [Act.put, List.setIfInBounds_toArray, List.set_cons_zero, List.set_cons_succ]
            refine Bz.wpAnyE_take (i := 20) (oi := { dst := some 76, op := Go.Op.move (Go.Operand.tmp 10), type := 36, pos := "law.go:147", after := #[{ on := 18, ground := Go.Ground.guard }], guard := some (18, false) }) (v := ?_) rfl (by kernel_rfl) (by kernel_rfl) (by kernel_rfl) (by kernel_rfl) (fun _ _ _ h => h) (Or.inl ⟨by rfl, ?_⟩) hHeld ?_
            rotate_left 1
            · (intro w hSw; simp only [LinesS, At8] at hSw; go_simp; first | done | with_reducible rfl)
            try simp only [Act.put, List.setIfInBounds_toArray, List.set_cons_zero, List.set_cons_succ]
            refine Bz.wpAnyE_take (i := 21) (oi := { dst := some 77, op := Go.Op.call { callee := Go.Callee.builtin Go.Builtin.len, args := #[Go.Operand.tmp 76], argTypes := #[36] }, type := 3, pos := "law.go:147", after := #[{ on := 20, ground := Go.Ground.data }, { on := 18, ground := Go.Ground.guard }], guard := some (18, false) }) (v := ?_) rfl (by kernel_rfl) (by kernel_rfl) (by kernel_rfl) (by kernel_rfl) (fun _ _ _ h => h) (Or.inl ⟨by rfl, ?_⟩) hHeld ?_
            rotate_left 1
            · (intro w hSw; simp only [LinesS, At8] at hSw; go_simp; first | done | with_reducible rfl)
            try simp only [Act.put, List.setIfInBounds_toArray, List.set_cons_zero, List.set_cons_succ]
            refine Bz.wpAnyE_take (i := 22) (oi := { dst := some 78, op := Go.Op.binOp Go.BinOp.sub 3 (Go.Operand.tmp 77) (Go.Operand.const (Go.Value.int Go.IntKind.i64 1)) 3, type := 3, pos := "law.go:147", after := #[{ on := 21, ground := Go.Ground.data }, { on := 18, ground := Go.Ground.guard }], guard := some (18, false) }) (v := ?_) rfl (by kernel_rfl) (by kernel_rfl) (by kernel_rfl) (by kernel_rfl) (fun _ _ _ h => h) (Or.inl ⟨by rfl, ?_⟩) hHeld ?_
            rotate_left 1
            · (intro w hSw; simp only [LinesS, At8] at hSw; go_simp; first | done | with_reducible rfl)
            try simp only [Act.put, List.setIfInBounds_toArray, List.set_cons_zero, List.set_cons_succ]
            refine Bz.wpAnyE_take (i := 23) (oi := { dst := some 79, op := Go.Op.indexAddr 36 (Go.Operand.tmp 75) (Go.Operand.tmp 78), type := 0, pos := "law.go:147", after := #[{ on := 19, ground := Go.Ground.data }, { on := 22, ground := Go.Ground.data }, { on := 18, ground := Go.Ground.guard }], guard := some (18, false) }) (v := ?_) rfl (by kernel_rfl) (by kernel_rfl) (by kernel_rfl) (by kernel_rfl) (fun _ _ _ h => h) (Or.inl ⟨by rfl, ?_⟩) hHeld ?_
            rotate_left 1
            · (intro w hSw; simp only [LinesS, At8] at hSw; go_simp; first | done | with_reducible rfl)
            try simp only [Act.put, List.setIfInBounds_toArray, List.set_cons_zero, List.set_cons_succ]
            refine Bz.wpAnyE_take (i := 24) (oi := { dst := some 80, op := Go.Op.load 29 (Go.Operand.tmp 79), type := 29, pos := "law.go:147", after := #[{ on := 23, ground := Go.Ground.data }, { on := 18, ground := Go.Ground.guard }], guard := some (18, false) }) (v := ?_) rfl (by kernel_rfl) (by kernel_rfl) (by kernel_rfl) (by kernel_rfl) (fun _ _ _ h => h) (Or.inl ⟨by rfl, ?_⟩) hHeld ?_
            rotate_left 1
            · (intro w hSw; simp only [LinesS, At8] at hSw; go_simp; first | done | with_reducible rfl)
            try simp only [Act.put, List.setIfInBounds_toArray, List.set_cons_zero, List.set_cons_succ]
            refine Bz.wpAnyE_take (i := 25) (oi := { dst := some 81, op := Go.Op.load 29 (Go.Operand.tmp 8), type := 29, pos := "law.go:147", after := #[{ on := 18, ground := Go.Ground.guard }], guard := some (18, false) }) (v := ?_) rfl (by kernel_rfl) (by kernel_rfl) (by kernel_rfl) (by kernel_rfl) (fun _ _ _ h => h) (Or.inl ⟨by rfl, ?_⟩) hHeld ?_
            rotate_left 1
            · (intro w hSw; simp only [LinesS, At8] at hSw; go_simp; first | done | with_reducible rfl)
            try simp only [Act.put, List.setIfInBounds_toArray, List.set_cons_zero, List.set_cons_succ]
            refine Bz.wpAnyE_take (i := 26) (oi := { dst := some 82, op := Go.Op.binOp Go.BinOp.neq 29 (Go.Operand.tmp 80) (Go.Operand.tmp 81) 29, type := 4, pos := "law.go:147", after := #[{ on := 24, ground := Go.Ground.data }, { on := 25, ground := Go.Ground.data }, { on := 18, ground := Go.Ground.guard }], guard := some (18, false) }) (v := ?_) rfl (by kernel_rfl) (by kernel_rfl) (by kernel_rfl) (by kernel_rfl) (fun _ _ _ h => h) (Or.inl ⟨by rfl, ?_⟩) hHeld ?_
            rotate_left 1
            · (intro w hSw; simp only [LinesS, At8] at hSw; go_simp; first | done | with_reducible rfl)
            try simp only [Act.put, List.setIfInBounds_toArray, List.set_cons_zero, List.set_cons_succ]
            refine Bz.wpAnyE_take (i := 27) (oi := { dst := some 83, op := Go.Op.pick (Go.Operand.tmp 74) (Go.Operand.const (Go.Value.bool true)) (Go.Operand.tmp 82), type := 4, pos := "law.go:147", after := #[{ on := 18, ground := Go.Ground.data }, { on := 26, ground := Go.Ground.data }], guard := none }) (v := ?_) rfl (by kernel_rfl) (by kernel_rfl) (by kernel_rfl) (by kernel_rfl) (fun _ _ _ h => h) (Or.inl ⟨by rfl, ?_⟩) hHeld ?_
            rotate_left 1
            · (intro w hSw; simp only [LinesS, At8] at hSw; go_simp; first | done | with_reducible rfl)
            try simp only [Act.put, List.setIfInBounds_toArray, List.set_cons_zero, List.set_cons_succ]
            refine Bz.wpAnyE_take (i := 28) (oi := { dst := some 84, op := Go.Op.move (Go.Operand.tmp 83), type := 4, pos := "law.go:147", after := #[{ on := 27, ground := Go.Ground.data }, { on := 18, ground := Go.Ground.chain }], guard := none }) (v := ?_) rfl (by kernel_rfl) (by kernel_rfl) (by kernel_rfl) (by kernel_rfl) (fun _ _ _ h => h) (Or.inl ⟨by rfl, ?_⟩) hHeld ?_
            rotate_left 1
            · (intro w hSw; simp only [LinesS, At8] at hSw; go_simp; first | done | with_reducible rfl)
            try simp only [Act.put, List.setIfInBounds_toArray, List.set_cons_zero, List.set_cons_succ]
            refine Bz.wpAnyE_take (i := 29) (oi := { dst := some 85, op := Go.Op.move (Go.Operand.tmp 10), type := 36, pos := "law.go:147", after := #[{ on := 28, ground := Go.Ground.guard }], guard := some (28, false) }) (v := ?_) rfl (by kernel_rfl) (by kernel_rfl) (by kernel_rfl) (by kernel_rfl) (fun _ _ _ h => h) (Or.inl ⟨by rfl, ?_⟩) hHeld ?_
            rotate_left 1
            · (intro w hSw; simp only [LinesS, At8] at hSw; go_simp; first | done | with_reducible rfl)
            try simp only [Act.put, List.setIfInBounds_toArray, List.set_cons_zero, List.set_cons_succ]
            refine Bz.wpAnyE_take (i := 30) (oi := { dst := some 86, op := Go.Op.move (Go.Operand.tmp 11), type := 36, pos := "law.go:147", after := #[{ on := 28, ground := Go.Ground.guard }], guard := some (28, false) }) (v := ?_) rfl (by kernel_rfl) (by kernel_rfl) (by kernel_rfl) (by kernel_rfl) (fun _ _ _ h => h) (Or.inl ⟨by rfl, ?_⟩) hHeld ?_
            rotate_left 1
            · (intro w hSw; simp only [LinesS, At8] at hSw; go_simp; first | done | with_reducible rfl)
            try simp only [Act.put, List.setIfInBounds_toArray, List.set_cons_zero, List.set_cons_succ]
            refine Bz.wpAnyE_take (i := 31) (oi := { dst := some 87, op := Go.Op.call { callee := Go.Callee.builtin Go.Builtin.len, args := #[Go.Operand.tmp 86], argTypes := #[36] }, type := 3, pos := "law.go:147", after := #[{ on := 30, ground := Go.Ground.data }, { on := 28, ground := Go.Ground.guard }], guard := some (28, false) }) (v := ?_) rfl (by kernel_rfl) (by kernel_rfl) (by kernel_rfl) (by kernel_rfl) (fun _ _ _ h => h) (Or.inl ⟨by rfl, ?_⟩) hHeld ?_
            rotate_left 1
            · (intro w hSw; simp only [LinesS, At8] at hSw; go_simp; first | done | with_reducible rfl)
            try simp only [Act.put, List.setIfInBounds_toArray, List.set_cons_zero, List.set_cons_succ]
            refine Bz.wpAnyE_take (i := 32) (oi := { dst := some 88, op := Go.Op.slice 36 (Go.Operand.tmp 85) none (some (Go.Operand.tmp 87)) none, type := 36, pos := "law.go:147", after := #[{ on := 29, ground := Go.Ground.data }, { on := 31, ground := Go.Ground.data }, { on := 28, ground := Go.Ground.guard }], guard := some (28, false) }) (v := ?_) rfl (by kernel_rfl) (by kernel_rfl) (by kernel_rfl) (by kernel_rfl) (fun _ _ _ h => h) (Or.inl ⟨by rfl, ?_⟩) hHeld ?_
            rotate_left 1
            · (intro w hSw; simp only [LinesS, At8] at hSw; go_simp; first | done | with_reducible rfl)
            try simp only [Act.put, List.setIfInBounds_toArray, List.set_cons_zero, List.set_cons_succ]
            refine Bz.wpAnyE_take (i := 34) (oi := { dst := some 90, op := Go.Op.move (Go.Operand.tmp 11), type := 36, pos := "law.go:147", after := #[{ on := 28, ground := Go.Ground.guard }], guard := some (28, false) }) (v := ?_) rfl (by kernel_rfl) (by kernel_rfl) (by kernel_rfl) (by kernel_rfl) (fun _ _ _ h => h) (Or.inl ⟨by rfl, ?_⟩) hHeld ?_
            rotate_left 1
            · (intro w hSw; simp only [LinesS, At8] at hSw; go_simp; first | done | with_reducible rfl)
            try simp only [Act.put, List.setIfInBounds_toArray, List.set_cons_zero, List.set_cons_succ]
            refine Bz.wpAnyE_ready (rs := [33]) (by kernel_rfl) (by simp) ?_
            refine Bz.AllReadyE.cons (o := { dst := some 89, op := Go.Op.call { callee := Go.Callee.value (Go.Operand.func 20), args := #[Go.Operand.tmp 88], argTypes := #[36] }, type := 47, pos := "law.go:147", after := #[{ on := 32, ground := Go.Ground.data }, { on := 28, ground := Go.Ground.chain }, { on := 28, ground := Go.Ground.guard }], guard := some (28, false) }) rfl (fun K hK => ?_) Bz.AllReadyE.nil
            go_simp
            
            refine (plain_any hW.cut (by have := hW.n_; omega)).mono ?_
            rintro e w9 ⟨v9, rfl, hO9, hk9⟩
            have hW := hW.on hk9
            have hO9 := hO9.sl dsz
            refine hK.out _ _ (by exact hW.s) ?_
            clear hHeld hK K; intro hHeld
            try simp only [Act.put, List.setIfInBounds_toArray, List.set_cons_zero, List.set_cons_succ]
            refine Bz.wpAnyE_ready (rs := [35]) (by kernel_rfl) (by simp) ?_
            refine Bz.AllReadyE.cons (o := { dst := some 91, op := Go.Op.call { callee := Go.Callee.value (Go.Operand.func 20), args := #[Go.Operand.tmp 90], argTypes := #[36] }, type := 47, pos := "law.go:147", after := #[{ on := 34, ground := Go.Ground.data }, { on := 33, ground := Go.Ground.chain }, { on := 28, ground := Go.Ground.guard }], guard := some (28, false) }) rfl (fun K hK => ?_) Bz.AllReadyE.nil
            go_simp
            
            refine (plain_any hW.b (by have := hW.n_; omega)).mono ?_
            rintro e w10 ⟨v10, rfl, hO10, hk10⟩
            have hW := hW.on hk10
            have hO9 := hO9.keep0 hk10
            have hO10 := hO10.sl dsz
            refine hK.out _ _ (by exact hW.s) ?_
            clear hHeld hK K; intro hHeld
            try simp only [Act.put, List.setIfInBounds_toArray, List.set_cons_zero, List.set_cons_succ]
            refine Bz.wpAnyE_ready (rs := [36]) (by kernel_rfl) (by simp) ?_
            refine Bz.AllReadyE.cons (o := { dst := some 92, op := Go.Op.call { callee := Go.Callee.value (Go.Operand.func 19), args := #[Go.Operand.tmp 89, Go.Operand.tmp 91], argTypes := #[47, 47] }, type := 4, pos := "law.go:147", after := #[{ on := 33, ground := Go.Ground.data }, { on := 35, ground := Go.Ground.data }, { on := 35, ground := Go.Ground.chain }, { on := 28, ground := Go.Ground.guard }], guard := some (28, false) }) rfl (fun K hK => ?_) Bz.AllReadyE.nil
            go_simp
            
            refine (same_any hO9 hO10).mono ?_
            rw [decide_eq_true rfl]
            rintro e w11 ⟨rfl, hk11⟩
            have hW := hW.on hk11
            refine hK.out _ _ (by exact hW.s) ?_
            clear hHeld hK K; intro hHeld
            try simp only [Act.put, List.setIfInBounds_toArray, List.set_cons_zero, List.set_cons_succ]
            refine Bz.wpAnyE_take (i := 37) (oi := { dst := some 93, op := Go.Op.unOp Go.UnOp.not 4 (Go.Operand.tmp 92), type := 4, pos := "law.go:147", after := #[{ on := 36, ground := Go.Ground.data }, { on := 28, ground := Go.Ground.guard }], guard := some (28, false) }) (v := ?_) rfl (by kernel_rfl) (by kernel_rfl) (by kernel_rfl) (by kernel_rfl) (fun _ _ _ h => h) (Or.inl ⟨by rfl, ?_⟩) hHeld ?_
            rotate_left 1
            · (intro w hSw; simp only [LinesS, At8] at hSw; go_simp; first | done | with_reducible rfl)
            try simp only [Act.put, List.setIfInBounds_toArray, List.set_cons_zero, List.set_cons_succ]
            refine Bz.wpAnyE_take (i := 38) (oi := { dst := some 94, op := Go.Op.pick (Go.Operand.tmp 84) (Go.Operand.const (Go.Value.bool true)) (Go.Operand.tmp 93), type := 4, pos := "law.go:147", after := #[{ on := 28, ground := Go.Ground.data }, { on := 37, ground := Go.Ground.data }], guard := none }) (v := ?_) rfl (by kernel_rfl) (by kernel_rfl) (by kernel_rfl) (by kernel_rfl) (fun _ _ _ h => h) (Or.inl ⟨by rfl, ?_⟩) hHeld ?_
            rotate_left 1
            · (intro w hSw; simp only [LinesS, At8] at hSw; go_simp; first | done | with_reducible rfl)
            try simp only [Act.put, List.setIfInBounds_toArray, List.set_cons_zero, List.set_cons_succ]
            refine Bz.wpAnyE_take (i := 39) (oi := { dst := some 95, op := Go.Op.move (Go.Operand.tmp 94), type := 4, pos := "law.go:147", after := #[{ on := 38, ground := Go.Ground.data }, { on := 36, ground := Go.Ground.chain }], guard := none }) (v := ?_) rfl (by kernel_rfl) (by kernel_rfl) (by kernel_rfl) (by kernel_rfl) (fun _ _ _ h => h) (Or.inl ⟨by rfl, ?_⟩) hHeld ?_
            rotate_left 1
            · (intro w hSw; simp only [LinesS, At8] at hSw; go_simp; first | done | with_reducible rfl)
            try simp only [Act.put, List.setIfInBounds_toArray, List.set_cons_zero, List.set_cons_succ]
            refine Bz.wpAnyE_take (i := 40) (oi := { dst := some 96, op := Go.Op.move (Go.Operand.tmp 5), type := 24, pos := "law.go:147", after := #[{ on := 39, ground := Go.Ground.guard }], guard := some (39, false) }) (v := ?_) rfl (by kernel_rfl) (by kernel_rfl) (by kernel_rfl) (by kernel_rfl) (fun _ _ _ h => h) (Or.inl ⟨by rfl, ?_⟩) hHeld ?_
            rotate_left 1
            · (intro w hSw; simp only [LinesS, At8] at hSw; go_simp; first | done | with_reducible rfl)
            try simp only [Act.put, List.setIfInBounds_toArray, List.set_cons_zero, List.set_cons_succ]
            refine Bz.wpAnyE_take (i := 41) (oi := { dst := some 97, op := Go.Op.load 29 (Go.Operand.tmp 8), type := 29, pos := "law.go:147", after := #[{ on := 39, ground := Go.Ground.guard }], guard := some (39, false) }) (v := ?_) rfl (by kernel_rfl) (by kernel_rfl) (by kernel_rfl) (by kernel_rfl) (fun _ _ _ h => h) (Or.inl ⟨by rfl, ?_⟩) hHeld ?_
            rotate_left 1
            · (intro w hSw; simp only [LinesS, At8] at hSw; go_simp; first | done | with_reducible rfl)
            try simp only [Act.put, List.setIfInBounds_toArray, List.set_cons_zero, List.set_cons_succ]
            refine Bz.wpAnyE_take (i := 43) (oi := { dst := some 99, op := Go.Op.move (Go.Operand.tmp 11), type := 36, pos := "law.go:147", after := #[{ on := 39, ground := Go.Ground.guard }], guard := some (39, false) }) (v := ?_) rfl (by kernel_rfl) (by kernel_rfl) (by kernel_rfl) (by kernel_rfl) (fun _ _ _ h => h) (Or.inl ⟨by rfl, ?_⟩) hHeld ?_
            rotate_left 1
            · (intro w hSw; simp only [LinesS, At8] at hSw; go_simp; first | done | with_reducible rfl)
            try simp only [Act.put, List.setIfInBounds_toArray, List.set_cons_zero, List.set_cons_succ]
            refine Bz.wpAnyE_take (i := 44) (oi := { dst := some 100, op := Go.Op.call { callee := Go.Callee.builtin Go.Builtin.len, args := #[Go.Operand.tmp 99], argTypes := #[36] }, type := 3, pos := "law.go:147", after := #[{ on := 43, ground := Go.Ground.data }, { on := 39, ground := Go.Ground.guard }], guard := some (39, false) }) (v := ?_) rfl (by kernel_rfl) (by kernel_rfl) (by kernel_rfl) (by kernel_rfl) (fun _ _ _ h => h) (Or.inl ⟨by rfl, ?_⟩) hHeld ?_
            rotate_left 1
            · (intro w hSw; simp only [LinesS, At8] at hSw; go_simp; first | done | with_reducible rfl)
            try simp only [Act.put, List.setIfInBounds_toArray, List.set_cons_zero, List.set_cons_succ]
            refine Bz.wpAnyE_ready (rs := [42]) (by kernel_rfl) (by simp) ?_
            refine Bz.AllReadyE.cons (o := { dst := some 98, op := Go.Op.call { callee := Go.Callee.value (Go.Operand.func 16), args := #[Go.Operand.tmp 96, Go.Operand.tmp 97], argTypes := #[24, 29] }, type := 3, pos := "law.go:147", after := #[{ on := 40, ground := Go.Ground.data }, { on := 41, ground := Go.Ground.data }, { on := 39, ground := Go.Ground.chain }, { on := 39, ground := Go.Ground.guard }], guard := some (39, false) }) rfl (fun K hK => ?_) Bz.AllReadyE.nil
            go_simp
            
            refine (height_any hW.tree (idv x)).mono ?_
            rw [H1.out.2.2.2.1]
            rintro e w12 ⟨rfl, hk12⟩
            have hW := hW.on hk12
            refine hK.out _ _ (by exact hW.s) ?_
            clear hHeld hK K; intro hHeld
            try simp only [Act.put, List.setIfInBounds_toArray, List.set_cons_zero, List.set_cons_succ]
            refine Bz.wpAnyE_take (i := 45) (oi := { dst := some 101, op := Go.Op.binOp Go.BinOp.neq 3 (Go.Operand.tmp 98) (Go.Operand.tmp 100) 3, type := 4, pos := "law.go:147", after := #[{ on := 42, ground := Go.Ground.data }, { on := 44, ground := Go.Ground.data }, { on := 39, ground := Go.Ground.guard }], guard := some (39, false) }) (v := ?_) rfl (by kernel_rfl) (by kernel_rfl) (by kernel_rfl) (by kernel_rfl) (fun _ _ _ h => h) (Or.inl ⟨by rfl, ?_⟩) hHeld ?_
            rotate_left 1
            · (intro w hSw; simp only [LinesS, At8] at hSw; go_simp; first | done | with_reducible rfl)
            try simp only [Act.put, List.setIfInBounds_toArray, List.set_cons_zero, List.set_cons_succ]
            refine Bz.wpAnyE_take (i := 46) (oi := { dst := some 102, op := Go.Op.pick (Go.Operand.tmp 95) (Go.Operand.const (Go.Value.bool true)) (Go.Operand.tmp 101), type := 4, pos := "law.go:147", after := #[{ on := 39, ground := Go.Ground.data }, { on := 45, ground := Go.Ground.data }], guard := none }) (v := ?_) rfl (by kernel_rfl) (by kernel_rfl) (by kernel_rfl) (by kernel_rfl) (fun _ _ _ h => h) (Or.inl ⟨by rfl, ?_⟩) hHeld ?_
            rotate_left 1
            · (intro w hSw; simp only [LinesS, At8] at hSw; go_simp; first | done | with_reducible rfl)
            try simp only [Act.put, List.setIfInBounds_toArray, List.set_cons_zero, List.set_cons_succ]
            refine Bz.wpAnyE_take (i := 47) (oi := { dst := some 103, op := Go.Op.move (Go.Operand.tmp 102), type := 4, pos := "law.go:147", after := #[{ on := 46, ground := Go.Ground.data }, { on := 42, ground := Go.Ground.chain }], guard := none }) (v := ?_) rfl (by kernel_rfl) (by kernel_rfl) (by kernel_rfl) (by kernel_rfl) (fun _ _ _ h => h) (Or.inl ⟨by rfl, ?_⟩) hHeld ?_
            rotate_left 1
            · (intro w hSw; simp only [LinesS, At8] at hSw; go_simp; first | done | with_reducible rfl)
            try simp only [Act.put, List.setIfInBounds_toArray, List.set_cons_zero, List.set_cons_succ]
            refine Bz.wpAnyE_take (i := 48) (oi := { dst := some 104, op := Go.Op.move (Go.Operand.tmp 5), type := 24, pos := "law.go:147", after := #[{ on := 47, ground := Go.Ground.guard }], guard := some (47, false) }) (v := ?_) rfl (by kernel_rfl) (by kernel_rfl) (by kernel_rfl) (by kernel_rfl) (fun _ _ _ h => h) (Or.inl ⟨by rfl, ?_⟩) hHeld ?_
            rotate_left 1
            · (intro w hSw; simp only [LinesS, At8] at hSw; go_simp; first | done | with_reducible rfl)
            try simp only [Act.put, List.setIfInBounds_toArray, List.set_cons_zero, List.set_cons_succ]
            refine Bz.wpAnyE_take (i := 49) (oi := { dst := some 105, op := Go.Op.load 29 (Go.Operand.tmp 9), type := 29, pos := "law.go:147", after := #[{ on := 47, ground := Go.Ground.guard }], guard := some (47, false) }) (v := ?_) rfl (by kernel_rfl) (by kernel_rfl) (by kernel_rfl) (by kernel_rfl) (fun _ _ _ h => h) (Or.inl ⟨by rfl, ?_⟩) hHeld ?_
            rotate_left 1
            · (intro w hSw; simp only [LinesS, At8] at hSw; go_simp; first | done | with_reducible rfl)
            try simp only [Act.put, List.setIfInBounds_toArray, List.set_cons_zero, List.set_cons_succ]
            refine Bz.wpAnyE_take (i := 50) (oi := { dst := some 106, op := Go.Op.load 29 (Go.Operand.tmp 8), type := 29, pos := "law.go:147", after := #[{ on := 47, ground := Go.Ground.guard }], guard := some (47, false) }) (v := ?_) rfl (by kernel_rfl) (by kernel_rfl) (by kernel_rfl) (by kernel_rfl) (fun _ _ _ h => h) (Or.inl ⟨by rfl, ?_⟩) hHeld ?_
            rotate_left 1
            · (intro w hSw; simp only [LinesS, At8] at hSw; go_simp; first | done | with_reducible rfl)
            try simp only [Act.put, List.setIfInBounds_toArray, List.set_cons_zero, List.set_cons_succ]
            refine Bz.wpAnyE_ready (rs := [51]) (by kernel_rfl) (by simp) ?_
            refine Bz.AllReadyE.cons (o := { dst := some 107, op := Go.Op.call { callee := Go.Callee.value (Go.Operand.func 15), args := #[Go.Operand.tmp 104, Go.Operand.tmp 105, Go.Operand.tmp 106], argTypes := #[24, 29, 29] }, type := 36, pos := "law.go:147", after := #[{ on := 48, ground := Go.Ground.data }, { on := 49, ground := Go.Ground.data }, { on := 50, ground := Go.Ground.data }, { on := 47, ground := Go.Ground.chain }, { on := 47, ground := Go.Ground.guard }], guard := some (47, false) }) rfl (fun K hK => ?_) Bz.AllReadyE.nil
            go_simp
            
            refine (undone_call hW.tree hWF6 (idv y) (idv x)).mono ?_
            rw [H1.out.2.2.2.2.1]
            rintro e w13 ⟨v13, rfl, ⟨A13, c13, rfl, _⟩, hk13⟩
            have hW := hW.on hk13
            refine hK.out _ _ (by exact hW.s) ?_
            clear hHeld hK K; intro hHeld
            try simp only [Act.put, List.setIfInBounds_toArray, List.set_cons_zero, List.set_cons_succ]
            refine Bz.wpAnyE_take (i := 52) (oi := { dst := some 108, op := Go.Op.call { callee := Go.Callee.builtin Go.Builtin.len, args := #[Go.Operand.tmp 107], argTypes := #[36] }, type := 3, pos := "law.go:147", after := #[{ on := 51, ground := Go.Ground.data }, { on := 47, ground := Go.Ground.guard }], guard := some (47, false) }) (v := ?_) rfl (by kernel_rfl) (by kernel_rfl) (by kernel_rfl) (by kernel_rfl) (fun _ _ _ h => h) (Or.inl ⟨by rfl, ?_⟩) hHeld ?_
            rotate_left 1
            · (intro w hSw; simp only [LinesS, At8] at hSw; go_simp; first | done | with_reducible rfl)
            try simp only [Act.put, List.setIfInBounds_toArray, List.set_cons_zero, List.set_cons_succ]
            refine Bz.wpAnyE_take (i := 53) (oi := { dst := some 109, op := Go.Op.binOp Go.BinOp.neq 3 (Go.Operand.tmp 108) (Go.Operand.const (Go.Value.int Go.IntKind.i64 0)) 3, type := 4, pos := "law.go:147", after := #[{ on := 52, ground := Go.Ground.data }, { on := 47, ground := Go.Ground.guard }], guard := some (47, false) }) (v := ?_) rfl (by kernel_rfl) (by kernel_rfl) (by kernel_rfl) (by kernel_rfl) (fun _ _ _ h => h) (Or.inl ⟨by rfl, ?_⟩) hHeld ?_
            rotate_left 1
            · (intro w hSw; simp only [LinesS, At8] at hSw; go_simp; first | done | with_reducible rfl)
            try simp only [Act.put, List.setIfInBounds_toArray, List.set_cons_zero, List.set_cons_succ]
            refine Bz.wpAnyE_take (i := 54) (oi := { dst := some 110, op := Go.Op.pick (Go.Operand.tmp 103) (Go.Operand.const (Go.Value.bool true)) (Go.Operand.tmp 109), type := 4, pos := "law.go:147", after := #[{ on := 47, ground := Go.Ground.data }, { on := 53, ground := Go.Ground.data }], guard := none }) (v := ?_) rfl (by kernel_rfl) (by kernel_rfl) (by kernel_rfl) (by kernel_rfl) (fun _ _ _ h => h) (Or.inl ⟨by rfl, ?_⟩) hHeld ?_
            rotate_left 1
            · (intro w hSw; simp only [LinesS, At8] at hSw; go_simp; first | done | with_reducible rfl)
            try simp only [Act.put, List.setIfInBounds_toArray, List.set_cons_zero, List.set_cons_succ]
            refine Bz.wpAnyE_done (by kernel_rfl) ?_ _
            refine NoPanic.normal ?_
            
            clear hHeld
            go_wp2_with fail
            go_roundg (l.length - (k + 1))
            case measure => omega
            case rel => exact ⟨k + 1, T', by go_num, by omega, hW.tree, hWF6, hf6, hW.keep⟩
          · have h0 : (er != 0) = true := by simp; exact h0
            have hf6 : (T.add (idv x) (idv y)).first = idv 0 := by rw [FT.add_first]; exact hfst
            clear her
            go_wp2_with fail
            go_roundg (l.length - (k + 1))
            case measure => omega
            case rel => exact ⟨k + 1, _, by go_num, by omega, hT6, hWF.add _ _, hf6, hKw⟩
      · go_wp2_with fail
        go_ret
        exact ⟨rfl, hKw⟩
    · go_wp2_with fail
      go_ret
      exact ⟨rfl, hKw⟩
end Go.Proofs.Ytbkchniomhdieaa
