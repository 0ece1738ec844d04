/- fork.Tree.Line walked. -/
import Derived.Test.YtbkchniomhdieaaRev
namespace Go.Proofs.Ytbkchniomhdieaa
open Go.RowKit Go.Bz

theorem app36 : AppT Try.prog 36 29 8 8 (dv d0) := ⟨Try.underlying36, by kernel_rfl, rfl, by decide⟩
theorem dc_one (x : D8) : ∀ u ∈ (dcells x).toList, u.oneCell' = true := by intro u hu; simp at hu; rcases hu with rfl | rfl | rfl | rfl | rfl | rfl | rfl | rfl <;> rfl
theorem line_none {t mb : Nat} {T : FT} {w : World} (h : TreeAt w t mb T) (x : D8) (hx : T.is x = false) :
    Calls Try.prog 18 #[.pointer (some ⟨t, 0, none⟩), dv x] w (fun e w' => e = .returned (.slice none 0 0) ∧ Keep [] w w') := by
  have hh : T.height x = -1 := by simp [FT.height, hx]
  go_enter Try.func18, Try.ntmps18
  go_wp2_with (first
    | (go_at_call 16; refine (height_any (h.alloc _) _).mono ?_; rw [hh]; rintro e w1 ⟨rfl, hk1⟩))
  go_ret
  exact ⟨rfl, ((Keep.refl _ _).alloc _).trans hk1⟩
/-- How far the line has been gone back: acc are the blocks so far, id the last one. -/
def LineK (T : FT) (x id : D8) (acc : List D8) : Prop := T.is id = true ∧ ∃ r, acc = r ++ [id] ∧ T.line x = T.line id ++ r.reverse
set_option maxHeartbeats 1000000 in
theorem line_any {t mb : Nat} {T : FT} {w : World} (h : TreeAt w t mb T) (hT : T.WF) (x : D8) (hx : T.is x = true) :
    Calls Try.prog 18 #[.pointer (some ⟨t, 0, none⟩), dv x] w (fun e w' => (∃ g cap, e = .returned (.slice (some ⟨g, 0, none⟩) (T.line x).length cap) ∧ w.heap.size ≤ g ∧ (T.line x).length ≤ cap ∧ cap ≤ maxLen ∧ SlAt w' 29 8 dcells g 0 (T.line x)) ∧ Keep [] w w') := by
  have hh : T.height x = (T.get x).2 := by simp [FT.height, hx]
  have hnn := hT.nonneg hx
  go_enter Try.func18, Try.ntmps18
  go_wp2_with (first
    | (go_at_call 16; refine (height_any (h.alloc _) _).mono ?_; rw [hh]; rintro e w1 ⟨rfl, hk1⟩; have b1 := (Blk.new w 29 (dcells x)).keep hk1 (by simp); have c1 := b1.cell))
  go_loopg [5] (T.get x).2.toNat (fun n v wr => ∃ (id : D8) (acc : List D8), n = (T.get id).2.toNat ∧ LineK T x id acc ∧ Own wr (w.heap.size + 1) 29 8 dcells v acc ∧ Blk wr w.heap.size 29 (dcells id) ∧ TreeAt wr t mb T ∧ Keep [] w wr)
  case atStart => 
    refine ⟨x, [x], rfl, ⟨hx, [], rfl, by simp⟩, Own.one (Blk.new_ rfl) rfl ?_, b1.alloc _, ((h.alloc _).keep0 hk1).alloc _, (((Keep.refl _ _).alloc _).trans hk1).alloc _⟩
    have := hk1.size
    simpa using this
  case round =>
    obtain ⟨id, acc, hn, hL, hown, hb, hTr, hK⟩ := hrel
    have c0 := hb.cell
    have ct := hTr.1.cell
    have heq := fun W => run_eqD8 (P := Try.prog) W dt29 9998 id T.first
    by_cases hf : id = T.first
    · rw [decide_eq_true hf] at heq
      subst hf
      obtain ⟨hid, r, hacc, hline⟩ := hL
      have hrev : acc.reverse = T.line x := by rw [hacc, hline, hT.line_first]; simp
      have hne : acc ≠ [] := by rw [hacc]; simp
      obtain ⟨g, cap, hu, hg, hgl, hcap, hm⟩ := hown.form hne
      subst hu
      have hsl := hown.slAt dsz hne
      have hlen : acc.length = (T.line x).length := by rw [← hrev]; simp
      have HL := Lib.hid (And.intro hrev hlen)
      clear hrev hlen hacc hline hn
      go_wp2_with fail
      refine wp_region_noPanic ?_
      refine Bz.wp_region_E (S := (fun w' => (∀ i, w'.cell? ⟨t, i, none⟩ = (tcells T mb)[i]?) ∧ (∀ i, w'.cell? ⟨w.heap.size, i, none⟩ = (dcells T.first)[i]?))) (E := []) (by kernel_rfl) (by exact ⟨ct, c0⟩) (fun hHeld => ?_)
      refine Bz.wpAnyE_take (i := 0) (oi := { dst := some 12, op := Go.Op.load 29 (Go.Operand.tmp 3), type := 29, pos := "fork.go:112", after := #[], guard := none }) (v := ?_) rfl (by kernel_rfl) (by kernel_rfl) (by kernel_rfl) (by kernel_rfl) (fun _ _ _ h => h) (Or.inl ⟨by rfl, ?_⟩) hHeld ?_
      rotate_left 1
      · (intro w hSw; (try dsimp only at hSw); go_simp; first | done | with_reducible rfl)
      try simp only [Act.put, List.setIfInBounds_toArray, List.set_cons_zero, List.set_cons_succ]
      refine Bz.wpAnyE_take (i := 1) (oi := { dst := some 13, op := Go.Op.move (Go.Operand.tmp 0), type := 24, pos := "fork.go:112", after := #[], guard := none }) (v := ?_) rfl (by kernel_rfl) (by kernel_rfl) (by kernel_rfl) (by kernel_rfl) (fun _ _ _ h => h) (Or.inl ⟨by rfl, ?_⟩) hHeld ?_
      rotate_left 1
      · (intro w hSw; (try dsimp only at hSw); go_simp; first | done | with_reducible rfl)
      try simp only [Act.put, List.setIfInBounds_toArray, List.set_cons_zero, List.set_cons_succ]
      refine Bz.wpAnyE_take (i := 2) (oi := { dst := some 14, op := Go.Op.nilCheck (Go.Operand.tmp 13), type := 0, pos := "fork.go:112", after := #[{ on := 1, ground := Go.Ground.data }], guard := none }) (v := ?_) rfl (by kernel_rfl) (by kernel_rfl) (by kernel_rfl) (by kernel_rfl) (fun _ _ _ h => h) (Or.inl ⟨by rfl, ?_⟩) hHeld ?_
      rotate_left 1
      · (intro w hSw; (try dsimp only at hSw); go_simp; first | done | with_reducible rfl)
      try simp only [Act.put, List.setIfInBounds_toArray, List.set_cons_zero, List.set_cons_succ]
      refine Bz.wpAnyE_take (i := 3) (oi := { dst := some 15, op := Go.Op.fieldAddr 72 (Go.Operand.tmp 14) 0, type := 0, pos := "fork.go:112", after := #[{ on := 2, ground := Go.Ground.data }], guard := none }) (v := ?_) rfl (by kernel_rfl) (by kernel_rfl) (by kernel_rfl) (by kernel_rfl) (fun _ _ _ h => h) (Or.inl ⟨by rfl, ?_⟩) hHeld ?_
      rotate_left 1
      · (intro w hSw; (try dsimp only at hSw); go_simp; first | done | with_reducible rfl)
      try simp only [Act.put, List.setIfInBounds_toArray, List.set_cons_zero, List.set_cons_succ]
      refine Bz.wpAnyE_take (i := 4) (oi := { dst := some 16, op := Go.Op.load 29 (Go.Operand.tmp 15), type := 29, pos := "fork.go:112", after := #[{ on := 3, ground := Go.Ground.data }], guard := none }) (v := ?_) rfl (by kernel_rfl) (by kernel_rfl) (by kernel_rfl) (by kernel_rfl) (fun _ _ _ h => h) (Or.inl ⟨by rfl, ?_⟩) hHeld ?_
      rotate_left 1
      · (intro w hSw; (try dsimp only at hSw); go_simp; first | done | with_reducible rfl)
      try simp only [Act.put, List.setIfInBounds_toArray, List.set_cons_zero, List.set_cons_succ]
      refine Bz.wpAnyE_take (i := 5) (oi := { dst := some 17, op := Go.Op.binOp Go.BinOp.neq 29 (Go.Operand.tmp 12) (Go.Operand.tmp 16) 29, type := 4, pos := "fork.go:112", after := #[{ on := 0, ground := Go.Ground.data }, { on := 4, ground := Go.Ground.data }], guard := none }) (v := ?_) rfl (by kernel_rfl) (by kernel_rfl) (by kernel_rfl) (by kernel_rfl) (fun _ _ _ h => h) (Or.inl ⟨by rfl, ?_⟩) hHeld ?_
      rotate_left 1
      · (intro w hSw; (try dsimp only at hSw); go_simp; first | done | with_reducible rfl)
      try simp only [Act.put, List.setIfInBounds_toArray, List.set_cons_zero, List.set_cons_succ]
      refine Bz.wpAnyE_done (by kernel_rfl) ?_ _
      refine NoPanic.normal ?_
      
      clear hHeld
      go_wp2_with (first
        | (go_at_call 33; refine (reverse_any hne hsl.drew hcap hm).mono ?_; rintro e w2 ⟨rfl, hs2, hk2⟩))
      go_ret
      obtain ⟨hrev, hlen⟩ := HL.out
      rw [hrev] at hs2
      rw [hlen] at hcap
      refine ⟨⟨g, cap, by rw [← hlen]; rfl, by omega, hcap, hm, hs2⟩, hK.drew.andThen hk2 (by intro k hk; simp at hk; subst hk; right; omega)⟩
    · rw [decide_eq_false hf] at heq
      go_wp2_with fail
      refine wp_region_noPanic ?_
      refine Bz.wp_region_E (S := (fun w' => (∀ i, w'.cell? ⟨t, i, none⟩ = (tcells T mb)[i]?) ∧ (∀ i, w'.cell? ⟨w.heap.size, i, none⟩ = (dcells id)[i]?))) (E := []) (by kernel_rfl) (by exact ⟨ct, c0⟩) (fun hHeld => ?_)
      refine Bz.wpAnyE_take (i := 0) (oi := { dst := some 12, op := Go.Op.load 29 (Go.Operand.tmp 3), type := 29, pos := "fork.go:112", after := #[], guard := none }) (v := ?_) rfl (by kernel_rfl) (by kernel_rfl) (by kernel_rfl) (by kernel_rfl) (fun _ _ _ h => h) (Or.inl ⟨by rfl, ?_⟩) hHeld ?_
      rotate_left 1
      · (intro w hSw; (try dsimp only at hSw); go_simp; first | done | with_reducible rfl)
      try simp only [Act.put, List.setIfInBounds_toArray, List.set_cons_zero, List.set_cons_succ]
      refine Bz.wpAnyE_take (i := 1) (oi := { dst := some 13, op := Go.Op.move (Go.Operand.tmp 0), type := 24, pos := "fork.go:112", after := #[], guard := none }) (v := ?_) rfl (by kernel_rfl) (by kernel_rfl) (by kernel_rfl) (by kernel_rfl) (fun _ _ _ h => h) (Or.inl ⟨by rfl, ?_⟩) hHeld ?_
      rotate_left 1
      · (intro w hSw; (try dsimp only at hSw); go_simp; first | done | with_reducible rfl)
      try simp only [Act.put, List.setIfInBounds_toArray, List.set_cons_zero, List.set_cons_succ]
      refine Bz.wpAnyE_take (i := 2) (oi := { dst := some 14, op := Go.Op.nilCheck (Go.Operand.tmp 13), type := 0, pos := "fork.go:112", after := #[{ on := 1, ground := Go.Ground.data }], guard := none }) (v := ?_) rfl (by kernel_rfl) (by kernel_rfl) (by kernel_rfl) (by kernel_rfl) (fun _ _ _ h => h) (Or.inl ⟨by rfl, ?_⟩) hHeld ?_
      rotate_left 1
      · (intro w hSw; (try dsimp only at hSw); go_simp; first | done | with_reducible rfl)
      try simp only [Act.put, List.setIfInBounds_toArray, List.set_cons_zero, List.set_cons_succ]
      refine Bz.wpAnyE_take (i := 3) (oi := { dst := some 15, op := Go.Op.fieldAddr 72 (Go.Operand.tmp 14) 0, type := 0, pos := "fork.go:112", after := #[{ on := 2, ground := Go.Ground.data }], guard := none }) (v := ?_) rfl (by kernel_rfl) (by kernel_rfl) (by kernel_rfl) (by kernel_rfl) (fun _ _ _ h => h) (Or.inl ⟨by rfl, ?_⟩) hHeld ?_
      rotate_left 1
      · (intro w hSw; (try dsimp only at hSw); go_simp; first | done | with_reducible rfl)
      try simp only [Act.put, List.setIfInBounds_toArray, List.set_cons_zero, List.set_cons_succ]
      refine Bz.wpAnyE_take (i := 4) (oi := { dst := some 16, op := Go.Op.load 29 (Go.Operand.tmp 15), type := 29, pos := "fork.go:112", after := #[{ on := 3, ground := Go.Ground.data }], guard := none }) (v := ?_) rfl (by kernel_rfl) (by kernel_rfl) (by kernel_rfl) (by kernel_rfl) (fun _ _ _ h => h) (Or.inl ⟨by rfl, ?_⟩) hHeld ?_
      rotate_left 1
      · (intro w hSw; (try dsimp only at hSw); go_simp; first | done | with_reducible rfl)
      try simp only [Act.put, List.setIfInBounds_toArray, List.set_cons_zero, List.set_cons_succ]
      refine Bz.wpAnyE_take (i := 5) (oi := { dst := some 17, op := Go.Op.binOp Go.BinOp.neq 29 (Go.Operand.tmp 12) (Go.Operand.tmp 16) 29, type := 4, pos := "fork.go:112", after := #[{ on := 0, ground := Go.Ground.data }, { on := 4, ground := Go.Ground.data }], guard := none }) (v := ?_) rfl (by kernel_rfl) (by kernel_rfl) (by kernel_rfl) (by kernel_rfl) (fun _ _ _ h => h) (Or.inl ⟨by rfl, ?_⟩) hHeld ?_
      rotate_left 1
      · (intro w hSw; (try dsimp only at hSw); go_simp; first | done | with_reducible rfl)
      try simp only [Act.put, List.setIfInBounds_toArray, List.set_cons_zero, List.set_cons_succ]
      refine Bz.wpAnyE_done (by kernel_rfl) ?_ _
      refine NoPanic.normal ?_
      
      clear hHeld
      have hl0 := hTr.drew.drew.look_one id
      have fz := hb.frozen
      have hfp := field69p
      obtain ⟨hid, r, hacc, hline⟩ := hL
      have hst := hT.step hid hf
      have hls := hT.line_step hid hf
      have hle : acc.length ≤ 4096 := by
        have h1 := hT.line_lt hx
        rw [hline] at h1
        have h2 := T.line_len id
        rw [hacc]
        simp at h1 ⊢
        omega
      have HL := Lib.hid (And.intro hn (And.intro hid (And.intro hacc (And.intro hline (And.intro hst hls)))))
      clear hn hid hacc hline hst hls
      go_wp2_with fail
      go_region
      obtain ⟨wp, hwp⟩ : ∃ W, W = (put8 wr w.heap.size (T.get id).1).drew.drew := ⟨_, rfl⟩
      have hb' : Blk wp w.heap.size 29 (dcells (T.get id).1) := by rw [hwp]; exact (hb.put8 _).drew.drew
      have hkw : Keep [w.heap.size] wr wp := by rw [hwp]; exact ((Keep.refl _ _).put8 (by simp) _).drew.drew
      simp only [put8] at hwp
      rw [← hwp]
      have hown' := hown.keep hkw (fun g hg => by have := (hown.lt g hg).1; simp; omega)
      have hTr' := hTr.keep hkw (by simp; exact hTr.1.ne_ hb (by decide)) (by simp; exact hTr.2.ne_blk hb)
      have hK' : Keep [] w wp := hK.andThen hkw (by intro k hk; simp at hk; subst hk; right; omega)
      have hsz := hK'.size
      have hsz2 := hb'.lt
      clear hwp hkw hl0 fz hfp c0 ct heq hown hTr hK hb
      have c0 := hb'.cell
      go_wp2_with (first
        | (at_builtin; refine wpList_append1 rfl _ _ 36 rfl app36 rfl (hown'.alloc _) rfl (Blk.new_ rfl) rfl (dc_one _) ?q1 ?q2 ?q3 ?q4))
      case q1 => omega
      case q2 => unfold maxLen; omega
      case q3 => simp; omega
      case q4 =>
        intro v' w' hown2 hk2
        have hk3 := ((Keep.refl (ownB u5) wp).alloc (.cells (dcells (T.get id).1) 29)).trans hk2
        have e1 : ∀ g ∈ ownB u5, w.heap.size + 1 ≤ g := fun g hg => (hown'.lt g hg).1
        clear hk2
        go_wp2
        obtain ⟨hn, hid, hacc, hline, ⟨hs1, hs2⟩, hls⟩ := HL.out
        go_roundg (T.get (T.get id).1).2.toNat
        case measure => have := hT.nonneg hs1; omega
        case rel =>
          exact ⟨_, _, rfl, ⟨hs1, acc, rfl, by rw [hline, hls, hacc]; simp⟩, hown2, hb'.keep hk3 (fun hm => by have := e1 _ hm; omega),
            hTr'.keep hk3 (hown'.ne_blk hTr'.1 (by decide)) (hown'.ne_map hTr'.2), hK'.andThen hk3 (fun g hg => by have := e1 g hg; right; omega)⟩
end Go.Proofs.Ytbkchniomhdieaa
