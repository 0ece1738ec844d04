/- A letter's clone; Cut walked. -/
import Derived.Test.YtcjbmbljmmakfaaSmall
namespace Go.Proofs.Ytcjbmbljmmakfaa
open Go.RowKit Go.Bz

theorem lclone_any {w : World} {f t : Int} {V : Value} {b : List Int} (hs : RdV w 1 benc V b) (hb : b.length ≤ 70000) :
    Calls Try.prog 27 #[.agg #[.int .i64 f, .int .i64 t, V]] w (fun e w' => (∃ V', e = .returned (.agg #[.int .i64 f, .int .i64 t, V']) ∧ Own w' w.heap.size 5 1 benc V' b) ∧ Keep [] w w') := by
  obtain ⟨A, cap, rfl, hc1, hc2, hc3⟩ := id hs
  have hc := fun w h => bclone_any (w := w) (V := .slice A b.length cap) (b := b) h hb
  obtain ⟨w0, hw0⟩ : ∃ W, W = (w.alloc (.cells #[.int .i64 f, .int .i64 t, .slice A b.length cap] 35)).alloc (.cells #[.int .i64 0, .int .i64 0, .slice none 0 0] 35) := ⟨_, rfl⟩
  have B0 : Blk w0 w.heap.size 35 #[.int .i64 f, .int .i64 t, .slice A b.length cap] := by rw [hw0]; exact (Blk.new _ _ _).alloc _
  have B1 : Blk w0 (w.heap.size + 1) 35 #[.int .i64 0, .int .i64 0, .slice none 0 0] := by rw [hw0]; exact Blk.new_ (by simp)
  have hK : Keep [] w w0 := by rw [hw0]; exact ((Keep.refl _ _).alloc _).alloc _
  have hs0 := hs.keep0 hK
  clear hb
  go_enter Try.func27, Try.ntmps27
  go_wp2_with fail
  rw [← hw0]
  clear hw0
  go_wp2_with (first | (go_at_call 41; refine (hc _ hs0).mono ?_; rintro e w5 ⟨⟨V', rfl, hO⟩, hk5⟩; have B0 := B0.keep hk5 (by simp); have B1 := B1.keep hk5 (by simp); have hO := hO.mono hK.size; have hK := hK.trans hk5; obtain ⟨A', cap', rfl, _⟩ := hO.sl benc_sz; have c0 := B0.cell; have f0 := B0.frozen; have c1 := B1.cell; have f1 := B1.frozen))
  obtain ⟨W, hW⟩ : ∃ W, W = (((w5.setCell ⟨w.heap.size, 2, none⟩ (.slice A' b.length cap')).setCell ⟨w.heap.size + 1, 0, none⟩ (.int .i64 f)).setCell ⟨w.heap.size + 1, 1, none⟩ (.int .i64 t)).setCell ⟨w.heap.size + 1, 2, none⟩ (.slice A' b.length cap') := ⟨_, rfl⟩
  have hS : Blk W (w.heap.size + 1) 35 #[.int .i64 f, .int .i64 t, .slice A' b.length cap'] := by
    rw [hW]
    have h9 := (((B1.keep ((Keep.refl [w.heap.size] w5).setCell (p := ⟨w.heap.size, 2, none⟩) (.inl (by simp)) (.slice A' b.length cap')) (by simp)).set_ 0 (.int .i64 f)).set_ 1 (.int .i64 t)).set_ 2 (.slice A' b.length cap')
    simpa only [List.setIfInBounds_toArray, List.set_cons_zero, List.set_cons_succ] using h9
  have hk : Keep [w.heap.size, w.heap.size + 1] w5 W := by
    rw [hW]
    exact ((((Keep.refl _ _).setCell (p := ⟨w.heap.size, 2, none⟩) (.inl (by simp)) _).setCell (p := ⟨w.heap.size + 1, 0, none⟩) (.inl (by simp)) _).setCell (p := ⟨w.heap.size + 1, 1, none⟩) (.inl (by simp)) _).setCell (p := ⟨w.heap.size + 1, 2, none⟩) (.inl (by simp)) _
  have n0 := hO.ne_blk B0 (by decide)
  have n1 := hO.ne_blk B1 (by decide)
  rw [← hW]
  clear hW
  have cS := hS.cell
  exact bodyPost_ret (v := .agg #[.int .i64 f, .int .i64 t, .slice A' b.length cap']) (by simp [results, Try.results27, go_sem, cS]) rfl
    ⟨⟨_, rfl, hO.keep hk (by intro g hg; simp; exact ⟨fun e => n0 (e ▸ hg), fun e => n1 (e ▸ hg)⟩)⟩, hK.own hk (by simp)⟩
theorem cut_any {w : World} {t mb : Nat} {S : NS} {R B : List Nat} (h : NetAt w t mb S R B) (hS : S.parties ≤ 16) (a b : Int) (is : Bool) :
    Calls Try.prog 18 #[.pointer (some ⟨t, 0, none⟩), .int .i64 a, .int .i64 b, .bool is] w (fun e w' => e = .returned (.int .i64 (S.cutErr a b)) ∧ NetAt w' t mb (S.setCut a b is) R B ∧ Keep [t] w w') := by
  have p1 := fun w h => party_any (w := w) (t := t) (mb := mb) (S := S) (R := R) (B := B) h a
  have p2 := fun w h => party_any (w := w) (t := t) (mb := mb) (S := S) (R := R) (B := B) h b
  obtain ⟨x, HX⟩ : ∃ x, Hid (x = S.party a) := ⟨_, Lib.hid rfl⟩
  obtain ⟨y, HY⟩ : ∃ y, Hid (y = S.party b) := ⟨_, Lib.hid rfl⟩
  rw [← HX.out] at p1
  rw [← HY.out] at p2
  have mk : True := trivial
  cases x with
  | false =>
    have e1 : S.cutErr a b = 28 := by unfold NS.cutErr; rw [if_pos (.inl HX.out.symm)]
    have e2 : S.setCut a b is = S := by unfold NS.setCut; rw [if_neg (by rw [e1]; decide)]
    rw [e1, e2]
    clear e1 e2
    go_enter Try.func18, Try.ntmps18
    go_wp2_with (first | (go_at_call 25; refine (p1 _ h).mono ?_; rintro e w5 ⟨rfl, hk5⟩))
    go_ret
    exact ⟨rfl, h.keep0 hk5, hk5.sub⟩
  | true =>
    cases y with
    | false =>
      have e1 : S.cutErr a b = 28 := by unfold NS.cutErr; rw [if_pos (.inr HY.out.symm)]
      have e2 : S.setCut a b is = S := by unfold NS.setCut; rw [if_neg (by rw [e1]; decide)]
      rw [e1, e2]
      clear e1 e2
      go_enter Try.func18, Try.ntmps18
      go_wp2_with (first | (go_at_call 25; first | (clear mk; refine (p1 _ h).mono ?_; rintro e w5 ⟨rfl, hk5⟩; have h := h.keep0 hk5; have hKw := hk5) | (refine (p2 _ h).mono ?_; rintro e w6 ⟨rfl, hk6⟩; have h := h.keep0 hk6; have hKw := hKw.trans hk6)))
      go_ret
      exact ⟨rfl, h, hKw.sub⟩
    | true =>
      have ha : 0 ≤ a ∧ a < 16 := by have := HX.out; unfold NS.party at this; simp at this; omega
      have hb : 0 ≤ b ∧ b < 16 := by have := HY.out; unfold NS.party at this; simp at this; omega
      obtain ⟨i, rfl⟩ : ∃ i : Nat, a = i := ⟨a.toNat, by omega⟩
      obtain ⟨j, rfl⟩ : ∃ j : Nat, b = j := ⟨b.toNat, by omega⟩
      have e1 : S.cutErr i j = 0 := by unfold NS.cutErr; rw [if_neg (by rw [← HX.out, ← HY.out]; simp)]
      have e2 : S.setCut i j is = { S with cut := fun q => if q = i * 16 + j then is else S.cut q } := by unfold NS.setCut; rw [if_pos e1]; simp
      rw [e1, e2]
      have hi : i < 16 := by omega
      have hj : j < 16 := by omega
      clear e1 e2 ha hb hS
      go_enter Try.func18, Try.ntmps18
      go_wp2_with (first | (go_at_call 25; first | (clear mk; refine (p1 _ h).mono ?_; rintro e w5 ⟨rfl, hk5⟩; have h := h.keep0 hk5; have hKw := hk5) | (refine (p2 _ h).mono ?_; rintro e w6 ⟨rfl, hk6⟩; have h := h.keep0 hk6; have hKw := hKw.trans hk6; have ff := h.frozen; have cc := h.cells.2.2.2.2.2 (i * 16 + j) (by omega); rw [← Nat.add_assoc] at cc)))
      go_ret
      obtain ⟨⟨cs, hb, hc⟩, D, hD, hd⟩ := id h
      have hk : Keep [t] w6 (w6.setCell ⟨t, 5 + i * 16 + j, none⟩ (.bool is)) := (Keep.refl _ _).setCell (.inl (by simp)) _
      refine ⟨rfl, ⟨⟨_, hb.set_ _ _, ?_⟩, D, hD, hd.keep hk (by simp; exact hd.map.ne_blk hb) (by simp; intro g hg e; subst e; exact hd.notR hb (by decide) hg) (by simp; intro g hg e; subst e; exact hd.notB hb (by decide) hg)⟩, hKw.sub.andThen hk (fun k hk => .inl hk)⟩
      have := hc.setCut (i * 16 + j) (by omega) is
      rwa [← Nat.add_assoc] at this
end Go.Proofs.Ytcjbmbljmmakfaa
