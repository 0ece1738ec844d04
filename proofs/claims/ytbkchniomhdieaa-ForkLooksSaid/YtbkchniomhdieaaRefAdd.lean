/- The document's Add walked. -/
import Derived.Test.YtbkchniomhdieaaRefUndone
import Derived.Test.YtbkchniomhdieaaApp
namespace Go.Proofs.Ytbkchniomhdieaa
open Go.RowKit Go.Bz

@[reducible] def rtStore (w : World) (b : Nat) (V : Value) (R : RT) : World :=
  (((((((((w.setCell ⟨b, 0, none⟩ (.int .i64 R.depth)).setCell ⟨b, 1, none⟩ V).setCell ⟨b, 2, none⟩ (.int .u8 R.tip.a)).setCell ⟨b, 3, none⟩ (.int .u8 R.tip.b)).setCell ⟨b, 4, none⟩ (.int .u8 R.tip.c)).setCell ⟨b, 5, none⟩ (.int .u8 R.tip.d)).setCell ⟨b, 6, none⟩ (.int .u8 R.tip.e)).setCell ⟨b, 7, none⟩ (.int .u8 R.tip.f)).setCell ⟨b, 8, none⟩ (.int .u8 R.tip.g)).setCell ⟨b, 9, none⟩ (.int .u8 R.tip.h)
theorem rtStore_blk {w : World} {b : Nat} {V : Value} {R : RT} (hN : Blk w b 42 rz) : Blk (rtStore w b V R) b 42 (rcells V R) ∧ Keep [b] w (rtStore w b V R) := by
  refine ⟨?_, ?_⟩
  · have h9 := ((((((((((hN).set_ 0 (.int .i64 R.depth)).set_ 1 V).set_ 2 (.int .u8 R.tip.a)).set_ 3 (.int .u8 R.tip.b)).set_ 4 (.int .u8 R.tip.c)).set_ 5 (.int .u8 R.tip.d)).set_ 6 (.int .u8 R.tip.e)).set_ 7 (.int .u8 R.tip.f)).set_ 8 (.int .u8 R.tip.g)).set_ 9 (.int .u8 R.tip.h)
    simpa only [rz, rcells, List.setIfInBounds_toArray, List.set_cons_zero, List.set_cons_succ] using h9
  · exact ((((((((((Keep.refl [b] w).setCell (p := ⟨b, 0, none⟩) (.inl (by simp)) _).setCell (p := ⟨b, 1, none⟩) (.inl (by simp)) _).setCell (p := ⟨b, 2, none⟩) (.inl (by simp)) _).setCell (p := ⟨b, 3, none⟩) (.inl (by simp)) _).setCell (p := ⟨b, 4, none⟩) (.inl (by simp)) _).setCell (p := ⟨b, 5, none⟩) (.inl (by simp)) _).setCell (p := ⟨b, 6, none⟩) (.inl (by simp)) _).setCell (p := ⟨b, 7, none⟩) (.inl (by simp)) _).setCell (p := ⟨b, 8, none⟩) (.inl (by simp)) _).setCell (p := ⟨b, 9, none⟩) (.inl (by simp)) _
theorem app40 : AppT Try.prog 40 57 16 16 (.agg (renc (d0, d0))) := ⟨Try.underlying40, by kernel_rfl, rfl, by decide⟩
/-- What the boxes hold. -/
structure RAdd (w w' : World) (V : Value) (R : RT) (x p : D8) : Prop where
  b0 : Blk w' w.heap.size 42 (rcells V R)
  b1 : Blk w' (w.heap.size + 1) 28 (dcells x)
  b2 : Blk w' (w.heap.size + 1 + 1) 28 (dcells p)
  b3 : Blk w' (w.heap.size + 1 + 1 + 1) 42 rz
  k : Keep [] w w'
theorem RAdd.on {w w' w2 : World} {V : Value} {R : RT} {x p : D8} (h : RAdd w w' V R x p) (hk : Keep [] w' w2) : RAdd w w2 V R x p := ⟨h.b0.keep hk (by simp), h.b1.keep hk (by simp), h.b2.keep hk (by simp), h.b3.keep hk (by simp), h.k.trans hk⟩
set_option maxHeartbeats 4000000 in
theorem radd_no {T : FT} (h : T.WF) (hh : T.Hd) (x p : D8) {w : World} {V : Value} (hs : Sl w 57 16 renc V T.ref) (he : T.is x = true ∨ T.is p = false ∨ 4096 ≤ T.bl.length) :
    Calls Try.prog 22 #[rtv V T.rt, dv x, dv p] w (fun e w' => e = .returned (.tuple #[rtv V T.rt, .int .i64 (T.err x p)]) ∧ Keep [] w w') := by
  have hW : RAdd w ((((w.alloc (.cells (rcells V T.rt) 42)).alloc (.cells (dcells x) 28)).alloc (.cells (dcells p) 28)).alloc (.cells rz 42)) V T.rt x p :=
    ⟨(((Blk.new w 42 (rcells V T.rt)).alloc _).alloc _).alloc _, ((Blk.new_ (by simp)).alloc _).alloc _, (Blk.new_ (by simp)).alloc _, Blk.new_ (by simp), ((((Keep.refl [] w).alloc _).alloc _).alloc _).alloc _⟩
  have hRl : T.rt.l.length ≤ 5000 := by have := T.ref_len; have := h.size; show T.ref.length ≤ 5000; omega
  have hs : Sl w 57 16 renc V T.rt.l := hs
  obtain ⟨A, cap, rfl, hc1, hc2, hc3⟩ := id hs
  have mk : True := trivial
  by_cases hx : T.is x = true
  · obtain ⟨k, hk, _, _⟩ := h.ref_is hh hx
    have hk : findIn x T.rt.l = (k : Int) := hk
    have HE : Hid (T.err x p = 7) := Lib.hid (by unfold FT.err; rw [if_pos hx])
    clear he hx
    go_enter Try.func22, Try.ntmps22
    go_wp2_with (first | (go_at_call 24; refine (find_any (hs.keep0 hW.k) x hRl).mono ?_; rw [hk]; rintro e w1 ⟨rfl, hk1⟩; have hW := hW.on hk1; have c0 := hW.b0.cell; have c1 := hW.b1.cell; have c2 := hW.b2.cell; have c3 := hW.b3.cell; have f3 := hW.b3.frozen))
    obtain ⟨W, hWd⟩ : ∃ W, W = rtStore w1 (w.heap.size + 1 + 1 + 1) (.slice A T.rt.l.length cap) T.rt := ⟨_, rfl⟩
    have hS := rtStore_blk (V := (.slice A T.rt.l.length cap)) (R := T.rt) hW.b3
    rw [← hWd] at hS
    unfold rtStore at hWd
    rw [← hWd]
    have cS := hS.1.cell
    exact bodyPost_ret (v := .tuple #[rtv (.slice A T.rt.l.length cap) T.rt, .int .i64 7]) (by simp [results, Try.results22, go_sem, cS]) rfl ⟨by rw [HE.out], hW.k.own hS.2 (by simp; omega)⟩
  · have hk0 : findIn x T.rt.l = (-1 : Int) := T.ref_not (by simpa using hx)
    by_cases hp : T.is p = false
    · have hk2 : findIn p T.rt.l = (-1 : Int) := T.ref_not hp
      have HE : Hid (T.err x p = 24) := Lib.hid (by unfold FT.err; rw [if_neg hx, if_pos hp])
      clear he hx hp
      go_enter Try.func22, Try.ntmps22
      go_wp2_with (first | (go_at_call 24; first | (clear mk; refine (find_any (hs.keep0 hW.k) x hRl).mono ?_; rw [hk0]; rintro e w1 ⟨rfl, hk1⟩; have hW := hW.on hk1; have c0 := hW.b0.cell; have c1 := hW.b1.cell; have c2 := hW.b2.cell; have c3 := hW.b3.cell; have f3 := hW.b3.frozen) | (refine (find_any (hs.keep0 hW.k) p hRl).mono ?_; rw [hk2]; rintro e w1 ⟨rfl, hk1⟩; have hW := hW.on hk1; have c0 := hW.b0.cell; have c1 := hW.b1.cell; have c2 := hW.b2.cell; have c3 := hW.b3.cell; have f3 := hW.b3.frozen)))
      obtain ⟨W, hWd⟩ : ∃ W, W = rtStore w1 (w.heap.size + 1 + 1 + 1) (.slice A T.rt.l.length cap) T.rt := ⟨_, rfl⟩
      have hS := rtStore_blk (V := (.slice A T.rt.l.length cap)) (R := T.rt) hW.b3
      rw [← hWd] at hS
      unfold rtStore at hWd
      rw [← hWd]
      have cS := hS.1.cell
      exact bodyPost_ret (v := .tuple #[rtv (.slice A T.rt.l.length cap) T.rt, .int .i64 24]) (by simp [results, Try.results22, go_sem, cS]) rfl ⟨by rw [HE.out], hW.k.own hS.2 (by simp; omega)⟩
    · have hp' : T.is p = true := by simpa using hp
      obtain ⟨k, hk, _, _⟩ := h.ref_is hh hp'
      have hk2 : findIn p T.rt.l = (k : Int) := hk
      have hb : 4096 ≤ T.bl.length := by rcases he with h1 | h1 | h1; exact absurd h1 hx; exact absurd h1 hp; exact h1
      have HE : Hid (T.err x p = 8) := Lib.hid (by unfold FT.err; rw [if_neg hx, if_neg hp, if_pos hb])
      have hb' : (4096 : Int) ≤ (T.rt.l.length : Int) := by have e := T.ref_len; have e2 : T.rt.l.length = T.ref.length := rfl; omega
      clear he hx hp hp' hb hk
      go_enter Try.func22, Try.ntmps22
      go_wp2_with (first | (go_at_call 24; first | (clear mk; refine (find_any (hs.keep0 hW.k) x hRl).mono ?_; rw [hk0]; rintro e w1 ⟨rfl, hk1⟩; have hW := hW.on hk1; have c0 := hW.b0.cell; have c1 := hW.b1.cell; have c2 := hW.b2.cell; have c3 := hW.b3.cell; have f3 := hW.b3.frozen) | (refine (find_any (hs.keep0 hW.k) p hRl).mono ?_; rw [hk2]; rintro e w1 ⟨rfl, hk1⟩; have hW := hW.on hk1; have c0 := hW.b0.cell; have c1 := hW.b1.cell; have c2 := hW.b2.cell; have c3 := hW.b3.cell; have f3 := hW.b3.frozen)))
      obtain ⟨W, hWd⟩ : ∃ W, W = rtStore w1 (w.heap.size + 1 + 1 + 1) (.slice A T.rt.l.length cap) T.rt := ⟨_, rfl⟩
      have hS := rtStore_blk (V := .slice A T.rt.l.length cap) (R := T.rt) hW.b3
      rw [← hWd] at hS
      unfold rtStore at hWd
      rw [← hWd]
      have cS := hS.1.cell
      exact bodyPost_ret (v := .tuple #[rtv (.slice A T.rt.l.length cap) T.rt, .int .i64 8]) (by simp [results, Try.results22, go_sem, cS]) rfl ⟨by rw [HE.out], hW.k.own hS.2 (by simp; omega)⟩
end Go.Proofs.Ytbkchniomhdieaa
