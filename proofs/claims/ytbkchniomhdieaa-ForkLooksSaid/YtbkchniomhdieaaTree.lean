/- What a fork.Tree is in memory, and what its small methods do to it. -/
import Derived.RegionTactic
import Derived.Test.YtbkchniomhdieaaPlain
import Derived.Test.YtbkchniomhdieaaHeld
import Derived.Test.YtbkchniomhdieaaSl8
import Derived.Deep.LoopGhost
import Derived.BigRegion
import Derived.Outline
import Derived.BigQuiet
import Derived.Deep.QuietTactic
import Derived.Deep.RegionHeld3
import Derived.Deep.DeepCutAuto
import Derived.WalkLawsBesides
import Derived.WalkSpells
import Derived.Test.YtbkchniomhdieaaProg
namespace Go.Proofs.Ytbkchniomhdieaa
open Go.RowKit Go.Bz

@[reducible] def benc (b : B1) : Value := .agg #[.int .u8 b.1.a, .int .u8 b.1.b, .int .u8 b.1.c, .int .u8 b.1.d, .int .u8 b.1.e, .int .u8 b.1.f, .int .u8 b.1.g, .int .u8 b.1.h, .int .i64 b.2]
@[reducible] def tcells (T : FT) (mb : Nat) : Array Value :=
  #[.int .u8 T.first.a, .int .u8 T.first.b, .int .u8 T.first.c, .int .u8 T.first.d, .int .u8 T.first.e, .int .u8 T.first.f, .int .u8 T.first.g, .int .u8 T.first.h,
    .int .u8 T.tip.a, .int .u8 T.tip.b, .int .u8 T.tip.c, .int .u8 T.tip.d, .int .u8 T.tip.e, .int .u8 T.tip.f, .int .u8 T.tip.g, .int .u8 T.tip.h, .int .i64 T.depth, .map (some mb)]
def TreeAt (w : World) (t mb : Nat) (T : FT) : Prop := Blk w t 72 (tcells T mb) ∧ MapAt w mb dv benc T.bl

theorem TreeAt.keep {w w' : World} {S : List Nat} {t mb : Nat} {T : FT} (h : TreeAt w t mb T) (hb : Keep S w w') (ht : t ∉ S) (hm : mb ∉ S) : TreeAt w' t mb T := ⟨h.1.keep hb ht, h.2.keep hb hm⟩
theorem TreeAt.keep0 {w w' : World} {t mb : Nat} {T : FT} (h : TreeAt w t mb T) (hb : Keep [] w w') : TreeAt w' t mb T := h.keep hb (by simp) (by simp)
theorem TreeAt.drew {w : World} {t mb : Nat} {T : FT} (h : TreeAt w t mb T) : TreeAt w.drew t mb T := h
theorem TreeAt.ne {w : World} {t mb : Nat} {T : FT} (h : TreeAt w t mb T) : mb ≠ t := h.2.ne_blk h.1

theorem dt29 : DType Try.prog 29 5 := ⟨Try.underlying29, Try.underlying5, by kernel_rfl, by kernel_rfl⟩
theorem dt28 : DType Try.prog 28 5 := ⟨Try.underlying28, Try.underlying5, by kernel_rfl, by kernel_rfl⟩
theorem k29 : KeyT Try.prog 29 dv := keyT_D8 dt29
theorem zero69 (W : World) : (zeroValue 69).run Try.prog W = .ok (benc (⟨0, 0, 0, 0, 0, 0, 0, 0⟩, 0)) W := by kernel_rfl

@[reducible] def z69 : Array Value := #[.int .u8 0, .int .u8 0, .int .u8 0, .int .u8 0, .int .u8 0, .int .u8 0, .int .u8 0, .int .u8 0, .int .i64 0]
theorem TreeAt.look_ok {w : World} {t mb : Nat} {T : FT} (h : TreeAt w t mb T) (x : D8) : (Instr.lookup 70 (.map (some mb)) (dv x) true).run Try.prog w = .ok (.tuple #[benc (T.get x), .bool (T.is x)]) w := by
  rw [h.2.look_ok k29 Try.underlying70 zero69 x]
  unfold FT.get FT.is
  cases mlook x T.bl <;> rfl
theorem TreeAt.look_one {w : World} {t mb : Nat} {T : FT} (h : TreeAt w t mb T) (x : D8) : (Instr.lookup 70 (.map (some mb)) (dv x) false).run Try.prog w = .ok (benc (T.get x)) w := by
  rw [h.2.look_one k29 Try.underlying70 zero69 x]
  unfold FT.get
  cases mlook x T.bl <;> rfl

theorem field69 (W : World) (b : B1) : (Instr.field 69 (benc b) 1).run Try.prog W = .ok (.int .i64 b.2) W := by kernel_rfl
theorem field69p (W : World) (b : B1) : (Instr.field 69 (benc b) 0).run Try.prog W = .ok (dv b.1) W := by kernel_rfl
theorem TreeAt.alloc {w : World} {t mb : Nat} {T : FT} (h : TreeAt w t mb T) (o : Obj) : TreeAt (w.alloc o) t mb T := h.keep0 ((Keep.refl _ _).alloc o)
theorem id_any (n : Int) (w : World) : Calls Try.prog 11 #[.int .u8 n] w (fun e w' => e = .returned (dv ⟨n, 1, 0, 0, 0, 0, 0, 0⟩) ∧ Keep [] w w') := by
  go_enter Try.func11, Try.ntmps11
  go_wp2
  exact bodyPost_ret (v := dv ⟨n, 1, 0, 0, 0, 0, 0, 0⟩) (by simp [results, Try.results11, go_sem]) rfl ⟨rfl, (Keep.refl _ _).alloc _⟩
theorem tip_any {t mb : Nat} {T : FT} {w : World} (h : TreeAt w t mb T) : Calls Try.prog 13 #[.pointer (some ⟨t, 0, none⟩)] w (fun e w' => e = .returned (dv T.tip) ∧ Keep [] w w') := by
  have hc := h.1.cell
  have hlt := h.1.lt
  go_enter Try.func13, Try.ntmps13
  go_wp2
  exact bodyPost_ret (v := dv T.tip) (by simp [results, Try.results13, go_sem]) rfl ⟨rfl, (Keep.refl _ _).alloc _⟩
theorem height_any {t mb : Nat} {T : FT} {w : World} (h : TreeAt w t mb T) (x : D8) : Calls Try.prog 16 #[.pointer (some ⟨t, 0, none⟩), dv x] w (fun e w' => e = .returned (.int .i64 (T.height x)) ∧ Keep [] w w') := by
  have hc := h.1.cell
  have hlt := h.1.lt
  have hl0 := ((h.keep0 ((Keep.refl _ _).alloc (.cells (dcells x) 29))).keep0 (Keep.refl _ _).drew).look_ok x
  have hl1 := (((h.keep0 ((Keep.refl _ _).alloc (.cells (dcells x) 29))).keep0 ((Keep.refl _ _).alloc (.cells z69 69))).keep0 (Keep.refl _ _).drew).look_ok x
  cases hx : T.is x with
  | true =>
    have hh : T.height x = (T.get x).2 := by simp [FT.height, hx]
    rw [hx] at hl0 hl1
    rw [hh]
    clear h hh hx
    go_enter Try.func16, Try.ntmps16
    go_wp2
    go_region
    all_goals go_wp2
    all_goals (go_ret; exact ⟨rfl, (((Keep.refl _ _).alloc _).alloc _).drew⟩)
  | false =>
    have hh : T.height x = -1 := by simp [FT.height, hx]
    rw [hx] at hl0 hl1
    rw [hh]
    clear h hh hx
    go_enter Try.func16, Try.ntmps16
    go_wp2
    go_region
    all_goals go_wp2
    all_goals (go_ret; exact ⟨rfl, (((Keep.refl _ _).alloc _).alloc _).drew⟩)
theorem new_bad (d : D8) (n : Int) (w : World) (hn : n < 0 ∨ 1000 < n) : Calls Try.prog 10 #[dv d, .int .i64 n] w (fun e w' => e = .returned (.tuple #[.pointer none, .int .i64 2]) ∧ Keep [] w w') := by
  by_cases h0 : n < 0
  · go_enter Try.func10, Try.ntmps10
    go_wp2
    go_ret2
    exact ⟨rfl, (Keep.refl _ _).alloc _⟩
  · have h1 : 1000 < n := by omega
    go_enter Try.func10, Try.ntmps10
    go_wp2
    go_ret2
    exact ⟨rfl, (Keep.refl _ _).alloc _⟩
theorem new_any (d : D8) (n : Int) (w : World) (h0 : 0 ≤ n) (h1 : n ≤ 1000) : Calls Try.prog 10 #[dv d, .int .i64 n] w (fun e w' => ∃ t mb, e = .returned (.tuple #[.pointer (some ⟨t,0,none⟩), .int .i64 0]) ∧ Keep [] w w' ∧ w.heap.size ≤ t ∧ w.heap.size ≤ mb ∧ TreeAt w' t mb ⟨d, d, n, [(d, (d0, 0))]⟩) := by
  have hmm := @run_makeMap Try.prog
  have hmu : (Instr.mapUpdate 70 (.map (some (w.heap.size + 1))) (dv d) (benc (d0, 0))).run Try.prog ((w.alloc (.cells (dcells d) 29)).alloc (.map #[] 0)).drew = .ok () ((w.alloc (.cells (dcells d) 29)).alloc (.map #[⟨dv d, benc (d0, 0), 0⟩] 1)).drew := by
    have := run_mapUpdate_fresh k29 Try.underlying70 ((w.alloc (.cells (dcells d) 29)).drew) d (benc (d0, 0))
    rw [show ((w.alloc (.cells (dcells d) 29)).drew).heap.size = w.heap.size + 1 by simp] at this
    exact this
  unfold d0 at hmu
  go_enter Try.func10, Try.ntmps10
  go_wp2
  go_region
  all_goals go_wp2
  all_goals go_ret2
  all_goals exact ⟨w.heap.size + 1 + 1, w.heap.size + 1, rfl, ((((Keep.refl _ _).alloc _).alloc _).alloc _).drew, by omega, by omega, Blk.new_ (by simp), (MapAt.fresh_ (W := w.alloc (.cells (dcells d) 29)) (venc := benc) (v := (d0, 0)) (by simp)).alloc _⟩
end Go.Proofs.Ytbkchniomhdieaa
