/-
  Proved: 'NetCuts' answers true whatever the letters, the way that is cut and the span, and its arguments read as they did. No condition.
-/
import Derived.Test.YtcjbmbljmmakfaaRows
import Derived.Test.YtcjbmbljmmakfaaChecked
import Derived.Test.YtcjbmbljmmakfaaOpen4
import Derived.Test.YtcjbmbljmmakfaaCuts
import Derived.WalkKit
import Derived.ProofKit
import Derived.Below
import Derived.ChangeOld
import Derived.SizedLaws
import Derived.OpenShut
namespace Go.Proofs.Ytcjbmbljmmakfaa
open Go.ChangeShapes Go.WideShapes Go.ChangeAt Go.RowKit Go.Bz
set_option linter.unusedVariables false

theorem u8_of {n : Int} (h : (Lit.int .u8 n).wf = true) : 0 ≤ n ∧ n ≤ 255 := by
  simp only [Lit.wf, Bool.and_eq_true, decide_eq_true_eq] at h
  have h1 : IntKind.u8.min = 0 := by decide
  have h2 : IntKind.u8.max = 255 := by decide
  omega
theorem t3_of {H : Type} {enc : TypeId × Value → H} {W : World} {base : Nat} {spare : Nat → Bool} {held : Bool} (cs : List Value) (hl : cs.length = 3) (h : Reads enc Try.prog W base spare held 53 cs) : ∃ x : T3, x.ok ∧ cs = (tenc x).toList := by
  obtain ⟨x0, x1, x2, rfl, w0, w1, w2⟩ := Reads.arr3 Try.underlying53 Try.underlying5 (by kernel_rfl) (by kernel_rfl) h
  exact ⟨⟨x0, x1, x2⟩, ⟨u8_of w0, u8_of w1, u8_of w2⟩, rfl⟩
set_option maxRecDepth 100000 in
theorem pair_of {H : Type} {enc : TypeId × Value → H} {W : World} {base base' : Nat} {spare : Nat → Bool} {held : Bool} {r : Reach} {v : Value} (h : Reads enc Try.prog W base spare held 52 v.cells.toList) (hv : Value.okWide Try.prog W r base' 52 v) :
    ∃ x y, v = .agg #[.int .u8 x, .int .u8 y] ∧ (0 ≤ x ∧ x ≤ 255) ∧ (0 ≤ y ∧ y ≤ 255) := by
  obtain ⟨cs, rfl⟩ := okWide_arr Try.underlying52 hv
  obtain ⟨hl, hat⟩ := h.elem Try.underlying52
  have e1 : Try.prog.cellsOf 5 = 1 := by kernel_rfl
  have e2 : Try.prog.cellsOf 52 = 2 := by kernel_rfl
  rw [e2] at hl
  obtain ⟨x0, h0, w0⟩ := (hat 0 (by decide)).int Try.underlying5
  obtain ⟨x1, h1, w1⟩ := (hat 1 (by decide)).int Try.underlying5
  simp only [Value.cells] at hl h0 h1
  rw [e1] at h0 h1
  refine ⟨x0, x1, ?_, u8_of w0, u8_of w1⟩
  obtain ⟨l⟩ := cs
  match l, hl with
  | [c0, c1], _ =>
    simp at h0 h1
    rw [h0, h1]

theorem netCuts.own : ownKnob Try.prog.godebug = none := by kernel_rfl
theorem netCuts.laidOut : laidOutB Try.prog = true := by kernel_rfl
set_option maxRecDepth 100000 in
theorem netCuts.lifted (os : Os) (started : os.Started) (H : Type) (enc : TypeId × Value → H) :
    ReturnsInHanded {} Try.checked os 7 .any (Rows.netCutsSpec.pre6 enc Try.prog Try.f7 Rows.netCutsRow.domain false) (Rows.netCutsSpec.post enc Try.prog Try.f7 false true false false) := by
  refine returnsInHanded_of_change (C := Try.checked) netCuts.own started (by kernel_rfl) Try.func7
    (ChangeSpec.witness6 (enc := enc) (C := Try.checked) false ⟨#[], #[.slice none 0 0, .agg #[.int .u8 0, .int .u8 0], .agg #[.int .u8 0, .int .u8 0]], []⟩ 8 (by kernel_rfl) (by kernel_rfl) (by kernel_rfl) (by kernel_rfl)) ?_
  intro W base args ds gs before hval0 hW hcnd _
  have hval : ∀ (j : Nat) t v, Try.f7.params[j]? = some t → args[j]? = some v → Value.okWide Try.prog W .any base t v := hval0
  have hW' := hW
  obtain ⟨p, q, hA0, hV, rfl, hfz, hnd⟩ := hW
  have hA : DataW.TrodAll enc Try.prog W 0 (fun _ => true) true Try.f7.params.toList args.toList ds p := hA0
  rw [Try.params7] at hA hval
  obtain ⟨v0, vs0, d0, ds0, p0, q0, hargs, rfl, rfl, h0, r0⟩ := trodAll_cons hA
  obtain ⟨v1, vs1, d1, ds1, p1, q1, rfl, rfl, rfl, h1, r1⟩ := trodAll_cons r0
  obtain ⟨v2, vs2, d2, ds2, p2, q2, rfl, rfl, rfl, h2, r2⟩ := trodAll_cons r1
  obtain ⟨rfl, rfl, rfl⟩ := trodAll_nil r2
  obtain rfl : args = #[v0, v1, v2] := by cases args; simp_all
  obtain ⟨rfl, rfl⟩ := trodVars_none hV
  have k0 := h0
  have lt0 : ∀ x ∈ p0, x.block < W.heap.size := by obtain ⟨m, hm⟩ := k0; exact DataW.trod_lt m _ _ _ hm
  have k1 := h1
  have lt1 : ∀ x ∈ p1, x.block < W.heap.size := by obtain ⟨m, hm⟩ := k1; exact DataW.trod_lt m _ _ _ hm
  have k2 := h2
  have lt2 : ∀ x ∈ p2, x.block < W.heap.size := by obtain ⟨m, hm⟩ := k2; exact DataW.trod_lt m _ _ _ hm
  obtain ⟨A0, l0, cap0, rfl, lc0, cm0, R0, Q0⟩ := Reads.list (α := T3) (k := 3) (cenc := tenc) (Q := T3.ok) Try.underlying51 (by kernel_rfl) (by decide) (fun _ => rfl) t3_of (by obtain ⟨m, hm⟩ := k0; exact ⟨m, _, hm⟩) (okWide_slice Try.underlying51 (hval 0 51 v0 rfl rfl))
  obtain ⟨x1, y1, rfl, wx1, wy1⟩ := pair_of (by obtain ⟨m, hm⟩ := k1; exact ⟨m, _, hm⟩) (hval 1 52 v1 rfl rfl)
  obtain ⟨x2, y2, rfl, wx2, wy2⟩ := pair_of (by obtain ⟨m, hm⟩ := k2; exact ⟨m, _, hm⟩) (hval 2 52 v2 rfl rfl)
  clear hA0 hval0
  refine (cuts_any A0 l0 cap0 W (by unfold maxLen at cm0; omega) (R0.rdv lc0 cm0) Q0 x1 y1 x2 y2 wx1 wy1 wx2 wy2).mono fun e W' ⟨he, hk⟩ => ?_
  subst he
  have bel := hk.below
  exact ⟨_, rfl, _, _, _, [], _, [], hW', trodAll_mk1 (shut_bool Try.underlying4 _), (trodAll_cons_mk (Below.trod netCuts.laidOut (by kernel_rfl) (of_decide_eq_true (by kernel_rfl)) k0 bel lt0) (trodAll_cons_mk (Below.trod netCuts.laidOut (by kernel_rfl) (of_decide_eq_true (by kernel_rfl)) k1 bel lt1) (trodAll_cons_mk (Below.trod netCuts.laidOut (by kernel_rfl) (of_decide_eq_true (by kernel_rfl)) k2 bel lt2) trodAll_mk0))), rfl, bel.frame _, fun h => by cases h⟩
theorem netCuts_holds : Rows.NetCutsSaid :=
  OpenClaim.holds_of_wide 7 Try.f7 rfl rfl rfl rfl rfl rfl rfl ⟨rfl, rfl, rfl, rfl, rfl⟩ rfl rfl rfl rfl rfl (by kernel_rfl) Try.func7 (by kernel_rfl)
    (of_decide_eq_true (by kernel_rfl)) (by unfold Func.isWrapper; first | (rw [if_pos (by decide +kernel)]; kernel_rfl) | (rw [if_neg (by decide +kernel)]; exact ⟨rfl, rfl⟩))
    (fun os started H enc _ => netCuts.lifted os started H enc)
end Go.Proofs.Ytcjbmbljmmakfaa
