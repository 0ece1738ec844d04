/-
  Proved: 'ForkLines' answers true whatever the depth and the blocks that come, and its arguments read as they did. No condition.
-/
import Derived.Test.YtbkchniomhdieaaRows
import Derived.Test.YtbkchniomhdieaaChecked
import Derived.Test.YtbkchniomhdieaaOpen
import Derived.Test.YtbkchniomhdieaaLines
import Derived.WalkKit
import Derived.ProofKit
import Derived.Below
import Derived.ChangeOld
import Derived.SizedLaws
import Derived.OpenShut
namespace Go.Proofs.Ytbkchniomhdieaa
open Go.ChangeShapes Go.WideShapes Go.ChangeAt Go.RowKit Go.Bz
set_option linter.unusedVariables false

theorem coming_of {H : Type} {enc : TypeId × Value → H} {W : World} {base : Nat} {spare : Nat → Bool} {held : Bool} (cs : List Value) (hl : cs.length = 2) (h : Reads enc Try.prog W base spare held 35 cs) : ∃ x : Int × Int, True ∧ cs = (cenc x).toList := by
  match cs, hl with
  | [c0, c1], _ =>
    obtain ⟨x, hx, _⟩ := Reads.int Try.underlying5 (h.field Try.underlying35 0 rfl)
    obtain ⟨y, hy, _⟩ := Reads.int Try.underlying5 (h.field Try.underlying35 1 rfl)
    have e5 : Try.prog.cellsOf 5 = 1 := by kernel_rfl
    simp [e5] at hx hy
    exact ⟨(x, y), trivial, by simp [hx, hy]⟩

theorem forkLines.own : ownKnob Try.prog.godebug = none := by kernel_rfl
theorem forkLines.laidOut : laidOutB Try.prog = true := by kernel_rfl
set_option maxRecDepth 100000 in
theorem forkLines.lifted (os : Os) (started : os.Started) (H : Type) (enc : TypeId × Value → H) :
    ReturnsInHanded {} Try.checked os 4 .any (Rows.forkLinesSpec.pre6 enc Try.prog Try.f4 Rows.forkLinesRow.domain false) (Rows.forkLinesSpec.post enc Try.prog Try.f4 false true false false) := by
  refine returnsInHanded_of_change (C := Try.checked) forkLines.own started (by kernel_rfl) Try.func4
    (ChangeSpec.witness6 (enc := enc) (C := Try.checked) false ⟨#[], #[.int .i64 0, .slice none 0 0], []⟩ 8 (by kernel_rfl) (by kernel_rfl) (by kernel_rfl) (by kernel_rfl)) ?_
  intro W base args ds gs before hval0 hW hcnd _
  have hval : ∀ (j : Nat) t v, Try.f4.params[j]? = some t → args[j]? = some v → Value.okWide Try.prog W .any base t v := hval0
  have hW' := hW
  obtain ⟨p, q, hA0, hV, rfl, hfz, hnd⟩ := hW
  have hA : DataW.TrodAll enc Try.prog W 0 (fun _ => true) true Try.f4.params.toList args.toList ds p := hA0
  rw [Try.params4] at hA hval
  obtain ⟨v0, vs0, d0, ds0, p0, q0, hargs, rfl, rfl, h0, r0⟩ := trodAll_cons hA
  obtain ⟨v1, vs1, d1, ds1, p1, q1, rfl, rfl, rfl, h1, r1⟩ := trodAll_cons r0
  obtain ⟨rfl, rfl, rfl⟩ := trodAll_nil r1
  obtain rfl : args = #[v0, v1] := by cases args; simp_all
  obtain ⟨rfl, rfl⟩ := trodVars_none hV
  have k0 := h0
  have lt0 : ∀ x ∈ p0, x.block < W.heap.size := by obtain ⟨m, hm⟩ := k0; exact DataW.trod_lt m _ _ _ hm
  have k1 := h1
  have lt1 : ∀ x ∈ p1, x.block < W.heap.size := by obtain ⟨m, hm⟩ := k1; exact DataW.trod_lt m _ _ _ hm
  obtain ⟨a0, rfl, e0, f0, w0⟩ := open_int Try.underlying3 (hval 0 3 v0 rfl rfl) h0
  obtain ⟨A1, l1, cap1, rfl, lc1, cm1, R1, _⟩ := Reads.list (α := Int × Int) (k := 2) (cenc := cenc) (Q := fun _ => True) Try.underlying22 (by kernel_rfl) (by decide) (fun _ => rfl) coming_of (by obtain ⟨m, hm⟩ := k1; exact ⟨m, _, hm⟩) (okWide_slice Try.underlying22 (hval 1 22 v1 rfl rfl))
  clear hA0 hval0
  refine (lines_any a0 A1 l1 cap1 W (by unfold maxLen at cm1; omega) R1).mono fun e W' ⟨he, hk⟩ => ?_
  subst he
  have bel := hk.below
  exact ⟨_, rfl, _, _, _, [], _, [], hW', trodAll_mk1 (shut_bool Try.underlying4 _), (trodAll_cons_mk (Below.trod forkLines.laidOut (by kernel_rfl) (of_decide_eq_true (by kernel_rfl)) k0 bel lt0) (trodAll_cons_mk (Below.trod forkLines.laidOut (by kernel_rfl) (of_decide_eq_true (by kernel_rfl)) k1 bel lt1) trodAll_mk0)), rfl, bel.frame _, fun h => by cases h⟩
theorem forkLines_holds : Rows.ForkLinesSaid :=
  OpenClaim.holds_of_wide 4 Try.f4 rfl rfl rfl rfl rfl rfl rfl ⟨rfl, rfl, rfl, rfl, rfl⟩ rfl rfl rfl rfl rfl (by kernel_rfl) Try.func4 (by kernel_rfl)
    (of_decide_eq_true (by kernel_rfl)) (by unfold Func.isWrapper; first | (rw [if_pos (by decide +kernel)]; kernel_rfl) | (rw [if_neg (by decide +kernel)]; exact ⟨rfl, rfl⟩))
    (fun os started H enc _ => forkLines.lifted os started H enc)
end Go.Proofs.Ytbkchniomhdieaa
