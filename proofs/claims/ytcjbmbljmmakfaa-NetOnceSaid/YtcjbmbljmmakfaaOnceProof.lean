/-
  Proved: 'NetOnce' answers true whatever letters are sent, and its arguments read as they did. No condition.
-/
import Derived.Test.YtcjbmbljmmakfaaRows
import Derived.Test.YtcjbmbljmmakfaaChecked
import Derived.Test.YtcjbmbljmmakfaaOpen4
import Derived.Test.YtcjbmbljmmakfaaOnce
import Derived.WalkKit
import Derived.ProofKit
import Derived.Below
import Derived.ChangeOld
import Derived.SizedLaws
import Derived.OpenShut
namespace Go.Proofs.Ytcjbmbljmmakfaa
open Go.ChangeShapes Go.WideShapes Go.ChangeAt Go.RowKit Go.Bz
set_option linter.unusedVariables false

theorem u8_of {n : Int} (h : (Lit.int .u8 n).wf = true) : 0 ≤ n ∧ n ≤ 255 := by
  simp only [Lit.wf, Bool.and_eq_true, decide_eq_true_eq] at h
  have h1 : IntKind.u8.min = 0 := by decide
  have h2 : IntKind.u8.max = 255 := by decide
  omega
theorem q4_of {H : Type} {enc : TypeId × Value → H} {W : World} {base : Nat} {spare : Nat → Bool} {held : Bool} (cs : List Value) (hl : cs.length = 4) (h : Reads enc Try.prog W base spare held 28 cs) : ∃ x : Q4, x.ok ∧ cs = (qenc x).toList := by
  obtain ⟨x0, x1, x2, x3, rfl, w0, w1, w2, w3⟩ := Reads.arr4 Try.underlying28 Try.underlying5 (by kernel_rfl) (by kernel_rfl) h
  exact ⟨⟨x0, x1, x2, x3⟩, ⟨u8_of w0, u8_of w1, u8_of w2, u8_of w3⟩, rfl⟩

theorem netOnce.own : ownKnob Try.prog.godebug = none := by kernel_rfl
theorem netOnce.laidOut : laidOutB Try.prog = true := by kernel_rfl
set_option maxRecDepth 100000 in
theorem netOnce.lifted (os : Os) (started : os.Started) (H : Type) (enc : TypeId × Value → H) :
    ReturnsInHanded {} Try.checked os 3 .any (Rows.netOnceSpec.pre6 enc Try.prog Try.f3 Rows.netOnceRow.domain false) (Rows.netOnceSpec.post enc Try.prog Try.f3 false true false false) := by
  refine returnsInHanded_of_change (C := Try.checked) netOnce.own started (by kernel_rfl) Try.func3
    (ChangeSpec.witness6 (enc := enc) (C := Try.checked) false ⟨#[], #[.slice none 0 0], []⟩ 8 (by kernel_rfl) (by kernel_rfl) (by kernel_rfl) (by kernel_rfl)) ?_
  intro W base args ds gs before hval0 hW hcnd _
  have hval : ∀ (j : Nat) t v, Try.f3.params[j]? = some t → args[j]? = some v → Value.okWide Try.prog W .any base t v := hval0
  have hW' := hW
  obtain ⟨p, q, hA0, hV, rfl, hfz, hnd⟩ := hW
  have hA : DataW.TrodAll enc Try.prog W 0 (fun _ => true) true Try.f3.params.toList args.toList ds p := hA0
  rw [Try.params3] at hA hval
  obtain ⟨v0, vs0, d0, ds0, p0, q0, hargs, rfl, rfl, h0, r0⟩ := trodAll_cons hA
  obtain ⟨rfl, rfl, rfl⟩ := trodAll_nil r0
  obtain rfl : args = #[v0] := by cases args; simp_all
  obtain ⟨rfl, rfl⟩ := trodVars_none hV
  have k0 := h0
  have lt0 : ∀ x ∈ p0, x.block < W.heap.size := by obtain ⟨m, hm⟩ := k0; exact DataW.trod_lt m _ _ _ hm
  obtain ⟨A0, l0, cap0, rfl, lc0, cm0, R0, Q0⟩ := Reads.list (α := Q4) (k := 4) (cenc := qenc) (Q := Q4.ok) Try.underlying22 (by kernel_rfl) (by decide) (fun _ => rfl) q4_of (by obtain ⟨m, hm⟩ := k0; exact ⟨m, _, hm⟩) (okWide_slice Try.underlying22 (hval 0 22 v0 rfl rfl))
  clear hA0 hval0
  refine (once_any A0 l0 cap0 W (by unfold maxLen at cm0; omega) (R0.rdv lc0 cm0) Q0).mono fun e W' ⟨he, hk⟩ => ?_
  subst he
  have bel := hk.below
  exact ⟨_, rfl, _, _, _, [], _, [], hW', trodAll_mk1 (shut_bool Try.underlying4 _), (trodAll_cons_mk (Below.trod netOnce.laidOut (by kernel_rfl) (of_decide_eq_true (by kernel_rfl)) k0 bel lt0) trodAll_mk0), rfl, bel.frame _, fun h => by cases h⟩
theorem netOnce_holds : Rows.NetOnceSaid :=
  OpenClaim.holds_of_wide 3 Try.f3 rfl rfl rfl rfl rfl rfl rfl ⟨rfl, rfl, rfl, rfl, rfl⟩ rfl rfl rfl rfl rfl (by kernel_rfl) Try.func3 (by kernel_rfl)
    (of_decide_eq_true (by kernel_rfl)) (by unfold Func.isWrapper; first | (rw [if_pos (by decide +kernel)]; kernel_rfl) | (rw [if_neg (by decide +kernel)]; exact ⟨rfl, rfl⟩))
    (fun os started H enc _ => netOnce.lifted os started H enc)
end Go.Proofs.Ytcjbmbljmmakfaa
