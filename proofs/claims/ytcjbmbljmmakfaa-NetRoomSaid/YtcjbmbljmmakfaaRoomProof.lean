/-
  Proved: 'NetRoom' answers true whatever the ticks and the fate that is one too many, and its arguments read as they did. No condition.
-/
import Derived.Test.YtcjbmbljmmakfaaRows
import Derived.Test.YtcjbmbljmmakfaaChecked
import Derived.Test.YtcjbmbljmmakfaaOpen
import Derived.Test.YtcjbmbljmmakfaaRoom
import Derived.WalkKit
import Derived.ProofKit
import Derived.Below
import Derived.ChangeOld
import Derived.SizedLaws
import Derived.OpenShut
namespace Go.Proofs.Ytcjbmbljmmakfaa
open Go.ChangeShapes Go.WideShapes Go.ChangeAt Go.RowKit Go.Bz
set_option linter.unusedVariables false

theorem int_of {H : Type} {enc : TypeId × Value → H} {W : World} {base : Nat} {spare : Nat → Bool} {held : Bool} (cs : List Value) (hl : cs.length = 1) (h : Reads enc Try.prog W base spare held 3 cs) : ∃ x : Int, True ∧ cs = (#[Value.int .i64 x]).toList := by
  obtain ⟨x, hx, _⟩ := Reads.int Try.underlying3 h
  exact ⟨x, trivial, hx⟩
theorem u8_of {n : Int} (h : (Lit.int .u8 n).wf = true) : 0 ≤ n ∧ n ≤ 255 := by
  simp only [Lit.wf, Bool.and_eq_true, decide_eq_true_eq] at h
  have h1 : IntKind.u8.min = 0 := by decide
  have h2 : IntKind.u8.max = 255 := by decide
  omega

theorem netRoom.own : ownKnob Try.prog.godebug = none := by kernel_rfl
theorem netRoom.laidOut : laidOutB Try.prog = true := by kernel_rfl
set_option maxRecDepth 100000 in
theorem netRoom.lifted (os : Os) (started : os.Started) (H : Type) (enc : TypeId × Value → H) :
    ReturnsInHanded {} Try.checked os 5 .any (Rows.netRoomSpec.pre6 enc Try.prog Try.f5 Rows.netRoomRow.domain false) (Rows.netRoomSpec.post enc Try.prog Try.f5 false true false false) := by
  refine returnsInHanded_of_change (C := Try.checked) netRoom.own started (by kernel_rfl) Try.func5
    (ChangeSpec.witness6 (enc := enc) (C := Try.checked) false ⟨#[], #[.int .u8 0, .slice none 0 0], []⟩ 8 (by kernel_rfl) (by kernel_rfl) (by kernel_rfl) (by kernel_rfl)) ?_
  intro W base args ds gs before hval0 hW hcnd _
  have hval : ∀ (j : Nat) t v, Try.f5.params[j]? = some t → args[j]? = some v → Value.okWide Try.prog W .any base t v := hval0
  have hW' := hW
  obtain ⟨p, q, hA0, hV, rfl, hfz, hnd⟩ := hW
  have hA : DataW.TrodAll enc Try.prog W 0 (fun _ => true) true Try.f5.params.toList args.toList ds p := hA0
  rw [Try.params5] at hA hval
  obtain ⟨v0, vs0, d0, ds0, p0, q0, hargs, rfl, rfl, h0, r0⟩ := trodAll_cons hA
  obtain ⟨v1, vs1, d1, ds1, p1, q1, rfl, rfl, rfl, h1, r1⟩ := trodAll_cons r0
  obtain ⟨rfl, rfl, rfl⟩ := trodAll_nil r1
  obtain rfl : args = #[v0, v1] := by cases args; simp_all
  obtain ⟨rfl, rfl⟩ := trodVars_none hV
  have k0 := h0
  have lt0 : ∀ x ∈ p0, x.block < W.heap.size := by obtain ⟨m, hm⟩ := k0; exact DataW.trod_lt m _ _ _ hm
  have k1 := h1
  have lt1 : ∀ x ∈ p1, x.block < W.heap.size := by obtain ⟨m, hm⟩ := k1; exact DataW.trod_lt m _ _ _ hm
  obtain ⟨a0, rfl, e0, f0, w0⟩ := open_int Try.underlying5 (hval 0 5 v0 rfl rfl) h0
  obtain ⟨A1, l1, cap1, rfl, lc1, cm1, R1, _⟩ := Reads.list (α := Int) (k := 1) (cenc := fun x : Int => #[Value.int .i64 x]) (Q := fun _ => True) Try.underlying29 (by kernel_rfl) (by decide) (fun _ => rfl) int_of (by obtain ⟨m, hm⟩ := k1; exact ⟨m, _, hm⟩) (okWide_slice Try.underlying29 (hval 1 29 v1 rfl rfl))
  clear hA0 hval0
  refine (room_any a0 A1 l1 cap1 W (u8_of w0) (by unfold maxLen at cm1; omega) (R1.rdv lc1 cm1)).mono fun e W' ⟨he, hk⟩ => ?_
  subst he
  have bel := hk.below
  exact ⟨_, rfl, _, _, _, [], _, [], hW', trodAll_mk1 (shut_bool Try.underlying4 _), (trodAll_cons_mk (Below.trod netRoom.laidOut (by kernel_rfl) (of_decide_eq_true (by kernel_rfl)) k0 bel lt0) (trodAll_cons_mk (Below.trod netRoom.laidOut (by kernel_rfl) (of_decide_eq_true (by kernel_rfl)) k1 bel lt1) trodAll_mk0)), rfl, bel.frame _, fun h => by cases h⟩
theorem netRoom_holds : Rows.NetRoomSaid :=
  OpenClaim.holds_of_wide 5 Try.f5 rfl rfl rfl rfl rfl rfl rfl ⟨rfl, rfl, rfl, rfl, rfl⟩ rfl rfl rfl rfl rfl (by kernel_rfl) Try.func5 (by kernel_rfl)
    (of_decide_eq_true (by kernel_rfl)) (by unfold Func.isWrapper; first | (rw [if_pos (by decide +kernel)]; kernel_rfl) | (rw [if_neg (by decide +kernel)]; exact ⟨rfl, rfl⟩))
    (fun os started H enc _ => netRoom.lifted os started H enc)
end Go.Proofs.Ytcjbmbljmmakfaa
