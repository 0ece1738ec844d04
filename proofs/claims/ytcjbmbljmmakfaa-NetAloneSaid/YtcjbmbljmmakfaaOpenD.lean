/- Deeds that come in. -/
import Derived.Test.YtcjbmbljmmakfaaOpen
import Derived.Test.YtcjbmbljmmakfaaBoth
namespace Go.Proofs.Ytcjbmbljmmakfaa
open Go.RowKit Go.Bz Go.ChangeShapes Go.WideShapes Go.Deep
section
variable {H : Type} {enc : TypeId × Value → H} {W : World} {base : Nat} {spare : Nat → Bool} {held : Bool}
theorem u8_wf {n : Int} (h : (Lit.int .u8 n).wf = true) : 0 ≤ n ∧ n ≤ 255 := by
  simp only [Lit.wf, Bool.and_eq_true, decide_eq_true_eq] at h
  have h1 : IntKind.u8.min = 0 := by decide
  have h2 : IntKind.u8.max = 255 := by decide
  omega
theorem int1_of (cs : List Value) (hl : cs.length = 1) (h : Reads enc Try.prog W base spare held 3 cs) : ∃ x : Int, True ∧ cs = (ienc x).toList := by
  obtain ⟨x, hx, _⟩ := Reads.int Try.underlying3 h
  exact ⟨x, trivial, hx⟩
theorem later_of {V : Value} (h : Reads enc Try.prog W base spare held 29 [V]) : ∃ l, RdV W 1 ienc V l ∧ SomeOr V := by
  rcases h.slice Try.underlying29 with h0 | ⟨a, len, cap, hcs, _⟩
  · simp at h0
    subst h0
    exact ⟨[], ⟨none, 0, rfl, Nat.le_refl _, by decide, fun h => absurd rfl h⟩, .inl rfl⟩
  · simp at hcs
    subst hcs
    obtain ⟨A, l, c, hv, h1, h2, h3, _⟩ := Reads.list (α := Int) (k := 1) (cenc := ienc) (Q := fun _ => True) (v := .slice (some a) len cap) Try.underlying29 (by kernel_rfl) (by decide) (fun _ => rfl) int1_of (by simpa [Value.cells] using h) ⟨_, _, _, rfl⟩
    have := h3.rdv h1 h2
    rw [← hv] at this
    exact ⟨l, this, .inr ⟨_, _, _, rfl⟩⟩
theorem deed_of (cs : List Value) (hl : cs.length = 5) (h : Reads enc Try.prog W base spare held 58 cs) : ∃ d : Deed, (RdV W 1 ienc d.L d.l ∧ SomeOr d.L ∧ 0 ≤ d.w ∧ d.w ≤ 255) ∧ cs = (denc d).toList := by
  match cs, hl with
  | [c0, c1, c2, c3, c4], _ =>
    have e3 : Try.prog.cellsOf 3 = 1 := by kernel_rfl
    have e5 : Try.prog.cellsOf 5 = 1 := by kernel_rfl
    have e9 : Try.prog.cellsOf 9 = 1 := by kernel_rfl
    have e29 : Try.prog.cellsOf 29 = 1 := by kernel_rfl
    obtain ⟨x0, h0, w0⟩ := Reads.int Try.underlying5 (h.field Try.underlying58 0 rfl)
    obtain ⟨x1, h1, _⟩ := Reads.int Try.underlying3 (h.field Try.underlying58 1 rfl)
    obtain ⟨x2, h2, _⟩ := Reads.int Try.underlying3 (h.field Try.underlying58 2 rfl)
    obtain ⟨n3, y3, h3⟩ := h.field Try.underlying58 3 rfl
    obtain ⟨s3, g3, _, _⟩ := DataW.trod_string Try.underlying9 h3
    have h4 := h.field Try.underlying58 4 rfl
    simp [e3, e5, e9, e29] at h0 h1 h2 g3 h4
    obtain ⟨l, hL, hS⟩ := later_of h4
    exact ⟨⟨x0, x1, x2, s3, c4, l⟩, ⟨hL, hS, u8_wf w0⟩, by simp [h0, h1, h2, g3]⟩
set_option maxRecDepth 100000 in
theorem deeds_arg {v : Value} (h : Reads enc Try.prog W base spare held 42 v.cells.toList) {r : Reach} {b : Nat} (hv : Value.okWide Try.prog W r b 42 v) : ∃ D, DsAt W v D := by
  obtain ⟨A, l, c, rfl, h1, h2, h3, h4⟩ := Reads.list (α := Deed) (k := 5) (cenc := denc) (Q := fun d => RdV W 1 ienc d.L d.l ∧ SomeOr d.L ∧ 0 ≤ d.w ∧ d.w ≤ 255) Try.underlying42 (by kernel_rfl) (by decide) (fun _ => rfl) deed_of h (okWide_slice Try.underlying42 hv)
  exact ⟨l, h3.rdv h1 h2, h4⟩
end
end Go.Proofs.Ytcjbmbljmmakfaa
