/- Arguments opened: arrays of four and of three integers. -/
import Derived.Test.YtcjbmbljmmakfaaOpen
namespace Go.Bz
open Go.RowKit Go.ChangeShapes Go.WideShapes Go.Deep
section
variable {H : Type} {enc : TypeId × Value → H} {P : Program} {w : World} {base : Nat} {spare : Nat → Bool} {held : Bool}
theorem Reads.arr4 {e b : TypeId} {k : IntKind} {cs : List Value} (ha : P.underlying e = some (.array 4 b)) (hb : P.underlying b = some (.int k)) (h1 : P.cellsOf b = 1) (hc : P.cellsOf e = 4) (h : Reads enc P w base spare held e cs) :
    ∃ x0 x1 x2 x3, cs = [.int k x0, .int k x1, .int k x2, .int k x3] ∧ (Lit.int k x0).wf = true ∧ (Lit.int k x1).wf = true ∧ (Lit.int k x2).wf = true ∧ (Lit.int k x3).wf = true := by
  obtain ⟨hl, hat⟩ := h.elem ha
  rw [hc] at hl
  match cs, hl with
  | [c0, c1, c2, c3], _ =>
    obtain ⟨x0, h0, w0⟩ := (hat 0 (by decide)).int hb
    obtain ⟨x1, h1', w1⟩ := (hat 1 (by decide)).int hb
    obtain ⟨x2, h2, w2⟩ := (hat 2 (by decide)).int hb
    obtain ⟨x3, h3, w3⟩ := (hat 3 (by decide)).int hb
    simp [h1] at h0 h1' h2 h3
    exact ⟨x0, x1, x2, x3, by simp [h0, h1', h2, h3], w0, w1, w2, w3⟩
theorem Reads.arr3 {e b : TypeId} {k : IntKind} {cs : List Value} (ha : P.underlying e = some (.array 3 b)) (hb : P.underlying b = some (.int k)) (h1 : P.cellsOf b = 1) (hc : P.cellsOf e = 3) (h : Reads enc P w base spare held e cs) :
    ∃ x0 x1 x2, cs = [.int k x0, .int k x1, .int k x2] ∧ (Lit.int k x0).wf = true ∧ (Lit.int k x1).wf = true ∧ (Lit.int k x2).wf = true := by
  obtain ⟨hl, hat⟩ := h.elem ha
  rw [hc] at hl
  match cs, hl with
  | [c0, c1, c2], _ =>
    obtain ⟨x0, h0, w0⟩ := (hat 0 (by decide)).int hb
    obtain ⟨x1, h1', w1⟩ := (hat 1 (by decide)).int hb
    obtain ⟨x2, h2, w2⟩ := (hat 2 (by decide)).int hb
    simp [h1] at h0 h1' h2
    exact ⟨x0, x1, x2, by simp [h0, h1', h2], w0, w1, w2⟩
end
end Go.Bz
