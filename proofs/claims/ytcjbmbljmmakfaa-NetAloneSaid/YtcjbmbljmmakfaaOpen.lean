/- Arguments opened: what the cells of a slice that came in hold. -/
import Derived.Test.YtcjbmbljmmakfaaRd
import Derived.Test.YtcjbmbljmmakfaaDig
import Derived.OpenShut
import Derived.ProofKit
import Derived.Deep.Slices
import Derived.ChangeSame
namespace Go.Bz
open Go.RowKit Go.ChangeShapes Go.WideShapes Go.Deep
section
variable {H : Type} {enc : TypeId × Value → H} {P : Program} {w : World} {base : Nat} {spare : Nat → Bool} {held : Bool}
/-- The cells cs read as a value of type e. -/
def Reads (enc : TypeId × Value → H) (P : Program) (w : World) (base : Nat) (spare : Nat → Bool) (held : Bool) (e : TypeId) (cs : List Value) : Prop := ∃ n y, DataW.trod enc P w base spare held n e cs = some y
theorem Reads.int {e : TypeId} {k : IntKind} {cs : List Value} (he : P.underlying e = some (.int k)) (h : Reads enc P w base spare held e cs) : ∃ n, cs = [.int k n] ∧ (Lit.int k n).wf = true := by
  obtain ⟨n, y, hy⟩ := h
  obtain ⟨m, h1, _, h2⟩ := DataW.trod_int he hy
  exact ⟨m, h1, h2⟩
theorem Reads.field {e : TypeId} {fs : Array Field} {cs : List Value} (he : P.underlying e = some (.struct fs)) (h : Reads enc P w base spare held e cs) (j : Nat) {f : Field} (hf : fs[j]? = some f) :
    Reads enc P w base spare held f.type ((cs.drop f.offset).take (P.cellsOf f.type)) := by
  obtain ⟨n, y, hy⟩ := h
  obtain ⟨xs, m, _, _, _, hl, hat⟩ := DataW.trod_struct he hy
  have := hat j f hf
  have hj : j < xs.length := by rw [hl]; exact (Array.getElem?_eq_some_iff.1 hf).1
  rw [List.getElem?_eq_getElem hj] at this
  exact ⟨_, _, this⟩
theorem Reads.len {e : TypeId} {fs : Array Field} {cs : List Value} (he : P.underlying e = some (.struct fs)) (h : Reads enc P w base spare held e cs) : cs.length = P.cellsOf e := by
  obtain ⟨n, y, hy⟩ := h
  obtain ⟨xs, m, _, _, hl, _⟩ := DataW.trod_struct he hy
  exact hl
theorem Reads.slice {t e : TypeId} {cs : List Value} (ht : P.underlying t = some (.slice e)) (h : Reads enc P w base spare held t cs) :
    cs = [.slice none 0 0] ∨ ∃ a len cap, cs = [.slice (some a) len cap] ∧ len ≤ cap ∧ cap ≤ maxLen ∧
      ∀ i, i < len → ∃ cs', cs'.length = P.cellsOf e ∧ (∀ j, j < P.cellsOf e → w.cell? (a.add (i * P.cellsOf e + j)) = cs'[j]?) ∧ Reads enc P w base spare held e cs' := by
  obtain ⟨n, y, hy⟩ := h
  rcases open_slice ht hy with ⟨h0, _⟩ | ⟨a, len, cap, m, n, D, Pl, hcs, hb, hl, hm, hmm, hx, hi⟩
  · exact .inl h0
  · refine .inr ⟨a, len, cap, hcs, hl, hm, fun i him => ?_⟩
    obtain ⟨cs', hc, ht'⟩ := hi i (by rw [hmm]; split <;> omega)
    obtain ⟨_, hcl, hat⟩ := World.cells?_some hc
    refine ⟨cs', hcl, fun j hj => ?_, _, _, ht'⟩
    rw [← hat j hj, ← Go.Deep.add_add]
/-- A slice that came in reads as a list. -/
theorem Reads.list {α : Type} {t e : TypeId} {v : Value} {k : Nat} {cenc : α → Array Value} {Q : α → Prop} (ht : P.underlying t = some (.slice e)) (hk : P.cellsOf e = k) (hk0 : 0 < k) (hs : ∀ x, (cenc x).size = k)
    (hel : ∀ cs, cs.length = k → Reads enc P w base spare held e cs → ∃ x, Q x ∧ cs = (cenc x).toList) (h : Reads enc P w base spare held t v.cells.toList) (hv : ∃ a l c, v = .slice a l c) :
    ∃ A l cap, v = .slice A (List.length l) cap ∧ l.length ≤ cap ∧ cap ≤ maxLen ∧ Rd w k cenc A l ∧ ∀ x ∈ l, Q x := by
  obtain ⟨a, n, c, rfl⟩ := hv
  rcases h.slice ht with h0 | ⟨b, len, cap, hcs, h1, h2, h3⟩
  · simp [Value.cells] at h0
    obtain ⟨rfl, rfl, rfl⟩ := h0
    exact ⟨none, [], 0, rfl, Nat.le_refl _, by decide, .inl rfl, by simp⟩
  · simp [Value.cells] at hcs
    obtain ⟨rfl, rfl, rfl⟩ := hcs
    obtain ⟨l, hl, hR⟩ := Rd.of (α := {x : α // Q x}) (enc := fun x => cenc x.1) (w := w) (a := b) (len := n) hk0 (fun x => hs x.1) (fun i hi => by
      obtain ⟨cs', hc1, hc2, hc3⟩ := h3 i hi
      obtain ⟨x, hq, rfl⟩ := hel cs' (hc1.trans hk) hc3
      exact ⟨⟨x, hq⟩, fun j hj => by rw [← hk, hc2 j (by rw [hk]; exact hj)]; simp⟩)
    refine ⟨_, l.map (·.1), c, by rw [List.length_map, hl], by rw [List.length_map, hl]; exact h1, h2, ?_, fun x hx => ?_⟩
    · rcases hR with rfl | ⟨ab, ao, h1, h2, h3⟩
      · exact .inl rfl
      · refine .inr ⟨ab, ao, h1, h2, fun i x hi j hj => ?_⟩
        rw [List.getElem?_map] at hi
        cases hli : l[i]? with
        | none => rw [hli] at hi; cases hi
        | some y => rw [hli] at hi; cases hi; exact h3 i y hli j hj
    · obtain ⟨y, _, rfl⟩ := List.mem_map.1 hx
      exact y.2
theorem Reads.elem {e b : TypeId} {n : Nat} {cs : List Value} (he : P.underlying e = some (.array n b)) (h : Reads enc P w base spare held e cs) :
    cs.length = P.cellsOf e ∧ ∀ i, i < n → Reads enc P w base spare held b ((cs.drop (i * P.cellsOf b)).take (P.cellsOf b)) := by
  obtain ⟨m, y, hy⟩ := h
  obtain ⟨xs, m, _, _, hl, hn, hat⟩ := DataW.trod_array he hy
  refine ⟨hl, fun i hi => ?_⟩
  have := hat i hi
  rw [List.getElem?_eq_getElem (by omega)] at this
  exact ⟨_, _, this⟩
theorem Reads.arr8 {e b : TypeId} {cs : List Value} (D : DType P e b) (hc : P.cellsOf e = 8) (h : Reads enc P w base spare held e cs) : ∃ x : D8, cs = (dcells x).toList := by
  obtain ⟨hl, hat⟩ := h.elem D.arr
  rw [hc] at hl
  match cs, hl with
  | [c0, c1, c2, c3, c4, c5, c6, c7], _ =>
    obtain ⟨x0, h0, _⟩ := (hat 0 (by decide)).int D.byte
    obtain ⟨x1, h1, _⟩ := (hat 1 (by decide)).int D.byte
    obtain ⟨x2, h2, _⟩ := (hat 2 (by decide)).int D.byte
    obtain ⟨x3, h3, _⟩ := (hat 3 (by decide)).int D.byte
    obtain ⟨x4, h4, _⟩ := (hat 4 (by decide)).int D.byte
    obtain ⟨x5, h5, _⟩ := (hat 5 (by decide)).int D.byte
    obtain ⟨x6, h6, _⟩ := (hat 6 (by decide)).int D.byte
    obtain ⟨x7, h7, _⟩ := (hat 7 (by decide)).int D.byte
    simp [D.one] at h0 h1 h2 h3 h4 h5 h6 h7
    exact ⟨⟨x0, x1, x2, x3, x4, x5, x6, x7⟩, by simp [h0, h1, h2, h3, h4, h5, h6, h7]⟩
end
theorem okWide_arr {P : Program} {w : World} {r : Reach} {base : Nat} {t b : TypeId} {n : Nat} {v : Value} (ht : P.underlying t = some (.array n b)) (h : Value.okWide P w r base t v) : ∃ cs, v = .agg cs := by
  simp only [Value.okWide, ht] at h
  obtain ⟨cs, h1, _⟩ := h
  exact ⟨cs, h1⟩
/-- A digest that came in, by value. -/
theorem Reads.digest {H : Type} {enc : TypeId × Value → H} {P : Program} {w : World} {base base' : Nat} {spare : Nat → Bool} {held : Bool} {r : Reach} {e b : TypeId} {v : Value} (D : DType P e b) (hc : P.cellsOf e = 8)
    (h : Reads enc P w base spare held e v.cells.toList) (hv : Value.okWide P w r base' e v) : ∃ x : D8, v = dv x := by
  obtain ⟨cs, rfl⟩ := okWide_arr D.arr hv
  obtain ⟨x, hx⟩ := h.arr8 D hc
  refine ⟨x, ?_⟩
  simp only [Value.cells] at hx
  rw [Array.toList_inj] at hx
  rw [hx]
end Go.Bz
