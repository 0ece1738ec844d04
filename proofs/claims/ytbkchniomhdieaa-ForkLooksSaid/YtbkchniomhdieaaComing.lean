/- The blocks that come: cells. What a tree's blocks are not. -/
import Derived.Test.YtbkchniomhdieaaBegin
import Derived.Test.YtbkchniomhdieaaRd
namespace Go.Proofs.Ytbkchniomhdieaa
open Go.RowKit Go.Bz

@[reducible] def cenc (c : Int × Int) : Array Value := #[.int .u8 c.1, .int .u8 c.2]
/-- The two cells of a Coming, in each world that keeps what there was. -/
theorem coming {w : World} {A : Option Addr} {l : List (Int × Int)} (h : Rd w 2 cenc A l) {k : Nat} (hk : k < l.length) : ∃ ab ao, A = some ⟨ab, ao, none⟩ ∧ ab < w.heap.size ∧ ∃ x y, l[k]? = some (x, y) ∧
    ∀ W, Keep [] w W → W.cell? ⟨ab, ao + k * 2, none⟩ = some (.int .u8 x) ∧ W.cell? ⟨ab, ao + k * 2 + 1, none⟩ = some (.int .u8 y) := by
  have hi : l[k]? = some (l[k].1, l[k].2) := List.getElem?_eq_getElem hk
  obtain ⟨ab, ao, h1, h2, h3⟩ := h.elem hi
  exact ⟨ab, ao, h1, h2, _, _, hi, fun W hW => ⟨h3 W hW 0 (by decide), h3 W hW 1 (by decide)⟩⟩
/-- A tree's blocks hold no digests' rows. -/
theorem TreeAt.no_dig {w : World} {t mb : Nat} {T : FT} (h : TreeAt w t mb T) : ∀ s ∈ [t, mb], ∀ cs, ¬ Blk w s 29 cs := by
  intro s hs cs hb
  simp at hs
  rcases hs with rfl | rfl
  · exact h.1.ne_ hb (by decide) rfl
  · exact h.2.ne_blk hb rfl
end Go.Proofs.Ytbkchniomhdieaa
