/- The plain law of ForkLines: a block's line is its parent's, and it. -/
import Derived.Test.YtbkchniomhdieaaFinalLaw
import Derived.Test.YtbkchniomhdieaaAll
namespace Go.Proofs.Ytbkchniomhdieaa
open Go.Bz

structure Lined (T T' : FT) (x p : D8) : Prop where
  wf : T'.WF
  lx : T'.lines x = T.line p ++ [x]
  lp : T'.lines p = T.line p
  head : (T.line p)[0]? = some T.first
  height : T'.height x = (T.line p).length
  undone : T'.undone p x = []
  len : (T.line p).length ≤ 4096
theorem FT.WF.lined {T : FT} (h : T.WF) (x p : D8) (he : T.err x p = 0) : Lined T (T.add x p) x p := by
  obtain ⟨hx, hp, hl, hd⟩ := FT.err_zero he
  have e : T.add x p = T.added x p := by unfold FT.add; rw [if_pos he]
  rw [e]
  have hxp : x ≠ p := fun e => by rw [e, hp] at hx; cases hx
  have hix : (T.added x p).is x = true := by rw [FT.added_is, if_pos rfl]
  have hip : (T.added x p).is p = true := by rw [FT.added_is, if_neg hxp]; exact hp
  have hn := h.nonneg hp
  refine ⟨h.added hx hp hl, ?_, ?_, h.line_head hp, ?_, ?_, h.line_lt hp⟩
  · unfold FT.lines; rw [if_pos hix, h.added_line_new hx hp]
  · unfold FT.lines; rw [if_pos hip, h.added_line hx hp]
  · rw [FT.height_is hix, FT.added_get, if_pos rfl, T.line_len]; simp only; omega
  · unfold FT.undone
    rw [if_pos ⟨hip, hix⟩, h.added_line hx hp, h.added_line_new hx hp, common_comm, common_snoc, common_self]
    · simp
    · simp
end Go.Proofs.Ytbkchniomhdieaa
