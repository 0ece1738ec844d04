/- The plain law of ForkRefused: what Add's answer says of whether the tree is as it was. -/
import Derived.Test.YtbkchniomhdieaaSame
namespace Go.Proofs.Ytbkchniomhdieaa
open Go.Bz

theorem mlook_mem {κ β : Type} [DecidableEq κ] : ∀ {l : List (κ × β)}, (l.map (·.1)).Nodup → ∀ p ∈ l, mlook p.1 l = some p.2
  | [], _, p, hp => by simp at hp
  | q :: r, hn, p, hp => by
    rw [mlook_cons]
    simp only [List.map_cons, List.nodup_cons] at hn
    rcases List.mem_cons.1 hp with rfl | hp
    · rw [if_pos rfl]
    · rw [if_neg (fun e => hn.1 (by rw [e]; exact List.mem_map.2 ⟨p, hp, rfl⟩)), mlook_mem hn.2 p hp]
theorem mapsEq_self {l : List (D8 × B1)} (h : (l.map (·.1)).Nodup) : mapsEq l l = true := decide_eq_true ⟨rfl, mlook_mem h⟩
theorem FT.WF.same_self {T : FT} (h : T.WF) : T.same T = true := by unfold FT.same; rw [mapsEq_self h.nodup]; simp
theorem FT.WF.refused {T : FT} (h : T.WF) (x p : D8) : (T.err x p = 0 ∧ (T.add x p).same T = false ∧ T.height x = -1) ∨ (T.err x p ≠ 0 ∧ (T.add x p).same T = true) := by
  by_cases he : T.err x p = 0
  · obtain ⟨h1, _⟩ := FT.err_zero he
    refine .inl ⟨he, ?_, by unfold FT.height; rw [if_neg (by simp [h1])]⟩
    have e : (T.add x p).bl.length = T.bl.length + 1 := by
      unfold FT.add; rw [if_pos he, FT.added_bl, mput_new (FT.is_false.1 h1)]; simp
    have : mapsEq (T.add x p).bl T.bl = false := decide_eq_false (fun q => by have := q.1; omega)
    unfold FT.same
    rw [this]; simp
  · exact .inr ⟨he, by unfold FT.add; rw [if_neg he]; exact h.same_self⟩
end Go.Proofs.Ytbkchniomhdieaa
