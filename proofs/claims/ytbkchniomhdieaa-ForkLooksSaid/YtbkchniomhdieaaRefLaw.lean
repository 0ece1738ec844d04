/- The plain law of the document's tree beside ours: where a block stands, whose line it has. -/
import Derived.Test.YtbkchniomhdieaaRefFind
import Derived.Test.YtbkchniomhdieaaPlain2
namespace Go.Proofs.Ytbkchniomhdieaa
open Go.RowKit Go.Bz

theorem ref_find (x : D8) : ∀ bl : List (D8 × B1), (mlook x bl = none → findIn x (bl.map fun p => (p.1, p.2.1)) = -1) ∧ (∀ b, mlook x bl = some b → ∃ k : Nat, findIn x (bl.map fun p => (p.1, p.2.1)) = k ∧ (bl.map fun p => (p.1, p.2.1))[k]? = some (x, b.1))
  | [] => ⟨fun _ => rfl, fun b h => by simp [mlook_nil] at h⟩
  | p :: r => by
    have ih := ref_find x r
    refine ⟨fun h => ?_, fun b h => ?_⟩
    · rw [mlook_cons] at h
      split at h
      · cases h
      · rename_i hne
        simp only [List.map_cons, findIn]
        rw [if_neg hne, ih.1 h, if_pos (by omega)]
    · rw [mlook_cons] at h
      split at h
      · rename_i he
        cases h
        exact ⟨0, by simp only [List.map_cons, findIn]; rw [if_pos he]; rfl, by simp [he]⟩
      · rename_i hne
        obtain ⟨k, hk, hg⟩ := ih.2 b h
        refine ⟨k + 1, ?_, by simpa using hg⟩
        simp only [List.map_cons, findIn]
        rw [if_neg hne, hk, if_neg (by omega)]
        omega
/-- The first block stands first. -/
def FT.Hd (T : FT) : Prop := T.bl.head? = some (T.first, (d0, 0))
theorem FT.new_hd (d : D8) (n : Int) : (FT.new d n).Hd := rfl
theorem FT.Hd.add {T : FT} (h : T.Hd) (x p : D8) : (T.add x p).Hd := by
  unfold FT.Hd at h ⊢
  rw [FT.add_first]
  unfold FT.add
  split
  · rename_i he
    obtain ⟨h1, _⟩ := FT.err_zero he
    rw [FT.added_bl, mput_new (FT.is_false.1 h1)]
    cases hb : T.bl with
    | nil => rw [hb] at h; cases h
    | cons a r => rw [hb] at h; simpa using h
  · exact h
theorem FT.ref_not {T : FT} {x : D8} (h : T.is x = false) : findIn x T.ref = -1 := (ref_find x T.bl).1 (FT.is_false.1 h)
theorem FT.WF.ref_is {T : FT} (h : T.WF) (hh : T.Hd) {x : D8} (hx : T.is x = true) : ∃ k : Nat, findIn x T.ref = k ∧ T.ref[k]? = some (x, (T.get x).1) ∧ (k = 0 ↔ x = T.first) := by
  obtain ⟨k, h1, h2⟩ := (ref_find x T.bl).2 _ (h.get_is hx)
  have h1 : findIn x T.ref = k := h1
  refine ⟨k, h1, h2, ?_⟩
  unfold FT.Hd at hh
  have h0 : T.ref[0]? = some (T.first, d0) := by
    unfold FT.ref
    cases hb : T.bl with
    | nil => rw [hb] at hh; cases hh
    | cons a r => rw [hb] at hh; simp at hh; subst hh; rfl
  constructor
  · rintro rfl
    have := h0.symm.trans h2
    simp at this
    exact this.1.symm
  · rintro rfl
    have : findIn T.first T.ref = (0 : Nat) := findIn_at _ _ _ (fun i p hi => by omega) ⟨_, h0, rfl⟩
    rw [this] at h1
    exact_mod_cast h1.symm
theorem FT.ref_len (T : FT) : T.ref.length = T.bl.length := by unfold FT.ref; simp
end Go.Proofs.Ytbkchniomhdieaa
