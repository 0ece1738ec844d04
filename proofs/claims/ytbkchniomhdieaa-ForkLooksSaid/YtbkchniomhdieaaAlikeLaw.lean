/- The plain law: the document's Alike says what Same says. -/
import Derived.Test.YtbkchniomhdieaaRefAdd2
import Derived.Test.YtbkchniomhdieaaRefusedLaw
namespace Go.Proofs.Ytbkchniomhdieaa
open Go.Bz

def FT.okAt (U : FT) (p : D8 × D8) : Bool := U.is p.1 && (decide (p.1 ≠ U.first) && decide ((U.get p.1).1 = p.2))
def FT.alike (T U : FT) : Bool := decide (T.depth = U.depth) && (decide (T.tip = U.tip) && (decide (T.bl.length = U.bl.length) && (decide (T.first = U.first) && (T.ref.drop 1).all U.okAt)))
theorem mlook_mem' {κ β : Type} [DecidableEq κ] {x : κ} {b : β} : ∀ {l : List (κ × β)}, mlook x l = some b → (x, b) ∈ l
  | [], h => by simp [mlook_nil] at h
  | q :: r, h => by
    rw [mlook_cons] at h
    split at h
    · rename_i e; cases h; subst e; simp
    · exact List.mem_cons_of_mem _ (mlook_mem' h)
theorem FT.Hd.cons {T : FT} (h : T.Hd) : ∃ r, T.bl = (T.first, (d0, 0)) :: r := by
  unfold FT.Hd at h
  cases hb : T.bl with
  | nil => rw [hb] at h; cases h
  | cons a r => rw [hb] at h; simp at h; exact ⟨r, by rw [h]⟩
theorem FT.WF.alike_get {T U : FT} (h : T.WF) (h' : U.WF) (hh : T.Hd) (hf : T.first = U.first) (ha : (T.ref.drop 1).all U.okAt = true) : ∀ (n : Nat) (x : D8), T.is x = true → (T.get x).2 = n → mlook x U.bl = some (T.get x) := by
  obtain ⟨r, hr⟩ := hh.cons
  have base : mlook T.first U.bl = some (T.get T.first) := by rw [h.get_first, hf]; exact h'.first
  intro n
  induction n with
  | zero => intro x hx hn; rw [h.zero hx hn]; exact base
  | succ n ih =>
    intro x hx hn
    by_cases hxf : x = T.first
    · rw [hxf]; exact base
    · obtain ⟨h1, h2⟩ := h.step hx hxf
      have ihq := ih _ h1 (by omega)
      have hm := mlook_mem' (h.get_is hx)
      rw [hr] at hm
      have hm : (x, T.get x) ∈ r := by
        rcases List.mem_cons.1 hm with e | e
        · exact absurd (congrArg Prod.fst e) hxf
        · exact e
      have hd : T.ref.drop 1 = r.map fun p => (p.1, p.2.1) := by unfold FT.ref; rw [hr]; rfl
      rw [hd, List.all_eq_true] at ha
      have hq := ha _ (List.mem_map.2 ⟨_, hm, rfl⟩)
      unfold FT.okAt at hq
      simp only [Bool.and_eq_true, decide_eq_true_eq] at hq
      obtain ⟨q1, q2, q3⟩ := hq
      have s2 := (h'.step q1 q2).2
      have g := h'.get_is q1
      rw [g]
      have e1 : U.get (T.get x).1 = T.get (T.get x).1 := by
        show (mlook (T.get x).1 U.bl).getD _ = _
        rw [ihq]; rfl
      rw [q3, e1] at s2
      exact congrArg some (Prod.ext q3 (by omega))
theorem FT.WF.same_alike {T U : FT} (h : T.WF) (h' : U.WF) (hh : T.Hd) : T.same U = T.alike U := by
  unfold FT.same FT.alike mapsEq
  by_cases e1 : T.first = U.first
  · by_cases e2 : T.tip = U.tip
    · by_cases e3 : T.depth = U.depth
      · by_cases e4 : T.bl.length = U.bl.length
        · simp only [e1, e2, e3, e4, decide_true, Bool.true_and, true_and]
          obtain ⟨r, hr⟩ := hh.cons
          have hd : T.ref.drop 1 = r.map fun p => (p.1, p.2.1) := by unfold FT.ref; rw [hr]; rfl
          rw [Bool.eq_iff_iff, decide_eq_true_eq]
          constructor
          · intro hp
            rw [hd, List.all_eq_true]
            intro q hq
            obtain ⟨p, hpm, rfl⟩ := List.mem_map.1 hq
            have hl := hp p (by rw [hr]; exact List.mem_cons_of_mem _ hpm)
            have hg : U.get p.1 = p.2 := by unfold FT.get; rw [hl]; rfl
            have hi : U.is p.1 = true := by unfold FT.is; rw [hl]; rfl
            have hn := h.nodup
            rw [hr] at hn
            simp only [List.map_cons, List.nodup_cons] at hn
            have hne : p.1 ≠ U.first := fun e => hn.1 (by rw [e1, ← e]; exact List.mem_map.2 ⟨p, hpm, rfl⟩)
            unfold FT.okAt
            simp [hi, hne, hg]
          · intro ha p hp
            have hl := mlook_mem h.nodup p hp
            have hi : T.is p.1 = true := by unfold FT.is; rw [hl]; rfl
            have hg : T.get p.1 = p.2 := by unfold FT.get; rw [hl]; rfl
            have := h.alike_get h' hh e1 ha _ p.1 hi (Int.toNat_of_nonneg (h.nonneg hi).1).symm
            rw [this, hg]
        · simp [e4]
      · simp [e3]
    · simp [e2]
  · simp [e1]
end Go.Proofs.Ytbkchniomhdieaa
