/- Maps as lists: what is looked up behind a put, behind a delete. -/
import Derived.Test.YtcjbmbljmmakfaaBase
namespace Go.Bz
section
variable {κ β γ : Type} [DecidableEq κ]
theorem look_nil (y : κ) : mlook y ([] : List (κ × β)) = none := rfl
theorem look_cons (p : κ × β) (y : κ) (l : List (κ × β)) : mlook y (p :: l) = if p.1 = y then some p.2 else mlook y l := by
  unfold mlook
  simp only [mat]
  split
  · rfl
  · cases mat y l <;> rfl
theorem look_put (x y : κ) (v : β) : ∀ l : List (κ × β), mlook y (mput x v l) = if x = y then some v else mlook y l
  | [] => by unfold mput; rw [look_cons, look_nil]
  | p :: r => by
    unfold mput
    by_cases hp : p.1 = x
    · rw [if_pos hp, look_cons, look_cons]
      by_cases hy : x = y
      · simp [hy]
      · simp [hy, show ¬ p.1 = y from fun e => hy (hp.symm.trans e)]
    · rw [if_neg hp, look_cons, look_cons, look_put x y v r]
      by_cases hy : x = y
      · subst hy; simp [hp]
      · simp [hy]
theorem look_none {x : κ} : ∀ {l : List (κ × β)}, mlook x l = none ↔ x ∉ l.map (·.1)
  | [] => by simp [look_nil]
  | p :: r => by
    rw [look_cons]
    by_cases hp : p.1 = x
    · simp [hp]
    · rw [if_neg hp, look_none (l := r)]
      simp
      intro _ h
      exact hp h.symm
theorem look_del (x y : κ) : ∀ l : List (κ × β), (l.map (·.1)).Nodup → mlook y (mdel x l) = if x = y then none else mlook y l
  | [], _ => by unfold mdel; rw [look_nil]; simp
  | p :: r, hn => by
    simp only [List.map_cons, List.nodup_cons] at hn
    unfold mdel
    by_cases hp : p.1 = x
    · rw [if_pos hp, look_cons]
      by_cases hy : x = y
      · subst hy; rw [if_pos rfl]; exact look_none.2 (hp ▸ hn.1)
      · rw [if_neg hy, if_neg (fun e => hy (hp.symm.trans e))]
    · rw [if_neg hp, look_cons, look_cons, look_del x y r hn.2]
      by_cases hy : x = y
      · subst hy; simp [hp]
      · simp [hy]
theorem look_mem {x : κ} {b : β} : ∀ {l : List (κ × β)}, mlook x l = some b → (x, b) ∈ l
  | [], h => by simp [look_nil] at h
  | q :: r, h => by
    rw [look_cons] at h
    split at h
    · rename_i e; cases h; subst e; simp
    · exact List.mem_cons_of_mem _ (look_mem h)
theorem mem_look : ∀ {l : List (κ × β)}, (l.map (·.1)).Nodup → ∀ p ∈ l, mlook p.1 l = some p.2
  | [], _, p, hp => by simp at hp
  | q :: r, hn, p, hp => by
    rw [look_cons]
    simp only [List.map_cons, List.nodup_cons] at hn
    rcases List.mem_cons.1 hp with rfl | hp
    · rw [if_pos rfl]
    · rw [if_neg (fun e => hn.1 (by rw [e]; exact List.mem_map.2 ⟨p, hp, rfl⟩)), mem_look hn.2 p hp]
theorem look_map (f : β → γ) (x : κ) : ∀ l : List (κ × β), mlook x (l.map fun p => (p.1, f p.2)) = (mlook x l).map f
  | [] => rfl
  | p :: r => by
    rw [List.map_cons, look_cons, look_cons, look_map f x r]
    split <;> rfl
theorem put_map (f : β → γ) (x : κ) (v : β) : ∀ l : List (κ × β), (mput x v l).map (fun p => (p.1, f p.2)) = mput x (f v) (l.map fun p => (p.1, f p.2))
  | [] => rfl
  | p :: r => by
    unfold mput
    simp only [List.map_cons]
    by_cases hp : p.1 = x
    · simp [hp]
    · simp [hp, put_map f x v r]
theorem del_map (f : β → γ) (x : κ) : ∀ l : List (κ × β), (mdel x l).map (fun p => (p.1, f p.2)) = mdel x (l.map fun p => (p.1, f p.2))
  | [] => rfl
  | p :: r => by
    unfold mdel
    simp only [List.map_cons]
    by_cases hp : p.1 = x
    · simp [hp]
    · simp [hp, del_map f x r]
theorem mem_put {x : κ} {v : β} {p : κ × β} : ∀ {l : List (κ × β)}, (l.map (·.1)).Nodup → p ∈ mput x v l → p = (x, v) ∨ (p ∈ l ∧ p.1 ≠ x)
  | [], _, h => by unfold mput at h; simp at h; exact .inl h
  | q :: r, hn, h => by
    simp only [List.map_cons, List.nodup_cons] at hn
    unfold mput at h
    by_cases hq : q.1 = x
    · rw [if_pos hq] at h
      rcases List.mem_cons.1 h with e | e
      · exact .inl e
      · exact .inr ⟨List.mem_cons_of_mem _ e, fun e' => hn.1 (by rw [hq, ← e']; exact List.mem_map.2 ⟨p, e, rfl⟩)⟩
    · rw [if_neg hq] at h
      rcases List.mem_cons.1 h with e | e
      · exact .inr ⟨by rw [e]; simp, by rw [e]; exact hq⟩
      · rcases mem_put hn.2 e with h1 | ⟨h1, h2⟩
        · exact .inl h1
        · exact .inr ⟨List.mem_cons_of_mem _ h1, h2⟩
theorem mem_del {x : κ} {p : κ × β} : ∀ {l : List (κ × β)}, (l.map (·.1)).Nodup → p ∈ mdel x l → p ∈ l ∧ p.1 ≠ x
  | [], _, h => by unfold mdel at h; simp at h
  | q :: r, hn, h => by
    simp only [List.map_cons, List.nodup_cons] at hn
    unfold mdel at h
    by_cases hq : q.1 = x
    · rw [if_pos hq] at h
      exact ⟨List.mem_cons_of_mem _ h, fun e' => hn.1 (by rw [hq, ← e']; exact List.mem_map.2 ⟨p, h, rfl⟩)⟩
    · rw [if_neg hq] at h
      rcases List.mem_cons.1 h with e | e
      · exact ⟨by rw [e]; simp, by rw [e]; exact hq⟩
      · obtain ⟨h1, h2⟩ := mem_del hn.2 e
        exact ⟨List.mem_cons_of_mem _ h1, h2⟩
end
end Go.Bz
