/- The plain law of nets: what Send, Step, Cut do; nothing of Go. -/
import Derived.Test.YtcjbmbljmmakfaaMaps
namespace Go.Proofs.Ytcjbmbljmmakfaa
open Go.Bz

/-- A copy on its way. -/
structure Cp where
  (f t : Int) (b : List Int) (num : Int)
structure NS where
  (parties now way next : Int) (due : List (Int × List Cp)) (cut : Nat → Bool)
def NS.at_ (S : NS) (k : Int) : List Cp := (mlook k S.due).getD []
def NS.new (p : Int) : NS := ⟨p, 0, 0, 0, [], fun _ => false⟩
def NS.party (S : NS) (i : Int) : Bool := decide (0 ≤ i) && decide (i < S.parties)
/-- May a fate not be? -/
def lateOf (l : List Int) : Bool := decide (8 < l.length) || l.any fun k => decide (k < 0) || decide (1000 < k)
def NS.err (S : NS) (f t : Int) (n : Nat) (l : List Int) : Int :=
  if S.party f = false ∨ S.party t = false then 28 else if 65536 < n then 5 else if lateOf l = true then 2 else if 4096 < S.way + l.length then 8 else 0
def NS.put (S : NS) (f t : Int) (b : List Int) (k : Int) : NS :=
  { S with due := mput (S.now + k) (S.at_ (S.now + k) ++ [⟨f, t, b, S.next⟩]) S.due, next := S.next + 1 }
def NS.puts (S : NS) (f t : Int) (b : List Int) (l : List Int) : NS := l.foldl (fun S k => S.put f t b k) S
def NS.sent (S : NS) (f t : Int) (b : List Int) (l : List Int) : NS := { S.puts f t b l with way := S.way + l.length }
def NS.send (S : NS) (f t : Int) (b : List Int) (l : List Int) : NS := if S.err f t b.length l = 0 then S.sent f t b l else S
/-- What comes with the next tick. -/
def NS.come (S : NS) : List Cp := (S.at_ S.now).filter fun c => !S.cut (c.f.toNat * 16 + c.t.toNat)
def NS.step (S : NS) : NS := { S with way := S.way - (S.at_ S.now).length, due := mdel S.now S.due, now := S.now + 1 }
def NS.cutErr (S : NS) (f t : Int) : Int := if S.party f = false ∨ S.party t = false then 28 else 0
def NS.setCut (S : NS) (f t : Int) (b : Bool) : NS := if S.cutErr f t = 0 then { S with cut := fun i => if i = f.toNat * 16 + t.toNat then b else S.cut i } else S

def total (due : List (Int × List Cp)) : Int := (due.map fun p => (p.2.length : Int)).sum
theorem total_nonneg : ∀ due : List (Int × List Cp), 0 ≤ total due
  | [] => by simp [total]
  | p :: r => by have := total_nonneg r; simp only [total, List.map_cons, List.sum_cons] at *; omega
theorem total_at (k : Int) : ∀ due : List (Int × List Cp), (((mlook k due).getD []).length : Int) ≤ total due
  | [] => by simp [look_nil, total]
  | p :: r => by
    have h1 := total_at k r
    have h2 := total_nonneg r
    rw [look_cons]
    simp only [total, List.map_cons, List.sum_cons] at *
    split
    · simp; omega
    · omega
theorem total_put (k : Int) (l : List Cp) : ∀ due : List (Int × List Cp), total (mput k l due) = total due - ((mlook k due).getD []).length + l.length
  | [] => by simp [look_nil, total, mput]
  | p :: r => by
    have h1 := total_put k l r
    rw [look_cons]
    unfold mput
    by_cases hp : p.1 = k
    · rw [if_pos hp, if_pos hp]
      simp only [total, List.map_cons, List.sum_cons, Option.getD_some]; omega
    · rw [if_neg hp, if_neg hp]
      simp only [total, List.map_cons, List.sum_cons] at *; omega
theorem total_del (k : Int) : ∀ due : List (Int × List Cp), total (mdel k due) = total due - ((mlook k due).getD []).length
  | [] => by simp [look_nil, total, mdel]
  | p :: r => by
    have h1 := total_del k r
    rw [look_cons]
    unfold mdel
    by_cases hp : p.1 = k
    · rw [if_pos hp, if_pos hp]
      simp only [total, List.map_cons, List.sum_cons, Option.getD_some]; omega
    · rw [if_neg hp, if_neg hp]
      simp only [total, List.map_cons, List.sum_cons] at *; omega
structure NS.WF (S : NS) : Prop where
  way : S.way = total S.due
  room : total S.due ≤ 4096
  now : 0 ≤ S.now
  next : 0 ≤ S.next
  nodup : (S.due.map (·.1)).Nodup
  par : 1 ≤ S.parties ∧ S.parties ≤ 16
  ends : ∀ p ∈ S.due, ∀ c ∈ p.2, S.party c.f = true ∧ S.party c.t = true
theorem NS.new_wf {p : Int} (h : 1 ≤ p ∧ p ≤ 16) : (NS.new p).WF := ⟨rfl, by simp [NS.new, total], by simp [NS.new], by simp [NS.new], by simp [NS.new], h, by simp [NS.new]⟩
theorem NS.at_put (S : NS) (f t : Int) (b : List Int) (k i : Int) : (S.put f t b k).at_ i = if S.now + k = i then S.at_ i ++ [⟨f, t, b, S.next⟩] else S.at_ i := by
  show (mlook i (mput _ _ S.due)).getD [] = _
  rw [look_put]
  by_cases h : S.now + k = i
  · subst h; simp
  · simp [h]; rfl
theorem NS.put_total (S : NS) (f t : Int) (b : List Int) (k : Int) : total (S.put f t b k).due = total S.due + 1 := by
  show total (mput _ _ S.due) = _
  rw [total_put]
  simp only [NS.at_, List.length_append, List.length_cons, List.length_nil]
  omega
theorem nodup_put {κ β : Type} [DecidableEq κ] {x : κ} {v : β} {l : List (κ × β)} (h : (l.map (·.1)).Nodup) : ((mput x v l).map (·.1)).Nodup := nodup_upd h
theorem NS.puts_facts (f t : Int) (b : List Int) : ∀ (l : List Int) (S : NS), (S.due.map (·.1)).Nodup → (S.puts f t b l).parties = S.parties ∧ (S.puts f t b l).now = S.now ∧ (S.puts f t b l).way = S.way ∧ (S.puts f t b l).next = S.next + l.length ∧ (S.puts f t b l).cut = S.cut ∧ total (S.puts f t b l).due = total S.due + l.length ∧ ((S.puts f t b l).due.map (·.1)).Nodup
  | [], S, h => ⟨rfl, rfl, rfl, by simp [NS.puts], rfl, by simp [NS.puts], h⟩
  | k :: r, S, h => by
    have ih := NS.puts_facts f t b r (S.put f t b k) (nodup_put h)
    have e : S.puts f t b (k :: r) = (S.put f t b k).puts f t b r := rfl
    rw [e]
    obtain ⟨h1, h2, h3, h4, h5, h6, h7⟩ := ih
    refine ⟨h1, h2, h3, ?_, h5, ?_, h7⟩
    · rw [h4]; show S.next + 1 + _ = _; simp; omega
    · rw [h6, NS.put_total]; simp; omega
theorem NS.puts_ends (f t : Int) (b : List Int) : ∀ (l : List Int) (S : NS), (S.due.map (·.1)).Nodup → S.party f = true → S.party t = true → (∀ p ∈ S.due, ∀ c ∈ p.2, S.party c.f = true ∧ S.party c.t = true) → ∀ p ∈ (S.puts f t b l).due, ∀ c ∈ p.2, S.party c.f = true ∧ S.party c.t = true
  | [], S, _, _, _, he => he
  | k :: r, S, hn, hf, ht, he => by
    have e : S.puts f t b (k :: r) = (S.put f t b k).puts f t b r := rfl
    rw [e]
    refine NS.puts_ends f t b r (S.put f t b k) (nodup_put hn) hf ht (fun p hp c hc => ?_)
    rcases mem_put hn hp with rfl | ⟨hp, _⟩
    · simp only [List.mem_append, List.mem_singleton] at hc
      rcases hc with hc | rfl
      · unfold NS.at_ at hc
        cases hl : mlook (S.now + k) S.due with
        | none => rw [hl] at hc; simp at hc
        | some l => rw [hl] at hc; exact he _ (look_mem hl) c hc
      · exact ⟨hf, ht⟩
    · exact he p hp c hc
theorem NS.WF.send {S : NS} (h : S.WF) (f t : Int) (b : List Int) (l : List Int) : (S.send f t b l).WF := by
  unfold NS.send
  split
  · rename_i he
    obtain ⟨h1, h2, h3, h4, h5, h6, h7⟩ := NS.puts_facts f t b l S h.nodup
    have hr : S.way + l.length ≤ 4096 := by
      unfold NS.err at he
      split at he
      · cases he
      split at he
      · cases he
      split at he
      · cases he
      split at he
      · cases he
      · omega
    have hn := h.next
    have hw := h.way
    have hpp : S.party f = true ∧ S.party t = true := by
      unfold NS.err at he
      split at he
      · cases he
      · rename_i hh
        exact ⟨by simpa using fun e => hh (.inl e), by simpa using fun e => hh (.inr e)⟩
    have hends := NS.puts_ends f t b l S h.nodup hpp.1 hpp.2 h.ends
    have epar : (S.puts f t b l).parties = S.parties := h1
    refine ⟨?_, ?_, ?_, ?_, h7, ?_, ?_⟩
    · show S.way + l.length = total (S.puts f t b l).due; rw [h6, hw]
    · show total (S.puts f t b l).due ≤ 4096; rw [h6]; omega
    · show 0 ≤ (S.puts f t b l).now; rw [h2]; exact h.now
    · show 0 ≤ (S.puts f t b l).next; rw [h4]; omega
    · show 1 ≤ (S.puts f t b l).parties ∧ (S.puts f t b l).parties ≤ 16; rw [h1]; exact h.par
    · intro p hp c hc
      have := hends p hp c hc
      unfold NS.party at this ⊢
      show (decide (0 ≤ c.f) && decide (c.f < (S.puts f t b l).parties)) = true ∧ (decide (0 ≤ c.t) && decide (c.t < (S.puts f t b l).parties)) = true
      rw [epar]; exact this
  · exact h
theorem NS.WF.step {S : NS} (h : S.WF) : S.step.WF := by
  have h0 := total_nonneg (mdel S.now S.due)
  have h1 := total_del S.now S.due
  have hn := h.now
  have hr := h.room
  have hw := h.way
  have ha : ((S.at_ S.now).length : Int) = ((mlook S.now S.due).getD []).length := rfl
  refine ⟨?_, ?_, ?_, h.next, nodup_del h.nodup, h.par, fun p hp c hc => h.ends p (mem_del h.nodup hp).1 c hc⟩
  · show S.way - _ = total (mdel S.now S.due); rw [h1, hw, ha]
  · show total (mdel S.now S.due) ≤ 4096; omega
  · show 0 ≤ S.now + 1; omega
theorem NS.WF.setCut {S : NS} (h : S.WF) (f t : Int) (b : Bool) : (S.setCut f t b).WF := by
  unfold NS.setCut
  split
  · exact ⟨h.way, h.room, h.now, h.next, h.nodup, h.par, h.ends⟩
  · exact h
theorem NS.WF.at_ends {S : NS} (h : S.WF) (k : Int) : ∀ c ∈ S.at_ k, 0 ≤ c.f ∧ c.f < 16 ∧ 0 ≤ c.t ∧ c.t < 16 := by
  intro c hc
  unfold NS.at_ at hc
  cases hl : mlook k S.due with
  | none => rw [hl] at hc; simp at hc
  | some l =>
    rw [hl] at hc
    have := h.ends _ (look_mem hl) c hc
    have hp := h.par
    unfold NS.party at this
    simp only [Bool.and_eq_true, decide_eq_true_eq] at this
    omega
theorem NS.WF.at_len {S : NS} (h : S.WF) (k : Int) : (S.at_ k).length ≤ 4096 := by
  have := total_at k S.due
  have := h.room
  have e : ((S.at_ k).length : Int) = ((mlook k S.due).getD []).length := rfl
  omega
theorem NS.WF.at_way {S : NS} (h : S.WF) (k : Int) : ((S.at_ k).length : Int) ≤ S.way ∧ 0 ≤ S.way ∧ S.way ≤ 4096 := by
  have := total_at k S.due
  have := total_nonneg S.due
  have := h.room
  have := h.way
  have e : ((S.at_ k).length : Int) = ((mlook k S.due).getD []).length := rfl
  omega
end Go.Proofs.Ytcjbmbljmmakfaa
