/- The plain law of NetOnce. -/
import Derived.Test.YtcjbmbljmmakfaaRoom
namespace Go.Proofs.Ytcjbmbljmmakfaa
open Go.Bz

/-- A letter's numbers: from, to, later, later. -/
structure Q4 where
  (a b c d : Int)
def Q4.fate (e : Q4) : List Int := [e.c % 50, e.d % 50]
def Q4.lt (e : Q4) (i : Nat) : Lt := ⟨e.a % 3, e.b % 3, [(i : Int)]⟩
def Q4.ok (e : Q4) : Prop := (0 ≤ e.a ∧ e.a ≤ 255) ∧ (0 ≤ e.b ∧ e.b ≤ 255) ∧ (0 ≤ e.c ∧ e.c ≤ 255) ∧ (0 ≤ e.d ∧ e.d ≤ 255)
/-- Which letters are due with a tick, of those from number i on. -/
def wantsFrom (tick : Int) : List Q4 → Nat → List Nat
  | [], _ => []
  | e :: r, i => ((e.fate.filter fun k => decide (k = tick)).map fun _ => i) ++ wantsFrom tick r (i + 1)
def wants (tick : Int) (E : List Q4) : List Nat := wantsFrom tick E 0
theorem wantsFrom_snoc (tick : Int) (e : Q4) : ∀ (E : List Q4) (i : Nat), wantsFrom tick (E ++ [e]) i = wantsFrom tick E i ++ (e.fate.filter fun k => decide (k = tick)).map fun _ => i + E.length
  | [], i => by simp [wantsFrom]
  | x :: r, i => by
    rw [List.cons_append, wantsFrom, wantsFrom, wantsFrom_snoc tick e r (i + 1), List.append_assoc]
    simp [Nat.add_comm, Nat.add_left_comm, Nat.add_assoc]
theorem wants_snoc (tick : Int) (E : List Q4) (e : Q4) : wants tick (E ++ [e]) = wants tick E ++ (e.fate.filter fun k => decide (k = tick)).map fun _ => E.length := by
  unfold wants; rw [wantsFrom_snoc]; simp
theorem wantsFrom_lt (tick : Int) : ∀ (E : List Q4) (i : Nat), ∀ j ∈ wantsFrom tick E i, j < i + E.length
  | [], i => by simp [wantsFrom]
  | x :: r, i => by
    intro j hj
    rw [wantsFrom, List.mem_append] at hj
    rcases hj with hj | hj
    · obtain ⟨_, _, rfl⟩ := List.mem_map.1 hj; simp
    · have := wantsFrom_lt tick r (i + 1) j hj; simp; omega
theorem wants_lt (tick : Int) (E : List Q4) : ∀ j ∈ wants tick E, j < E.length := fun j hj => by have := wantsFrom_lt tick E 0 j hj; omega
theorem wantsFrom_len (tick : Int) : ∀ (E : List Q4) (i : Nat), (wantsFrom tick E i).length ≤ 2 * E.length
  | [], i => by simp [wantsFrom]
  | x :: r, i => by
    have := wantsFrom_len tick r (i + 1)
    rw [wantsFrom, List.length_append, List.length_map]
    have h2 := List.length_filter_le (fun k => decide (k = tick)) x.fate
    simp [Q4.fate] at h2 ⊢
    omega
theorem wants_len (tick : Int) (E : List Q4) : (wants tick E).length ≤ 2 * E.length := wantsFrom_len tick E 0
/-- What lies at a tick, behind so many Sends. -/
def onceAt (E : List Q4) (tick : Int) : List Lt := (wants tick E).map fun i => ((E[i]?).getD ⟨0, 0, 0, 0⟩).lt i
theorem onceAt_snoc (E : List Q4) (e : Q4) (tick : Int) : onceAt (E ++ [e]) tick = onceAt E tick ++ (e.fate.filter fun k => decide (k = tick)).map fun _ => e.lt E.length := by
  unfold onceAt
  rw [wants_snoc, List.map_append]
  congr 1
  · apply List.map_congr_left
    intro i hi
    have := wants_lt tick E i hi
    rw [List.getElem?_append_left this]
  · rw [List.map_map]
    apply List.map_congr_left
    intro i _
    simp
/-- .. behind ticks, too. -/
structure OnceS (S : NS) (E : List Q4) (n j : Nat) : Prop where
  wf : S.WF
  now : S.now = j
  way : j = 0 → S.way = 2 * n
  next : S.next = 2 * n
  par : S.parties = 3
  cut : ∀ i, S.cut i = false
  lts : ∀ k, S.lts k = if (j : Int) ≤ k then onceAt (E.take n) k else []
theorem OnceS.new (E : List Q4) : OnceS (NS.new 3) E 0 0 := ⟨NS.new_wf (by decide), rfl, fun _ => rfl, rfl, rfl, fun _ => rfl, fun k => by rw [NS.lts_new]; split <;> rfl⟩
theorem OnceS.send {S : NS} {E : List Q4} {n : Nat} (h : OnceS S E n 0) {e : Q4} (he : E[n]? = some e) (hq : e.ok) (hn : n < 30) :
    S.err (e.a % 3) (e.b % 3) ([(n : Int)] : List Int).length e.fate = 0 ∧ OnceS (S.send (e.a % 3) (e.b % 3) [(n : Int)] e.fate) E (n + 1) 0 := by
  obtain ⟨⟨a0, a1⟩, ⟨b0, b1⟩, ⟨c0, c1⟩, ⟨d0, d1⟩⟩ := hq
  have hp1 : S.party (e.a % 3) = true := by unfold NS.party; rw [h.par]; simp; omega
  have hp2 : S.party (e.b % 3) = true := by unfold NS.party; rw [h.par]; simp; omega
  have hl : lateOf e.fate = false := by unfold lateOf Q4.fate; simp; omega
  have herr : S.err (e.a % 3) (e.b % 3) ([(n : Int)] : List Int).length e.fate = 0 := by
    unfold NS.err
    rw [if_neg (by simp [hp1, hp2]), if_neg (by simp), if_neg (by simp [hl]), if_neg (by rw [h.way rfl]; simp [Q4.fate]; omega)]
  obtain ⟨q1, q2, q3, q4, q5, q6⟩ := NS.send_ok herr h.wf.nodup
  have hlt : n < E.length := (List.getElem?_eq_some_iff.1 he).1
  have htk : E.take (n + 1) = E.take n ++ [e] := by rw [List.take_add_one, he]; rfl
  have hlen : (E.take n).length = n := by rw [List.length_take]; omega
  refine ⟨herr, ⟨h.wf.send .., q2.trans h.now, fun _ => by rw [q3, h.way rfl]; simp [Q4.fate]; omega, by rw [q4, h.next]; simp [Q4.fate]; omega, q1.trans h.par, fun i => by rw [q5]; exact h.cut i, fun k => ?_⟩⟩
  rw [q6, h.lts, h.now, htk, onceAt_snoc, hlen]
  by_cases hk : (0 : Int) ≤ k
  · simp only [Int.ofNat_eq_natCast, Int.natCast_zero]
    rw [if_pos hk, if_pos hk]
    congr 1
    simp [Q4.lt]
  · simp only [Int.ofNat_eq_natCast, Int.natCast_zero]
    rw [if_neg hk, if_neg hk, List.nil_append]
    have : e.fate.filter (fun j => decide ((0 : Int) + j = k)) = [] := by
      unfold Q4.fate
      rw [List.filter_eq_nil_iff]
      intro j hj
      simp at hj ⊢
      omega
    rw [this]; rfl
theorem OnceS.come {S : NS} {E : List Q4} {n j : Nat} (h : OnceS S E n j) : S.come.map Cp.lt = onceAt (E.take n) j := by
  rw [NS.come_all h.cut, h.now, h.lts, if_pos (by omega)]
theorem OnceS.step {S : NS} {E : List Q4} {n j : Nat} (h : OnceS S E n j) : OnceS S.step E n (j + 1) := by
  refine ⟨h.wf.step, ?_, fun h0 => by omega, h.next, h.par, h.cut, fun k => ?_⟩
  · show S.now + 1 = _; rw [h.now]; simp
  · rw [NS.lts_step h.wf, h.lts, h.now]
    by_cases hk : (j : Int) = k
    · rw [if_pos hk, if_neg (by omega)]
    · rw [if_neg hk]
      by_cases hk2 : (j : Int) ≤ k
      · rw [if_pos hk2, if_pos (by omega)]
      · rw [if_neg hk2, if_neg (by omega)]
theorem onceAt_b (E : List Q4) (tick : Int) : ∀ x ∈ onceAt E tick, x.b.length ≤ 65536 := by
  intro x hx
  unfold onceAt at hx
  obtain ⟨i, _, rfl⟩ := List.mem_map.1 hx
  simp [Q4.lt]
theorem OnceS.small {S : NS} {E : List Q4} {n j : Nat} (h : OnceS S E n j) : ∀ c ∈ S.at_ S.now, c.b.length ≤ 65536 := NS.bytes_of (fun x hx => by
  rw [h.lts] at hx
  split at hx
  · exact onceAt_b _ _ x hx
  · simp at hx)
/-- Where nothing lies at any tick, nothing is on its way. -/
theorem NS.WF.way_zero {S : NS} (h : S.WF) (h0 : ∀ k, S.lts k = []) : S.way = 0 := by
  have key : ∀ p ∈ S.due, p.2 = [] := fun p hp => by
    have h1 := mem_look h.nodup p hp
    have h2 := h0 p.1
    unfold NS.lts NS.at_ at h2
    rw [h1] at h2
    simpa using h2
  rw [h.way]
  have : ∀ l : List (Int × List Cp), (∀ p ∈ l, p.2 = []) → total l = 0 := by
    intro l
    induction l with
    | nil => intro _; rfl
    | cons a r ih =>
      intro hl
      have h1 := ih (fun p hp => hl p (List.mem_cons_of_mem _ hp))
      have h2 := hl a (by simp)
      simp only [total, List.map_cons, List.sum_cons] at h1 ⊢
      rw [h2, h1]; rfl
  exact this _ key
theorem wants_none {E : List Q4} {tick : Int} (h : ∀ e ∈ E, ∀ k ∈ e.fate, k ≠ tick) : ∀ i, wantsFrom tick E i = [] := by
  induction E with
  | nil => intro i; rfl
  | cons e r ih =>
    intro i
    rw [wantsFrom, ih (fun e' he' => h e' (List.mem_cons_of_mem _ he'))]
    have : e.fate.filter (fun k => decide (k = tick)) = [] := by
      rw [List.filter_eq_nil_iff]
      intro k hk
      simpa using h e (by simp) k hk
    rw [this]; rfl
theorem OnceS.done {S : NS} {E : List Q4} {n : Nat} (h : OnceS S E n 50) (hok : ∀ e ∈ E, e.ok) : S.way = 0 := by
  refine h.wf.way_zero (fun k => ?_)
  rw [h.lts]
  split
  · rename_i hk
    unfold onceAt wants
    rw [wants_none (fun e he q hq => ?_)]
    · rfl
    · have := hok e (List.mem_of_mem_take he)
      unfold Q4.ok at this
      unfold Q4.fate at hq
      simp at hq
      have h50 : ((50 : Nat) : Int) ≤ k := hk
      rcases hq with rfl | rfl <;> omega
  · rfl
end Go.Proofs.Ytcjbmbljmmakfaa
