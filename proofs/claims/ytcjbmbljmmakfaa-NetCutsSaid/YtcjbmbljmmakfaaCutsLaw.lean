/- The plain law of NetCuts. -/
import Derived.Test.YtcjbmbljmmakfaaOnceLaw
namespace Go.Proofs.Ytcjbmbljmmakfaa
open Go.Bz

/-- A letter's numbers: from, to, later. -/
structure T3 where
  (a b c : Int)
def T3.ok (e : T3) : Prop := (0 ≤ e.a ∧ e.a ≤ 255) ∧ (0 ≤ e.b ∧ e.b ≤ 255) ∧ (0 ≤ e.c ∧ e.c ≤ 255)
def eAt3 (E : List T3) (i : Nat) : T3 := (E[i]?).getD ⟨0, 0, 0⟩
def T3.lt (e : T3) (i : Nat) : Lt := ⟨e.a % 3, e.b % 3, [(i : Int)]⟩
/-- Which of the first n letters are due with a tick. -/
def dueIx (E : List T3) (n : Nat) (k : Int) : List Nat := (List.range n).filter fun i => decide ((eAt3 E i).c % 40 = k)
def dueLt (E : List T3) (n : Nat) (k : Int) : List Lt := (dueIx E n k).map fun i => (eAt3 E i).lt i
/-- A way and a span. -/
structure Way where
  (a b s t : Int)
def Way.on (q : Way) (k : Int) : Bool := decide (q.s ≤ k) && decide (k < q.t)
def Way.lost (q : Way) (e : T3) : Bool := decide (e.a % 3 = q.a) && decide (e.b % 3 = q.b) && q.on (e.c % 40)
def Way.ok (q : Way) : Prop := (0 ≤ q.a ∧ q.a ≤ 2) ∧ (0 ≤ q.b ∧ q.b ≤ 2)
/-- Behind n Sends and j ticks. -/
structure CutS (S : NS) (E : List T3) (q : Way) (n j : Nat) : Prop where
  wf : S.WF
  now : S.now = j
  way : j = 0 → S.way = n
  next : S.next = n
  par : S.parties = 3
  cut : ∀ f t : Int, 0 ≤ f → f < 3 → 0 ≤ t → t < 3 → ¬ (f = q.a ∧ t = q.b) → S.cut (f.toNat * 16 + t.toNat) = false
  lts : ∀ k, S.lts k = if (j : Int) ≤ k then dueLt E n k else []
theorem CutS.new (E : List T3) (q : Way) : CutS (NS.new 3) E q 0 0 := ⟨NS.new_wf (by decide), rfl, fun _ => rfl, rfl, rfl, fun _ _ _ _ _ _ _ => rfl, fun k => by rw [NS.lts_new]; split <;> rfl⟩
theorem dueIx_snoc (E : List T3) (n : Nat) (k : Int) : dueIx E (n + 1) k = dueIx E n k ++ if (eAt3 E n).c % 40 = k then [n] else [] := by
  unfold dueIx
  rw [List.range_succ, List.filter_append]
  congr 1
  by_cases h : (eAt3 E n).c % 40 = k
  · simp [h]
  · simp [h]
theorem CutS.send {S : NS} {E : List T3} {q : Way} {n : Nat} (h : CutS S E q n 0) {e : T3} (he : E[n]? = some e) (hq : e.ok) (hn : n < 30) :
    S.err (e.a % 3) (e.b % 3) ([(n : Int)] : List Int).length [e.c % 40] = 0 ∧ CutS (S.send (e.a % 3) (e.b % 3) [(n : Int)] [e.c % 40]) E q (n + 1) 0 := by
  obtain ⟨⟨a0, a1⟩, ⟨b0, b1⟩, ⟨c0, c1⟩⟩ := hq
  have hp1 : S.party (e.a % 3) = true := by unfold NS.party; rw [h.par]; simp; omega
  have hp2 : S.party (e.b % 3) = true := by unfold NS.party; rw [h.par]; simp; omega
  have hl : lateOf [e.c % 40] = false := by unfold lateOf; simp; omega
  have herr : S.err (e.a % 3) (e.b % 3) ([(n : Int)] : List Int).length [e.c % 40] = 0 := by
    unfold NS.err
    rw [if_neg (by simp [hp1, hp2]), if_neg (by simp), if_neg (by simp [hl]), if_neg (by rw [h.way rfl]; simp; omega)]
  obtain ⟨q1, q2, q3, q4, q5, q6⟩ := NS.send_ok herr h.wf.nodup
  have hee : eAt3 E n = e := by unfold eAt3; rw [he]; rfl
  refine ⟨herr, ⟨h.wf.send .., q2.trans h.now, fun _ => by rw [q3, h.way rfl]; simp, by rw [q4, h.next]; simp, q1.trans h.par, fun f t h0 h1 h2 h3 h4 => by rw [q5]; exact h.cut f t h0 h1 h2 h3 h4, fun k => ?_⟩⟩
  rw [q6, h.lts, h.now]
  unfold dueLt
  rw [dueIx_snoc, List.map_append, hee]
  by_cases hk : (0 : Int) ≤ k
  · simp only [Int.ofNat_eq_natCast, Int.natCast_zero]
    rw [if_pos hk, if_pos hk]
    congr 1
    by_cases hc : e.c % 40 = k
    · simp [hc, hee, T3.lt]
    · simp [hc]
  · simp only [Int.ofNat_eq_natCast, Int.natCast_zero]
    rw [if_neg hk, if_neg hk, List.nil_append]
    have : ([e.c % 40] : List Int).filter (fun j => decide ((0 : Int) + j = k)) = [] := by
      rw [List.filter_eq_nil_iff]
      intro j hj
      simp at hj ⊢
      omega
    rw [this]; rfl
/-- What comes with tick j, if its way is cut in its span. -/
def cameIx (E : List T3) (q : Way) (n : Nat) (j : Nat) : List Nat := (dueIx E n j).filter fun i => !q.lost (eAt3 E i)
theorem setCut_facts {S : NS} {q : Way} (hq : q.ok) (hp : S.parties = 3) (b : Bool) : S.cutErr q.a q.b = 0 ∧ S.setCut q.a q.b b = { S with cut := fun i => if i = q.a.toNat * 16 + q.b.toNat then b else S.cut i } := by
  obtain ⟨⟨a0, a1⟩, b0, b1⟩ := hq
  have he : S.cutErr q.a q.b = 0 := by
    unfold NS.cutErr NS.party
    rw [hp]
    rw [if_neg]
    simp
    omega
  exact ⟨he, by unfold NS.setCut; rw [if_pos he]⟩
theorem eAt3_ok {E : List T3} (hok : ∀ e ∈ E, e.ok) (i : Nat) : (eAt3 E i).ok := by
  unfold eAt3
  cases h : E[i]? with
  | none => exact (by unfold T3.ok; simp)
  | some e => exact hok e (List.mem_of_getElem? h)
theorem CutS.tick {S : NS} {E : List T3} {q : Way} {n j : Nat} (h : CutS S E q n j) (hq : q.ok) (hok : ∀ e ∈ E, e.ok) :
    (S.setCut q.a q.b (q.on j)).WF ∧ (S.setCut q.a q.b (q.on j)).now = j ∧ (∀ c ∈ (S.setCut q.a q.b (q.on j)).at_ (S.setCut q.a q.b (q.on j)).now, c.b.length ≤ 65536) ∧
    (S.setCut q.a q.b (q.on j)).come.map Cp.lt = (cameIx E q n j).map (fun i => (eAt3 E i).lt i) ∧ CutS (S.setCut q.a q.b (q.on j)).step E q n (j + 1) := by
  obtain ⟨he, hS⟩ := setCut_facts hq h.par (q.on j)
  have hwf := h.wf.setCut q.a q.b (q.on j)
  have hnow : (S.setCut q.a q.b (q.on j)).now = j := by rw [hS]; exact h.now
  have hlts : ∀ k, (S.setCut q.a q.b (q.on j)).lts k = if (j : Int) ≤ k then dueLt E n k else [] := fun k => by rw [hS]; exact h.lts k
  have hcut : ∀ f t : Int, 0 ≤ f → f < 3 → 0 ≤ t → t < 3 → (S.setCut q.a q.b (q.on j)).cut (f.toNat * 16 + t.toNat) = (decide (f = q.a) && decide (t = q.b) && q.on j) := by
    intro f t h0 h1 h2 h3
    obtain ⟨⟨a0, a1⟩, b0, b1⟩ := hq
    rw [hS]
    show (if f.toNat * 16 + t.toNat = q.a.toNat * 16 + q.b.toNat then q.on j else S.cut (f.toNat * 16 + t.toNat)) = _
    by_cases hab : f = q.a ∧ t = q.b
    · obtain ⟨rfl, rfl⟩ := hab
      simp
    · rw [if_neg (fun e => hab (by constructor <;> omega)), h.cut f t h0 h1 h2 h3 hab]
      by_cases hf : f = q.a
      · have ht : ¬ t = q.b := fun e => hab ⟨hf, e⟩
        simp [ht]
      · simp [hf]
  refine ⟨hwf, hnow, ?_, ?_, ?_⟩
  · refine NS.bytes_of (fun x hx => ?_)
    rw [hlts] at hx
    split at hx
    · unfold dueLt at hx
      obtain ⟨i, _, rfl⟩ := List.mem_map.1 hx
      simp [T3.lt]
    · cases hx
  · rw [NS.come_lt, hnow, hlts, if_pos (Int.le_refl _)]
    unfold dueLt cameIx
    rw [List.filter_map]
    congr 1
    refine List.filter_congr fun i hi => ?_
    have hc : (eAt3 E i).c % 40 = j := by
      unfold dueIx at hi
      rw [List.mem_filter] at hi
      simpa using hi.2
    show (!(S.setCut q.a q.b (q.on j)).cut (((eAt3 E i).lt i).f.toNat * 16 + ((eAt3 E i).lt i).t.toNat)) = !q.lost (eAt3 E i)
    obtain ⟨⟨a0, _⟩, ⟨b0, _⟩, _⟩ := eAt3_ok hok i
    rw [hcut _ _ (by unfold T3.lt; simp only; omega) (by unfold T3.lt; simp only; omega) (by unfold T3.lt; simp only; omega) (by unfold T3.lt; simp only; omega)]
    unfold Way.lost
    rw [hc]
    rfl
  · refine ⟨hwf.step, ?_, fun h0 => by omega, ?_, ?_, ?_, fun k => ?_⟩
    · show (S.setCut q.a q.b (q.on j)).now + 1 = _; rw [hnow]; simp
    · show (S.setCut q.a q.b (q.on j)).next = _; rw [hS]; exact h.next
    · show (S.setCut q.a q.b (q.on j)).parties = _; rw [hS]; exact h.par
    · intro f t h0 h1 h2 h3 hab
      show (S.setCut q.a q.b (q.on j)).cut _ = false
      rw [hcut f t h0 h1 h2 h3]
      by_cases hf : f = q.a
      · have ht : ¬ t = q.b := fun e => hab ⟨hf, e⟩
        simp [ht]
      · simp [hf]
    · rw [NS.lts_step hwf, hlts, hnow]
      by_cases hk : (j : Int) = k
      · rw [if_pos hk, if_neg (by omega)]
      · rw [if_neg hk]
        by_cases hk2 : (j : Int) ≤ k
        · rw [if_pos hk2, if_pos (by omega)]
        · rw [if_neg hk2, if_neg (by omega)]
/-- All that has come before tick j. -/
def allIx (E : List T3) (q : Way) (n j : Nat) : List Nat := (List.range j).flatMap fun k => cameIx E q n k
theorem allIx_succ (E : List T3) (q : Way) (n j : Nat) : allIx E q n (j + 1) = allIx E q n j ++ cameIx E q n j := by
  unfold allIx
  rw [List.range_succ, List.flatMap_append]
  simp
theorem mem_cameIx {E : List T3} {q : Way} {n j i : Nat} : i ∈ cameIx E q n j ↔ i < n ∧ (eAt3 E i).c % 40 = j ∧ q.lost (eAt3 E i) = false := by
  unfold cameIx dueIx
  rw [List.mem_filter, List.mem_filter, List.mem_range]
  simp [and_assoc]
theorem mem_allIx {E : List T3} {q : Way} {n j i : Nat} : i ∈ allIx E q n j ↔ i < n ∧ (eAt3 E i).c % 40 < j ∧ q.lost (eAt3 E i) = false ∧ 0 ≤ (eAt3 E i).c % 40 := by
  unfold allIx
  rw [List.mem_flatMap]
  constructor
  · rintro ⟨k, hk, hi⟩
    rw [List.mem_range] at hk
    obtain ⟨h1, h2, h3⟩ := mem_cameIx.1 hi
    exact ⟨h1, by omega, h3, by omega⟩
  · rintro ⟨h1, h2, h3, h4⟩
    exact ⟨((eAt3 E i).c % 40).toNat, by rw [List.mem_range]; omega, mem_cameIx.2 ⟨h1, by omega, h3⟩⟩
theorem cameIx_nodup (E : List T3) (q : Way) (n j : Nat) : (cameIx E q n j).Nodup := (List.nodup_range.filter _).filter _
/-- One that comes is new. -/
theorem came_new {E : List T3} {q : Way} {n j p i : Nat} (h : (cameIx E q n j)[p]? = some i) : i ∉ allIx E q n j ++ (cameIx E q n j).take p := by
  have hm := mem_cameIx.1 (List.mem_of_getElem? h)
  rw [List.mem_append]
  rintro (h1 | h1)
  · have := (mem_allIx.1 h1).2.1
    omega
  · obtain ⟨r, hr⟩ := List.getElem?_of_mem h1
    rw [List.getElem?_take] at hr
    split at hr
    · have := (List.getElem?_inj (List.getElem?_eq_some_iff.1 h).1 (cameIx_nodup E q n j)).1 (h.trans hr.symm)
      omega
    · cases hr
theorem CutS.done {S : NS} {E : List T3} {q : Way} {n : Nat} (h : CutS S E q n 40) : S.way = 0 := by
  refine h.wf.way_zero (fun k => ?_)
  rw [h.lts]
  by_cases hk : ((40 : Nat) : Int) ≤ k
  · rw [if_pos hk]
    unfold dueLt dueIx
    rw [List.map_eq_nil_iff, List.filter_eq_nil_iff]
    intro i _
    simp
    omega
  · rw [if_neg hk]
theorem came_all {E : List T3} {q : Way} {n i : Nat} (hi : i < n) : decide (i ∈ allIx E q n 40) = !q.lost (eAt3 E i) := by
  cases hl : q.lost (eAt3 E i) with
  | true => simp [mem_allIx, hl]
  | false =>
    simp only [Bool.not_false, decide_eq_true_eq]
    exact mem_allIx.2 ⟨hi, by omega, hl, by omega⟩
end Go.Proofs.Ytcjbmbljmmakfaa
