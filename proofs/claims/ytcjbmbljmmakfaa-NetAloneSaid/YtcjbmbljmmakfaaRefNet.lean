/- The document's net, and the plain law that it goes as the other one does; nothing of Go. -/
import Derived.Laws.BytesArg
import Derived.Test.YtcjbmbljmmakfaaLts
namespace Go.Proofs.Ytcjbmbljmmakfaa
open Go.Bz

/-- A string's bytes. -/
def strB (s : ByteArray) : List Int := s.data.toList.map fun b => (b.toNat : Int)
theorem strOf_strB (s : ByteArray) : strOfNums (strB s) = s := by
  unfold strOfNums strB
  rw [List.map_map]
  have : (fun n : Int => UInt8.ofNat n.toNat) ∘ (fun b : UInt8 => (b.toNat : Int)) = id := by
    funext b
    simp
  rw [this, List.map_id, Array.toArray_toList]
theorem strB_len (s : ByteArray) : (strB s).length = s.size := by unfold strB; rw [List.length_map, Array.length_toList]; rfl
structure RC where
  (f t : Int) (s : ByteArray) (due : Int)
def RC.lt (c : RC) : Lt := ⟨c.f, c.t, strB c.s⟩
structure RN where
  (P now : Int) (way : List RC) (cuts : List (Int × Int))
def RN.new (p : Int) : RN := ⟨p, 0, [], []⟩
def RN.party (R : RN) (i : Int) : Bool := decide (0 ≤ i) && decide (i < R.P)
def RN.err (R : RN) (f t : Int) (n : Nat) (l : List Int) : Int :=
  if R.party f = false ∨ R.party t = false then 28 else if 65536 < n then 5 else if lateOf l = true then 2 else if 4096 < (R.way.length : Int) + l.length then 8 else 0
def RN.send (R : RN) (f t : Int) (s : ByteArray) (l : List Int) : RN := if R.err f t s.size l = 0 then { R with way := R.way ++ l.map fun k => ⟨f, t, s, R.now + k⟩ } else R
def RN.isCut (R : RN) (f t : Int) : Bool := decide ((f, t) ∈ R.cuts)
def RN.out (R : RN) : List RC := R.way.filter fun c => decide (c.due = R.now) && !R.isCut c.f c.t
def RN.step (R : RN) : RN := { R with way := R.way.filter fun c => !decide (c.due = R.now), now := R.now + 1 }
def RN.cutErr (R : RN) (f t : Int) : Int := if R.party f = false ∨ R.party t = false then 28 else 0
def RN.setCut (R : RN) (f t : Int) (b : Bool) : RN := if R.cutErr f t = 0 then { R with cuts := (R.cuts.filter fun p => !decide (p = (f, t))) ++ (if b = true then [(f, t)] else []) } else R
def RN.at_ (R : RN) (k : Int) : List Lt := (R.way.filter fun c => decide (c.due = k)).map RC.lt
/-- Both are alike. -/
structure Sim (S : NS) (R : RN) : Prop where
  wf : S.WF
  par : R.P = S.parties
  now : R.now = S.now
  way : S.way = R.way.length
  lts : ∀ k, S.lts k = R.at_ k
  cut : ∀ f t, S.party f = true → S.party t = true → S.cut (f.toNat * 16 + t.toNat) = R.isCut f t
theorem Sim.new {p : Int} (h : 1 ≤ p ∧ p ≤ 16) : Sim (NS.new p) (RN.new p) := ⟨NS.new_wf h, rfl, rfl, rfl, fun _ => rfl, fun _ _ _ _ => rfl⟩
theorem Sim.party {S : NS} {R : RN} (h : Sim S R) (i : Int) : R.party i = S.party i := by unfold RN.party NS.party; rw [h.par]
theorem Sim.err {S : NS} {R : RN} (h : Sim S R) (f t : Int) (s : ByteArray) (l : List Int) : R.err f t s.size l = S.err f t (strB s).length l := by
  unfold RN.err NS.err
  rw [h.party, h.party, strB_len, h.way]
theorem Sim.send {S : NS} {R : RN} (h : Sim S R) (f t : Int) (s : ByteArray) (l : List Int) : Sim (S.send f t (strB s) l) (R.send f t s l) := by
  have he := h.err f t s l
  by_cases h0 : S.err f t (strB s).length l = 0
  · obtain ⟨q1, q2, q3, q4, q5, q6⟩ := NS.send_ok (b := strB s) h0 h.wf.nodup
    have eR : R.send f t s l = { R with way := R.way ++ l.map fun k => ⟨f, t, s, R.now + k⟩ } := by unfold RN.send; rw [if_pos (he.trans h0)]
    rw [eR]
    refine ⟨h.wf.send .., h.par.trans q1.symm, h.now.trans q2.symm, by rw [q3, h.way]; simp, fun k => ?_, fun a b ha hb => ?_⟩
    · rw [q6, h.lts]
      unfold RN.at_
      simp only [List.filter_append, List.map_append, List.filter_map, List.map_map, h.now]
      rfl
    · rw [q5]
      unfold NS.party at ha hb
      rw [q1] at ha hb
      exact h.cut a b ha hb
  · rw [NS.send_no h0]
    have eR : R.send f t s l = R := by unfold RN.send; rw [if_neg (fun e => h0 (he.symm.trans e))]
    rw [eR]
    exact h
theorem NS.WF.at_party {S : NS} (h : S.WF) {k : Int} {x : Lt} (hx : x ∈ S.lts k) : S.party x.f = true ∧ S.party x.t = true := by
  unfold NS.lts at hx
  obtain ⟨c, hc, rfl⟩ := List.mem_map.1 hx
  unfold NS.at_ at hc
  cases hl : mlook k S.due with
  | none => rw [hl] at hc; simp at hc
  | some l =>
    rw [hl] at hc
    exact h.ends _ (look_mem hl) c hc
theorem Sim.out {S : NS} {R : RN} (h : Sim S R) : R.out.map RC.lt = S.come.map Cp.lt := by
  rw [NS.come_lt, h.lts, ← h.now]
  unfold RN.at_ RN.out
  rw [List.filter_map, ← List.filter_filter]
  have e : (R.way.filter fun c => !R.isCut c.f c.t).filter (fun c => decide (c.due = R.now)) = (R.way.filter fun c => decide (c.due = R.now)).filter (fun c => !R.isCut c.f c.t) := by
    rw [List.filter_filter, List.filter_filter]
    congr 1
    funext c
    exact Bool.and_comm _ _
  rw [e]
  congr 1
  refine List.filter_congr fun c hc => ?_
  have hm : c.lt ∈ S.lts S.now := by
    rw [h.lts, ← h.now]
    exact List.mem_map.2 ⟨c, hc, rfl⟩
  have hp := h.wf.at_party hm
  show (!R.isCut c.f c.t) = !S.cut (c.f.toNat * 16 + c.t.toNat)
  rw [h.cut c.f c.t hp.1 hp.2]
theorem filter_parts {α : Type} (p : α → Bool) : ∀ l : List α, (l.filter p).length + (l.filter fun x => !p x).length = l.length
  | [] => rfl
  | x :: r => by
    have := filter_parts p r
    cases hx : p x <;> simp [hx] <;> omega
theorem Sim.step {S : NS} {R : RN} (h : Sim S R) : Sim S.step R.step := by
  refine ⟨h.wf.step, h.par, ?_, ?_, fun k => ?_, fun a b ha hb => h.cut a b ha hb⟩
  · show R.now + 1 = S.now + 1; rw [h.now]
  · show S.way - (S.at_ S.now).length = ((R.way.filter fun c => !decide (c.due = R.now)).length : Int)
    rw [NS.lts_len, h.lts, h.way, ← h.now]
    have := filter_parts (fun c : RC => decide (c.due = R.now)) R.way
    unfold RN.at_
    rw [List.length_map]
    omega
  · rw [NS.lts_step h.wf, h.lts]
    unfold RN.at_ RN.step
    simp only [List.filter_filter]
    by_cases hk : S.now = k
    · subst hk
      rw [if_pos rfl]
      symm
      rw [List.map_eq_nil_iff, List.filter_eq_nil_iff]
      intro c _
      rw [h.now]
      cases decide (c.due = S.now) <;> decide
    · rw [if_neg hk]
      congr 1
      refine List.filter_congr fun c _ => ?_
      rw [h.now]
      by_cases hc : c.due = k
      · simp [hc]; exact fun e => hk e.symm
      · simp [hc]
theorem Sim.cutErr {S : NS} {R : RN} (h : Sim S R) (f t : Int) : R.cutErr f t = S.cutErr f t := by
  unfold RN.cutErr NS.cutErr
  rw [h.party, h.party]
theorem Sim.setCut {S : NS} {R : RN} (h : Sim S R) (f t : Int) (b : Bool) : Sim (S.setCut f t b) (R.setCut f t b) := by
  have he := h.cutErr f t
  have hwf := h.wf.setCut f t b
  by_cases h0 : S.cutErr f t = 0
  · have eS : S.setCut f t b = { S with cut := fun i => if i = f.toNat * 16 + t.toNat then b else S.cut i } := by unfold NS.setCut; rw [if_pos h0]
    have eR : R.setCut f t b = { R with cuts := (R.cuts.filter fun p => !decide (p = (f, t))) ++ (if b = true then [(f, t)] else []) } := by unfold RN.setCut; rw [if_pos (he.trans h0)]
    rw [eS] at hwf
    rw [eS, eR]
    refine ⟨hwf, h.par, h.now, h.way, h.lts, fun x y hx hy => ?_⟩
    have hp := h.wf.par
    have hft : S.party f = true ∧ S.party t = true := by
      unfold NS.cutErr at h0
      split at h0
      · cases h0
      · rename_i hh
        exact ⟨by simpa using fun e => hh (.inl e), by simpa using fun e => hh (.inr e)⟩
    have hx' : S.party x = true := hx
    have hy' : S.party y = true := hy
    have hc := h.cut x y hx' hy'
    unfold RN.isCut at hc
    show (if x.toNat * 16 + y.toNat = f.toNat * 16 + t.toNat then b else S.cut (x.toNat * 16 + y.toNat)) = decide ((x, y) ∈ (R.cuts.filter fun p => !decide (p = (f, t))) ++ (if b = true then [(f, t)] else []))
    unfold NS.party at hft hx' hy'
    simp only [Bool.and_eq_true, decide_eq_true_eq] at hft hx' hy'
    by_cases hxy : x = f ∧ y = t
    · obtain ⟨rfl, rfl⟩ := hxy
      rw [if_pos rfl]
      cases b <;> simp
    · have hne : ¬ (x.toNat * 16 + y.toNat = f.toNat * 16 + t.toNat) := by
        intro e
        apply hxy
        constructor <;> omega
      have hne2 : ¬ ((x, y) = (f, t)) := by
        intro e
        cases e
        exact hxy ⟨rfl, rfl⟩
      rw [if_neg hne, hc]
      congr 1
      apply propext
      rw [List.mem_append, List.mem_filter]
      constructor
      · intro hm; exact .inl ⟨hm, by rw [decide_eq_false hne2]; rfl⟩
      · rintro (⟨hm, _⟩ | hm)
        · exact hm
        · cases b
          · simp at hm
          · simp at hm; exact absurd hm hxy
  · have eS : S.setCut f t b = S := by unfold NS.setCut; rw [if_neg h0]
    have eR : R.setCut f t b = R := by unfold RN.setCut; rw [if_neg (fun e => h0 (he.symm.trans e))]
    rw [eS, eR]
    exact h
/-- .. behind so many deeds with letters of 100 bytes. -/
structure ActS (S : NS) (R : RN) (k : Nat) : Prop where
  sim : Sim S R
  now : S.now ≤ k
  next : S.next ≤ 8 * k
  small : ∀ i, ∀ x ∈ S.lts i, x.b.length ≤ 100
theorem ActS.new {p : Int} (h : 1 ≤ p ∧ p ≤ 16) : ActS (NS.new p) (RN.new p) 0 := ⟨Sim.new h, by show (0 : Int) ≤ _; omega, by show (0 : Int) ≤ _; omega, fun i x hx => by rw [NS.lts_new] at hx; cases hx⟩
theorem ActS.send {S : NS} {R : RN} {k : Nat} (h : ActS S R k) (f t : Int) (s : ByteArray) (l : List Int) (hs : s.size ≤ 100) : ActS (S.send f t (strB s) l) (R.send f t s l) (k + 1) := by
  have h1 := h.now
  have h2 := h.next
  by_cases h0 : S.err f t (strB s).length l = 0
  · obtain ⟨q1, q2, q3, q4, q5, q6⟩ := NS.send_ok (b := strB s) h0 h.sim.wf.nodup
    have hl : l.length ≤ 8 := by
      unfold NS.err at h0
      split at h0
      · cases h0
      split at h0
      · cases h0
      split at h0
      · cases h0
      · rename_i hh
        unfold lateOf at hh
        simp at hh
        omega
    refine ⟨h.sim.send .., by rw [q2]; omega, by rw [q4]; omega, fun i x hx => ?_⟩
    rw [q6] at hx
    rcases List.mem_append.1 hx with hx | hx
    · exact h.small i x hx
    · obtain ⟨_, _, rfl⟩ := List.mem_map.1 hx
      simp only
      rw [strB_len]
      exact hs
  · have e := NS.send_no h0
    have := h.sim.send f t s l
    rw [e] at this ⊢
    exact ⟨this, by omega, by omega, h.small⟩
theorem ActS.step {S : NS} {R : RN} {k : Nat} (h : ActS S R k) : ActS S.step R.step (k + 1) := by
  have h1 := h.now
  have h2 := h.next
  refine ⟨h.sim.step, ?_, ?_, fun i x hx => ?_⟩
  · show S.now + 1 ≤ _; omega
  · show S.next ≤ _; omega
  · rw [NS.lts_step h.sim.wf] at hx
    split at hx
    · cases hx
    · exact h.small i x hx
theorem ActS.setCut {S : NS} {R : RN} {k : Nat} (h : ActS S R k) (f t : Int) (b : Bool) : ActS (S.setCut f t b) (R.setCut f t b) (k + 1) := by
  have h1 := h.now
  have h2 := h.next
  have h3 := h.sim.setCut f t b
  have e : (S.setCut f t b).now = S.now ∧ (S.setCut f t b).next = S.next ∧ ∀ i, (S.setCut f t b).lts i = S.lts i := by
    unfold NS.setCut
    split
    · exact ⟨rfl, rfl, fun _ => rfl⟩
    · exact ⟨rfl, rfl, fun _ => rfl⟩
  refine ⟨h3, by rw [e.1]; omega, by rw [e.2.1]; omega, fun i x hx => ?_⟩
  rw [e.2.2] at hx
  exact h.small i x hx
theorem ActS.more {S : NS} {R : RN} {k : Nat} (h : ActS S R k) : ActS S R (k + 1) := ⟨h.sim, by have := h.now; omega, by have := h.next; omega, h.small⟩
end Go.Proofs.Ytcjbmbljmmakfaa
