/- The plain law: what lies at each tick behind Send and Step, number by number forgotten. -/
import Derived.Test.YtcjbmbljmmakfaaStep
namespace Go.Proofs.Ytcjbmbljmmakfaa
open Go.Bz

def NS.lts (S : NS) (k : Int) : List Lt := (S.at_ k).map Cp.lt
theorem NS.lts_new (p k : Int) : (NS.new p).lts k = [] := rfl
theorem NS.lts_puts (f t : Int) (b : List Int) (i : Int) : ∀ (l : List Int) (S : NS), (S.puts f t b l).lts i = S.lts i ++ (l.filter fun k => decide (S.now + k = i)).map fun _ => ⟨f, t, b⟩
  | [], S => by simp [NS.puts]
  | k :: r, S => by
    have e : S.puts f t b (k :: r) = (S.put f t b k).puts f t b r := rfl
    rw [e, NS.lts_puts f t b i r]
    have e1 : (S.put f t b k).lts i = if S.now + k = i then S.lts i ++ [⟨f, t, b⟩] else S.lts i := by
      unfold NS.lts
      rw [NS.at_put]
      split <;> simp [Cp.lt]
    have e2 : (S.put f t b k).now = S.now := rfl
    rw [e1, e2]
    by_cases h : S.now + k = i
    · simp [h]
    · simp [h]
theorem NS.send_ok {S : NS} {f t : Int} {b l : List Int} (h : S.err f t b.length l = 0) (hn : (S.due.map (·.1)).Nodup) :
    (S.send f t b l).parties = S.parties ∧ (S.send f t b l).now = S.now ∧ (S.send f t b l).way = S.way + l.length ∧ (S.send f t b l).next = S.next + l.length ∧ (S.send f t b l).cut = S.cut ∧
    ∀ i, (S.send f t b l).lts i = S.lts i ++ (l.filter fun k => decide (S.now + k = i)).map fun _ => ⟨f, t, b⟩ := by
  have e : S.send f t b l = S.sent f t b l := by unfold NS.send; rw [if_pos h]
  obtain ⟨h1, h2, h3, h4, h5, _⟩ := NS.puts_facts f t b l S hn
  rw [e]
  exact ⟨h1, h2, rfl, h4, h5, fun i => NS.lts_puts f t b i l S⟩
theorem NS.send_no {S : NS} {f t : Int} {b l : List Int} (h : S.err f t b.length l ≠ 0) : S.send f t b l = S := by unfold NS.send; rw [if_neg h]
theorem NS.lts_step {S : NS} (h : S.WF) (i : Int) : S.step.lts i = if S.now = i then [] else S.lts i := by
  unfold NS.lts NS.at_ NS.step
  simp only
  rw [look_del _ _ _ h.nodup]
  split <;> simp
theorem NS.come_lt (S : NS) : S.come.map Cp.lt = (S.lts S.now).filter fun x => !S.cut (x.f.toNat * 16 + x.t.toNat) := by
  unfold NS.come NS.lts
  rw [List.filter_map]
  rfl
theorem NS.come_all {S : NS} (h : ∀ i, S.cut i = false) : S.come.map Cp.lt = S.lts S.now := by
  rw [NS.come_lt]
  simp [h]
theorem NS.bytes_of {S : NS} {n : Nat} (h : ∀ x ∈ S.lts S.now, x.b.length ≤ n) : ∀ c ∈ S.at_ S.now, c.b.length ≤ n := fun c hc => h c.lt (List.mem_map.2 ⟨c, hc, rfl⟩)
theorem NS.lts_len (S : NS) (k : Int) : (S.at_ k).length = (S.lts k).length := by unfold NS.lts; simp
/-! ### NetRoom -/
/-- So many empty letters wait for one tick. -/
structure RoomS (S : NS) (n : Nat) (late : Int) : Prop where
  wf : S.WF
  now : S.now = 0
  way : S.way = n
  next : S.next = n
  par : S.parties = 1
  cut : ∀ i, S.cut i = false
  lts : ∀ k, S.lts k = if k = late then List.replicate n ⟨0, 0, []⟩ else []
theorem RoomS.new (late : Int) : RoomS (NS.new 1) 0 late := ⟨NS.new_wf (by decide), rfl, rfl, rfl, rfl, fun _ => rfl, fun k => by rw [NS.lts_new]; split <;> rfl⟩
def eight (late : Int) : List Int := [late, late, late, late, late, late, late, late]
theorem RoomS.err {S : NS} {n : Nat} {late : Int} (h : RoomS S n late) (h0 : 0 ≤ late) (h1 : late ≤ 3) (hn : n + 8 ≤ 4096) : S.err 0 0 0 (eight late) = 0 := by
  unfold NS.err
  have hp : S.party 0 = true := by unfold NS.party; rw [h.par]; decide
  have hl : lateOf (eight late) = false := by
    unfold lateOf eight
    simp
    omega
  rw [if_neg (by simp [hp]), if_neg (by decide), if_neg (by simp [hl]), if_neg (by rw [h.way]; simp [eight]; omega)]
theorem RoomS.send {S : NS} {n : Nat} {late : Int} (h : RoomS S n late) (h0 : 0 ≤ late) (h1 : late ≤ 3) (hn : n + 8 ≤ 4096) : RoomS (S.send 0 0 [] (eight late)) (n + 8) late := by
  have he := h.err h0 h1 hn
  obtain ⟨q1, q2, q3, q4, q5, q6⟩ := NS.send_ok (b := []) he h.wf.nodup
  refine ⟨h.wf.send .., q2.trans h.now, by rw [q3, h.way]; simp [eight], by rw [q4, h.next]; simp [eight], q1.trans h.par, fun i => by rw [q5]; exact h.cut i, fun k => ?_⟩
  rw [q6, h.lts, h.now]
  by_cases hk : k = late
  · subst hk
    simp only [if_true]
    have : ((eight k).filter fun j => decide ((0 : Int) + j = k)) = eight k := by simp [eight]
    rw [this]
    have e8 : (eight k).map (fun _ => (⟨0, 0, []⟩ : Lt)) = List.replicate 8 ⟨0, 0, []⟩ := rfl
    rw [e8, List.replicate_append_replicate]
  · rw [if_neg hk, if_neg hk]
    have : ((eight late).filter fun j => decide ((0 : Int) + j = k)) = [] := by
      have hne : ¬ late = k := fun e => hk e.symm
      simp [eight, hne]
    rw [this]; rfl
theorem lateOf_few {l : List Int} (h : l.length ≤ 8) : lateOf l = badAt l := by unfold lateOf badAt; simp; omega
theorem RoomS.more {S : NS} {late : Int} (h : RoomS S 4096 late) {l : List Int} (hl : l.length ≤ 8) :
    (S.err 0 0 0 l = if badAt l = true then 2 else if l = [] then 0 else 8) ∧ RoomS (S.send 0 0 [] l) 4096 late := by
  have hp : S.party 0 = true := by unfold NS.party; rw [h.par]; decide
  have he : S.err 0 0 0 l = if badAt l = true then 2 else if l = [] then 0 else 8 := by
    unfold NS.err
    rw [if_neg (by simp [hp]), if_neg (by decide), lateOf_few hl, h.way]
    by_cases hb : badAt l = true
    · rw [if_pos hb, if_pos hb]
    · rw [if_neg hb, if_neg hb]
      cases l with
      | nil => simp
      | cons x r => simp; omega
  refine ⟨he, ?_⟩
  by_cases h0 : S.err 0 0 0 l = 0
  · have hnil : l = [] := by
      rw [he] at h0
      split at h0
      · cases h0
      · split at h0
        · assumption
        · cases h0
    subst hnil
    obtain ⟨q1, q2, q3, q4, q5, q6⟩ := NS.send_ok (b := []) h0 h.wf.nodup
    exact ⟨h.wf.send .., q2.trans h.now, by rw [q3, h.way]; simp, by rw [q4, h.next]; simp, q1.trans h.par, fun i => by rw [q5]; exact h.cut i, fun k => by rw [q6, h.lts]; exact List.append_nil _⟩
  · rw [NS.send_no (b := []) h0]; exact h
/-- .. behind so many ticks. -/
structure RoomT (S : NS) (j : Nat) (late : Int) : Prop where
  wf : S.WF
  now : S.now = j
  way : S.way = 4096
  next : S.next = 4096
  par : S.parties = 1
  cut : ∀ i, S.cut i = false
  lts : ∀ k, S.lts k = if k = late then List.replicate 4096 ⟨0, 0, []⟩ else []
theorem RoomS.t {S : NS} {late : Int} (h : RoomS S 4096 late) : RoomT S 0 late := ⟨h.wf, h.now, h.way, h.next, h.par, h.cut, h.lts⟩
theorem RoomT.small {S : NS} {j : Nat} {late : Int} (h : RoomT S j late) : ∀ c ∈ S.at_ S.now, c.b.length ≤ 65536 := NS.bytes_of (fun x hx => by
  rw [h.lts] at hx
  split at hx
  · rw [List.mem_replicate] at hx; rw [hx.2]; simp
  · simp at hx)
theorem RoomT.step {S : NS} {j : Nat} {late : Int} (h : RoomT S j late) (hj : (j : Int) < late) : S.come.map Cp.lt = [] ∧ RoomT S.step (j + 1) late := by
  have hn : S.lts S.now = [] := by rw [h.lts, if_neg (by rw [h.now]; omega)]
  refine ⟨by rw [NS.come_all h.cut, hn], h.wf.step, ?_, ?_, h.next, h.par, h.cut, fun k => ?_⟩
  · show S.now + 1 = _; rw [h.now]; simp
  · show S.way - _ = _; rw [NS.lts_len, hn, h.way]; simp
  · rw [NS.lts_step h.wf, h.lts]
    by_cases hk : S.now = k
    · rw [if_pos hk, if_neg (by rw [← hk, h.now]; omega)]
    · rw [if_neg hk]
theorem RoomT.last {S : NS} {j : Nat} (h : RoomT S j (j : Int)) (h3 : j ≤ 3) : S.come.map Cp.lt = List.replicate 4096 ⟨0, 0, []⟩ ∧ S.step.WF ∧ S.step.now ≤ 4 ∧ S.step.next ≤ 4096 ∧ S.step.err 0 0 0 (eight j) = 0 ∧ (S.step.send 0 0 [] (eight j)).way = 8 := by
  have hn : S.lts S.now = List.replicate 4096 ⟨0, 0, []⟩ := by rw [h.lts, if_pos h.now]
  have hw : S.step.way = 0 := by show S.way - _ = _; rw [NS.lts_len, hn, h.way, List.length_replicate]; omega
  have hp : S.step.party 0 = true := by unfold NS.party; show (decide ((0 : Int) ≤ 0) && decide (0 < S.parties)) = true; rw [h.par]; decide
  have hl : lateOf (eight j) = false := by unfold lateOf eight; simp; omega
  have he : S.step.err 0 0 0 (eight j) = 0 := by
    unfold NS.err
    rw [if_neg (by simp [hp]), if_neg (by decide), if_neg (by simp [hl]), if_neg (by rw [hw]; simp [eight])]
  refine ⟨by rw [NS.come_all h.cut, hn], h.wf.step, ?_, ?_, he, ?_⟩
  · show S.now + 1 ≤ 4; rw [h.now]; omega
  · show S.next ≤ 4096; rw [h.next]; decide
  · obtain ⟨_, _, q3, _⟩ := NS.send_ok (b := []) he h.wf.step.nodup
    rw [q3, hw]; simp [eight]
end Go.Proofs.Ytcjbmbljmmakfaa
