/- The plain law of NetAlone. -/
import Derived.Test.YtcjbmbljmmakfaaLts
namespace Go.Proofs.Ytcjbmbljmmakfaa
open Go.Bz

def Lt.mine (a b : Int) (x : Lt) : Bool := decide (x.f = a) && decide (x.t = b)
/-- Two nets, one with all deeds, one with those between two parties. -/
structure AloneS (X Y : NS) (a b : Int) (k : Nat) : Prop where
  wx : X.WF
  wy : Y.WF
  px : X.parties = 3
  py : Y.parties = 3
  now : Y.now = X.now
  nowk : X.now ≤ k
  nx : X.next ≤ 8 * k
  ny : Y.next ≤ 8 * k
  wayx : X.way ≤ 8 * k
  wayy : Y.way ≤ 8 * k
  lts : ∀ i, Y.lts i = (X.lts i).filter (Lt.mine a b)
  cut : X.cut (a.toNat * 16 + b.toNat) = Y.cut (a.toNat * 16 + b.toNat)
  small : ∀ i, ∀ x ∈ X.lts i, x.b.length ≤ 100
theorem AloneS.new (a b : Int) : AloneS (NS.new 3) (NS.new 3) a b 0 :=
  ⟨NS.new_wf (by decide), NS.new_wf (by decide), rfl, rfl, rfl, by show (0 : Int) ≤ _; omega, by show (0 : Int) ≤ _; omega, by show (0 : Int) ≤ _; omega, by show (0 : Int) ≤ _; omega, by show (0 : Int) ≤ _; omega, fun _ => rfl, rfl, fun i x hx => by rw [NS.lts_new] at hx; cases hx⟩
theorem late_len {l : List Int} (h : lateOf l = false) : l.length ≤ 8 := by
  unfold lateOf at h
  simp at h
  omega
section
variable {X Y : NS} {a b : Int} {k : Nat}
/-- What is refused is refused by both. -/
theorem NS.err3 {S : NS} (hp : S.parties = 3) (hw : S.way ≤ 480) (f t : Int) (n : Nat) (l : List Int) :
    S.err f t n l = if (decide (0 ≤ f) && decide (f < 3)) = false ∨ (decide (0 ≤ t) && decide (t < 3)) = false then 28 else if 65536 < n then 5 else if lateOf l = true then 2 else 0 := by
  unfold NS.err NS.party
  rw [hp]
  split
  · rfl
  split
  · rfl
  split
  · rfl
  · rename_i hl
    have := late_len (l := l) (by simpa using hl)
    rw [if_neg (by omega)]
theorem AloneS.err (h : AloneS X Y a b k) (hk : k ≤ 60) (f t : Int) (n : Nat) (l : List Int) : Y.err f t n l = X.err f t n l := by
  have := h.wayx
  have := h.wayy
  rw [NS.err3 h.px (by omega), NS.err3 h.py (by omega)]
theorem AloneS.send (h : AloneS X Y a b k) (hk : k ≤ 60) (f t : Int) (s l : List Int) (hs : s.length ≤ 100) :
    AloneS (X.send f t s l) (if f = a ∧ t = b then Y.send f t s l else Y) a b (k + 1) := by
  have e1 := h.err hk f t s.length l
  have e2 := h.nowk
  have e3 := h.nx
  have e4 := h.ny
  have e5 := h.wayx
  have e6 := h.wayy
  by_cases h0 : X.err f t s.length l = 0
  · obtain ⟨q1, q2, q3, q4, q5, q6⟩ := NS.send_ok (b := s) h0 h.wx.nodup
    have hl : l.length ≤ 8 := by
      rw [NS.err3 h.px (by omega)] at h0
      split at h0
      · cases h0
      split at h0
      · cases h0
      split at h0
      · cases h0
      · rename_i hh
        exact late_len (by simpa using hh)
    have hsm : ∀ i, ∀ x ∈ (X.send f t s l).lts i, x.b.length ≤ 100 := by
      intro i x hx
      rw [q6] at hx
      rcases List.mem_append.1 hx with hx | hx
      · exact h.small i x hx
      · obtain ⟨_, _, rfl⟩ := List.mem_map.1 hx
        exact hs
    by_cases hm : f = a ∧ t = b
    · rw [if_pos hm]
      obtain ⟨p1, p2, p3, p4, p5, p6⟩ := NS.send_ok (b := s) (e1.trans h0) h.wy.nodup
      refine ⟨h.wx.send .., h.wy.send .., q1.trans h.px, p1.trans h.py, by rw [p2, q2]; exact h.now, by rw [q2]; omega, by rw [q4]; omega, by rw [p4]; omega, by rw [q3]; omega, by rw [p3]; omega, fun i => ?_, by rw [q5, p5]; exact h.cut, hsm⟩
      rw [p6, q6, h.lts, List.filter_append, h.now]
      congr 1
      symm
      rw [List.filter_eq_self]
      intro x hx
      obtain ⟨_, _, rfl⟩ := List.mem_map.1 hx
      unfold Lt.mine
      simp [hm.1, hm.2]
    · rw [if_neg hm]
      refine ⟨h.wx.send .., h.wy, q1.trans h.px, h.py, by rw [q2]; exact h.now, by rw [q2]; omega, by rw [q4]; omega, by omega, by rw [q3]; omega, by omega, fun i => ?_, by rw [q5]; exact h.cut, hsm⟩
      rw [q6, h.lts, List.filter_append]
      have : ((l.filter fun k => decide (X.now + k = i)).map fun _ => (⟨f, t, s⟩ : Lt)).filter (Lt.mine a b) = [] := by
        rw [List.filter_eq_nil_iff]
        intro x hx
        obtain ⟨_, _, rfl⟩ := List.mem_map.1 hx
        unfold Lt.mine
        simp
        exact fun e1 e2 => hm ⟨e1, e2⟩
      rw [this, List.append_nil]
  · have q := NS.send_no (b := s) h0
    have hY : (if f = a ∧ t = b then Y.send f t s l else Y) = Y := by
      split
      · exact NS.send_no (b := s) (fun e => h0 (e1.symm.trans e))
      · rfl
    rw [q, hY]
    exact ⟨h.wx, h.wy, h.px, h.py, h.now, by omega, by omega, by omega, by omega, by omega, h.lts, h.cut, h.small⟩
theorem AloneS.come (h : AloneS X Y a b k) : Y.come.map Cp.lt = (X.come.map Cp.lt).filter (Lt.mine a b) := by
  rw [NS.come_lt, NS.come_lt, h.lts, h.now, List.filter_filter, List.filter_filter]
  refine List.filter_congr fun x _ => ?_
  unfold Lt.mine
  by_cases h1 : x.f = a
  · by_cases h2 : x.t = b
    · rw [h1, h2, h.cut]
      simp
    · simp [h2]
  · simp [h1]
theorem AloneS.step (h : AloneS X Y a b k) : AloneS X.step Y.step a b (k + 1) := by
  have e2 := h.nowk
  have e3 := h.nx
  have e4 := h.ny
  have e5 := h.wayx
  have e6 := h.wayy
  refine ⟨h.wx.step, h.wy.step, h.px, h.py, ?_, ?_, ?_, ?_, ?_, ?_, fun i => ?_, h.cut, fun i x hx => ?_⟩
  · show Y.now + 1 = X.now + 1; rw [h.now]
  · show X.now + 1 ≤ _; omega
  · show X.next ≤ _; omega
  · show Y.next ≤ _; omega
  · show X.way - _ ≤ _; omega
  · show Y.way - _ ≤ _; omega
  · rw [NS.lts_step h.wy, NS.lts_step h.wx, h.now, h.lts]
    split <;> rfl
  · rw [NS.lts_step h.wx] at hx
    split at hx
    · cases hx
    · exact h.small i x hx
theorem AloneS.setCut (h : AloneS X Y a b k) (ha : 0 ≤ a ∧ a ≤ 2) (hb : 0 ≤ b ∧ b ≤ 2) (f t : Int) (is : Bool) : AloneS (X.setCut f t is) (if f = a ∧ t = b then Y.setCut f t is else Y) a b (k + 1) := by
  have e2 := h.nowk
  have e3 := h.nx
  have e4 := h.ny
  have e5 := h.wayx
  have e6 := h.wayy
  have ec : ∀ S : NS, S.parties = 3 → S.cutErr f t = if (decide (0 ≤ f) && decide (f < 3)) = false ∨ (decide (0 ≤ t) && decide (t < 3)) = false then 28 else 0 := fun S hp => by unfold NS.cutErr NS.party; rw [hp]
  have hx := ec X h.px
  have hy := ec Y h.py
  by_cases h0 : (decide (0 ≤ f) && decide (f < 3)) = false ∨ (decide (0 ≤ t) && decide (t < 3)) = false
  · rw [if_pos h0] at hx hy
    have q : X.setCut f t is = X := by unfold NS.setCut; rw [if_neg (by rw [hx]; decide)]
    have hY : (if f = a ∧ t = b then Y.setCut f t is else Y) = Y := by
      split
      · unfold NS.setCut; rw [if_neg (by rw [hy]; decide)]
      · rfl
    rw [q, hY]
    exact ⟨h.wx, h.wy, h.px, h.py, h.now, by omega, by omega, by omega, by omega, by omega, h.lts, h.cut, h.small⟩
  · rw [if_neg h0] at hx hy
    have q : X.setCut f t is = { X with cut := fun i => if i = f.toNat * 16 + t.toNat then is else X.cut i } := by unfold NS.setCut; rw [if_pos hx]
    have qy : Y.setCut f t is = { Y with cut := fun i => if i = f.toNat * 16 + t.toNat then is else Y.cut i } := by unfold NS.setCut; rw [if_pos hy]
    have hwx := h.wx.setCut f t is
    have hwy := h.wy.setCut f t is
    rw [q] at hwx ⊢
    rw [qy] at hwy
    simp at h0
    by_cases hm : f = a ∧ t = b
    · rw [if_pos hm, qy]
      refine ⟨hwx, hwy, h.px, h.py, h.now, by show X.now ≤ _; omega, by show X.next ≤ _; omega, by show Y.next ≤ _; omega, by show X.way ≤ _; omega, by show Y.way ≤ _; omega, h.lts, ?_, h.small⟩
      simp only [hm.1, hm.2, if_true]
    · rw [if_neg hm]
      refine ⟨hwx, h.wy, h.px, h.py, h.now, by show X.now ≤ _; omega, by show X.next ≤ _; omega, by omega, by show X.way ≤ _; omega, by omega, h.lts, ?_, h.small⟩
      show (if a.toNat * 16 + b.toNat = f.toNat * 16 + t.toNat then is else X.cut (a.toNat * 16 + b.toNat)) = _
      rw [if_neg (fun e => hm (by constructor <;> omega))]
      exact h.cut
end
end Go.Proofs.Ytcjbmbljmmakfaa
