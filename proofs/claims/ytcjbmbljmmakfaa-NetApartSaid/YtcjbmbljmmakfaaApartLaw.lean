/- The plain law of NetApart; a slice that came in, as a string. -/
import Derived.Test.YtcjbmbljmmakfaaRoom
import Derived.Test.YtcjbmbljmmakfaaOpen
namespace Go.Bz
open Go.RowKit
theorem run_str_rd {P : Program} {w : World} {src e : TypeId} (hs : P.underlying src = some (.slice e)) (he : P.underlying e = some (.int .u8)) {V : Value} {b : List Int} (h : RdV w 1 (fun x : Int => #[Value.int .u8 x]) V b) :
    ∀ dst, P.underlying dst = some .string → (convert src dst V).run P w = .ok (.string (strOfNums b)) w := by
  intro dst hd
  obtain ⟨A, cap, rfl, hc1, hc2, hc3⟩ := h
  by_cases hb : b = []
  · subst hb
    cases A with
    | none => exact run_convert_bytes_nil w src e hs he _ _ dst hd
    | some a =>
      rw [run_convert_bytes_string w src dst e _ _ cap hs he hd, List.length_nil, run_bytesToString w a 0 cap [] (by have := run_loadCells_list (P := P) w a [] (by simp); simpa using this)]
      rfl
  · obtain ⟨g, o, rfl, hg, hsl⟩ := hc3 hb
    refine run_convert_bytes_arg w src e hs he g o b.length cap b rfl (fun i hi => ?_) dst hd
    have := hsl i _ (List.getElem?_eq_getElem hi) 0 (by decide)
    simpa [List.getD, List.getElem?_eq_getElem hi] using this
theorem Reads.nocap {H : Type} {enc : TypeId × Value → H} {P : Program} {w : World} {base : Nat} {spare : Nat → Bool} {held : Bool} {t e : TypeId} {A : Option Addr} {n cap : Nat} (ht : P.underlying t = some (.slice e)) (h : Reads enc P w base spare held t (Value.slice A n cap).cells.toList) : A = none → cap = 0 := by
  intro hA
  rcases h.slice ht with h0 | ⟨b, len, c, hcs, _⟩
  · simp [Value.cells] at h0
    exact h0.2.2
  · simp [Value.cells] at hcs
    rw [hA] at hcs
    exact absurd hcs.1 (by simp)
end Go.Bz
namespace Go.Proofs.Ytcjbmbljmmakfaa
open Go.Bz
def ap1 (b : List Int) : NS := (NS.new 1).send 0 0 b [0, 1]
theorem ap_err {b : List Int} (h : b.length ≤ 100) : (NS.new 1).err 0 0 b.length [0, 1] = 0 := by
  unfold NS.err
  have hp : (NS.new 1).party 0 = true := by decide
  have hl : lateOf [0, 1] = false := by decide
  rw [if_neg (by simp [hp]), if_neg (by omega), if_neg (by simp [hl]), if_neg (by simp [NS.new])]
structure ApS (S : NS) (j : Nat) (b : List Int) : Prop where
  wf : S.WF
  now : S.now = j
  next : S.next = 2
  cut : ∀ i, S.cut i = false
  lts : S.lts j = [⟨0, 0, b⟩]
theorem ap_one {b : List Int} (h : b.length ≤ 100) : ApS (ap1 b) 0 b ∧ ApS (ap1 b).step 1 b := by
  have he := ap_err h
  have wf0 := NS.new_wf (p := 1) (by decide)
  obtain ⟨q1, q2, q3, q4, q5, q6⟩ := NS.send_ok (b := b) he wf0.nodup
  have e0 : (ap1 b).lts 0 = [⟨0, 0, b⟩] := by
    show ((NS.new 1).send 0 0 b [0, 1]).lts 0 = _
    rw [q6]; rfl
  have e1 : (ap1 b).lts 1 = [⟨0, 0, b⟩] := by
    show ((NS.new 1).send 0 0 b [0, 1]).lts 1 = _
    rw [q6]; rfl
  have w1 : (ap1 b).WF := wf0.send ..
  have n1 : (ap1 b).now = 0 := q2
  refine ⟨⟨w1, n1, q4, fun i => by show ((NS.new 1).send 0 0 b [0, 1]).cut i = false; rw [q5]; rfl, e0⟩, ⟨w1.step, ?_, q4, fun i => by show ((NS.new 1).send 0 0 b [0, 1]).cut i = false; rw [q5]; rfl, ?_⟩⟩
  · show (ap1 b).now + 1 = _; rw [n1]; rfl
  · show (ap1 b).step.lts ((1 : Nat) : Int) = _
    rw [NS.lts_step w1, n1, if_neg (by decide)]; exact e1
theorem ApS.come {S : NS} {j : Nat} {b : List Int} (h : ApS S j b) : S.come.map Cp.lt = [⟨0, 0, b⟩] := by rw [NS.come_all h.cut, h.now]; exact h.lts
theorem ApS.small {S : NS} {j : Nat} {b : List Int} (h : ApS S j b) (hb : b.length ≤ 100) : ∀ c ∈ S.at_ S.now, c.b.length ≤ 65536 := NS.bytes_of (fun x hx => by
  rw [h.now, h.lts] at hx
  simp at hx
  subst hx
  show b.length ≤ 65536
  omega)
end Go.Proofs.Ytcjbmbljmmakfaa
