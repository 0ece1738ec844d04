/- The contracts of fork's methods, for whatever blocks. -/
import Derived.Test.YtbkchniomhdieaaPlain2
import Derived.Test.YtbkchniomhdieaaAdd
import Derived.Test.YtbkchniomhdieaaUndone
import Derived.Test.YtbkchniomhdieaaFinal
namespace Go.Proofs.Ytbkchniomhdieaa
open Go.RowKit Go.Bz

theorem add_any {t mb : Nat} {T : FT} {w : World} (h : TreeAt w t mb T) (hT : T.WF) (x p : D8) :
    Calls Try.prog 14 #[.pointer (some ⟨t, 0, none⟩), dv x, dv p] w (fun e w' => e = .returned (.int .i64 (T.err x p)) ∧ TreeAt w' t mb (T.add x p) ∧ Keep [t, mb] w w') := by
  have hh : T.height T.tip = (T.get T.tip).2 := (hgt_bd hT).1
  have no : ∀ n, T.err x p = n → n ≠ 0 → Calls Try.prog 14 #[.pointer (some ⟨t, 0, none⟩), dv x, dv p] w (fun e w' => e = .returned (.int .i64 n) ∧ Keep [] w w') →
      Calls Try.prog 14 #[.pointer (some ⟨t, 0, none⟩), dv x, dv p] w (fun e w' => e = .returned (.int .i64 (T.err x p)) ∧ TreeAt w' t mb (T.add x p) ∧ Keep [t, mb] w w') := fun n he hn hc => by
    refine hc.mono ?_
    rintro e w' ⟨rfl, hk⟩
    have : T.add x p = T := by unfold FT.add; rw [if_neg (by rw [he]; exact hn)]
    rw [this, he]
    exact ⟨rfl, h.keep0 hk, hk.sub⟩
  cases h1 : T.is x with
  | true => exact no 7 (by unfold FT.err; rw [if_pos h1]) (by decide) (add_twice h x p h1)
  | false =>
    cases h2 : T.is p with
    | false => exact no 24 (by unfold FT.err; rw [if_neg (by simp [h1]), if_pos h2]) (by decide) (add_noparent h x p h1 h2)
    | true =>
      by_cases h3 : 4096 ≤ T.bl.length
      · exact no 8 (by unfold FT.err; rw [if_neg (by simp [h1]), if_neg (by simp [h2]), if_pos h3]) (by decide) (add_full h x p h1 h2 h3)
      · by_cases h4 : T.below p T.tip < (T.get T.tip).2 - T.depth
        · exact no 25 (by unfold FT.err; rw [if_neg (by simp [h1]), if_neg (by simp [h2]), if_neg h3, if_pos h4]) (by decide) (add_deep h hT x p h1 h2 (by omega) (by rw [hh]; exact h4))
        · have he : T.err x p = 0 := by unfold FT.err; rw [if_neg (by simp [h1]), if_neg (by simp [h2]), if_neg h3, if_neg h4]
          have : T.add x p = T.added x p := by unfold FT.add; rw [if_pos he]
          rw [he, this]
          exact add_ok h hT x p h1 h2 (by omega) (by rw [hh]; exact h4)
theorem undone_call {t mb : Nat} {T : FT} {w : World} (h : TreeAt w t mb T) (hT : T.WF) (x y : D8) :
    Calls Try.prog 15 #[.pointer (some ⟨t, 0, none⟩), dv x, dv y] w (fun e w' => ∃ v, e = .returned v ∧ Sl w' 29 8 dcells v (T.undone x y) ∧ Keep [] w w') := by
  by_cases hx : T.is x = true ∧ T.is y = true
  · refine (undone_any h hT x y hx.1 hx.2).mono ?_
    rintro e w' ⟨⟨v, rfl, hs⟩, hk⟩
    exact ⟨v, rfl, hs, hk⟩
  · refine (undone_none h hT x y hx).mono ?_
    rintro e w' ⟨rfl, hk⟩
    have : T.undone x y = [] := by unfold FT.undone; rw [if_neg hx]
    rw [this]
    exact ⟨_, rfl, Sl.nil .., hk⟩
def FT.lines (T : FT) (x : D8) : List D8 := if T.is x = true then T.line x else []
theorem line_call {t mb : Nat} {T : FT} {w : World} (h : TreeAt w t mb T) (hT : T.WF) (x : D8) :
    Calls Try.prog 18 #[.pointer (some ⟨t, 0, none⟩), dv x] w (fun e w' => ∃ v, e = .returned v ∧ Sl w' 29 8 dcells v (T.lines x) ∧ Keep [] w w') := by
  by_cases hx : T.is x = true
  · refine (line_any h hT x hx).mono ?_
    rintro e w' ⟨⟨g, cap, rfl, _, h2, h3, hs⟩, hk⟩
    have : T.lines x = T.line x := by unfold FT.lines; rw [if_pos hx]
    rw [this]
    exact ⟨_, rfl, ⟨_, _, rfl, h2, h3, fun _ => ⟨g, 0, rfl, hs⟩⟩, hk⟩
  · refine (line_none h x (by simpa using hx)).mono ?_
    rintro e w' ⟨rfl, hk⟩
    have : T.lines x = [] := by unfold FT.lines; rw [if_neg hx]
    rw [this]
    exact ⟨_, rfl, Sl.nil .., hk⟩
theorem final_call {t mb : Nat} {T : FT} {w : World} (h : TreeAt w t mb T) (hT : T.WF) :
    Calls Try.prog 21 #[.pointer (some ⟨t, 0, none⟩)] w (fun e w' => ∃ v, e = .returned v ∧ Sl w' 29 8 dcells v T.final ∧ Keep [] w w') := by
  refine (final_any h hT).mono ?_
  rintro e w' ⟨⟨g, cap, rfl, _, h2, h3, hs⟩, hk⟩
  exact ⟨_, rfl, ⟨_, _, rfl, h2, h3, fun _ => ⟨g, 0, rfl, hs⟩⟩, hk⟩
/-- New, at a depth that may be: a tree of its own. -/
theorem new_call (d : D8) (n : Int) (w : World) (h0 : 0 ≤ n) (h1 : n ≤ 1000) : Calls Try.prog 10 #[dv d, .int .i64 n] w (fun e w' => ∃ t mb, e = .returned (.tuple #[.pointer (some ⟨t,0,none⟩), .int .i64 0]) ∧ w.heap.size ≤ t ∧ w.heap.size ≤ mb ∧ TreeAt w' t mb (FT.new d n) ∧ Keep [] w w') := by
  refine (new_any d n w h0 h1).mono ?_
  rintro e w' ⟨t, mb, rfl, hk, h2, h3, h4⟩
  exact ⟨t, mb, rfl, h2, h3, h4, hk⟩
/-- What was kept but for blocks of one's own is kept. -/
theorem _root_.Go.Bz.Keep.own {w a b : World} {S : List Nat} (h : Keep [] w a) (h' : Keep S a b) (hs : ∀ k ∈ S, w.heap.size ≤ k) : Keep [] w b := h.andThen h' (fun k hk => .inr (hs k hk))
end Go.Proofs.Ytbkchniomhdieaa
