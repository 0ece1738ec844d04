/- slices.Reverse at digests walked. -/
import Derived.Test.YtbkchniomhdieaaTree
import Derived.Test.YtbkchniomhdieaaSl8
namespace Go.Proofs.Ytbkchniomhdieaa
open Go.RowKit Go.Bz

/-- l, k of it reversed from both ends. -/
def RevK (l l' : List D8) (k : Nat) : Prop := l'.length = l.length ∧ ∀ i, i < l.length → l'[i]? = if i < k ∨ l.length - k ≤ i then l[l.length - 1 - i]? else l[i]?
theorem RevK.step {l l' : List D8} {a b : Nat} {x y : D8} (h : RevK l l' a) (hab : a + b + 1 = l.length) (hlt : a < b) (hx : l'[a]? = some x) (hy : l'[b]? = some y) : RevK l ((l'.set a y).set b x) (a + 1) := by
  obtain ⟨h1, h2⟩ := h
  have e1 := h2 a (by omega)
  have e2 := h2 b (by omega)
  rw [if_neg (by omega), hx] at e1
  rw [if_neg (by omega), hy] at e2
  refine ⟨by simp [h1], fun i hi => ?_⟩
  rw [List.getElem?_set, List.getElem?_set]
  by_cases hb : b = i
  · subst hb
    rw [if_pos rfl, if_pos (by simp; omega), if_pos (by omega), e1]
    congr 1; omega
  · rw [if_neg hb]
    by_cases ha : a = i
    · subst ha
      rw [if_pos rfl, if_pos (by omega), if_pos (by omega), e2]
      congr 1; omega
    · rw [if_neg ha, h2 i hi]
      by_cases hc : i < a ∨ l.length - a ≤ i
      · rw [if_pos hc, if_pos (by omega)]
      · rw [if_neg hc, if_neg (by omega)]
theorem RevK.done {l l' : List D8} {a b : Nat} (h : RevK l l' a) (hab : a + b + 1 = l.length) (hge : b ≤ a) (hle : a ≤ b + 1) : l' = l.reverse := by
  obtain ⟨h1, h2⟩ := h
  apply List.ext_getElem?
  intro i
  by_cases hi : i < l.length
  · rw [h2 i hi, List.getElem?_reverse hi]
    split
    · rfl
    · congr 1; omega
  · rw [List.getElem?_eq_none (by omega), List.getElem?_eq_none (by simp; omega)]
set_option maxHeartbeats 1000000 in
theorem reverse_any {w : World} {g o cap : Nat} {l : List D8} (hl : l ≠ []) (hs : SlAt w 29 8 dcells g o l) (hc : l.length ≤ cap) (hm : cap ≤ maxLen) :
    Calls Try.prog 33 #[.slice (some ⟨g, o, none⟩) l.length cap] w (fun e w' => e = .returned (.tuple #[]) ∧ SlAt w' 29 8 dcells g o l.reverse ∧ Keep [g] w w') := by
  have hpos : 0 < l.length := List.length_pos_iff.2 hl
  unfold maxLen at hm
  go_enter Try.func33, Try.ntmps33
  go_wp2
  go_loopg [2, 3] l.length (fun n i j wr => ∃ (a b : Nat) (l' : List D8), i = .int .i64 a ∧ j = .int .i64 b ∧ Hid (a + b + 1 = l.length ∧ n + a = l.length ∧ RevK l l' a) ∧ a ≤ b + 1 ∧ b < l.length ∧ SlAt wr 29 8 dcells g o l' ∧ Keep [g] w wr)
  case atStart => exact ⟨0, l.length - 1, l, rfl, by go_num, Lib.hid ⟨by omega, by omega, rfl, fun i _ => by simp; omega⟩, by omega, by omega, hs, Keep.refl _ _⟩
  case round =>
    obtain ⟨a, b, l', rfl, rfl, hh, hab, hbl, hs', hK⟩ := hrel
    by_cases hlt : a < b
    · have hlen : l'.length = l.length := hh.out.2.2.1
      obtain ⟨x, hx⟩ : ∃ x, l'[a]? = some x := ⟨_, List.getElem?_eq_getElem (by omega)⟩
      obtain ⟨y, hy⟩ : ∃ y, l'[b]? = some y := ⟨_, List.getElem?_eq_getElem (by omega)⟩
      have hal : a < l.length := by omega
      have r1 := hs'.row hx
      have r2 := hs'.row hy
      have fz := hs'.frozen
      have s1 := (hs'.put8o (i := a) (by omega) y)
      have r3 := s1.drew.row (i := b) (x := y) (by rw [List.getElem?_set_ne (by omega)]; exact hy)
      simp only [put8o] at r3
      have HX := Lib.hid (And.intro hlen (And.intro hx hy))
      clear hlen hx hy hs
      go_wp2_with fail
      go_region
      all_goals go_wp2
      all_goals
        obtain ⟨h1, h2, h3⟩ := hh.out
        obtain ⟨hlen, hx, hy⟩ := HX.out
        go_roundg (l.length - (a + 1))
        case measure => omega
        case rel => exact ⟨a + 1, b - 1, _, by go_num, by go_num, Lib.hid ⟨by omega, by omega, h3.step h1 hlt hx hy⟩, by omega, by omega, (s1.put8o (i := b) (by simp; omega) x).drew, ((hK.put8o (by simp) _ _).put8o (by simp) _ _).drew⟩
    · go_wp2
      obtain ⟨h1, h2, h3⟩ := hh.out
      go_end0
      rw [h3.done h1 (by omega) hab] at hs'
      exact ⟨rfl, hs', hK⟩
theorem reverse_empty (w : World) (A : Option Addr) (cap : Nat) : Calls Try.prog 33 #[.slice A 0 cap] w (fun e w' => e = .returned (.tuple #[]) ∧ w = w') := by
  go_enter Try.func33, Try.ntmps33
  go_wp2
  refine wp_loop_rounds 1 ?_
  rw [rounds_succ]
  go_wp2
  go_end0
  exact ⟨rfl, rfl⟩
end Go.Proofs.Ytbkchniomhdieaa
