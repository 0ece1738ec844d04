/- net's small methods walked. -/
import Derived.Test.YtcjbmbljmmakfaaModel
import Derived.Test.YtcjbmbljmmakfaaSlNil
import Derived.Test.YtcjbmbljmmakfaaRdV
namespace Go.Proofs.Ytcjbmbljmmakfaa
open Go.RowKit Go.Bz

def isNo : Option Value → Bool
  | some (.bool false) => true
  | _ => false
theorem isNo_of {o : Option Value} (h : isNo o = true) : o = some (.bool false) := by
  match o, h with
  | some (.bool false), _ => rfl
theorem zero72_no : ((List.range 256).all fun i => isNo Try.zeroCells72[5 + i]?) = true := by kernel_rfl
theorem zero72 (p : Int) (mb : Nat) : NC ((Try.zeroCells72.setIfInBounds 0 (.int .i64 p)).setIfInBounds 4 (.map (some mb))) (NS.new p) mb := by
  have hs : Try.zeroCells72.size = 261 := by kernel_rfl
  have z1 : Try.zeroCells72[1]? = some (.int .i64 0) := by kernel_rfl
  have z2 : Try.zeroCells72[2]? = some (.int .i64 0) := by kernel_rfl
  have z3 : Try.zeroCells72[3]? = some (.int .i64 0) := by kernel_rfl
  refine ⟨by simp [hs], ?_, ?_, ?_, ?_, ?_, fun i hi => ?_⟩
  · rw [Array.getElem?_setIfInBounds_ne (by omega), Array.getElem?_setIfInBounds_self, if_pos (by omega)]; rfl
  · rw [Array.getElem?_setIfInBounds_ne (by omega), Array.getElem?_setIfInBounds_ne (by omega)]; exact z1
  · rw [Array.getElem?_setIfInBounds_ne (by omega), Array.getElem?_setIfInBounds_ne (by omega)]; exact z2
  · rw [Array.getElem?_setIfInBounds_ne (by omega), Array.getElem?_setIfInBounds_ne (by omega)]; exact z3
  · rw [Array.getElem?_setIfInBounds_self, if_pos (by simp [hs])]
  · rw [Array.getElem?_setIfInBounds_ne (by omega), Array.getElem?_setIfInBounds_ne (by omega)]
    have := List.all_eq_true.1 zero72_no i (by simpa using hi)
    exact isNo_of this
theorem new_bad (p : Int) (w : World) (hp : p < 1 ∨ 16 < p) : Calls Try.prog 11 #[.int .i64 p] w (fun e w' => e = .returned (.tuple #[.pointer none, .int .i64 1]) ∧ Keep [] w w') := by
  rcases hp with h | h
  · go_enter Try.func11, Try.ntmps11
    go_wp2_with fail
    go_ret2
    exact ⟨rfl, Keep.refl _ _⟩
  · have h1 : decide (p < 1) = false := by simp; omega
    go_enter Try.func11, Try.ntmps11
    go_wp2_with fail
    go_ret2
    exact ⟨rfl, Keep.refl _ _⟩
theorem new_any (p : Int) (w : World) (hp : 1 ≤ p ∧ p ≤ 16) : Calls Try.prog 11 #[.int .i64 p] w (fun e w' => ∃ t mb, e = .returned (.tuple #[.pointer (some ⟨t, 0, none⟩), .int .i64 0]) ∧ w.heap.size ≤ t ∧ w.heap.size ≤ mb ∧ NetAt w' t mb (NS.new p) [] [] ∧ Keep [] w w') := by
  obtain ⟨h1, h2⟩ := hp
  have hmm := @run_makeMap Try.prog
  go_enter Try.func11, Try.ntmps11
  go_wp2_with fail
  go_ret2
  refine ⟨w.heap.size + 1, w.heap.size, rfl, by omega, Nat.le_refl _, ⟨⟨_, Blk.new_ (by simp), zero72 p _⟩, [], rfl, ⟨(MapAt.made w _ _).alloc _, by simp, by simp, by simp, by simp⟩⟩, ((Keep.refl _ _).alloc _).alloc _⟩
theorem party_any {w : World} {t mb : Nat} {S : NS} {R B : List Nat} (h : NetAt w t mb S R B) (i : Int) : Calls Try.prog 25 #[.pointer (some ⟨t, 0, none⟩), .int .i64 i] w (fun e w' => e = .returned (.bool (S.party i)) ∧ Keep [] w w') := by
  have c := h.cells
  by_cases h0 : 0 ≤ i
  · have HP : Hid (S.party i = decide (i < S.parties)) := Lib.hid (by unfold NS.party; simp [h0])
    go_enter Try.func25, Try.ntmps25
    go_wp2_with fail
    go_ret
    exact ⟨by rw [HP.out]; rfl, Keep.refl _ _⟩
  · have HP : Hid (S.party i = false) := Lib.hid (by unfold NS.party; simp [h0])
    go_enter Try.func25, Try.ntmps25
    go_wp2_with fail
    go_ret
    exact ⟨by rw [HP.out]; rfl, Keep.refl _ _⟩
theorem way_any {w : World} {t mb : Nat} {S : NS} {R B : List Nat} (h : NetAt w t mb S R B) : Calls Try.prog 15 #[.pointer (some ⟨t, 0, none⟩)] w (fun e w' => e = .returned (.int .i64 S.way) ∧ Keep [] w w') := by
  have c := h.cells
  go_enter Try.func15, Try.ntmps15
  go_wp2_with fail
  go_ret
  exact ⟨rfl, Keep.refl _ _⟩
theorem now_any {w : World} {t mb : Nat} {S : NS} {R B : List Nat} (h : NetAt w t mb S R B) : Calls Try.prog 24 #[.pointer (some ⟨t, 0, none⟩)] w (fun e w' => e = .returned (.int .i64 S.now) ∧ Keep [] w w') := by
  have c := h.cells
  go_enter Try.func24, Try.ntmps24
  go_wp2_with fail
  go_ret
  exact ⟨rfl, Keep.refl _ _⟩
/-! ### late -/
theorem bad_any (k : Int) (w : World) : Calls Try.prog 40 #[.int .i64 k] w (fun e w' => e = .returned (.bool (decide (k < 0) || decide (1000 < k))) ∧ Keep [] w w') := by
  by_cases h : k < 0
  · have HP : Hid ((decide (k < 0) || decide (1000 < k)) = true) := Lib.hid (by simp [h])
    go_enter Try.func40, Try.ntmps40
    go_wp2_with fail
    go_ret
    exact ⟨by rw [HP.out]; rfl, Keep.refl _ _⟩
  · have h1 : decide (k < 0) = false := by simp; omega
    go_enter Try.func40, Try.ntmps40
    go_wp2_with fail
    go_ret
    exact ⟨rfl, Keep.refl _ _⟩
/-- Where the first stands that a fate may not have. -/
def badAt (l : List Int) : Bool := l.any fun k => decide (k < 0) || decide (1000 < k)
theorem index_any {w : World} {V : Value} {l : List Int} (hs : RdV w 1 ienc V l) :
    Calls Try.prog 47 #[V, .func (.func 40) #[] #[]] w (fun e w' => (∃ n : Int, e = .returned (.int .i64 n) ∧ decide (0 ≤ n) = badAt l) ∧ Keep [] w w') := by
  obtain ⟨A, cap, rfl, hc1, hc2, hc3⟩ := hs
  unfold maxLen at hc2
  go_enter Try.func47, Try.ntmps47
  go_wp2_with fail
  go_loopg [5, 8] l.length (fun m _ i wr => ∃ k : Nat, i = .int .i64 k ∧ m + k = l.length ∧ Hid (badAt l = badAt (l.drop k)) ∧ Keep [] w wr)
  case atStart => exact ⟨0, rfl, rfl, Lib.hid rfl, Keep.refl _ _⟩
  case round =>
    obtain ⟨k, rfl, hk, HB, hK⟩ := hrel
    by_cases hlt : k < l.length
    · obtain ⟨g, o, rfl, hgl, hsl⟩ := hc3 (by intro e; rw [e] at hlt; simp at hlt)
      obtain ⟨x, hx⟩ : ∃ x, l[k]? = some x := ⟨_, List.getElem?_eq_getElem hlt⟩
      have hcl : wr.cell? ⟨g, o + k, none⟩ = some (.int .i64 x) := hK.cell (by simpa using hsl k x hx 0 (by decide)) (by simp)
      have hdk : l.drop k = x :: l.drop (k + 1) := by rw [← List.getElem_cons_drop hlt, (List.getElem?_eq_some_iff.1 hx).2]
      have HD : Hid (badAt (l.drop k) = ((decide (x < 0) || decide (1000 < x)) || badAt (l.drop (k + 1)))) := Lib.hid (by rw [hdk]; rfl)
      have hba := bad_any x
      obtain ⟨bd, HX⟩ : ∃ bd, Hid (bd = (decide (x < 0) || decide (1000 < x))) := ⟨_, Lib.hid rfl⟩
      rw [← HX.out] at hba HD
      clear hdk hx hsl
      cases bd with
      | true =>
        go_wp2_with (first | (go_at_call 40; refine (hba _).mono ?_; rintro e w5 ⟨rfl, hk5⟩))
        go_ret
        exact ⟨⟨_, rfl, by rw [HB.out, HD.out]; simp⟩, hK.trans hk5⟩
      | false =>
        go_wp2_with (first | (go_at_call 40; refine (hba _).mono ?_; rintro e w5 ⟨rfl, hk5⟩))
        go_roundg (l.length - (k + 1))
        case measure => omega
        case rel => exact ⟨k + 1, by go_num, by omega, Lib.hid (by rw [HB.out, HD.out]; rfl), hK.trans hk5⟩
    · have hdk : l.drop k = [] := List.drop_eq_nil_of_le (by omega)
      have HD : Hid (badAt (l.drop k) = false) := Lib.hid (by rw [hdk]; rfl)
      clear hdk
      go_wp2_with fail
      go_ret
      exact ⟨⟨_, rfl, by rw [HB.out, HD.out]; rfl⟩, hK⟩
theorem contains_any {w : World} {V : Value} {l : List Int} (hs : RdV w 1 ienc V l) :
    Calls Try.prog 39 #[V, .func (.func 40) #[] #[]] w (fun e w' => e = .returned (.bool (badAt l)) ∧ Keep [] w w') := by
  go_enter Try.func39, Try.ntmps39
  go_wp2_with (first | (go_at_call 47; refine (index_any hs).mono ?_; rintro e w5 ⟨⟨n, rfl, hn⟩, hk5⟩))
  go_ret
  exact ⟨by rw [← hn]; rfl, hk5⟩
theorem late_any {w : World} {V : Value} {l : List Int} (hs : RdV w 1 ienc V l) :
    Calls Try.prog 26 #[.agg #[V]] w (fun e w' => e = .returned (.bool (lateOf l)) ∧ Keep [] w w') := by
  obtain ⟨A, cap, rfl, hc1, hc2, hc3⟩ := id hs
  have hs1 := hs.keep0 ((Keep.refl [] w).alloc (.cells #[.slice A l.length cap] 31))
  by_cases h : 8 < l.length
  · have HP : Hid (lateOf l = true) := Lib.hid (by unfold lateOf; simp [h])
    have h' : (8 : Int) < (l.length : Int) := by omega
    clear h
    go_enter Try.func26, Try.ntmps26
    go_wp2_with fail
    go_ret
    exact ⟨by rw [HP.out]; rfl, (Keep.refl _ _).alloc _⟩
  · have HP : Hid (lateOf l = badAt l) := Lib.hid (by unfold lateOf badAt; simp [h])
    have h' : decide ((8 : Int) < (l.length : Int)) = false := by simp; omega
    clear h
    go_enter Try.func26, Try.ntmps26
    go_wp2_with (first | (go_at_call 39; refine (contains_any hs1).mono ?_; rintro e w5 ⟨rfl, hk5⟩))
    go_ret
    exact ⟨by rw [HP.out]; rfl, ((Keep.refl _ _).alloc _).trans hk5⟩
/-! ### clones -/
theorem app33 : AppT Try.prog 33 5 1 1 (.int .u8 0) := ⟨Try.underlying33, by kernel_rfl, rfl, by decide⟩
theorem benc_one : ∀ x : Int, ∀ u ∈ (benc x).toList, u.oneCell' = true := by intro x u hu; simp at hu; subst hu; rfl
theorem bclone_any {w : World} {V : Value} {b : List Int} (hs : RdV w 1 benc V b) (hb : b.length ≤ 70000) :
    Calls Try.prog 41 #[V] w (fun e w' => (∃ V', e = .returned V' ∧ Own w' w.heap.size 5 1 benc V' b) ∧ Keep [] w w') := by
  obtain ⟨A, cap, rfl, hc1, hc2, hc3⟩ := id hs
  have HB := Lib.hid hb
  clear hb
  have e0 := fun W => run_sl_nil Try.underlying33 W b.length cap
  have e1 := fun W a => run_sl_some Try.underlying33 W a b.length cap
  cases A with
  | none =>
    have : b = [] := by
      cases b with
      | nil => rfl
      | cons x r => obtain ⟨g, o, h, _⟩ := hc3 (by simp); cases h
    subst this
    simp only [List.length_nil] at e0
    go_enter Try.func41, Try.ntmps41
    go_wp2_with fail
    go_ret
    exact ⟨⟨_, rfl, Own.nil ..⟩, Keep.refl _ _⟩
  | some a =>
    go_enter Try.func41, Try.ntmps41
    have hO := Own.none_ (base := w.heap.size) w (Nat.le_refl _) 5 1 benc
    have hs1 := hs.keep0 ((Keep.refl [] w).alloc (.cells #[] 5))
    go_wp2_with (first
      | (at_builtin; refine wpList_append_rd rfl _ _ 33 rfl app33 rfl hO rfl hs1 benc_sz benc_one ?q1 ?q2 ?q3 ?q4))
    case q1 => have := HB.out; simp; omega
    case q2 => have := HB.out; unfold maxLen; simp; omega
    case q3 => simp
    case q4 =>
      intro v' w' hown2 hk2
      go_wp2_with fail
      go_ret
      refine ⟨⟨_, rfl, by simpa using hown2⟩, ((Keep.refl _ _).alloc _).andThen hk2 (fun g hg => .inr (hO.lt g hg).1)⟩
end Go.Proofs.Ytcjbmbljmmakfaa
