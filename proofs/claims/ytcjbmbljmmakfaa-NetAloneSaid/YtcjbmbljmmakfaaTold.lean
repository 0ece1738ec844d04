/- told walked: the chapter's example. -/
import Derived.Test.YtcjbmbljmmakfaaStep
import Derived.Test.YtcjbmbljmmakfaaStr
import Derived.Lib.SlBytesConst
namespace Go.Proofs.Ytcjbmbljmmakfaa
open Go.RowKit Go.Bz

def ts0 : NS := NS.new 2
def ts1 : NS := ts0.send 0 1 [120] [0, 2]
def ts2 : NS := ts1.step
def ts3 : NS := ts2.step
theorem ts_wf : ts0.WF ∧ ts1.WF ∧ ts2.WF ∧ ts3.WF := by
  have h0 : ts0.WF := NS.new_wf (by decide)
  have h1 := h0.send 0 1 [120] [0, 2]
  exact ⟨h0, h1, h1.step, h1.step.step⟩
theorem ts_err : ts0.err 0 1 ([120] : List Int).length [0, 2] = 0 := by decide
theorem ts_come : ts1.come.map Cp.lt = [⟨0, 1, [120]⟩] ∧ ts2.come.map Cp.lt = [] ∧ ts3.come.map Cp.lt = [⟨0, 1, [120]⟩] ∧ ts3.step.now = 3 ∧ ts3.step.way = 0 ∧ ts1.now = 0 ∧ ts2.now = 1 ∧ ts3.now = 2 := by decide
theorem ts_at : (∀ c ∈ ts1.at_ ts1.now, c.b.length ≤ 65536) ∧ (∀ c ∈ ts2.at_ ts2.now, c.b.length ≤ 65536) ∧ ∀ c ∈ ts3.at_ ts3.now, c.b.length ≤ 65536 := by
  refine ⟨fun c hc => ?_, fun c hc => ?_, fun c hc => ?_⟩
  · have : c ∈ [(⟨0, 1, [120], 0⟩ : Cp)] := hc
    simp at this; subst this; decide
  · have : c ∈ ([] : List Cp) := hc
    simp at this
  · have : c ∈ [(⟨0, 1, [120], 1⟩ : Cp)] := hc
    simp at this; subst this; decide
theorem NetAt.noTM {w : World} {t mb : Nat} {S : NS} {R B : List Nat} (h : NetAt w t mb S R B) : ∀ s ∈ [t, mb], ∀ ty cs, ty = 35 ∨ ty = 5 → ¬ Blk w s ty cs := by
  intro s hs
  simp at hs
  rcases hs with rfl | rfl
  · exact h.noT.1 _ (by simp)
  · exact h.noT.2 _ (by simp)
theorem lt_one {l : List LRaw} {x : Lt} (h : l.map LRaw.lt = [x]) : ∃ V, l = [⟨x.f, x.t, V, x.b⟩] := by
  match l, h with
  | [r], h =>
    simp at h
    subst h
    exact ⟨r.V, rfl⟩
theorem lt_none {l : List LRaw} (h : l.map LRaw.lt = []) : l = [] := List.map_eq_nil_iff.1 h
theorem told_lits (w : World) : SlM ((w.alloc (.cells #[.int .u8 120] 5 (1, 2))).alloc (.cells #[.int .i64 0, .int .i64 2] 3)) 5 1 benc (.slice (some ⟨w.heap.size, 0, none⟩) 1 1) [120] ∧
    Sl ((w.alloc (.cells #[.int .u8 120] 5 (1, 2))).alloc (.cells #[.int .i64 0, .int .i64 2] 3)) 3 1 ienc (.slice (some ⟨w.heap.size + 1, 0, none⟩) 2 2) [0, 2] ∧ Keep [] w ((w.alloc (.cells #[.int .u8 120] 5 (1, 2))).alloc (.cells #[.int .i64 0, .int .i64 2] 3)) := by
  have h1 : (w.alloc (.cells #[.int .u8 120] 5 (1, 2))).heap[w.heap.size]? = some (.cells (([120] : List Int).map (Value.int .u8)).toArray 5 (1, 2)) := heap_alloc_new w _
  have h2 : Blk ((w.alloc (.cells #[.int .u8 120] 5 (1, 2))).alloc (.cells #[.int .i64 0, .int .i64 2] 3)) (w.heap.size + 1) 3 (([0, 2] : List Int).map (Value.int .i64)).toArray := Blk.new_ (by simp)
  exact ⟨(ints_litM h1 (by decide)).keep0 ((Keep.refl _ _).alloc _), ints_lit h2 (by decide), ((Keep.refl _ _).alloc _).alloc _⟩
set_option maxRecDepth 100000 in
set_option maxHeartbeats 4000000 in
theorem told_any (w : World) : Calls Try.prog 12 #[] w (fun e w' => e = .returned (.bool true) ∧ Keep [] w w') := by
  obtain ⟨wf0, wf1, wf2, wf3⟩ := ts_wf
  obtain ⟨k1, k2, k3, k4, k5, k6, k7, k8⟩ := ts_come
  obtain ⟨b1, b2, b3⟩ := ts_at
  have he := ts_err
  have sc := fun w t mb R B V L h hV hVn hL hLn => send_any (w := w) (t := t) (mb := mb) (S := ts0) (R := R) (B := B) h wf0 (by decide) (by decide) (f := 0) (dst := 1) (V := V) (L := L) (b := [120]) (l := [0, 2]) hV hVn hL hLn
  rw [he] at sc
  have st1 := fun w t mb R B h => step_any (w := w) (t := t) (mb := mb) (S := ts1) (R := R) (B := B) h wf1 (by decide) b1
  have st2 := fun w t mb R B h => step_any (w := w) (t := t) (mb := mb) (S := ts2) (R := R) (B := B) h wf2 (by decide) b2
  have st3 := fun w t mb R B h => step_any (w := w) (t := t) (mb := mb) (S := ts3) (R := R) (B := B) h wf3 (by decide) b3
  rw [k1] at st1
  rw [k2] at st2
  rw [k3] at st3
  have HK := Lib.hid (And.intro k4 k5)
  clear k1 k2 k3 k4 k5 k6 k7 k8 b1 b2 b3 he
  have mk1 : True := trivial
  have mk2 : True := trivial
  have kc := fun (w : World) (C : Array Value) (n c : Nat) => Lib.run_convert_bytes_const (P := Try.prog) w 33 5 C n c Try.underlying33 Try.underlying5
  go_enter Try.func12, Try.ntmps12
  go_upto_region 5 with (first
    | (go_at_call 11; refine (new_any 2 _ (by decide)).mono ?_; rintro e w1 ⟨t, mb, rfl, ht, hmb, hN, hk1⟩)
    | (go_at_call 13; obtain ⟨hV, hL, hk2⟩ := told_lits w1; have lt1 := hN.lt; refine (sc _ t mb [] [] _ _ (hN.keep0 hk2) hV.rd (fun _ g hg => by simp [ownB, Value.ownBlock] at hg; subst hg; simp; omega) hL.rd (fun _ g hg => by simp [ownB, Value.ownBlock] at hg; subst hg; simp; omega)).mono ?_; rintro e w3 ⟨rfl, R, B, hN3, hR3, hB3, hk3⟩; have hKw3 := (hk1.trans hk2).andThen hk3 (fun g hg => .inr (by simp at hg; rcases hg with rfl | rfl <;> assumption)))
    | (go_at_call 14; first
      | (clear mk1; refine (st1 _ t mb R B hN3).mono ?_; rintro e w4 ⟨v4, o4, rfl, hC4, hO4, hN4, hk4⟩; have hKw4 := hKw3.andThen hk4 (fun g hg => .inr (by simp at hg; rcases hg with rfl | rfl <;> assumption)); obtain ⟨V4, rfl⟩ := lt_one hO4; have l4 := hKw3.size)
      | (clear mk2; refine (st2 _ t mb R B hN4).mono ?_; rintro e w5 ⟨v5, o5, rfl, hC5, hO5, hN5, hk5⟩; have hKw5 := hKw4.andThen hk5 (fun g hg => .inr (by simp at hg; rcases hg with rfl | rfl <;> assumption)); obtain rfl := lt_none hO5; have hC4 := hC4.keepTy hk5 hN4.noTM)
      | (refine (st3 _ t mb R B hN5).mono ?_; rintro e w6 ⟨v6, o6, rfl, hC6, hO6, hN6, hk6⟩; have hKw6 := hKw5.andThen hk6 (fun g hg => .inr (by simp at hg; rcases hg with rfl | rfl <;> assumption)); obtain ⟨V6, rfl⟩ := lt_one hO6; have hC4 := hC4.keepTy hk6 hN5.noTM; have hC5 := hC5.keepTy hk6 hN5.noTM))
    | fail)
  obtain ⟨g4, o4, c4, rfl, _, hsl4⟩ := (hC4.own.sl lenc_sz).at_ (i := 0) rfl
  obtain ⟨A5, c5, rfl, _⟩ := hC5.own.sl lenc_sz
  obtain ⟨A6, c6, rfl, _⟩ := hC6.own.sl lenc_sz
  simp only [List.length_cons, List.length_nil]
  have hS4 : Sl w6 5 1 benc V4 [120] := (hC4.bytes ⟨0, 1, V4, [120]⟩ (by simp)).sl benc_sz
  obtain ⟨A7, c7, hV7, _⟩ := id hS4
  have hV7 : V4 = .slice A7 1 c7 := hV7
  subst hV7
  have hst := run_str Try.underlying33 Try.underlying5 hS4 9 Try.underlying9
  have he : strOfNums [120] = ⟨#[120]⟩ := by decide
  rw [he] at hst
  have ca1 : w6.cell? ⟨g4, o4 + 1, none⟩ = some (.int .i64 1) := by simpa using hsl4.cell (i := 0) rfl (j := 1) (by decide)
  have ca2 : w6.cell? ⟨g4, o4 + 2, none⟩ = some (.slice A7 1 c7) := by simpa using hsl4.cell (i := 0) rfl (j := 2) (by decide)
  have nc := fun w h => now_any (w := w) (t := t) (mb := mb) (S := ts3.step) (R := R) (B := B) h
  have wc := fun w h => way_any (w := w) (t := t) (mb := mb) (S := ts3.step) (R := R) (B := B) h
  rw [HK.out.1] at nc
  rw [HK.out.2] at wc
  clear he
  go_wp2_with (first
    | (go_at_call 24; refine (nc _ hN6).mono ?_; rintro e w8 ⟨rfl, hk8⟩; have hN6 := hN6.keep0 hk8; have hKw6 := hKw6.trans hk8)
    | (go_at_call 15; refine (wc _ hN6).mono ?_; rintro e w9 ⟨rfl, hk9⟩; have hKw6 := hKw6.trans hk9)
    | fail)
  go_ret
  exact ⟨rfl, hKw6⟩
end Go.Proofs.Ytcjbmbljmmakfaa
