/- maps.Equal, fork.Tree.Same walked. -/
import Derived.Test.YtbkchniomhdieaaNil
import Derived.Test.YtbkchniomhdieaaRange
import Derived.Laws.StructEq
import Derived.Laws.IdiomRangeMap
namespace Go.Proofs.Ytbkchniomhdieaa
open Go.RowKit Go.Bz

@[reducible] def bcells (b : B1) : Array Value := #[.int .u8 b.1.a, .int .u8 b.1.b, .int .u8 b.1.c, .int .u8 b.1.d, .int .u8 b.1.e, .int .u8 b.1.f, .int .u8 b.1.g, .int .u8 b.1.h, .int .i64 b.2]
theorem part69p (W : World) (b : B1) : (part 29 (bcells b) 0).run Try.prog W = .ok (dv b.1) W := by kernel_rfl
theorem part69h (W : World) (b : B1) : (part 3 (bcells b) 8).run Try.prog W = .ok (.int .i64 b.2) W := by kernel_rfl
theorem fields69 : (Try.prog.fieldsOf 69).toList.map (fun f => (f.name, f.type, f.offset)) = [("parent", 29, 0), ("height", 3, 8)] := by kernel_rfl
theorem run_eqB (W : World) (a b : B1) : (Op.equalIn (9998 + 2) 69 (benc a) (benc b)).run Try.prog W = .ok (decide (a = b)) W := by
  rw [show 9998 + 2 = 9999 + 1 from rfl, run_equalIn_struct W 9999 69 _ _ (by kernel_rfl) (by kernel_rfl)]
  have hf := fields69
  generalize (Try.prog.fieldsOf 69).toList = fs at hf
  obtain ⟨f0, r0, rfl, e0, hf⟩ := List.map_eq_cons_iff.1 hf
  obtain ⟨f1, r1, rfl, e1, hf⟩ := List.map_eq_cons_iff.1 hf
  obtain rfl := List.map_eq_nil_iff.1 hf
  simp at e0 e1
  obtain ⟨n0, t0, o0⟩ := e0
  obtain ⟨n1, t1, o1⟩ := e1
  have h1 : (Op.equalIn 9999 29 (dv a.1) (dv b.1)).run Try.prog W = .ok (decide (a.1 = b.1)) W := run_eqD8 W dt29 9997 a.1 b.1
  have h2 : (Op.equalIn 9999 3 (.int .i64 a.2) (.int .i64 b.2)).run Try.prog W = .ok (a.2 == b.2) W := run_equalIn_int W 9998 3 .i64 .i64 a.2 b.2 Try.underlying3
  have p1 := part69p W a
  have p2 := part69p W b
  have p3 := part69h W a
  have p4 := part69h W b
  simp only [Op.eqFields, n0, n1, t0, t1, o0, o1, ne_eq, String.reduceEq, not_false_eq_true, if_true, Sem.run_bind, p1, p2, p3, p4, h1, h2, Result.andThen_ok]
  have e : (a = b) ↔ (a.1 = b.1 ∧ a.2 = b.2) := Prod.ext_iff
  cases hd : decide (a.1 = b.1) with
  | false =>
    have : ¬ a = b := fun h => of_decide_eq_false hd (e.1 h).1
    simp [this]
  | true =>
    have q1 := of_decide_eq_true hd
    simp only [Bool.not_true, Bool.false_eq_true, if_false, Sem.run_bind, p3, p4, h2, Result.andThen_ok]
    cases hb : a.2 == b.2 with
    | false =>
      have : ¬ a = b := fun h => by have := (e.1 h).2; simp [this] at hb
      simp [this]
    | true =>
      have : a = b := e.2 ⟨q1, by simpa using hb⟩
      simp [this]

/-- The same keys, and at each the same. -/
def mapsEq (l1 l2 : List (D8 × B1)) : Bool := decide (l1.length = l2.length ∧ ∀ p ∈ l1, mlook p.1 l2 = some p.2)
set_option maxHeartbeats 1000000 in
theorem mequal_any {w : World} {m1 m2 : Nat} {l1 l2 : List (D8 × B1)} (h1 : MapAt w m1 dv benc l1) (h2 : MapAt w m2 dv benc l2) :
    Calls Try.prog 37 #[.map (some m1), .map (some m2)] w (fun e w' => e = .returned (.bool (mapsEq l1 l2)) ∧ Keep [] w w') := by
  have g1 := h1.len Try.underlying70 3
  have g2 := h2.len Try.underlying70 3
  by_cases hlen : l1.length = l2.length
  · have HL := Lib.hid hlen
    rw [← hlen] at g2
    clear hlen
    obtain ⟨n, hn⟩ : ∃ n, n = l1.length := ⟨_, rfl⟩
    rw [← hn] at g1 g2
    clear hn
    go_enter Try.func37, Try.ntmps37
    go_wp2_with (first
      | (at_range; refine wpList_range rfl _ 70 rfl Try.underlying70 rfl h1 ?_; intro w0 hR hk0))
    have h2 := h2.keep hk0 (by simp)
    go_frame
    go_loopg [] l1.length (fun m wr => ∃ left, m = left.length ∧ RangeAt wr w.heap.size m1 dv benc l1 left ∧ MapAt wr m2 dv benc l2 ∧ Hid ((∀ p ∈ left, p ∈ l1) ∧ ∀ p ∈ l1, p ∉ left → mlook p.1 l2 = some p.2) ∧ Keep [] w wr)
    case atStart => exact ⟨l1, rfl, hR, h2, Lib.hid ⟨fun _ h => h, fun p h h' => absurd h h'⟩, hk0⟩
    case round =>
      clear hR h2 hk0 g1 g2
      obtain ⟨left, hm, hR, h2, HG, hK⟩ := hrel
      have HM := Lib.hid hm
      clear hm
      go_wp2_with (first
        | (at_next; refine wpList_next rfl _ rfl rfl hR ?_ ?_))
      · intro hl
        have : mapsEq l1 l2 = true := by
          unfold mapsEq
          refine decide_eq_true ⟨HL.out, fun p hp => HG.out.2 p hp (by rw [hl]; simp)⟩
        clear hl
        go_wp2_with fail
        go_ret
        exact ⟨by rw [this]; rfl, hK⟩
      · intro pre x bp bh post w1 hl hR1 hk1 hen
        have hK1 : Keep [] w w1 := hK.own hk1 (by simp)
        have h21 := h2.keep hk1 (by simp; exact fun e => hR.ne_map h2 e.symm)
        have hl2 := fun o o' => ((h21.alloc o).alloc o').look_ok k29 Try.underlying70 zero69 x
        have HLf := Lib.hid hl
        have hmem : (x, bp, bh) ∈ l1 := HG.out.1 _ (by rw [hl]; simp)
        clear hl h1 hR
        cases hq : mlook x l2 with
        | none =>
          have : mapsEq l1 l2 = false := by
            unfold mapsEq
            refine decide_eq_false (fun h => ?_)
            have := h.2 _ hmem
            rw [hq] at this
            cases this
          have HT := Lib.hid this
          simp only [hq, Option.map_none, Option.getD_none, Option.isSome_none] at hl2
          clear this hmem hq h2 h21
          go_wp2_with fail
          go_ret
          exact ⟨by rw [HT.out]; rfl, ((hK1.alloc _).alloc _).alloc _⟩
        | some b2 =>
          simp only [hq, Option.map_some, Option.getD_some, Option.isSome_some] at hl2
          have heq := fun W => run_eqB W (bp, bh) b2
          by_cases hb : (bp, bh) = b2
          · rw [decide_eq_true hb] at heq
            have HQ := Lib.hid (And.intro hq hb)
            clear hq hb hmem
            go_wp2_with fail
            go_roundg (pre ++ post).length
            case measure => rw [HM.out, HLf.out]; simp
            case rel =>
              obtain ⟨hq, hb⟩ := HQ.out
              refine ⟨pre ++ post, rfl, ((hR1.keep ((((Keep.refl [] w1).alloc _).alloc _).alloc _) (by simp) (by simp))), h21.keep ((((Keep.refl [] w1).alloc _).alloc _).alloc _) (by simp), Lib.hid ⟨fun p hp => HG.out.1 p (by rw [HLf.out]; simp at hp ⊢; rcases hp with h | h; exact .inl h; exact .inr (.inr h)), fun p hp hn => ?_⟩, ((hK1.alloc _).alloc _).alloc _⟩
              by_cases he : p = (x, bp, bh)
              · subst he; rw [hq, hb]
              · refine HG.out.2 p hp ?_
                rw [HLf.out]
                simp at hn ⊢
                refine ⟨hn.1, ?_, hn.2⟩
                intro h; exact absurd h (by simpa using he)
          · rw [decide_eq_false hb] at heq
            have : mapsEq l1 l2 = false := by
              unfold mapsEq
              refine decide_eq_false (fun h => ?_)
              have := h.2 _ hmem
              rw [hq] at this
              exact hb (Option.some.inj this).symm
            have HT := Lib.hid this
            clear this hmem hq h2 h21 hb
            go_wp2_with fail
            go_ret
            exact ⟨by rw [HT.out]; rfl, ((hK1.alloc _).alloc _).alloc _⟩
  · have : mapsEq l1 l2 = false := by unfold mapsEq; exact decide_eq_false (fun h => hlen h.1)
    rw [this]
    have hne : ((l1.length : Int) != (l2.length : Int)) = true := by simp; omega
    clear this hlen
    go_enter Try.func37, Try.ntmps37
    go_wp2_with fail
    go_ret
    exact ⟨rfl, Keep.refl _ _⟩
end Go.Proofs.Ytbkchniomhdieaa
