/- The document's New, party and cut walked. -/
import Derived.Test.YtcjbmbljmmakfaaRefNet
import Derived.Test.YtcjbmbljmmakfaaStr
import Derived.Test.YtcjbmbljmmakfaaApp3
namespace Go.Proofs.Ytcjbmbljmmakfaa
open Go.RowKit Go.Bz

@[reducible] def cenc (c : RC) : Array Value := #[.int .i64 c.f, .int .i64 c.t, .string c.s, .int .i64 c.due]
@[reducible] def penc (p : Int × Int) : Array Value := #[.int .i64 p.1, .int .i64 p.2]
theorem cenc_sz : ∀ x, (cenc x).size = 4 := fun _ => rfl
theorem penc_sz : ∀ x, (penc x).size = 2 := fun _ => rfl
/-- A net's cells: where its copies and its cuts stand. -/
@[reducible] def rcells (R : RN) (V C : Value) : Array Value := #[.int .i64 R.P, .int .i64 R.now, V, C]
structure RnAt (w : World) (R : RN) (V C : Value) : Prop where
  way : RdV w 4 cenc V R.way
  cuts : RdV w 2 penc C R.cuts
  some : SomeOr V
  tv : ∀ g ∈ ownB V, ∃ cs, Blk w g 102 cs
  tc : ∀ g ∈ ownB C, ∃ cs, Blk w g 104 cs
theorem blk_keep {w w' : World} {S : List Nat} {g : Nat} {ty : TypeId} (h : ∃ cs, Blk w g ty cs) (hk : Keep S w w') (hg : g ∉ S) : ∃ cs, Blk w' g ty cs := by
  obtain ⟨cs, hb⟩ := h
  exact ⟨cs, hb.keep hk hg⟩
theorem RnAt.keep {w w' : World} {R : RN} {V C : Value} {S : List Nat} (h : RnAt w R V C) (hk : Keep S w w') (h1 : ∀ g ∈ ownB V, g ∉ S) (h2 : ∀ g ∈ ownB C, g ∉ S) : RnAt w' R V C :=
  ⟨h.way.keep hk (fun _ g hg _ => h1 g hg), h.cuts.keep hk (fun _ g hg _ => h2 g hg), h.some, fun g hg => blk_keep (h.tv g hg) hk (h1 g hg), fun g hg => blk_keep (h.tc g hg) hk (h2 g hg)⟩
theorem RnAt.keep0 {w w' : World} {R : RN} {V C : Value} (h : RnAt w R V C) (hk : Keep [] w w') : RnAt w' R V C := h.keep hk (by simp) (by simp)
theorem RnAt.sl {w : World} {R : RN} {V C : Value} (h : RnAt w R V C) : (∃ A cap, V = .slice A R.way.length cap) ∧ ∃ A cap, C = .slice A R.cuts.length cap := by
  obtain ⟨A, cap, h1, _⟩ := h.way
  obtain ⟨A', cap', h2, _⟩ := h.cuts
  exact ⟨⟨A, cap, h1⟩, A', cap', h2⟩
theorem rd_nil {α : Type} (w : World) (k : Nat) (enc : α → Array Value) : RdV w k enc (.slice none 0 0) [] := ⟨none, 0, rfl, Nat.le_refl _, by decide, fun h => absurd rfl h⟩
theorem RnAt.new (w : World) (p : Int) : RnAt w (RN.new p) (.slice none 0 0) (.slice none 0 0) := ⟨rd_nil .., rd_nil .., .inl rfl, by simp [ownB, Value.ownBlock], by simp [ownB, Value.ownBlock]⟩
theorem rnew_no (p : Int) (w : World) (hp : p < 1 ∨ 16 < p) : Calls Try.prog 28 #[.int .i64 p] w (fun e w' => e = .returned (.tuple #[.agg (rcells ⟨0, 0, [], []⟩ (.slice none 0 0) (.slice none 0 0)), .bool false]) ∧ Keep [] w w') := by
  rcases hp with h | h
  · go_enter Try.func28, Try.ntmps28
    go_wp2_with fail
    exact bodyPost_ret (v := .tuple #[.agg (rcells ⟨0, 0, [], []⟩ (.slice none 0 0) (.slice none 0 0)), .bool false]) (by simp [results, Try.results28, go_sem]) rfl ⟨rfl, (Keep.refl _ _).alloc _⟩
  · have h1 : decide (p < 1) = false := by simp; omega
    go_enter Try.func28, Try.ntmps28
    go_wp2_with fail
    exact bodyPost_ret (v := .tuple #[.agg (rcells ⟨0, 0, [], []⟩ (.slice none 0 0) (.slice none 0 0)), .bool false]) (by simp [results, Try.results28, go_sem]) rfl ⟨rfl, (Keep.refl _ _).alloc _⟩
theorem rnew_any (p : Int) (w : World) (hp : 1 ≤ p ∧ p ≤ 16) : Calls Try.prog 28 #[.int .i64 p] w (fun e w' => e = .returned (.tuple #[.agg (rcells (RN.new p) (.slice none 0 0) (.slice none 0 0)), .bool true]) ∧ Keep [] w w') := by
  obtain ⟨h1, h2⟩ := hp
  go_enter Try.func28, Try.ntmps28
  go_wp2_with fail
  exact bodyPost_ret (v := .tuple #[.agg (rcells (RN.new p) (.slice none 0 0) (.slice none 0 0)), .bool true]) (by simp [results, Try.results28, go_sem, RN.new]) rfl ⟨rfl, (Keep.refl _ _).alloc _⟩
theorem rparty_any (R : RN) (A A' : Option Addr) (n n' c c' : Nat) (i : Int) (w : World) : Calls Try.prog 45 #[.agg (rcells R (.slice A n c) (.slice A' n' c')), .int .i64 i] w (fun e w' => e = .returned (.bool (R.party i)) ∧ Keep [] w w') := by
  obtain ⟨P, now, way, cuts⟩ := R
  by_cases h0 : 0 ≤ i
  · have HP : Hid (RN.party ⟨P, now, way, cuts⟩ i = decide (i < P)) := Lib.hid (by unfold RN.party; simp [h0])
    go_enter Try.func45, Try.ntmps45
    go_wp2_with fail
    go_ret
    exact ⟨by rw [HP.out]; rfl, (Keep.refl _ _).alloc _⟩
  · have HP : Hid (RN.party ⟨P, now, way, cuts⟩ i = false) := Lib.hid (by unfold RN.party; simp [h0])
    have h1 : decide (0 ≤ i) = false := by simp; omega
    clear h0
    go_enter Try.func45, Try.ntmps45
    go_wp2_with fail
    go_ret
    exact ⟨by rw [HP.out]; rfl, (Keep.refl _ _).alloc _⟩
theorem run_eqPair (W : World) (a b c d : Int) : (Op.equalIn 10000 104 (.agg #[.int .i64 a, .int .i64 b]) (.agg #[.int .i64 c, .int .i64 d])).run Try.prog W = .ok (decide ((a, b) = (c, d))) W := by
  have hi : (Try.prog.info? 3).isSome = true := by kernel_rfl
  obtain ⟨i, hi⟩ := Option.isSome_iff_exists.1 hi
  have e3 : Try.prog.cellsOf 3 = 1 := by kernel_rfl
  have he : ∀ x y : Int, (Op.equalIn 9999 3 (.int .i64 x) (.int .i64 y)).run Try.prog W = .ok (x == y) W := fun x y => run_equalIn_int W 9998 3 .i64 .i64 x y Try.underlying3
  have p0 : ∀ x y : Value, (part 3 #[x, y] 0).run Try.prog W = .ok x W := fun x y => by simp [part, isAgg, run_underlying Try.underlying3]
  have p1 : ∀ x y : Value, (part 3 #[x, y] 1).run Try.prog W = .ok y W := fun x y => by simp [part, isAgg, run_underlying Try.underlying3]
  rw [run_equalIn_array W 9999 _ _ Try.underlying104 hi, e3, show List.range 2 = [0, 1] from rfl]
  simp only [Op.eqItems, Sem.run_bind, Nat.mul_one, p0, p1, Result.andThen_ok, he, Sem.run_pure]
  by_cases h1 : a = c
  · by_cases h2 : b = d
    · simp [h1, h2, p1, he]
    · simp [h1, h2, p1, he]
  · simp [h1]
theorem pAt {w : World} {V : Value} {l : List (Int × Int)} (h : RdV w 2 penc V l) {k : Nat} {e : Int × Int} (hk : l[k]? = some e) : ∃ ab ao cp, V = .slice (some ⟨ab, ao, none⟩) l.length cp ∧ ∀ W, Keep [] w W →
    W.cell? ⟨ab, ao + k * 2, none⟩ = some (.int .i64 e.1) ∧ W.cell? ⟨ab, ao + k * 2 + 1, none⟩ = some (.int .i64 e.2) := by
  obtain ⟨ab, ao, cp, hv, hlt, hc⟩ := h.at_ hk
  refine ⟨ab, ao, cp, hv, fun W hW => ?_⟩
  exact ⟨hW.cell (by simpa using hc 0 (by decide)) (by simp), hW.cell (by simpa using hc 1 (by decide)) (by simp)⟩
set_option maxRecDepth 100000 in
theorem rcut_any {w : World} {R : RN} {V C : Value} (h : RnAt w R V C) (f t : Int) : Calls Try.prog 46 #[.agg (rcells R V C), .int .i64 f, .int .i64 t] w (fun e w' => e = .returned (.bool (R.isCut f t)) ∧ Keep [] w w') := by
  obtain ⟨⟨AV, cV, hV⟩, AC, cC, hC⟩ := h.sl
  have hR := h.cuts
  obtain ⟨P, now, way, cuts⟩ := R
  simp only at hV hC hR
  subst hV hC
  obtain ⟨_, _, hv, hc1, hc2, _⟩ := id hR
  cases hv
  unfold maxLen at hc2
  show Calls _ _ _ _ (fun e w' => e = .returned (.bool (decide ((f, t) ∈ cuts))) ∧ Keep [] w w')
  obtain ⟨w1, hw1⟩ : ∃ W, W = w.alloc (.cells #[.int .i64 P, .int .i64 now, .slice AV way.length cV, .slice AC cuts.length cC] 47) := ⟨_, rfl⟩
  have B1 : Blk w1 w.heap.size 47 #[.int .i64 P, .int .i64 now, .slice AV way.length cV, .slice AC cuts.length cC] := by rw [hw1]; exact Blk.new _ _ _
  have hk1 : Keep [] w w1 := by rw [hw1]; exact (Keep.refl _ _).alloc _
  have c1 := B1.cell
  have hR := hR.keep0 hk1
  clear h
  go_enter Try.func46, Try.ntmps46
  go_upto_region 1 with fail
  rw [← hw1]
  clear hw1
  go_wp2_with fail
  go_loopg [7] cuts.length (fun m i wr => ∃ k : Nat, i = .int .i64 k ∧ m + k = cuts.length ∧ Hid (∀ j, j < k → cuts[j]? ≠ some (f, t)) ∧ wr = w1)
  case atStart => exact ⟨0, rfl, rfl, Lib.hid (fun j hj => absurd hj (Nat.not_lt_zero _)), rfl⟩
  case round =>
    obtain ⟨k, rfl, hk, HN, rfl⟩ := hrel
    by_cases hlt : k < cuts.length
    · obtain ⟨⟨a, b⟩, hr⟩ : ∃ r, cuts[k]? = some r := ⟨_, List.getElem?_eq_getElem hlt⟩
      obtain ⟨ab, ao, cp, hv, hcl⟩ := pAt hR hr
      cases hv
      have c2 := hcl _ (Keep.refl _ _)
      have HR := Lib.hid hr
      have heq := fun W => run_eqPair W a b f t
      clear hcl hr
      by_cases hab : (a, b) = (f, t)
      · rw [decide_eq_true hab] at heq
        go_wp2_with fail
        go_ret
        refine ⟨?_, hk1⟩
        have := List.mem_of_getElem? HR.out
        rw [hab] at this
        rw [decide_eq_true this]
        rfl
      · rw [decide_eq_false hab] at heq
        have HAB := Lib.hid hab
        clear hab
        go_wp2_with fail
        go_roundg (cuts.length - (k + 1))
        case measure => omega
        case rel =>
          refine ⟨k + 1, by go_num, by omega, Lib.hid (fun j hj => ?_), rfl⟩
          rcases Nat.lt_or_ge j k with h | h
          · exact HN.out j h
          · have : j = k := by omega
            subst this
            rw [HR.out]
            intro e
            injection e with e
            exact HAB.out e
    · have HK := Lib.hid (And.intro hk hlt)
      clear hk
      go_wp2_with fail
      go_ret
      refine ⟨?_, hk1⟩
      have : (f, t) ∉ cuts := by
        intro hm
        obtain ⟨j, hj⟩ := List.getElem?_of_mem hm
        have hjl : j < cuts.length := (List.getElem?_eq_some_iff.1 hj).1
        exact HN.out j (by have := HK.out.2; omega) hj
      rw [decide_eq_false this]; rfl
end Go.Proofs.Ytcjbmbljmmakfaa
