/- The document's Step walked. -/
import Derived.Test.YtcjbmbljmmakfaaRefCut
import Derived.Test.YtcjbmbljmmakfaaApp2
namespace Go.Proofs.Ytcjbmbljmmakfaa
open Go.RowKit Go.Bz

section
variable {α : Type} {w w' : World} {base : Nat} {ty : TypeId} {k : Nat} {enc : α → Array Value} {v : Value} {l : List α}
theorem wpList_append1_new {P : Program} {ops : Array Oper} {rest : List Oper} {o : Oper} {a : Act} {Q : Exit → Act → World → Prop} (hgd : o.guard = none) (s x : Operand) (t : TypeId)
    (ho : o.op = .call { callee := .builtin .append, args := #[s, x], argTypes := #[t, t] }) {bytes : Nat} {z : Value} (A : AppT P t ty k bytes z)
    (hs : a.eval s = v) (hown : Own w base ty k enc v l) {gx ty' cx : Nat} {y : α} (hx : a.eval x = .slice (some ⟨gx, 0, none⟩) 1 cx) (hb : Blk w gx ty' (enc y)) (hk : (enc y).size = k)
    (h1 : ∀ u ∈ (enc y).toList, u.oneCell' = true) (hlen : (l.length + 1) * bytes ≤ 140737488355328) (hmax : l.length + 1 ≤ maxLen) (hbase : base ≤ w.heap.size)
    (h : ∀ v' w', Own w' base ty k enc v' (l ++ [y]) → Keep (ownB v) w w' → (∀ g ∈ ownB v', g ∈ ownB v ∨ w.heap.size ≤ g) → wpList P ops Q rest (a.put o.dst v') w') : wpList P ops Q (o :: rest) a w := by
  refine wpList_plain hgd fun K hK => ?_
  obtain ⟨v', w', hrun, h2, h3, h4⟩ := run_append1_new A hown (cx := cx) hb hk h1 hlen hmax hbase o.type
  unfold Oper.wp execOp
  simp only [ho, resolve, invoke, builtin, Sem.run_bind, Sem.run_pure, Result.andThen_ok, List.map_toArray, List.map_cons, List.map_nil, hs, hx, hrun]
  exact hK _ _ (h v' w' h2 h3 h4)
end
theorem app44 : AppT Try.prog 44 102 4 40 (.agg #[.int .i64 0, .int .i64 0, .string ⟨#[]⟩, .int .i64 0]) := ⟨Try.underlying44, by kernel_rfl, by rfl, by decide⟩
theorem cenc_one (c : RC) : ∀ u ∈ (cenc c).toList, u.oneCell' = true := by intro u hu; simp at hu; rcases hu with rfl | rfl | rfl | rfl <;> rfl
theorem cAt {w : World} {V : Value} {l : List RC} (h : RdV w 4 cenc V l) {k : Nat} {e : RC} (hk : l[k]? = some e) : ∃ ab ao cp, V = .slice (some ⟨ab, ao, none⟩) l.length cp ∧ ∀ W, Keep [] w W →
    W.cell? ⟨ab, ao + k * 4, none⟩ = some (.int .i64 e.f) ∧ W.cell? ⟨ab, ao + k * 4 + 1, none⟩ = some (.int .i64 e.t) ∧ W.cell? ⟨ab, ao + k * 4 + 2, none⟩ = some (.string e.s) ∧ W.cell? ⟨ab, ao + k * 4 + 3, none⟩ = some (.int .i64 e.due) := by
  obtain ⟨ab, ao, cp, hv, hlt, hc⟩ := h.at_ hk
  refine ⟨ab, ao, cp, hv, fun W hW => ?_⟩
  exact ⟨hW.cell (by simpa using hc 0 (by decide)) (by simp), hW.cell (by simpa using hc 1 (by decide)) (by simp), hW.cell (by simpa using hc 2 (by decide)) (by simp), hW.cell (by simpa using hc 3 (by decide)) (by simp)⟩
/-- The loop's state: what comes, what stays. -/
structure StepR (w1 wr : World) (v4 v5 : Value) (l4 l5 : List RC) : Prop where
  o4 : Own wr w1.heap.size 102 4 cenc v4 l4
  o5 : Own wr w1.heap.size 102 4 cenc v5 l5
  apart : ∀ g ∈ ownB v4, g ∉ ownB v5
  k : Keep [] w1 wr
section
variable {w1 wr w' : World} {v4 v5 v' : Value} {l4 l5 : List RC}
theorem StepR.keep0 (h : StepR w1 wr v4 v5 l4 l5) (hk : Keep [] wr w') : StepR w1 w' v4 v5 l4 l5 := ⟨h.o4.keep0 hk, h.o5.keep0 hk, h.apart, h.k.trans hk⟩
theorem StepR.put4 {x : RC} (h : StepR w1 wr v4 v5 l4 l5) (hO : Own w' w1.heap.size 102 4 cenc v' (l4 ++ [x])) (hk : Keep (ownB v4) wr w') (hf : ∀ g ∈ ownB v', g ∈ ownB v4 ∨ wr.heap.size ≤ g) : StepR w1 w' v' v5 (l4 ++ [x]) l5 :=
  ⟨hO, h.o5.keep hk (fun g hg h4 => h.apart g h4 hg), fun g hg h5 => by
    rcases hf g hg with h4 | h4
    · exact h.apart g h4 h5
    · have := (h.o5.lt g h5).2; omega, h.k.andThen hk (fun g hg => .inr (h.o4.lt g hg).1)⟩
theorem StepR.put5 {x : RC} (h : StepR w1 wr v4 v5 l4 l5) (hO : Own w' w1.heap.size 102 4 cenc v' (l5 ++ [x])) (hk : Keep (ownB v5) wr w') (hf : ∀ g ∈ ownB v', g ∈ ownB v5 ∨ wr.heap.size ≤ g) : StepR w1 w' v4 v' l4 (l5 ++ [x]) :=
  ⟨h.o4.keep hk h.apart, hO, fun g hg h5 => by
    rcases hf g h5 with h5' | h5'
    · exact h.apart g hg h5'
    · have := (h.o4.lt g hg).2; omega, h.k.andThen hk (fun g hg => .inr (h.o5.lt g hg).1)⟩
end
set_option maxRecDepth 100000 in
set_option maxHeartbeats 2000000 in
theorem rstep_any {w : World} {R : RN} {V C : Value} (h : RnAt w R V C) (hl : R.way.length ≤ 5000) (hn : 0 ≤ R.now ∧ R.now ≤ 1000000) :
    Calls Try.prog 36 #[.agg (rcells R V C)] w (fun e w' => ∃ V' O, e = .returned (.tuple #[.agg (rcells R.step V' C), O]) ∧ RnAt w' R.step V' C ∧ RdV w' 4 cenc O R.out ∧ (∀ x ∈ ownB O, ∃ cs, Blk w' x 102 cs) ∧ Keep [] w w') := by
  obtain ⟨⟨AV, cV, hV⟩, AC, cC, hC⟩ := h.sl
  have hRw := h.way
  have hRc := h.cuts
  have hTc := h.tc
  subst hV hC
  have rc := fun W (hk : Keep [] w W) f t => rcut_any (h.keep0 hk) f t
  have HO : Hid (R.out = R.way.filter fun c => decide (c.due = R.now) && !R.isCut c.f c.t) := Lib.hid rfl
  have HS : Hid (R.step = ⟨R.P, R.now + 1, R.way.filter fun c => !decide (c.due = R.now), R.cuts⟩) := Lib.hid rfl
  obtain ⟨R2, hR2⟩ : ∃ R2, R2 = R.step := ⟨_, rfl⟩
  obtain ⟨out, hout⟩ : ∃ o, o = R.out := ⟨_, rfl⟩
  rw [← hR2] at HS
  rw [← hout] at HO
  rw [← hR2, ← hout]
  clear hR2 hout h
  obtain ⟨q, hq⟩ : ∃ q, q = R.isCut := ⟨_, rfl⟩
  rw [← hq] at HO rc
  clear hq
  obtain ⟨P, now, way, cuts⟩ := R
  simp only at hl hRw hRc HS HO rc hn
  simp only [rcells] at rc ⊢
  obtain ⟨w1, hw1⟩ : ∃ W, W = (w.alloc (.cells #[.int .i64 P, .int .i64 now, .slice AV way.length cV, .slice AC cuts.length cC] 47)).alloc (.cells #[.int .i64 0, .int .i64 0, .slice none 0 0, .slice none 0 0] 47) := ⟨_, rfl⟩
  have B0 : Blk w1 w.heap.size 47 #[.int .i64 P, .int .i64 now, .slice AV way.length cV, .slice AC cuts.length cC] := by rw [hw1]; exact (Blk.new _ _ _).alloc _
  have B1 : Blk w1 (w.heap.size + 1) 47 #[.int .i64 0, .int .i64 0, .slice none 0 0, .slice none 0 0] := by rw [hw1]; exact Blk.new_ (by simp)
  have hk1 : Keep [] w w1 := by rw [hw1]; exact ((Keep.refl _ _).alloc _).alloc _
  have F0 := fun W (hk : Keep [] w1 W) => (B0.keep hk (by simp)).cell
  have F1 := fun W (hk : Keep [] w1 W) => (B1.keep hk (by simp)).cell
  have G0 := fun W (hk : Keep [] w1 W) => (B0.keep hk (by simp)).frozen
  have G1 := fun W (hk : Keep [] w1 W) => (B1.keep hk (by simp)).frozen
  go_enter Try.func36, Try.ntmps36
  go_upto_region 1 with fail
  rw [← hw1]
  clear hw1
  go_wp2_with fail
  go_loopg [4, 5, 6] way.length (fun m v4 v5 i wr => ∃ (k : Nat) (l4 l5 : List RC), i = .int .i64 k ∧ Hid (m + k = way.length ∧ l4.length ≤ k ∧ l5.length ≤ k) ∧ StepR w1 wr v4 v5 l4 l5 ∧ Hid (l4 = (way.take k).filter fun c => decide (c.due = now) && !q c.f c.t) ∧ Hid (l5 = (way.take k).filter fun c => !decide (c.due = now)))
  case atStart => exact ⟨0, [], [], rfl, Lib.hid ⟨rfl, Nat.le_refl _, Nat.le_refl _⟩, ⟨Own.nil .., Own.nil .., by simp [ownB, Value.ownBlock], Keep.refl _ _⟩, Lib.hid rfl, Lib.hid rfl⟩
  case round =>
    obtain ⟨k, l4, l5, rfl, HK, hS, H4, H5⟩ := hrel
    obtain ⟨A4, c4, rfl, _⟩ := hS.o4.sl cenc_sz
    obtain ⟨A5, c5, rfl, _⟩ := hS.o5.sl cenc_sz
    have c0 := F0 _ hS.k
    by_cases hlt : k < way.length
    · obtain ⟨⟨cf, ct, cs, cd⟩, hr⟩ : ∃ r, way[k]? = some r := ⟨_, List.getElem?_eq_getElem hlt⟩
      obtain ⟨ab, ao, cp, hv, hcl⟩ := cAt (hRw.keep0 hk1) hr
      cases hv
      have c2 := hcl _ hS.k
      have HF4 := Lib.hid (filter_snoc (fun c : RC => decide (c.due = now) && !q c.f c.t) way hr)
      have HF5 := Lib.hid (filter_snoc (fun c : RC => !decide (c.due = now)) way hr)
      have HL := Lib.hid hlt
      clear hr
      go_upto_region 6 with fail
      obtain ⟨wa, hwa⟩ : ∃ W, W = wr.alloc (.cells #[.int .i64 cf, .int .i64 ct, .string cs, .int .i64 cd] 102) := ⟨_, rfl⟩
      have hka : Keep [] wr wa := by rw [hwa]; exact (Keep.refl _ _).alloc _
      have Ba : Blk wa wr.heap.size 102 (cenc ⟨cf, ct, cs, cd⟩) := by rw [hwa]; exact Blk.new _ _ _
      have hSa := hS.keep0 hka
      rw [← hwa]
      clear hwa c0 c2
      have c0 := F0 _ hSa.k
      have ca := Ba.cell
      obtain ⟨ga, HGa⟩ : ∃ g, Hid (g = wr.heap.size) := ⟨_, Lib.hid rfl⟩
      rw [← HGa.out] at Ba ca ⊢
      by_cases hd : cd = now
      · have h1 : (cd == now) = true := by simp [hd]
        have HD := Lib.hid hd
        clear hd
        go_upto_region 8 with fail
        have hcall := rc wa (hk1.trans hSa.k) cf ct
        go_upto_if 35 with (first
          | (go_at_call 46; refine hcall.mono ?_; rintro e w5 ⟨rfl, hk5⟩)
          | fail)
        have hS5 := hSa.keep0 hk5
        have ca := (Ba.keep hk5 (by simp)).cell
        clear c0 hcall
        cases hqc : q cf ct with
        | true =>
          have HQ := Lib.hid hqc
          clear hqc
          go_wp2_with fail
          go_roundg (way.length - (k + 1))
          case measure => have := HK.out; have := HL.out; omega
          case rel => exact ⟨k + 1, l4, l5, by go_num, Lib.hid (by have := HK.out; have := HL.out; omega), hS5, Lib.hid (by rw [HF4.out, ← H4.out]; simp [HQ.out]), Lib.hid (by rw [HF5.out, ← H5.out]; simp [HD.out])⟩
        | false =>
          have HQ := Lib.hid hqc
          clear hqc
          go_wp2_with (first
            | (at_builtin; refine wpList_append1_new (y := (⟨cf, ct, cs, cd⟩ : RC)) rfl _ _ 44 rfl app44 rfl (hS5.o4.alloc _) rfl (Blk.new_ rfl) rfl (cenc_one _) ?q1 ?q2 ?q3 ?q4)
            | fail)
          case q1 => have := HK.out; have := HL.out; omega
          case q2 => have := HK.out; have := HL.out; unfold maxLen; omega
          case q3 => have := hS5.k.size; simp; omega
          case q4 =>
            intro v' w' hO2 hk4 hf4
            have hS6 := (hS5.keep0 ((Keep.refl _ w5).alloc (.cells (cenc ⟨cf, ct, cs, cd⟩) 102))).put4 hO2 hk4 (fun g hg => by have := hf4 g hg; simpa using this)
            clear hk4 hf4
            go_wp2_with fail
            go_roundg (way.length - (k + 1))
            case measure => have := HK.out; have := HL.out; omega
            case rel => exact ⟨k + 1, _, l5, by go_num, Lib.hid (by have := HK.out; have := HL.out; simp; omega), hS6, Lib.hid (by rw [HF4.out, ← H4.out]; simp [HQ.out, HD.out]), Lib.hid (by rw [HF5.out, ← H5.out]; simp [HD.out])⟩
      · have h1 : (cd == now) = false := by simp [hd]
        have HD := Lib.hid hd
        clear hd
        go_wp2_with (first
          | (at_builtin; refine wpList_append1_new (y := (⟨cf, ct, cs, cd⟩ : RC)) rfl _ _ 44 rfl app44 rfl (hSa.o5.alloc _) rfl (Blk.new_ rfl) rfl (cenc_one _) ?q1 ?q2 ?q3 ?q4)
          | fail)
        case q1 => have := HK.out; have := HL.out; omega
        case q2 => have := HK.out; have := HL.out; unfold maxLen; omega
        case q3 => have := hSa.k.size; simp; omega
        case q4 =>
          intro v' w' hO2 hk4 hf4
          have hS6 := (hSa.keep0 ((Keep.refl _ wa).alloc (.cells (cenc ⟨cf, ct, cs, cd⟩) 102))).put5 hO2 hk4 (fun g hg => by have := hf4 g hg; simpa using this)
          clear hk4 hf4
          go_wp2_with fail
          go_roundg (way.length - (k + 1))
          case measure => have := HK.out; have := HL.out; omega
          case rel => exact ⟨k + 1, l4, _, by go_num, Lib.hid (by have := HK.out; have := HL.out; simp; omega), hS6, Lib.hid (by rw [HF4.out, ← H4.out]; simp [HD.out]), Lib.hid (by rw [HF5.out, ← H5.out]; simp [HD.out])⟩
    · have hkl : way.take k = way := List.take_of_length_le (by omega)
      rw [hkl] at H4 H5
      clear hkl
      have c3 := F1 _ hS.k
      have g0 := G0 _ hS.k
      have g1 := G1 _ hS.k
      have hkk := HK.out
      have q1 : IntKind.i64.wrap (now + 1) = now + 1 := IntWalk.i64_in _ (by omega)
      go_wp2_with fail
      have hb0 := B0.keep hS.k (by simp)
      have hb1 := B1.keep hS.k (by simp)
      have hk2 : Keep [w.heap.size] wr ((wr.setCell ⟨w.heap.size, 2, none⟩ (.slice A5 l5.length c5)).setCell ⟨w.heap.size, 1, none⟩ (.int .i64 (now + 1))) := ((Keep.refl _ _).setCell (p := ⟨w.heap.size, 2, none⟩) (.inl (by simp)) _).setCell (p := ⟨w.heap.size, 1, none⟩) (.inl (by simp)) _
      have hb1' := hb1.keep hk2 (by simp)
      have hk3 : Keep [] w ((wr.setCell ⟨w.heap.size, 2, none⟩ (.slice A5 l5.length c5)).setCell ⟨w.heap.size, 1, none⟩ (.int .i64 (now + 1))) := ((hk1.trans hS.k).setCell (p := ⟨w.heap.size, 2, none⟩) (.inr (Nat.le_refl _)) _).setCell (p := ⟨w.heap.size, 1, none⟩) (.inr (Nat.le_refl _)) _
      obtain ⟨hSb, hk9, hk8⟩ := put4 hb1' hk3 (by omega) (.int .i64 P) (.int .i64 (now + 1)) (.slice A5 l5.length c5) (.slice AC cuts.length cC)
      have no : ∀ {v : Value} {l : List RC}, Own wr w1.heap.size 102 4 cenc v l → Own ((((((wr.setCell ⟨w.heap.size, 2, none⟩ (.slice A5 l5.length c5)).setCell ⟨w.heap.size, 1, none⟩ (.int .i64 (now + 1))).setCell ⟨w.heap.size + 1, 0, none⟩ (.int .i64 P)).setCell ⟨w.heap.size + 1, 1, none⟩ (.int .i64 (now + 1))).setCell ⟨w.heap.size + 1, 2, none⟩ (.slice A5 l5.length c5)).setCell ⟨w.heap.size + 1, 3, none⟩ (.slice AC cuts.length cC)) w1.heap.size 102 4 cenc v l := fun hO => by
        have n0 := hO.ne_blk hb0 (by decide)
        have n1 := hO.ne_blk hb1 (by decide)
        exact (hO.keep hk2 (by intro g hg; simp; exact fun e => n0 (e ▸ hg))).keep hk8 (by intro g hg; simp; exact fun e => n1 (e ▸ hg))
      have o4 := no hS.o4
      have o5 := no hS.o5
      have cS := hSb.cell
      have e2 := HS.out
      have e3 := HO.out
      rw [← H4.out] at e3
      rw [← H5.out] at e2
      subst e2 e3
      exact bodyPost_ret (v := .tuple #[.agg #[.int .i64 P, .int .i64 (now + 1), .slice A5 l5.length c5, .slice AC cuts.length cC], .slice A4 out.length c4]) (by simp [results, Try.results36, go_sem, cS]) rfl
        ⟨_, _, rfl, ⟨(o5.sl cenc_sz).rd, hRc.keep0 hk9, o5.some, o5.blk, fun g hg => blk_keep (hTc g hg) hk9 (by simp)⟩, (o4.sl cenc_sz).rd, o4.blk, hk9⟩
end Go.Proofs.Ytcjbmbljmmakfaa
