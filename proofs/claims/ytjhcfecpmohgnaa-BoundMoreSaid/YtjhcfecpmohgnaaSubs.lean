/- Parts of a slice, and two behind one another. -/
import Derived.Test.YtjhcfecpmohgnaaBoundDeep
namespace Go.Proofs.Ytjhcfecpmohgnaa
open Go.RowKit Go.Bz

def SomeOr (V : Value) : Prop := V = .slice none 0 0 ∨ ∃ a n c, V = .slice (some a) n c
section
variable {α : Type} {w w' : World} {base : Nat} {k : Nat} {enc : α → Array Value} {v V : Value} {l l1 l2 : List α}
theorem run_append_m2 {P : Program} {t : TypeId} {bytes : Nat} {z : Value} {ty0 : TypeId} (A : AppT P t ty0 k bytes z) (hown : Own w base ty0 k enc v l1) (hs : RdV w k enc V l2) (hnz : SomeOr V)
    (hk : ∀ x, (enc x).size = k) (h1 : ∀ x ∈ l2, ∀ u ∈ (enc x).toList, u.oneCell' = true) (hlen : (l1.length + l2.length) * bytes ≤ 140737488355328) (hmax : l1.length + l2.length ≤ maxLen) (hbase : base ≤ w.heap.size) (tyy : TypeId) :
    ∃ v' w', (Builtin.append_ #[t, t] tyy #[v, V]).run P w = .ok v' w' ∧ Own w' base ty0 k enc v' (l1 ++ l2) ∧ Keep (ownB v) w w' := by
  obtain ⟨i, hi, hz0, hz1, hz2⟩ := info_parts A.info
  rcases hnz with rfl | ⟨a, n, cap, rfl⟩
  · obtain ⟨A', cap', hv, h2, h3, h4⟩ := hs
    have hn : l2 = [] := by
      cases l2 with
      | nil => rfl
      | cons x r => simp at hv
    subst hn
    refine ⟨v, w, run_append_owned_none (P := P) w base t tyy ty0 i k A.sl hi v _ _ hown, ?_, Keep.refl _ _⟩
    simpa using hown
  obtain ⟨A', cap', hv, _, _, h3⟩ := hs
  cases hv
  by_cases hne : l2 = []
  · subst hne
    obtain ⟨v', w', hrun, h2, h3, _⟩ := run_append_own (P := P) w base t tyy ty0 i z k bytes A.sl hi hz0 hz1 hz2 A.zs A.pos v l1.length _ hown a 0 cap [] (by simp) (by simp) (by simp) hmax hlen hbase
    refine ⟨v', w', hrun, ?_, Keep.of_grown h3⟩
    unfold Own
    simpa using h2
  · obtain ⟨g, o, hA, hg, hc⟩ := h3 hne
    cases hA
    have hflat : ∀ j u, (l2.flatMap fun x => (enc x).toList)[j]? = some u → w.cell? ((⟨g, o, none⟩ : Addr).add j) = some u := by
      intro j u hj
      have hj' : j < l2.length * k := by rw [← flat_len hk]; exact (List.getElem?_eq_some_iff.1 hj).1
      have hd : j / k < l2.length := (Nat.div_lt_iff_lt_mul A.pos).2 hj'
      have hm := Nat.mod_lt j A.pos
      obtain ⟨x, hx⟩ : ∃ x, l2[j / k]? = some x := ⟨_, List.getElem?_eq_getElem hd⟩
      have e := flat_at (f := fun x => (enc x).toList) (fun x => by simpa using hk x) l2 (j / k) x hx (j % k) hm
      have ej : j / k * k + j % k = j := by have := Nat.div_add_mod j k; rw [Nat.mul_comm] at this; exact this
      rw [ej] at e
      have c := hc (j / k) x hx (j % k) hm
      rw [Nat.add_assoc, ej] at c
      rw [hj] at e
      have : w.cell? ⟨g, o + j, none⟩ = some u := by rw [c]; simpa using e.symm
      unfold Addr.add
      by_cases h0 : j = 0
      · subst h0; simpa using this
      · simpa [h0] using this
    obtain ⟨v', w', hrun, h2, h3, _⟩ := run_append_own (P := P) w base t tyy ty0 i z k bytes A.sl hi hz0 hz1 hz2 A.zs A.pos v l1.length _ hown ⟨g, o, none⟩ l2.length cap (l2.flatMap fun x => (enc x).toList)
      (flat_len hk l2) hflat (by intro u hu; obtain ⟨x, hx', hx⟩ := List.mem_flatMap.1 hu; exact h1 x hx' u hx) hmax hlen hbase
    refine ⟨v', w', hrun, ?_, Keep.of_grown h3⟩
    unfold Own
    simpa using h2
theorem oper_append_m2 {P : Program} {o : Oper} {a : Act} {K : Act → World → Prop} {Q : Exit → Act → World → Prop} (s x : Operand) (t : TypeId)
    (ho : o.op = .call { callee := .builtin .append, args := #[s, x], argTypes := #[t, t] }) {bytes : Nat} {z : Value} {ty0 : TypeId} (A : AppT P t ty0 k bytes z)
    (hs : a.eval s = v) (hown : Own w base ty0 k enc v l1) (hx : a.eval x = V) (hV : RdV w k enc V l2) (hnz : SomeOr V) (hk : ∀ x, (enc x).size = k)
    (h1 : ∀ x ∈ l2, ∀ u ∈ (enc x).toList, u.oneCell' = true) (hlen : (l1.length + l2.length) * bytes ≤ 140737488355328) (hmax : l1.length + l2.length ≤ maxLen) (hbase : base ≤ w.heap.size)
    (h : ∀ v' w', Own w' base ty0 k enc v' (l1 ++ l2) → Keep (ownB v) w w' → K (a.put o.dst v') w') : Oper.wp P o a w K Q := by
  obtain ⟨v', w', hrun, h2, h3⟩ := run_append_m2 A hown hV hnz hk h1 hlen hmax hbase o.type
  unfold Oper.wp execOp
  simp only [ho, resolve, invoke, builtin, Sem.run_bind, Sem.run_pure, Result.andThen_ok, List.map_toArray, List.map_cons, List.map_nil, hs, hx, hrun]
  exact h v' w' h2 h3
theorem add_some {g o : Nat} (j : Nat) : (⟨g, o, none⟩ : Addr).add j = ⟨g, o + j, none⟩ := by
  unfold Addr.add
  split
  · simp_all
  · rfl
theorem RdV.part {A : Option Addr} {cap : Nat} (h : RdV w k enc (.slice A l.length cap) l) {i j : Nat} (hij : i ≤ j) (hj : j ≤ l.length) (hk : 0 < k) : RdV w k enc (sliced A i j cap k) ((l.take j).drop i) := by
  obtain ⟨A', cap', hv, h1, h2, h3⟩ := h
  cases hv
  have hl : ((l.take j).drop i).length = j - i := by rw [List.length_drop, List.length_take]; omega
  refine ⟨if cap = i then A else A.map (·.add (i * k)), cap - i, by rw [hl]; rfl, by rw [hl]; omega, by omega, fun hne => ?_⟩
  have hij' : i < j := by
    rcases Nat.lt_or_ge i j with h | h
    · exact h
    · exact absurd (List.length_eq_zero_iff.1 (by omega)) hne
  obtain ⟨g, o, rfl, hg, hc⟩ := h3 (by rintro rfl; simp at hj; omega)
  rw [if_neg (by omega)]
  refine ⟨g, o + i * k, by simp [add_some], hg, fun m x hm c hck => ?_⟩
  rw [List.getElem?_drop, List.getElem?_take] at hm
  split at hm
  · rw [← hc (i + m) x hm c hck, Nat.add_mul]
    congr 2
    omega
  · cases hm
theorem SomeOr.part {A : Option Addr} {n cap i j s : Nat} (h : SomeOr (.slice A n cap)) (hij : i ≤ j) (hj : j ≤ n) : SomeOr (sliced A i j cap s) := by
  unfold sliced
  rcases h with h | ⟨a, n', c, h⟩
  · cases h
    left
    have : j = 0 := by omega
    subst this
    have : i = 0 := by omega
    subst this
    rfl
  · cases h
    right
    split
    · exact ⟨_, _, _, rfl⟩
    · exact ⟨_, _, _, rfl⟩
end
theorem app25 : AppT Try.prog 25 28 7 112 (.agg #[.int .i64 0, .string ⟨#[]⟩, .slice none 0 0, .int .i64 0, .int .i64 0, .slice none 0 0, .slice none 0 0]) := ⟨Try.underlying25, by kernel_rfl, by rfl, by decide⟩
/-- What a tree's statement has. -/
def SOk (w : World) (h : Nat) (x : SRaw) : Prop := (I64 x.lo ∧ I64 x.hi) ∧ (∃ k, ExL w k x.E x.es) ∧ StL w h x.L x.ls ∧ StL w h x.X x.xs
theorem SOk.keep {w w' : World} {h : Nat} {x : SRaw} (hx : SOk w h x) (hk : Keep [] w w') : SOk w' h x := by
  obtain ⟨h1, ⟨k, h2⟩, h3, h4⟩ := hx
  exact ⟨h1, ⟨k, h2.keep hk⟩, h3.keep hk, h4.keep hk⟩
theorem SOk.mono {w : World} {h h' : Nat} {x : SRaw} (hx : SOk w h x) (hk : h ≤ h') : SOk w h' x := by
  obtain ⟨h1, h2, h3, h4⟩ := hx
  exact ⟨h1, h2, h3.mono hk, h4.mono hk⟩
theorem SOk.one {w : World} {h : Nat} {x : SRaw} (hx : SOk w h x) : ∀ u ∈ (senc x).toList, u.oneCell' = true := by
  obtain ⟨_, ⟨k, h2⟩, h3, h4⟩ := hx
  obtain ⟨_, _, h2⟩ := h2.sl
  obtain ⟨_, _, h3⟩ := h3.sl
  obtain ⟨_, _, h4⟩ := h4.sl
  intro u hu
  simp [senc] at hu
  rcases hu with rfl | rfl | rfl | rfl | rfl | rfl | rfl
  · rfl
  · rfl
  · rw [h2]; rfl
  · rfl
  · rfl
  · rw [h3]; rfl
  · rw [h4]; rfl
theorem StL.of {w : World} {h : Nat} {V : Value} {rs : List SRaw} (hr : RdV w 7 senc V rs) (hx : ∀ x ∈ rs, SOk w h x) : StL w (h + 1) V (rs.map SRaw.c) := ⟨rs, hr, hx, rfl⟩
theorem StL.raw {w : World} {h : Nat} {V : Value} {us : List Int} (hx : StL w h V us) : ∃ (h' : Nat) (rs : List SRaw), us = rs.map SRaw.c ∧ RdV w 7 senc V rs ∧ ∀ x ∈ rs, SOk w h' x := by
  match h, hx with
  | h + 1, ⟨rs, h1, h2, h3⟩ => exact ⟨h, rs, h3, h1, h2⟩
end Go.Proofs.Ytjhcfecpmohgnaa
