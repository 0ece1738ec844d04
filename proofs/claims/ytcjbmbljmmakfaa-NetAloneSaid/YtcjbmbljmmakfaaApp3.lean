/- append of a slice that is only read, whatever it has. -/
import Derived.Test.YtcjbmbljmmakfaaRdV
import Derived.Test.YtcjbmbljmmakfaaApp
namespace Go.Bz
open Go.RowKit

def SomeOr (V : Value) : Prop := V = .slice none 0 0 ∨ ∃ a n c, V = .slice (some a) n c
section
variable {α : Type} {w w' : World} {base : Nat} {k : Nat} {enc : α → Array Value} {v V : Value} {l l1 l2 : List α}
theorem run_append_m2 {P : Program} {t : TypeId} {bytes : Nat} {z : Value} {ty0 : TypeId} (A : AppT P t ty0 k bytes z) (hown : Own w base ty0 k enc v l1) (hs : RdV w k enc V l2) (hnz : SomeOr V)
    (hk : ∀ x, (enc x).size = k) (h1 : ∀ x ∈ l2, ∀ u ∈ (enc x).toList, u.oneCell' = true) (hlen : (l1.length + l2.length) * bytes ≤ 140737488355328) (hmax : l1.length + l2.length ≤ maxLen) (hbase : base ≤ w.heap.size) (tyy : TypeId) :
    ∃ v' w', (Builtin.append_ #[t, t] tyy #[v, V]).run P w = .ok v' w' ∧ Own w' base ty0 k enc v' (l1 ++ l2) ∧ Keep (ownB v) w w' := by
  obtain ⟨i, hi, hz0, hz1, hz2⟩ := info_parts A.info
  rcases hnz with rfl | ⟨a, n, cap, rfl⟩
  · obtain ⟨A', cap', hv, h2, h3, h4⟩ := hs
    have hn : l2 = [] := by
      cases l2 with
      | nil => rfl
      | cons x r => simp at hv
    subst hn
    refine ⟨v, w, run_append_owned_none (P := P) w base t tyy ty0 i k A.sl hi v _ _ hown, ?_, Keep.refl _ _⟩
    simpa using hown
  obtain ⟨A', cap', hv, _, _, h3⟩ := hs
  cases hv
  by_cases hne : l2 = []
  · subst hne
    obtain ⟨v', w', hrun, h2, h3, _⟩ := run_append_own (P := P) w base t tyy ty0 i z k bytes A.sl hi hz0 hz1 hz2 A.zs A.pos v l1.length _ hown a 0 cap [] (by simp) (by simp) (by simp) hmax hlen hbase
    refine ⟨v', w', hrun, ?_, Keep.of_grown h3⟩
    unfold Own
    simpa using h2
  · obtain ⟨g, o, hA, hg, hc⟩ := h3 hne
    cases hA
    have hflat : ∀ j u, (l2.flatMap fun x => (enc x).toList)[j]? = some u → w.cell? ((⟨g, o, none⟩ : Addr).add j) = some u := by
      intro j u hj
      have hj' : j < l2.length * k := by rw [← flat_len hk]; exact (List.getElem?_eq_some_iff.1 hj).1
      have hd : j / k < l2.length := (Nat.div_lt_iff_lt_mul A.pos).2 hj'
      have hm := Nat.mod_lt j A.pos
      obtain ⟨x, hx⟩ : ∃ x, l2[j / k]? = some x := ⟨_, List.getElem?_eq_getElem hd⟩
      have e := flat_at (f := fun x => (enc x).toList) (fun x => by simpa using hk x) l2 (j / k) x hx (j % k) hm
      have ej : j / k * k + j % k = j := by have := Nat.div_add_mod j k; rw [Nat.mul_comm] at this; exact this
      rw [ej] at e
      have c := hc (j / k) x hx (j % k) hm
      rw [Nat.add_assoc, ej] at c
      rw [hj] at e
      have : w.cell? ⟨g, o + j, none⟩ = some u := by rw [c]; simpa using e.symm
      unfold Addr.add
      by_cases h0 : j = 0
      · subst h0; simpa using this
      · simpa [h0] using this
    obtain ⟨v', w', hrun, h2, h3, _⟩ := run_append_own (P := P) w base t tyy ty0 i z k bytes A.sl hi hz0 hz1 hz2 A.zs A.pos v l1.length _ hown ⟨g, o, none⟩ l2.length cap (l2.flatMap fun x => (enc x).toList)
      (flat_len hk l2) hflat (by intro u hu; obtain ⟨x, hx', hx⟩ := List.mem_flatMap.1 hu; exact h1 x hx' u hx) hmax hlen hbase
    refine ⟨v', w', hrun, ?_, Keep.of_grown h3⟩
    unfold Own
    simpa using h2
theorem wpList_append_m2 {P : Program} {ops : Array Oper} {rest : List Oper} {o : Oper} {a : Act} {Q : Exit → Act → World → Prop} (hgd : o.guard = none) (s x : Operand) (t : TypeId)
    (ho : o.op = .call { callee := .builtin .append, args := #[s, x], argTypes := #[t, t] }) {bytes : Nat} {z : Value} {ty0 : TypeId} (A : AppT P t ty0 k bytes z)
    (hs : a.eval s = v) (hown : Own w base ty0 k enc v l1) (hx : a.eval x = V) (hV : RdV w k enc V l2) (hnz : SomeOr V) (hk : ∀ x, (enc x).size = k)
    (h1 : ∀ x ∈ l2, ∀ u ∈ (enc x).toList, u.oneCell' = true) (hlen : (l1.length + l2.length) * bytes ≤ 140737488355328) (hmax : l1.length + l2.length ≤ maxLen) (hbase : base ≤ w.heap.size)
    (h : ∀ v' w', Own w' base ty0 k enc v' (l1 ++ l2) → Keep (ownB v) w w' → wpList P ops Q rest (a.put o.dst v') w') : wpList P ops Q (o :: rest) a w := by
  refine wpList_plain hgd fun K hK => ?_
  obtain ⟨v', w', hrun, h2, h3⟩ := run_append_m2 A hown hV hnz hk h1 hlen hmax hbase o.type
  unfold Oper.wp execOp
  simp only [ho, resolve, invoke, builtin, Sem.run_bind, Sem.run_pure, Result.andThen_ok, List.map_toArray, List.map_cons, List.map_nil, hs, hx, hrun]
  exact hK _ _ (h v' w' h2 h3)
theorem oper_append_m2 {P : Program} {o : Oper} {a : Act} {K : Act → World → Prop} {Q : Exit → Act → World → Prop} (s x : Operand) (t : TypeId)
    (ho : o.op = .call { callee := .builtin .append, args := #[s, x], argTypes := #[t, t] }) {bytes : Nat} {z : Value} {ty0 : TypeId} (A : AppT P t ty0 k bytes z)
    (hs : a.eval s = v) (hown : Own w base ty0 k enc v l1) (hx : a.eval x = V) (hV : RdV w k enc V l2) (hnz : SomeOr V) (hk : ∀ x, (enc x).size = k)
    (h1 : ∀ x ∈ l2, ∀ u ∈ (enc x).toList, u.oneCell' = true) (hlen : (l1.length + l2.length) * bytes ≤ 140737488355328) (hmax : l1.length + l2.length ≤ maxLen) (hbase : base ≤ w.heap.size)
    (h : ∀ v' w', Own w' base ty0 k enc v' (l1 ++ l2) → Keep (ownB v) w w' → K (a.put o.dst v') w') : Oper.wp P o a w K Q := by
  obtain ⟨v', w', hrun, h2, h3⟩ := run_append_m2 A hown hV hnz hk h1 hlen hmax hbase o.type
  unfold Oper.wp execOp
  simp only [ho, resolve, invoke, builtin, Sem.run_bind, Sem.run_pure, Result.andThen_ok, List.map_toArray, List.map_cons, List.map_nil, hs, hx, hrun]
  exact h v' w' h2 h3
theorem Own.some {ty : TypeId} (h : Own w base ty k enc v l) : SomeOr v := by
  rcases h.2 with ⟨rfl, _⟩ | ⟨g, cap, cur, rfl, _⟩
  · exact .inl rfl
  · exact .inr ⟨_, _, _, rfl⟩
theorem SomeOr.of {A : Option Addr} {n c : Nat} (h : n = 0 ∨ A.isSome = true) (h0 : A = none → c = 0) : SomeOr (.slice A n c) := by
  cases A with
  | none => simp at h; subst h; rw [h0 rfl]; exact .inl rfl
  | some a => exact .inr ⟨_, _, _, rfl⟩
end
end Go.Bz
