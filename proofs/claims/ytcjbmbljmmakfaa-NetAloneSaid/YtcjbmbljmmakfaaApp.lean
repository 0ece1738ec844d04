/- append of a slice to a row of the call's own. -/
import Derived.Test.YtcjbmbljmmakfaaSl
namespace Go.Bz
open Go.RowKit
section
variable {α : Type}
variable {w w' : World} {base : Nat} {ty : TypeId} {k : Nat} {enc : α → Array Value} {v : Value} {l : List α}
theorem SlAt.flat {ty' : TypeId} {g o : Nat} {l2 : List α} (hk : ∀ x, (enc x).size = k) (hp : 0 < k) (h : SlAt w ty' k enc g o l2) (j : Nat) (u : Value)
    (hj : (l2.flatMap fun x => (enc x).toList)[j]? = some u) : w.cell? ((⟨g, o, none⟩ : Addr).add j) = some u := by
  have hlen : (l2.flatMap fun x => (enc x).toList).length = l2.length * k := by
    clear h hj
    induction l2 with
    | nil => simp
    | cons a r ih => simp only [List.flatMap_cons, List.length_append, ih, List.length_cons, Array.length_toList, hk, Nat.add_mul]; omega
  have hj' : j < l2.length * k := by rw [← hlen]; exact (List.getElem?_eq_some_iff.1 hj).1
  have hd : j / k < l2.length := (Nat.div_lt_iff_lt_mul hp).2 hj'
  have hm := Nat.mod_lt j hp
  obtain ⟨x, hx⟩ : ∃ x, l2[j / k]? = some x := ⟨_, List.getElem?_eq_getElem hd⟩
  have e := flat_at (f := fun x => (enc x).toList) (fun x => by simpa using hk x) l2 (j / k) x hx (j % k) hm
  have ej : j / k * k + j % k = j := by have := Nat.div_add_mod j k; rw [Nat.mul_comm] at this; exact this
  rw [ej] at e
  have c := h.cell hx hm
  rw [Nat.add_assoc, ej] at c
  rw [hj] at e
  have : w.cell? ⟨g, o + j, none⟩ = some u := by rw [c]; simpa using e.symm
  unfold Addr.add
  by_cases h0 : j = 0
  · subst h0; simpa using this
  · simpa [h0] using this
theorem flat_len (hk : ∀ x, (enc x).size = k) (l2 : List α) : (l2.flatMap fun x => (enc x).toList).length = l2.length * k := by
  induction l2 with
  | nil => simp
  | cons a r ih => simp only [List.flatMap_cons, List.length_append, ih, List.length_cons, Array.length_toList, hk, Nat.add_mul]; omega
theorem run_append_sl {P : Program} {t : TypeId} {bytes : Nat} {z : Value} (A : AppT P t ty k bytes z) (hown : Own w base ty k enc v l) {ty' : TypeId} {V : Value} {l2 : List α} (hne : l2 ≠ []) (hs : Sl w ty' k enc V l2)
    (hk : ∀ x, (enc x).size = k) (h1 : ∀ x, ∀ u ∈ (enc x).toList, u.oneCell' = true) (hlen : (l.length + l2.length) * bytes ≤ 140737488355328) (hmax : l.length + l2.length ≤ maxLen) (hbase : base ≤ w.heap.size) (tyy : TypeId) :
    ∃ v' w', (Builtin.append_ #[t, t] tyy #[v, V]).run P w = .ok v' w' ∧ Own w' base ty k enc v' (l ++ l2) ∧ Keep (ownB v) w w' := by
  obtain ⟨i, hi, hz0, hz1, hz2⟩ := info_parts A.info
  obtain ⟨A', cap, rfl, hc1, hc2, hc3⟩ := hs
  obtain ⟨g, o, rfl, hsl⟩ := hc3 hne
  obtain ⟨v', w', hrun, h2, h3, _⟩ := run_append_own (P := P) w base t tyy ty i z k bytes A.sl hi hz0 hz1 hz2 A.zs A.pos v l.length _ hown ⟨g, o, none⟩ l2.length cap (l2.flatMap fun x => (enc x).toList)
    (flat_len hk l2) (hsl.flat hk A.pos) (by intro u hu; obtain ⟨x, _, hx⟩ := List.mem_flatMap.1 hu; exact h1 x u hx) hmax hlen hbase
  refine ⟨v', w', hrun, ?_, Keep.of_grown h3⟩
  unfold Own
  simpa using h2
/-- .. of a slice that has an address, empty or not. -/
theorem run_append_some {P : Program} {t : TypeId} {bytes : Nat} {z : Value} (A : AppT P t ty k bytes z) (hown : Own w base ty k enc v l) {ty' : TypeId} {a : Addr} {n cap : Nat} {l2 : List α} (hs : Sl w ty' k enc (.slice (some a) n cap) l2)
    (hk : ∀ x, (enc x).size = k) (h1 : ∀ x, ∀ u ∈ (enc x).toList, u.oneCell' = true) (hlen : (l.length + l2.length) * bytes ≤ 140737488355328) (hmax : l.length + l2.length ≤ maxLen) (hbase : base ≤ w.heap.size) (tyy : TypeId) :
    ∃ v' w', (Builtin.append_ #[t, t] tyy #[v, .slice (some a) n cap]).run P w = .ok v' w' ∧ Own w' base ty k enc v' (l ++ l2) ∧ Keep (ownB v) w w' := by
  by_cases hne : l2 = []
  · subst hne
    obtain ⟨i, hi, hz0, hz1, hz2⟩ := info_parts A.info
    obtain ⟨A', cap', hv, _⟩ := hs
    cases hv
    obtain ⟨v', w', hrun, h2, h3, _⟩ := run_append_own (P := P) w base t tyy ty i z k bytes A.sl hi hz0 hz1 hz2 A.zs A.pos v l.length _ hown a 0 cap [] (by simp) (by simp) (by simp) hmax hlen hbase
    refine ⟨v', w', hrun, ?_, Keep.of_grown h3⟩
    unfold Own
    simpa using h2
  · exact run_append_sl A hown hne hs hk h1 hlen hmax hbase tyy
theorem wpList_append_some {P : Program} {ops : Array Oper} {rest : List Oper} {o : Oper} {a : Act} {Q : Exit → Act → World → Prop} (hgd : o.guard = none) (s x : Operand) (t : TypeId)
    (ho : o.op = .call { callee := .builtin .append, args := #[s, x], argTypes := #[t, t] }) {bytes : Nat} {z : Value} (A : AppT P t ty k bytes z)
    (hs : a.eval s = v) (hown : Own w base ty k enc v l) {ty' : TypeId} {b : Addr} {n cap : Nat} {l2 : List α} (hx : a.eval x = .slice (some b) n cap) (hV : Sl w ty' k enc (.slice (some b) n cap) l2) (hk : ∀ x, (enc x).size = k)
    (h1 : ∀ x, ∀ u ∈ (enc x).toList, u.oneCell' = true) (hlen : (l.length + l2.length) * bytes ≤ 140737488355328) (hmax : l.length + l2.length ≤ maxLen) (hbase : base ≤ w.heap.size)
    (h : ∀ v' w', Own w' base ty k enc v' (l ++ l2) → Keep (ownB v) w w' → wpList P ops Q rest (a.put o.dst v') w') : wpList P ops Q (o :: rest) a w := by
  refine wpList_plain hgd fun K hK => ?_
  obtain ⟨v', w', hrun, h2, h3⟩ := run_append_some A hown hV hk h1 hlen hmax hbase o.type
  unfold Oper.wp execOp
  simp only [ho, resolve, invoke, builtin, Sem.run_bind, Sem.run_pure, Result.andThen_ok, List.map_toArray, List.map_cons, List.map_nil, hs, hx, hrun]
  exact hK _ _ (h v' w' h2 h3)
theorem oper_append_sl {P : Program} {o : Oper} {a : Act} {K : Act → World → Prop} {Q : Exit → Act → World → Prop} (s x : Operand) (t : TypeId)
    (ho : o.op = .call { callee := .builtin .append, args := #[s, x], argTypes := #[t, t] }) {bytes : Nat} {z : Value} (A : AppT P t ty k bytes z)
    (hs : a.eval s = v) (hown : Own w base ty k enc v l) {ty' : TypeId} {V : Value} {l2 : List α} (hne : l2 ≠ []) (hx : a.eval x = V) (hV : Sl w ty' k enc V l2) (hk : ∀ x, (enc x).size = k)
    (h1 : ∀ x, ∀ u ∈ (enc x).toList, u.oneCell' = true) (hlen : (l.length + l2.length) * bytes ≤ 140737488355328) (hmax : l.length + l2.length ≤ maxLen) (hbase : base ≤ w.heap.size)
    (h : ∀ v' w', Own w' base ty k enc v' (l ++ l2) → Keep (ownB v) w w' → K (a.put o.dst v') w') : Oper.wp P o a w K Q := by
  obtain ⟨v', w', hrun, h2, h3⟩ := run_append_sl A hown hne hV hk h1 hlen hmax hbase o.type
  unfold Oper.wp execOp
  simp only [ho, resolve, invoke, builtin, Sem.run_bind, Sem.run_pure, Result.andThen_ok, List.map_toArray, List.map_cons, List.map_nil, hs, hx, hrun]
  exact h v' w' h2 h3
/-- An empty literal. -/
theorem Own.none_ (w : World) (hb : base ≤ w.heap.size) (ty : TypeId) (k : Nat) (enc : α → Array Value) : Own (w.alloc (.cells #[] ty)) base ty k enc (.slice (some ⟨w.heap.size, 0, none⟩) 0 0) [] := by
  have := World.ownsRow_lit (base := base) (e := ty) (size := k) w #[] 0 hb (by decide) (by simp)
  simpa [Own] using this
end
end Go.Bz
