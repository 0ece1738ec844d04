/- Slices that are only read, wherever they come from. -/
import Derived.Test.YtcjbmbljmmakfaaSlM
import Derived.Test.YtcjbmbljmmakfaaRd
namespace Go.Bz
open Go.RowKit
section
variable {α : Type}
/-- A slice value that reads as the list l, k cells an element. -/
def RdV (w : World) (k : Nat) (enc : α → Array Value) (v : Value) (l : List α) : Prop :=
  ∃ A cap, v = .slice A l.length cap ∧ l.length ≤ cap ∧ cap ≤ maxLen ∧ (l ≠ [] → ∃ g o, A = some ⟨g, o, none⟩ ∧ g < w.heap.size ∧ ∀ i x, l[i]? = some x → ∀ j, j < k → w.cell? ⟨g, o + i * k + j, none⟩ = (enc x)[j]?)
variable {w w' : World} {ty : TypeId} {k : Nat} {enc : α → Array Value} {l : List α} {v : Value}
theorem RdV.keep {S : List Nat} (h : RdV w k enc v l) (hk : Keep S w w') (hS : l ≠ [] → ∀ g ∈ ownB v, g < w.heap.size → g ∉ S) : RdV w' k enc v l := by
  obtain ⟨A, cap, rfl, h1, h2, h3⟩ := h
  refine ⟨A, cap, rfl, h1, h2, fun hne => ?_⟩
  obtain ⟨g, o, rfl, hg, hc⟩ := h3 hne
  refine ⟨g, o, rfl, Nat.lt_of_lt_of_le hg hk.size, fun i x hi j hj => ?_⟩
  rw [← hc i x hi j hj]
  exact World.cell?_of_block (hk.block g hg (hS hne g (by simp [ownB, Value.ownBlock]) hg))
theorem RdV.keep0 (h : RdV w k enc v l) (hk : Keep [] w w') : RdV w' k enc v l := h.keep hk (by simp)
theorem RdV.drew (h : RdV w k enc v l) : RdV w.drew k enc v l := h
theorem SlM.rd (h : SlM w ty k enc v l) : RdV w k enc v l := by
  obtain ⟨A, cap, rfl, h1, h2, h3⟩ := h
  refine ⟨A, cap, rfl, h1, h2, fun hne => ?_⟩
  obtain ⟨g, o, rfl, hs⟩ := h3 hne
  exact ⟨g, o, rfl, by obtain ⟨cs, fr, hb, _⟩ := hs; exact lt_of_heap hb, fun i x hi j hj => hs.cell hi hj⟩
theorem Sl.rd (h : Sl w ty k enc v l) : RdV w k enc v l := h.m.rd
theorem Rd.rdv {A : Option Addr} {cap : Nat} (h : Rd w k enc A l) (h1 : l.length ≤ cap) (h2 : cap ≤ maxLen) : RdV w k enc (.slice A l.length cap) l := by
  refine ⟨A, cap, rfl, h1, h2, fun hne => ?_⟩
  rcases h with h0 | ⟨ab, ao, rfl, hb, hc⟩
  · exact absurd h0 hne
  · exact ⟨ab, ao, rfl, hb, hc⟩
theorem RdV.at_ (h : RdV w k enc v l) {i : Nat} {x : α} (hi : l[i]? = some x) : ∃ g o cap, v = .slice (some ⟨g, o, none⟩) l.length cap ∧ g < w.heap.size ∧ ∀ j, j < k → w.cell? ⟨g, o + i * k + j, none⟩ = (enc x)[j]? := by
  obtain ⟨A, cap, rfl, h1, h2, h3⟩ := h
  obtain ⟨g, o, rfl, hg, hc⟩ := h3 (by intro e; subst e; simp at hi)
  exact ⟨g, o, cap, rfl, hg, fun j hj => hc i x hi j hj⟩
/-- The block that is read is old. -/
theorem RdV.lt (h : RdV w k enc v l) (hne : l ≠ []) : ∀ g ∈ ownB v, g < w.heap.size := by
  obtain ⟨A, cap, rfl, h1, h2, h3⟩ := h
  obtain ⟨g, o, rfl, hg, _⟩ := h3 hne
  intro q hq
  simp [ownB, Value.ownBlock] at hq
  rw [hq]; exact hg
variable {base : Nat}
theorem run_append_rd {P : Program} {t : TypeId} {bytes : Nat} {z : Value} {ty0 : TypeId} {l1 : List α} (A : AppT P t ty0 k bytes z) (hown : Own w base ty0 k enc v l1) {a : Addr} {n cap : Nat} {l2 : List α} (hs : RdV w k enc (.slice (some a) n cap) l2)
    (hk : ∀ x, (enc x).size = k) (h1 : ∀ x, ∀ u ∈ (enc x).toList, u.oneCell' = true) (hlen : (l1.length + l2.length) * bytes ≤ 140737488355328) (hmax : l1.length + l2.length ≤ maxLen) (hbase : base ≤ w.heap.size) (tyy : TypeId) :
    ∃ v' w', (Builtin.append_ #[t, t] tyy #[v, .slice (some a) n cap]).run P w = .ok v' w' ∧ Own w' base ty0 k enc v' (l1 ++ l2) ∧ Keep (ownB v) w w' := by
  obtain ⟨i, hi, hz0, hz1, hz2⟩ := info_parts A.info
  obtain ⟨A', cap', hv, _, _, h3⟩ := hs
  cases hv
  by_cases hne : l2 = []
  · subst hne
    obtain ⟨v', w', hrun, h2, h3, _⟩ := run_append_own (P := P) w base t tyy ty0 i z k bytes A.sl hi hz0 hz1 hz2 A.zs A.pos v l1.length _ hown a 0 cap [] (by simp) (by simp) (by simp) hmax hlen hbase
    refine ⟨v', w', hrun, ?_, Keep.of_grown h3⟩
    unfold Own
    simpa using h2
  · obtain ⟨g, o, hA, hg, hc⟩ := h3 hne
    cases hA
    have hflat : ∀ j u, (l2.flatMap fun x => (enc x).toList)[j]? = some u → w.cell? ((⟨g, o, none⟩ : Addr).add j) = some u := by
      intro j u hj
      have hj' : j < l2.length * k := by rw [← flat_len hk]; exact (List.getElem?_eq_some_iff.1 hj).1
      have hd : j / k < l2.length := (Nat.div_lt_iff_lt_mul A.pos).2 hj'
      have hm := Nat.mod_lt j A.pos
      obtain ⟨x, hx⟩ : ∃ x, l2[j / k]? = some x := ⟨_, List.getElem?_eq_getElem hd⟩
      have e := flat_at (f := fun x => (enc x).toList) (fun x => by simpa using hk x) l2 (j / k) x hx (j % k) hm
      have ej : j / k * k + j % k = j := by have := Nat.div_add_mod j k; rw [Nat.mul_comm] at this; exact this
      rw [ej] at e
      have c := hc (j / k) x hx (j % k) hm
      rw [Nat.add_assoc, ej] at c
      rw [hj] at e
      have : w.cell? ⟨g, o + j, none⟩ = some u := by rw [c]; simpa using e.symm
      unfold Addr.add
      by_cases h0 : j = 0
      · subst h0; simpa using this
      · simpa [h0] using this
    obtain ⟨v', w', hrun, h2, h3, _⟩ := run_append_own (P := P) w base t tyy ty0 i z k bytes A.sl hi hz0 hz1 hz2 A.zs A.pos v l1.length _ hown ⟨g, o, none⟩ l2.length cap (l2.flatMap fun x => (enc x).toList)
      (flat_len hk l2) hflat (by intro u hu; obtain ⟨x, _, hx⟩ := List.mem_flatMap.1 hu; exact h1 x u hx) hmax hlen hbase
    refine ⟨v', w', hrun, ?_, Keep.of_grown h3⟩
    unfold Own
    simpa using h2
theorem wpList_append_rd {P : Program} {ops : Array Oper} {rest : List Oper} {o : Oper} {a : Act} {Q : Exit → Act → World → Prop} {l1 : List α} (hgd : o.guard = none) (s x : Operand) (t : TypeId)
    (ho : o.op = .call { callee := .builtin .append, args := #[s, x], argTypes := #[t, t] }) {bytes : Nat} {z : Value} {ty0 : TypeId} (A : AppT P t ty0 k bytes z)
    (hs : a.eval s = v) (hown : Own w base ty0 k enc v l1) {b : Addr} {n cap : Nat} {l2 : List α} (hx : a.eval x = .slice (some b) n cap) (hV : RdV w k enc (.slice (some b) n cap) l2) (hk : ∀ x, (enc x).size = k)
    (h1 : ∀ x, ∀ u ∈ (enc x).toList, u.oneCell' = true) (hlen : (l1.length + l2.length) * bytes ≤ 140737488355328) (hmax : l1.length + l2.length ≤ maxLen) (hbase : base ≤ w.heap.size)
    (h : ∀ v' w', Own w' base ty0 k enc v' (l1 ++ l2) → Keep (ownB v) w w' → wpList P ops Q rest (a.put o.dst v') w') : wpList P ops Q (o :: rest) a w := by
  refine wpList_plain hgd fun K hK => ?_
  obtain ⟨v', w', hrun, h2, h3⟩ := run_append_rd A hown hV hk h1 hlen hmax hbase o.type
  unfold Oper.wp execOp
  simp only [ho, resolve, invoke, builtin, Sem.run_bind, Sem.run_pure, Result.andThen_ok, List.map_toArray, List.map_cons, List.map_nil, hs, hx, hrun]
  exact hK _ _ (h v' w' h2 h3)
end
end Go.Bz
