/- Slices whose block may bear a string's mark: what is read of them. -/
import Derived.Test.YtcjbmbljmmakfaaApp
import Derived.Laws.BytesArg
namespace Go.Bz
open Go.RowKit
section
variable {α : Type}
/-- Block g holds the elements l from offset o on, k cells each; whatever marks it bears. -/
def SlMAt (w : World) (ty : TypeId) (k : Nat) (enc : α → Array Value) (g o : Nat) (l : List α) : Prop :=
  ∃ cs fr, w.heap[g]? = some (.cells cs ty fr) ∧ ∀ i x, l[i]? = some x → ∀ j, j < k → cs[o + i * k + j]? = (enc x)[j]?
def SlM (w : World) (ty : TypeId) (k : Nat) (enc : α → Array Value) (v : Value) (l : List α) : Prop :=
  ∃ A cap, v = .slice A l.length cap ∧ l.length ≤ cap ∧ cap ≤ maxLen ∧ (l ≠ [] → ∃ g o, A = some ⟨g, o, none⟩ ∧ SlMAt w ty k enc g o l)
variable {w w' : World} {ty : TypeId} {k : Nat} {enc : α → Array Value} {g o : Nat} {l : List α} {v : Value}
theorem Sl.m (h : Sl w ty k enc v l) : SlM w ty k enc v l := by
  obtain ⟨A, cap, rfl, h1, h2, h3⟩ := h
  refine ⟨A, cap, rfl, h1, h2, fun hne => ?_⟩
  obtain ⟨g, o, hA, cs, hb, hx⟩ := h3 hne
  exact ⟨g, o, hA, cs, (0, 0), hb, hx⟩
theorem SlMAt.cell (h : SlMAt w ty k enc g o l) {i : Nat} {x : α} (hi : l[i]? = some x) {j : Nat} (hj : j < k) : w.cell? ⟨g, o + i * k + j, none⟩ = (enc x)[j]? := by
  obtain ⟨cs, fr, h1, h2⟩ := h
  rw [cell_of_row w g _ cs ty fr h1]; exact h2 i x hi j hj
theorem SlM.keepTy {S : List Nat} (h : SlM w ty k enc v l) (hk : Keep S w w') (hS : ∀ s ∈ S, ∀ cs fr, w.heap[s]? ≠ some (.cells cs ty fr)) : SlM w' ty k enc v l := by
  obtain ⟨A, cap, rfl, h1, h2, h3⟩ := h
  refine ⟨A, cap, rfl, h1, h2, fun hne => ?_⟩
  obtain ⟨g, o, hA, cs, fr, hb, hx⟩ := h3 hne
  exact ⟨g, o, hA, cs, fr, (hk.block g (lt_of_heap hb) (fun hm => hS g hm cs fr hb)).trans hb, hx⟩
theorem SlM.keep0 (h : SlM w ty k enc v l) (hk : Keep [] w w') : SlM w' ty k enc v l := h.keepTy hk (by simp)
theorem SlM.drew (h : SlM w ty k enc v l) : SlM w.drew ty k enc v l := h
/-- A block of another type is not such a one. -/
theorem Blk.noM {g' : Nat} {ty' : TypeId} {cs : Array Value} (h : Blk w g' ty' cs) (hne : ty' ≠ ty) : ∀ cs fr, w.heap[g']? ≠ some (.cells cs ty fr) := by
  intro cs' fr e
  unfold Blk at h
  rw [h] at e
  injection e with e
  injection e with _ e2
  exact hne e2
theorem MapAt.noM {κ β : Type} {b : Nat} {kenc : κ → Value} {venc : β → Value} {m : List (κ × β)} (h : MapAt w b kenc venc m) : ∀ cs fr, w.heap[b]? ≠ some (.cells cs ty fr) := by
  intro cs fr e
  obtain ⟨_, es, clock, hb, _⟩ := h
  rw [hb] at e
  injection e with e
  cases e
theorem SlMAt.flat {g o : Nat} {l2 : List α} (hk : ∀ x, (enc x).size = k) (hp : 0 < k) (h : SlMAt w ty k enc g o l2) (j : Nat) (u : Value)
    (hj : (l2.flatMap fun x => (enc x).toList)[j]? = some u) : w.cell? ((⟨g, o, none⟩ : Addr).add j) = some u := by
  have hj' : j < l2.length * k := by rw [← flat_len hk]; exact (List.getElem?_eq_some_iff.1 hj).1
  have hd : j / k < l2.length := (Nat.div_lt_iff_lt_mul hp).2 hj'
  have hm := Nat.mod_lt j hp
  obtain ⟨x, hx⟩ : ∃ x, l2[j / k]? = some x := ⟨_, List.getElem?_eq_getElem hd⟩
  have e := flat_at (f := fun x => (enc x).toList) (fun x => by simpa using hk x) l2 (j / k) x hx (j % k) hm
  have ej : j / k * k + j % k = j := by have := Nat.div_add_mod j k; rw [Nat.mul_comm] at this; exact this
  rw [ej] at e
  have c := h.cell hx hm
  rw [Nat.add_assoc, ej] at c
  rw [hj] at e
  have : w.cell? ⟨g, o + j, none⟩ = some u := by rw [c]; simpa using e.symm
  unfold Addr.add
  by_cases h0 : j = 0
  · subst h0; simpa using this
  · simpa [h0] using this
variable {base : Nat}
theorem run_append_m {P : Program} {t : TypeId} {bytes : Nat} {z : Value} {ty0 : TypeId} (A : AppT P t ty0 k bytes z) (hown : Own w base ty0 k enc v l) {a : Addr} {n cap : Nat} {l2 : List α} (hs : SlM w ty k enc (.slice (some a) n cap) l2)
    (hk : ∀ x, (enc x).size = k) (h1 : ∀ x, ∀ u ∈ (enc x).toList, u.oneCell' = true) (hlen : (l.length + l2.length) * bytes ≤ 140737488355328) (hmax : l.length + l2.length ≤ maxLen) (hbase : base ≤ w.heap.size) (tyy : TypeId) :
    ∃ v' w', (Builtin.append_ #[t, t] tyy #[v, .slice (some a) n cap]).run P w = .ok v' w' ∧ Own w' base ty0 k enc v' (l ++ l2) ∧ Keep (ownB v) w w' := by
  obtain ⟨i, hi, hz0, hz1, hz2⟩ := info_parts A.info
  obtain ⟨A', cap', hv, _, _, h3⟩ := hs
  cases hv
  by_cases hne : l2 = []
  · subst hne
    obtain ⟨v', w', hrun, h2, h3, _⟩ := run_append_own (P := P) w base t tyy ty0 i z k bytes A.sl hi hz0 hz1 hz2 A.zs A.pos v l.length _ hown a 0 cap [] (by simp) (by simp) (by simp) hmax hlen hbase
    refine ⟨v', w', hrun, ?_, Keep.of_grown h3⟩
    unfold Own
    simpa using h2
  · obtain ⟨g, o, hA, hsl⟩ := h3 hne
    cases hA
    obtain ⟨v', w', hrun, h2, h3, _⟩ := run_append_own (P := P) w base t tyy ty0 i z k bytes A.sl hi hz0 hz1 hz2 A.zs A.pos v l.length _ hown ⟨g, o, none⟩ l2.length cap (l2.flatMap fun x => (enc x).toList)
      (flat_len hk l2) (hsl.flat hk A.pos) (by intro u hu; obtain ⟨x, _, hx⟩ := List.mem_flatMap.1 hu; exact h1 x u hx) hmax hlen hbase
    refine ⟨v', w', hrun, ?_, Keep.of_grown h3⟩
    unfold Own
    simpa using h2
theorem wpList_append_m {P : Program} {ops : Array Oper} {rest : List Oper} {o : Oper} {a : Act} {Q : Exit → Act → World → Prop} (hgd : o.guard = none) (s x : Operand) (t : TypeId)
    (ho : o.op = .call { callee := .builtin .append, args := #[s, x], argTypes := #[t, t] }) {bytes : Nat} {z : Value} {ty0 : TypeId} (A : AppT P t ty0 k bytes z)
    (hs : a.eval s = v) (hown : Own w base ty0 k enc v l) {b : Addr} {n cap : Nat} {l2 : List α} (hx : a.eval x = .slice (some b) n cap) (hV : SlM w ty k enc (.slice (some b) n cap) l2) (hk : ∀ x, (enc x).size = k)
    (h1 : ∀ x, ∀ u ∈ (enc x).toList, u.oneCell' = true) (hlen : (l.length + l2.length) * bytes ≤ 140737488355328) (hmax : l.length + l2.length ≤ maxLen) (hbase : base ≤ w.heap.size)
    (h : ∀ v' w', Own w' base ty0 k enc v' (l ++ l2) → Keep (ownB v) w w' → wpList P ops Q rest (a.put o.dst v') w') : wpList P ops Q (o :: rest) a w := by
  refine wpList_plain hgd fun K hK => ?_
  obtain ⟨v', w', hrun, h2, h3⟩ := run_append_m A hown hV hk h1 hlen hmax hbase o.type
  unfold Oper.wp execOp
  simp only [ho, resolve, invoke, builtin, Sem.run_bind, Sem.run_pure, Result.andThen_ok, List.map_toArray, List.map_cons, List.map_nil, hs, hx, hrun]
  exact hK _ _ (h v' w' h2 h3)
end
theorem ints_litM {w : World} {g : Nat} {ty : TypeId} {q : IntKind} {fr : Nat × Nat} {l : List Int} (hb : w.heap[g]? = some (.cells (l.map (Value.int q)).toArray ty fr)) (hl : l.length ≤ maxLen) : SlM w ty 1 (fun x : Int => #[Value.int q x]) (.slice (some ⟨g, 0, none⟩) l.length l.length) l := by
  refine ⟨_, _, rfl, Nat.le_refl _, hl, fun _ => ⟨g, 0, rfl, _, fr, hb, fun i x hi j hj => ?_⟩⟩
  have : j = 0 := by omega
  subst this
  simp [hi]
end Go.Bz
