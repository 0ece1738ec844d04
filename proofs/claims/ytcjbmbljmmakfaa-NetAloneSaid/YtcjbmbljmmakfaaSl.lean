/- Slices as lists: where a slice's elements lie, what is read, cut and appended. -/
import Derived.Test.YtcjbmbljmmakfaaBase
import Derived.Laws.OwnMore
import Derived.OwnWalk
namespace Go.Bz
open Go.RowKit

section
variable {α : Type}
/-- Block g holds the elements l from offset o on, k cells each. -/
def SlAt (w : World) (ty : TypeId) (k : Nat) (enc : α → Array Value) (g o : Nat) (l : List α) : Prop :=
  ∃ cs, Blk w g ty cs ∧ ∀ i x, l[i]? = some x → ∀ j, j < k → cs[o + i * k + j]? = (enc x)[j]?
/-- A slice value that reads as the list l. -/
def Sl (w : World) (ty : TypeId) (k : Nat) (enc : α → Array Value) (v : Value) (l : List α) : Prop :=
  ∃ A cap, v = .slice A l.length cap ∧ l.length ≤ cap ∧ cap ≤ maxLen ∧ (l ≠ [] → ∃ g o, A = some ⟨g, o, none⟩ ∧ SlAt w ty k enc g o l)

variable {w w' : World} {ty : TypeId} {k : Nat} {enc : α → Array Value} {g o : Nat} {l : List α} {v : Value}
theorem SlAt.keep {S : List Nat} (h : SlAt w ty k enc g o l) (hk : Keep S w w') (hg : g ∉ S) : SlAt w' ty k enc g o l := by
  obtain ⟨cs, h1, h2⟩ := h
  exact ⟨cs, h1.keep hk hg, h2⟩
theorem SlAt.drew (h : SlAt w ty k enc g o l) : SlAt w.drew ty k enc g o l := h
theorem SlAt.lt (h : SlAt w ty k enc g o l) : g < w.heap.size := by obtain ⟨cs, h1, _⟩ := h; exact h1.lt
theorem SlAt.cell (h : SlAt w ty k enc g o l) {i : Nat} {x : α} (hi : l[i]? = some x) {j : Nat} (hj : j < k) : w.cell? ⟨g, o + i * k + j, none⟩ = (enc x)[j]? := by
  obtain ⟨cs, h1, h2⟩ := h
  rw [h1.cell]; exact h2 i x hi j hj
theorem SlAt.frozen (h : SlAt w ty k enc g o l) (i : Nat) : w.frozen? ⟨g, i, none⟩ = false := by
  obtain ⟨cs, h1, h2⟩ := h
  exact h1.frozen i
theorem SlAt.drop (h : SlAt w ty k enc g o l) (n : Nat) : SlAt w ty k enc g (o + n * k) (l.drop n) := by
  obtain ⟨cs, h1, h2⟩ := h
  refine ⟨cs, h1, fun i x hi j hj => ?_⟩
  rw [List.getElem?_drop] at hi
  have := h2 (n + i) x hi j hj
  rw [← this, Nat.add_mul]
  congr 1
  omega
theorem SlAt.take (h : SlAt w ty k enc g o l) (n : Nat) : SlAt w ty k enc g o (l.take n) := by
  obtain ⟨cs, h1, h2⟩ := h
  refine ⟨cs, h1, fun i x hi j hj => h2 i x ?_ j hj⟩
  rw [List.getElem?_take] at hi
  split at hi
  · exact hi
  · cases hi
theorem flat_at {f : α → List Value} (hf : ∀ x, (f x).length = k) : ∀ (l : List α) (i : Nat) (x : α), l[i]? = some x → ∀ j, j < k → (l.flatMap f)[i * k + j]? = (f x)[j]?
  | [], i, x, h, _, _ => by simp at h
  | a :: r, 0, x, h, j, hj => by
    simp at h; subst h
    simp [List.getElem?_append, hf, hj]
  | a :: r, i + 1, x, h, j, hj => by
    simp at h
    have := flat_at hf r i x h j hj
    rw [← this]
    simp only [List.flatMap_cons]
    rw [List.getElem?_append_right (by rw [hf, Nat.add_mul]; omega), hf]
    congr 1
    rw [Nat.add_mul]; omega
/-- A row that is owned reads as its list. -/
theorem Sl.of_own {base : Nat} (hk : ∀ x, (enc x).size = k) (h : w.ownsRow base ty k v l.length (l.flatMap fun x => (enc x).toList)) : Sl w ty k enc v l := by
  obtain ⟨h1, h2⟩ := h
  rcases h2 with ⟨rfl, h0⟩ | ⟨g, cap, cur, rfl, _, hb, hn, hc, hs, ht⟩
  · have : l = [] := List.eq_nil_of_length_eq_zero h0
    subst this
    exact ⟨none, 0, rfl, Nat.le_refl _, by decide, fun h => absurd rfl h⟩
  · refine ⟨_, cap, rfl, hn, hc, fun _ => ⟨g, 0, rfl, cur, hb, fun i x hi j hj => ?_⟩⟩
    have hl : i < l.length := (List.getElem?_eq_some_iff.1 hi).1
    have hlt : i * k + j < l.length * k := by
      have : (i + 1) * k ≤ l.length * k := Nat.mul_le_mul_right k hl
      rw [Nat.add_mul] at this; omega
    have e := flat_at (f := fun x => (enc x).toList) (fun x => by simpa using hk x) l i x hi j hj
    rw [← ht, List.getElem?_take, if_pos hlt] at e
    simpa using e
theorem Sl.keep {S : List Nat} (h : Sl w ty k enc v l) (hk : Keep S w w') (hg : ∀ g o n c, v = .slice (some ⟨g, o, none⟩) n c → g ∉ S) : Sl w' ty k enc v l := by
  obtain ⟨A, cap, rfl, h1, h2, h3⟩ := h
  refine ⟨A, cap, rfl, h1, h2, fun hne => ?_⟩
  obtain ⟨g, o, rfl, h4⟩ := h3 hne
  exact ⟨g, o, rfl, h4.keep hk (hg g o _ _ rfl)⟩
theorem Sl.keep0 (h : Sl w ty k enc v l) (hk : Keep [] w w') : Sl w' ty k enc v l := h.keep hk (by simp)
theorem Sl.drew (h : Sl w ty k enc v l) : Sl w.drew ty k enc v l := h
theorem Sl.nil (w : World) (ty : TypeId) (k : Nat) (enc : α → Array Value) : Sl w ty k enc (.slice none 0 0) [] := ⟨none, 0, rfl, Nat.le_refl _, by decide, fun h => absurd rfl h⟩
/-- .. whatever is done to blocks of other kinds: rows of another element type, and maps. -/
theorem Sl.keepTy {S : List Nat} (h : Sl w ty k enc v l) (hk : Keep S w w') (hS : ∀ s ∈ S, ∀ cs, ¬ Blk w s ty cs) : Sl w' ty k enc v l := by
  obtain ⟨A, cap, rfl, h1, h2, h3⟩ := h
  refine ⟨A, cap, rfl, h1, h2, fun hne => ?_⟩
  obtain ⟨g, o, rfl, h4⟩ := h3 hne
  refine ⟨g, o, rfl, h4.keep hk (fun hm => ?_)⟩
  obtain ⟨cs, hb, _⟩ := h4
  exact hS g hm cs hb
theorem Sl.at_ (h : Sl w ty k enc v l) {i : Nat} {x : α} (hi : l[i]? = some x) : ∃ g o cap, v = .slice (some ⟨g, o, none⟩) l.length cap ∧ l.length ≤ cap ∧ SlAt w ty k enc g o l := by
  obtain ⟨A, cap, rfl, h1, h2, h3⟩ := h
  obtain ⟨g, o, rfl, h4⟩ := h3 (by intro e; subst e; simp at hi)
  exact ⟨g, o, cap, rfl, h1, h4⟩
end

/-! ### append of one element to a row of the call's own -/
section
variable {α : Type}
def Own (w : World) (base : Nat) (ty : TypeId) (k : Nat) (enc : α → Array Value) (v : Value) (l : List α) : Prop := w.ownsRow base ty k v l.length (l.flatMap fun x => (enc x).toList)
def ownB (v : Value) : List Nat := v.ownBlock.toList
/-- The closed facts on a slice type t of elements e of k cells. -/
structure AppT (P : Program) (t e : TypeId) (k bytes : Nat) (z : Value) : Prop where
  sl : P.underlying t = some (.slice e)
  info : (P.info? e).map (fun i => (i.zero, i.size, i.bytes)) = some (some z, k, bytes)
  zs : z.cells.size = k
  pos : 0 < k
variable {w w' : World} {base : Nat} {ty : TypeId} {k : Nat} {enc : α → Array Value} {v : Value} {l : List α}
theorem Own.nil (w : World) (base : Nat) (ty : TypeId) (k : Nat) (enc : α → Array Value) : Own w base ty k enc (.slice none 0 0) [] := World.ownsRow_nil w base ty k
theorem Own.sl (hk : ∀ x, (enc x).size = k) (h : Own w base ty k enc v l) : Sl w ty k enc v l := Sl.of_own hk h
theorem Own.lt (h : Own w base ty k enc v l) : ∀ g ∈ ownB v, base ≤ g ∧ g < w.heap.size := fun g hg => World.ownsRow.lt h g (by unfold ownB at hg; simpa using hg)
theorem Keep.of_grown {row : Option Nat} (h : w.grownBy w' row) : Keep row.toList w w' :=
  ⟨h.os, h.tape, h.output, h.size, fun k hk hn => h.block k hk (fun e => hn (by rw [← e]; simp))⟩
theorem Own.keep {S : List Nat} (h : Own w base ty k enc v l) (hk : Keep S w w') (hg : ∀ g ∈ ownB v, g ∉ S) : Own w' base ty k enc v l := by
  refine ⟨h.1, ?_⟩
  rcases h.2 with hn | ⟨g, cap, cur, rfl, hb, hgg, rest⟩
  · exact .inl hn
  · exact .inr ⟨g, cap, cur, rfl, hb, (hk.block g (lt_of_heap hgg) (hg g (by simp [ownB, Value.ownBlock]))).trans hgg, rest⟩
theorem Own.keep0 (h : Own w base ty k enc v l) (hk : Keep [] w w') : Own w' base ty k enc v l := h.keep hk (by simp)
theorem Own.drew (h : Own w base ty k enc v l) : Own w.drew base ty k enc v l := h
theorem Own.alloc (h : Own w base ty k enc v l) (o : Obj) : Own (w.alloc o) base ty k enc v l := h.keep0 ((Keep.refl _ _).alloc o)
theorem Own.mono {base' : Nat} (h : Own w base ty k enc v l) (hb : base' ≤ base) : Own w base' ty k enc v l := by
  refine ⟨h.1, ?_⟩
  rcases h.2 with hn | ⟨g, cap, cur, rfl, hb', rest⟩
  · exact .inl hn
  · exact .inr ⟨g, cap, cur, rfl, Nat.le_trans hb hb', rest⟩
theorem Own.ne_blk {g ty' : Nat} {cs : Array Value} (h : Own w base ty k enc v l) (hb : Blk w g ty' cs) (hne : ty ≠ ty') : g ∉ ownB v := by
  intro hm
  rcases h.2 with ⟨rfl, _⟩ | ⟨g', cap, cur, rfl, _, hgg, _⟩
  · simp [ownB, Value.ownBlock] at hm
  · have : g = g' := by simpa [ownB, Value.ownBlock] using hm
    subst this
    exact Blk.ne_ (t := ty) hgg hb hne rfl
theorem Own.ne_map {κ β : Type} {b : Nat} {kenc : κ → Value} {venc : β → Value} {m : List (κ × β)} (h : Own w base ty k enc v l) (hm : MapAt w b kenc venc m) : b ∉ ownB v := by
  intro hi
  rcases h.2 with ⟨rfl, _⟩ | ⟨g', cap, cur, rfl, _, hgg, _⟩
  · simp [ownB, Value.ownBlock] at hi
  · have : b = g' := by simpa [ownB, Value.ownBlock] using hi
    subst this
    exact hm.ne_blk (t := ty) hgg rfl
/-- A literal of one element. -/
theorem Own.one {g : Nat} {x : α} (hb : Blk w g ty (enc x)) (hk : (enc x).size = k) (hg : base ≤ g) : Own w base ty k enc (.slice (some ⟨g, 0, none⟩) 1 1) [x] :=
  ⟨by simp [hk], .inr ⟨g, 1, enc x, rfl, hg, hb, Nat.le_refl _, by decide, by simp [hk], by rw [← hk]; simp [List.take_of_length_le]⟩⟩
/-- What the value looks like, where something is owned. -/
theorem Own.form (h : Own w base ty k enc v l) (hne : l ≠ []) : ∃ g cap, v = .slice (some ⟨g, 0, none⟩) l.length cap ∧ base ≤ g ∧ g < w.heap.size ∧ l.length ≤ cap ∧ cap ≤ maxLen := by
  rcases h.2 with ⟨_, h0⟩ | ⟨g, cap, cur, rfl, hb, hgg, hn, hc, _⟩
  · exact absurd (List.eq_nil_of_length_eq_zero h0) hne
  · exact ⟨g, cap, rfl, hb, lt_of_heap hgg, hn, hc⟩
theorem Own.slAt {g n cap : Nat} (hk : ∀ x, (enc x).size = k) (h : Own w base ty k enc (.slice (some ⟨g, 0, none⟩) n cap) l) (hne : l ≠ []) : SlAt w ty k enc g 0 l := by
  obtain ⟨A, c, hv, _, _, h3⟩ := h.sl hk
  obtain ⟨g', o', hA, h4⟩ := h3 hne
  rw [hA] at hv
  simp only [Value.slice.injEq, Option.some.injEq, Addr.mk.injEq] at hv
  obtain ⟨⟨rfl, rfl, _⟩, _⟩ := hv
  exact h4
theorem run_append1 {P : Program} {t : TypeId} {bytes : Nat} {z : Value} (A : AppT P t ty k bytes z) (hown : Own w base ty k enc v l) {gx ty' cx : Nat} {y : α} (hb : Blk w gx ty' (enc y)) (hk : (enc y).size = k)
    (h1 : ∀ u ∈ (enc y).toList, u.oneCell' = true) (hlen : (l.length + 1) * bytes ≤ 140737488355328) (hmax : l.length + 1 ≤ maxLen) (hbase : base ≤ w.heap.size) (tyy : TypeId) :
    ∃ v' w', (Builtin.append_ #[t, t] tyy #[v, .slice (some ⟨gx, 0, none⟩) 1 cx]).run P w = .ok v' w' ∧ Own w' base ty k enc v' (l ++ [y]) ∧ Keep (ownB v) w w' := by
  obtain ⟨i, hi, hz0, hz1, hz2⟩ := info_parts A.info
  have hnews : ∀ j u, (enc y).toList[j]? = some u → w.cell? ((⟨gx, 0, none⟩ : Addr).add j) = some u := by
    intro j u hj
    have : w.cell? ⟨gx, j, none⟩ = some u := by rw [hb.cell j]; simpa using hj
    by_cases h0 : j = 0
    · subst h0; simpa [Addr.add] using this
    · simpa [Addr.add, h0] using this
  obtain ⟨v', w', hrun, h2, h3, _⟩ := run_append_own (P := P) w base t tyy ty i z k bytes A.sl hi hz0 hz1 hz2 A.zs A.pos v l.length _ hown ⟨gx, 0, none⟩ 1 cx (enc y).toList (by simp [hk]) hnews h1 hmax hlen hbase
  refine ⟨v', w', hrun, ?_, Keep.of_grown h3⟩
  unfold Own
  simpa using h2
/-- .. as one operation of a region. -/
theorem oper_append1 {P : Program} {o : Oper} {a : Act} {K : Act → World → Prop} {Q : Exit → Act → World → Prop} (s x : Operand) (t : TypeId)
    (ho : o.op = .call { callee := .builtin .append, args := #[s, x], argTypes := #[t, t] }) {bytes : Nat} {z : Value} (A : AppT P t ty k bytes z)
    (hs : a.eval s = v) (hown : Own w base ty k enc v l) {gx ty' cx : Nat} {y : α} (hx : a.eval x = .slice (some ⟨gx, 0, none⟩) 1 cx) (hb : Blk w gx ty' (enc y)) (hk : (enc y).size = k)
    (h1 : ∀ u ∈ (enc y).toList, u.oneCell' = true) (hlen : (l.length + 1) * bytes ≤ 140737488355328) (hmax : l.length + 1 ≤ maxLen) (hbase : base ≤ w.heap.size)
    (h : ∀ v' w', Own w' base ty k enc v' (l ++ [y]) → Keep (ownB v) w w' → K (a.put o.dst v') w') : Oper.wp P o a w K Q := by
  obtain ⟨v', w', hrun, h2, h3⟩ := run_append1 A hown (cx := cx) hb hk h1 hlen hmax hbase o.type
  unfold Oper.wp execOp
  simp only [ho, resolve, invoke, builtin, Sem.run_bind, Sem.run_pure, Result.andThen_ok, List.map_toArray, List.map_cons, List.map_nil, hs, hx, hrun]
  exact h v' w' h2 h3
theorem wpList_append1 {P : Program} {ops : Array Oper} {rest : List Oper} {o : Oper} {a : Act} {Q : Exit → Act → World → Prop} (hgd : o.guard = none) (s x : Operand) (t : TypeId)
    (ho : o.op = .call { callee := .builtin .append, args := #[s, x], argTypes := #[t, t] }) {bytes : Nat} {z : Value} (A : AppT P t ty k bytes z)
    (hs : a.eval s = v) (hown : Own w base ty k enc v l) {gx ty' cx : Nat} {y : α} (hx : a.eval x = .slice (some ⟨gx, 0, none⟩) 1 cx) (hb : Blk w gx ty' (enc y)) (hk : (enc y).size = k)
    (h1 : ∀ u ∈ (enc y).toList, u.oneCell' = true) (hlen : (l.length + 1) * bytes ≤ 140737488355328) (hmax : l.length + 1 ≤ maxLen) (hbase : base ≤ w.heap.size)
    (h : ∀ v' w', Own w' base ty k enc v' (l ++ [y]) → Keep (ownB v) w w' → wpList P ops Q rest (a.put o.dst v') w') : wpList P ops Q (o :: rest) a w := by
  refine wpList_plain hgd fun K hK => ?_
  obtain ⟨v', w', hrun, h2, h3⟩ := run_append1 A hown (cx := cx) hb hk h1 hlen hmax hbase o.type
  unfold Oper.wp execOp
  simp only [ho, resolve, invoke, builtin, Sem.run_bind, Sem.run_pure, Result.andThen_ok, List.map_toArray, List.map_cons, List.map_nil, hs, hx, hrun]
  exact hK _ _ (h v' w' h2 h3)
end
end Go.Bz
