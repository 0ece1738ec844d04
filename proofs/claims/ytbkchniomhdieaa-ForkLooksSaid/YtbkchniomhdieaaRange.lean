/- A range over a map that isn't written meanwhile: on every order in which the entries may come. maps.Clone. -/
import Derived.Test.YtbkchniomhdieaaBase
import Derived.Maps.RangeRun
import Derived.Maps.RangeWalk
import Derived.MapKept
import GoSem.Extern.MapsClone
namespace Go.Bz
open Go.RowKit Go.ChangeMaps
section
variable {κ β : Type}
/-- Block r is a range over the map at b, which holds l; what is left to come: left. -/
def RangeAt (w : World) (r b : Nat) (kenc : κ → Value) (venc : β → Value) (l left : List (κ × β)) : Prop :=
  (l.map (·.1)).Nodup ∧ ∃ es clock since seen c0, w.heap[b]? = some (.map es clock) ∧ es.toList.map (fun e => (e.key, e.val)) = l.map (fun p => (kenc p.1, venc p.2)) ∧ (es.toList.map (·.born)).Nodup ∧
    (∀ e ∈ es.toList, e.born < since) ∧ (since ≤ c0 ∧ since ≤ clock) ∧ w.heap[r]? = some (.mapIter (some b) since seen c0) ∧ (leftOf es seen).toList.map (fun e => (e.key, e.val)) = left.map (fun p => (kenc p.1, venc p.2)) ∧ (∀ e ∈ es.toList, e.born < clock)
variable {w w' : World} {r b : Nat} {kenc : κ → Value} {venc : β → Value} {l left : List (κ × β)} {P : Program}
theorem RangeAt.map (h : RangeAt w r b kenc venc l left) : MapAt w b kenc venc l := by
  obtain ⟨h0, es, clock, since, seen, c0, h1, h2, h3, h4, h5, h6, h7, h8⟩ := h
  exact ⟨h0, es, clock, h1, h2, h3, h8⟩
theorem RangeAt.keep {S : List Nat} (h : RangeAt w r b kenc venc l left) (hk : Keep S w w') (hr : r ∉ S) (hb : b ∉ S) : RangeAt w' r b kenc venc l left := by
  obtain ⟨h0, es, clock, since, seen, c0, h1, h2, h3, h4, h5, h6, h7, h8⟩ := h
  exact ⟨h0, es, clock, since, seen, c0, (hk.block b (lt_of_heap h1) hb).trans h1, h2, h3, h4, h5, (hk.block r (lt_of_heap h6) hr).trans h6, h7, h8⟩
theorem RangeAt.lt (h : RangeAt w r b kenc venc l left) : r < w.heap.size := by
  obtain ⟨h0, es, clock, since, seen, c0, h1, h2, h3, h4, h5, h6, h7, h8⟩ := h
  exact lt_of_heap h6
theorem RangeAt.ne (h : RangeAt w r b kenc venc l left) : r ≠ b := by
  obtain ⟨h0, es, clock, since, seen, c0, h1, h2, h3, h4, h5, h6, h7, h8⟩ := h
  rintro rfl
  rw [h1] at h6
  cases h6
theorem RangeAt.ne_map {κ' β' : Type} {b' : Nat} {kenc' : κ' → Value} {venc' : β' → Value} {l' : List (κ' × β')} (h : RangeAt w r b kenc venc l left) (h' : MapAt w b' kenc' venc' l') : r ≠ b' := by
  obtain ⟨h0, es, clock, since, seen, c0, h1, h2, h3, h4, h5, h6, h7, h8⟩ := h
  obtain ⟨_, es', clock', hb, _⟩ := h'
  rintro rfl
  rw [hb] at h6
  cases h6
theorem RangeAt.start (h : MapAt w b kenc venc l) {t k e : TypeId} (ht : P.underlying t = some (.map k e)) :
    ∃ w', (Instr.range t (.map (some b))).run P w = .ok (.pointer (some ⟨w.heap.size, 0, none⟩)) w' ∧ RangeAt w' w.heap.size b kenc venc l l ∧ Keep [] w w' := by
  have hlt := h.lt
  obtain ⟨h0, es, clock, h1, h2, h3, h4⟩ := h
  refine ⟨_, run_range_map w t k e b es clock ht h1, ⟨h0, es, clock, clock, #[], clock, (Below.heap_alloc w _ b hlt).trans h1, h2, h3, h4, ⟨Nat.le_refl _, Nat.le_refl _⟩, heap_alloc_new w _, ?_, h4⟩, (Keep.refl _ _).alloc _⟩
  rw [← h2]
  unfold leftOf
  rw [Array.toList_filter, List.filter_eq_self.2 (by simp)]
theorem filter_born {e : MapEntry} : ∀ {L1 L2 : List MapEntry}, ((L1 ++ e :: L2).map (·.born)).Nodup → (L1 ++ e :: L2).filter (fun x => x.born != e.born) = L1 ++ L2 := by
  intro L1 L2 h
  rw [List.map_append, List.map_cons, List.nodup_append] at h
  obtain ⟨h1, h2, h3⟩ := h
  rw [List.nodup_cons] at h2
  rw [List.filter_append, List.filter_cons]
  have e1 : L1.filter (fun x => x.born != e.born) = L1 := List.filter_eq_self.2 (fun x hx => by
    have := h3 x.born (List.mem_map.2 ⟨x, hx, rfl⟩) e.born (by simp)
    simpa using this)
  have e2 : L2.filter (fun x => x.born != e.born) = L2 := List.filter_eq_self.2 (fun x hx => by
    have : x.born ≠ e.born := fun q => h2.1 (by rw [← q]; exact List.mem_map.2 ⟨x, hx, rfl⟩)
    simpa using this)
  rw [e1, e2]
  simp
theorem left_push (es : Array MapEntry) (seen : Array Nat) (n : Nat) : (leftOf es (seen.push n)).toList = (leftOf es seen).toList.filter (fun x => x.born != n) := by
  unfold leftOf
  rw [Array.toList_filter, Array.toList_filter, List.filter_filter]
  congr 1
  funext x
  simp [Array.contains_push]
  rw [Bool.and_comm]
  congr 2
theorem RangeAt.next (h : RangeAt w r b kenc venc l left) (ty : TypeId) :
    (left = [] ∧ (Instr.next (.pointer (some ⟨r, 0, none⟩)) false ty).run P w = .ok (.tuple #[.bool false]) w) ∨
    ∃ pre p post w', left = pre ++ p :: post ∧ (Instr.next (.pointer (some ⟨r, 0, none⟩)) false ty).run P w = .ok (.tuple #[.bool true, kenc p.1, venc p.2]) w' ∧
      RangeAt w' r b kenc venc l (pre ++ post) ∧ Keep [r] w w' ∧ (Instr.entry (.pointer (some ⟨r, 0, none⟩))).run P w' = .ok (.tuple #[kenc p.1, venc p.2]) w' := by
  have hne := h.ne
  obtain ⟨h0, es, clock, since, seen, c0, h1, h2, h3, h4, h5, h6, h7, h8⟩ := h
  rcases run_next_at (P := P) w ty r b since c0 seen es clock h6 h1 h4 h5.1 with ⟨hz, hrun⟩ | ⟨e, he, w1, hal, hrun⟩
  · refine .inl ⟨?_, hrun⟩
    have : (leftOf es seen).toList = [] := by rw [← List.length_eq_zero_iff]; simpa using hz
    rw [this] at h7
    simpa using h7.symm
  · obtain ⟨L1, L2, hL⟩ := List.append_of_mem he
    rw [hL] at h7
    rw [List.map_append, List.map_cons] at h7
    obtain ⟨pre, rest, hl, hp1, hp2⟩ := List.map_eq_append_iff.1 h7.symm
    obtain ⟨p, post, rfl, hp3, hp4⟩ := List.map_eq_cons_iff.1 hp2
    have hem : e ∈ es.toList := by
      have : e ∈ (leftOf es seen).toList := he
      unfold leftOf at this
      rw [Array.toList_filter] at this
      exact (List.mem_filter.1 this).1
    have hkv : kenc p.1 = e.key ∧ venc p.2 = e.val := by simpa using hp3
    have hset : (setBlock w1 r (.mapIter (some b) since (seen.push e.born) clock)).heap[r]? = some (.mapIter (some b) since (seen.push e.born) clock) := by
      have : r < w1.heap.size := by rcases hal with rfl | rfl <;> exact lt_of_heap h6
      simp [setBlock, this]
    have hsetb : (setBlock w1 r (.mapIter (some b) since (seen.push e.born) clock)).heap[b]? = some (.map es clock) := by
      have e1 : w1.heap[b]? = some (.map es clock) := by rcases hal with rfl | rfl <;> exact h1
      simp only [setBlock]
      rw [Array.getElem?_setIfInBounds_ne hne]
      exact e1
    refine .inr ⟨pre, p, post, _, hl, by rw [hkv.1, hkv.2]; exact hrun, ⟨h0, es, clock, since, seen.push e.born, clock, hsetb, h2, h3, h4, ⟨h5.2, h5.2⟩, hset, ?_, h8⟩, ?_, by rw [hkv.1, hkv.2]; exact run_entry_at _ r b since seen es clock e hset hsetb hem h3⟩
    · have hnd : ((L1 ++ e :: L2).map (·.born)).Nodup := by
        rw [← hL]
        unfold leftOf
        rw [Array.toList_filter]
        exact h3.sublist ((List.filter_sublist).map _)
      rw [left_push, hL, filter_born hnd, List.map_append, List.map_append, hp1, hp4]
    · rcases hal with rfl | rfl
      · exact (Keep.refl _ _).setObj (by simp) _
      · exact ((Keep.refl [r] w).drew).setObj (by simp) _
variable {ops : Array Oper} {rest : List Oper} {o : Oper} {a : Act} {Q : Exit → Act → World → Prop}
theorem wpList_range {P : Program} (hg : o.guard = none) (m : Operand) (t : TypeId) (hop : o.op = Op.range t m) {k e : TypeId} (ht : P.underlying t = some (.map k e)) (hm : a.eval m = .map (some b)) (h : MapAt w b kenc venc l)
    (hK : ∀ w', RangeAt w' w.heap.size b kenc venc l l → Keep [] w w' → wpList P ops Q rest (a.put o.dst (.pointer (some ⟨w.heap.size, 0, none⟩))) w') : wpList P ops Q (o :: rest) a w := by
  refine wpList_plain hg fun K' hK' => ?_
  obtain ⟨w', hrun, r1, r2⟩ := RangeAt.start (P := P) h ht
  unfold Oper.wp
  simp [execOp, hop, hm, hrun, Result.andThen]
  exact hK' _ _ (hK w' r1 r2)
theorem wpList_next {P : Program} (hg : o.guard = none) (it : Operand) (hop : o.op = Op.next it false) (hit : a.eval it = .pointer (some ⟨r, 0, none⟩)) (h : RangeAt w r b kenc venc l left)
    (hDone : left = [] → wpList P ops Q rest (a.put o.dst (.tuple #[.bool false])) w)
    (hMore : ∀ pre p post w', left = pre ++ p :: post → RangeAt w' r b kenc venc l (pre ++ post) → Keep [r] w w' → (Instr.entry (.pointer (some ⟨r, 0, none⟩))).run P w' = .ok (.tuple #[kenc p.1, venc p.2]) w' →
      wpList P ops Q rest (a.put o.dst (.tuple #[.bool true, kenc p.1, venc p.2])) w') : wpList P ops Q (o :: rest) a w := by
  refine wpList_plain hg fun K' hK' => ?_
  unfold Oper.wp
  rcases h.next (P := P) o.type with ⟨h0, hrun⟩ | ⟨pre, p, post, w', hl, hrun, hr, hk, hen⟩
  · simp [execOp, hop, hit, hrun, Result.andThen]
    exact hK' _ _ (hDone h0)
  · simp [execOp, hop, hit, hrun, Result.andThen]
    exact hK' _ _ (hMore pre p post w' hl hr hk hen)
/-! ### maps.Clone -/
theorem run_equalIn_map_nil (W : World) (d : Nat) {t k e : TypeId} (p : Option Nat) (h : P.underlying t = some (.map k e)) : (Op.equalIn (d + 1) t (.map p) (.map none)).run P W = .ok p.isNone W := by
  cases p <;> simp [Op.equalIn, run_underlying h]
theorem run_eq_map_nil (W : World) {t k e : TypeId} (p : Option Nat) (h : P.underlying t = some (.map k e)) : (binOp .eql t (.map p) (.map none)).run P W = .ok (.bool p.isNone) W := by
  simp only [binOp]
  simp [show Op.equal t (.map p) (.map none) = Op.equalIn (9999 + 1) t (.map p) (.map none) from rfl, run_equalIn_map_nil W 9999 p h]
theorem run_assert_map (W : World) {t k e : TypeId} (xT : TypeId) (v : Value) (h : P.underlying t = some (.map k e)) : (Instr.typeAssert (.iface t v) xT t false).run P W = .ok v W := by
  simp [Instr.typeAssert, run_underlying h, go_sem, Result.andThen]
theorem run_clone_map (t : TypeId) (h : MapAt w b kenc venc l) :
    ∃ w', (Extern.MapsClone.clone #[.iface t (.map (some b))]).run P w = .ok (.iface t (.map (some w.heap.size))) w' ∧ MapAt w' w.heap.size kenc venc l ∧ Keep [] w w' := by
  obtain ⟨h0, es, clock, hb, h2, h3, h4⟩ := h
  refine ⟨w.alloc (.map es clock), ?_, ⟨h0, es, clock, heap_alloc_new w _, h2, h3, h4⟩, (Keep.refl _ _).alloc _⟩
  have e : Extern.MapsClone.clone #[.iface t (.map (some b))] = (getObj b >>= fun o => match o with
      | .map entries clock => (newObj (.map entries clock) >>= fun n => pure (.iface t (.map (some n))))
      | _ => stuck "maps.clone: a map expected") := rfl
  rw [e]
  simp [MapKept.run_getObj_map hb, Result.andThen, go_sem]
end
end Go.Bz
