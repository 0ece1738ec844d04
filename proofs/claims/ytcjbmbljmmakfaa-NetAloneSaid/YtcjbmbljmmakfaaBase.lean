/- Words for memory, digests and maps, used by all walks: which blocks a call keeps, what a block holds, what a map's block holds as a list of keys and values; and what the machine's operations on them do. -/
import Derived.WalkKit
import Derived.Maps.Keyed
import Derived.Lib.Hide
import Derived.Deep.Draws
namespace Go.Bz
open Go.RowKit

theorem ret_int {k : IntKind} {a b : Int} (h : a = b) : Ending.returned (.int k a) = .returned (.int k b) := by rw [h]
/-! ### worlds: which blocks are kept -/
structure Keep (S : List Nat) (w w' : World) : Prop where
  os : w'.os = w.os
  tape : w'.tape = w.tape
  output : w'.output = w.output
  size : w.heap.size ≤ w'.heap.size
  block : ∀ k, k < w.heap.size → k ∉ S → w'.heap[k]? = w.heap[k]?

theorem Keep.refl (S : List Nat) (w : World) : Keep S w w := ⟨rfl, rfl, rfl, Nat.le_refl _, fun _ _ _ => rfl⟩
theorem Keep.trans {S : List Nat} {a b c : World} (h : Keep S a b) (h' : Keep S b c) : Keep S a c :=
  ⟨h'.os.trans h.os, h'.tape.trans h.tape, h'.output.trans h.output, Nat.le_trans h.size h'.size,
   fun k hk hs => (h'.block k (Nat.lt_of_lt_of_le hk h.size) hs).trans (h.block k hk hs)⟩
theorem Keep.mono {S S' : List Nat} {a b : World} (h : Keep S a b) (hs : ∀ k, k < a.heap.size → k ∈ S → k ∈ S') : Keep S' a b :=
  ⟨h.os, h.tape, h.output, h.size, fun k hk hn => h.block k hk (fun hm => hn (hs k hk hm))⟩
theorem Keep.sub {S : List Nat} {a b : World} (h : Keep [] a b) : Keep S a b := h.mono (fun _ _ hm => by cases hm)
theorem Keep.drew {S : List Nat} {a b : World} (h : Keep S a b) : Keep S a b.drew := ⟨h.os, h.tape, h.output, h.size, h.block⟩
theorem Keep.undrew {S : List Nat} {a b : World} (h : Keep S a.drew b) : Keep S a b := ⟨h.os, h.tape, h.output, h.size, h.block⟩
theorem Keep.drewN {S : List Nat} {a b : World} (h : Keep S a b) (n : Nat) : Keep S a (b.drewN n) := ⟨h.os, h.tape, h.output, h.size, h.block⟩
theorem Keep.alloc {S : List Nat} {a b : World} (h : Keep S a b) (o : Obj) : Keep S a (b.alloc o) :=
  h.trans ⟨rfl, rfl, rfl, by simp, fun k hk _ => Below.heap_alloc _ _ _ hk⟩
/-- A store: into a block of S, or into one that is new since a. -/
theorem Keep.setCell {S : List Nat} {a b : World} (h : Keep S a b) {p : Addr} (hp : p.block ∈ S ∨ a.heap.size ≤ p.block) (u : Value) : Keep S a (b.setCell p u) :=
  ⟨h.os, h.tape, h.output, by simpa using h.size, fun k hk hs => by
    rw [Below.heap_setCell _ _ _ _ (fun e => by subst e; rcases hp with hp | hp; exact hs hp; omega)]
    exact h.block k hk hs⟩
/-- What a call kept, seen from further back: the blocks that it may have turned are new since a. -/
theorem Keep.andThen {S S' : List Nat} {a b c : World} (h : Keep S a b) (h' : Keep S' b c) (hs : ∀ k ∈ S', k ∈ S ∨ a.heap.size ≤ k) : Keep S a c :=
  ⟨h'.os.trans h.os, h'.tape.trans h.tape, h'.output.trans h.output, Nat.le_trans h.size h'.size,
   fun k hk hn => (h'.block k (Nat.lt_of_lt_of_le hk h.size) (fun hm => by rcases hs k hm with h1 | h1; exact hn h1; omega)).trans (h.block k hk hn)⟩
theorem Keep.below {w w' : World} (h : Keep [] w w') : Below w.heap.size w w' := ⟨h.os, h.tape, h.output, h.size, fun k hk => h.block k hk (by simp)⟩
theorem Keep.cell {S : List Nat} {w w' : World} (h : Keep S w w') {p : Addr} {v : Value} (hc : w.cell? p = some v) (hp : p.block ∉ S) : w'.cell? p = some v :=
  (World.cell?_of_block (h.block _ (World.block_lt_of_cell? w p hc) hp)).trans hc
theorem Keep.frozen {S : List Nat} {w w' : World} (h : Keep S w w') {p : Addr} (hl : p.block < w.heap.size) (hp : p.block ∉ S) : w'.frozen? p = w.frozen? p :=
  World.frozen?_of_block (h.block _ hl hp)

/-! ### a block that is known whole -/
def Blk (w : World) (g : Nat) (t : TypeId) (cs : Array Value) : Prop := w.heap[g]? = some (.cells cs t (0, 0))
section
variable {w w' : World} {g : Nat} {t : TypeId} {cs : Array Value}
theorem lt_of_heap {w : World} {g : Nat} {o : Obj} (h : w.heap[g]? = some o) : g < w.heap.size := by
  rcases Nat.lt_or_ge g w.heap.size with hlt | hge
  · exact hlt
  · rw [Array.getElem?_eq_none hge] at h; cases h
theorem Blk.lt (h : Blk w g t cs) : g < w.heap.size := lt_of_heap h
theorem Blk.cell (h : Blk w g t cs) : ∀ i, w.cell? ⟨g, i, none⟩ = cs[i]? := fun i => cell_of_row w g i cs t (0, 0) h
theorem Blk.frozen (h : Blk w g t cs) : ∀ i, w.frozen? ⟨g, i, none⟩ = false := fun i => by
  unfold Blk at h
  simp [World.frozen?, h]
theorem Blk.new (w : World) (t : TypeId) (cs : Array Value) : Blk (w.alloc (.cells cs t)) w.heap.size t cs := heap_alloc_new w _
theorem Blk.new_ {w : World} {g : Nat} {t : TypeId} {cs : Array Value} (h : g = w.heap.size) : Blk (w.alloc (.cells cs t)) g t cs := h ▸ Blk.new w t cs
theorem Blk.drew (h : Blk w g t cs) : Blk w.drew g t cs := h
theorem Blk.alloc (h : Blk w g t cs) (o : Obj) : Blk (w.alloc o) g t cs := (Below.heap_alloc w o g h.lt).trans h
theorem Blk.set_ (h : Blk w g t cs) (i : Nat) (u : Value) : Blk (w.setCell ⟨g, i, none⟩ u) g t (cs.setIfInBounds i u) := by
  unfold Blk at h ⊢
  simp [World.setCell, Array.getElem?_modify, h]
theorem Blk.far (h : Blk w g t cs) {p : Addr} (hp : g ≠ p.block) (u : Value) : Blk (w.setCell p u) g t cs := (Below.heap_setCell w p u g hp).trans h
theorem Blk.keep {S : List Nat} (h : Blk w g t cs) (hb : Keep S w w') (hg : g ∉ S) : Blk w' g t cs := (hb.block g h.lt hg).trans h
theorem Blk.ne_ {g' : Nat} {t' : TypeId} {cs' : Array Value} (h : Blk w g t cs) (h' : Blk w g' t' cs') (hne : t ≠ t') : g ≠ g' := by
  rintro rfl
  unfold Blk at h h'
  rw [h] at h'
  injection h' with h'
  injection h' with _ ht
  exact hne ht
end

/-! ### maps, as lists of keys and values in the order in which they came -/
section
variable {κ β : Type}
/-- Where a key stands. -/
def mat [DecidableEq κ] (x : κ) : List (κ × β) → Option (Nat × β)
  | [] => none
  | p :: r => if p.1 = x then some (0, p.2) else (mat x r).map fun q => (q.1 + 1, q.2)
def mlook [DecidableEq κ] (x : κ) (l : List (κ × β)) : Option β := (mat x l).map (·.2)
def mput [DecidableEq κ] (x : κ) (v : β) : List (κ × β) → List (κ × β)
  | [] => [(x, v)]
  | p :: r => if p.1 = x then (x, v) :: r else p :: mput x v r
def mdel [DecidableEq κ] (x : κ) : List (κ × β) → List (κ × β)
  | [] => []
  | p :: r => if p.1 = x then r else p :: mdel x r

/-- What the laws on maps need of the key's type: keys of values of κ. -/
structure KeyT (P : Program) (k : TypeId) [DecidableEq κ] (kenc : κ → Value) : Prop where
  check : ∀ w em x, (Instr.checkKey em 10000 k (kenc x)).run P w = .ok () w
  find : ∀ w x (es : List MapEntry) (l : List (κ × Value)), es.map (fun e => (e.key, e.val)) = l.map (fun p => (kenc p.1, p.2)) →
    (Instr.findKey k (kenc x) es).run P w = .ok (mat x l) w
  stays : ∀ w x, (Instr.keyThatStays (kenc x) (kenc x)).run P w = .ok (kenc x) w

/-- Block b is a map that holds the entries l. -/
def MapAt (w : World) (b : Nat) (kenc : κ → Value) (venc : β → Value) (l : List (κ × β)) : Prop :=
  (l.map (·.1)).Nodup ∧ ∃ es clock, w.heap[b]? = some (.map es clock) ∧ es.toList.map (fun e => (e.key, e.val)) = l.map (fun p => (kenc p.1, venc p.2)) ∧
    (es.toList.map (·.born)).Nodup ∧ ∀ e ∈ es.toList, e.born < clock

variable {w w' : World} {b : Nat} {kenc : κ → Value} {venc : β → Value} {l : List (κ × β)}
theorem MapAt.lt (h : MapAt w b kenc venc l) : b < w.heap.size := by
  obtain ⟨_, es, clock, hb, _⟩ := h
  exact lt_of_heap hb
theorem MapAt.keep {S : List Nat} (h : MapAt w b kenc venc l) (hk : Keep S w w') (hb : b ∉ S) : MapAt w' b kenc venc l := by
  have hlt := h.lt
  obtain ⟨hn, es, clock, h1, h2⟩ := h
  exact ⟨hn, es, clock, (hk.block b hlt hb).trans h1, h2⟩
theorem MapAt.drew (h : MapAt w b kenc venc l) : MapAt w.drew b kenc venc l := h
theorem MapAt.alloc (h : MapAt w b kenc venc l) (o : Obj) : MapAt (w.alloc o) b kenc venc l := h.keep (S := []) ((Keep.refl _ _).alloc o) (by simp)
theorem MapAt.setCell (h : MapAt w b kenc venc l) {p : Addr} (hp : p.block ≠ b) (u : Value) : MapAt (w.setCell p u) b kenc venc l :=
  h.keep (S := [p.block]) ((Keep.refl _ _).setCell (by simp) u) (by simp; exact fun e => hp e.symm)
theorem MapAt.nodup (h : MapAt w b kenc venc l) : (l.map (·.1)).Nodup := h.1
theorem MapAt.made (w : World) (kenc : κ → Value) (venc : β → Value) : MapAt (w.alloc (.map #[] 0)) w.heap.size kenc venc [] :=
  ⟨by simp, #[], 0, heap_alloc_new w _, by simp, by simp, by simp⟩
theorem MapAt.ne_blk {t : TypeId} {cs : Array Value} {g : Nat} (h : MapAt w b kenc venc l) (h' : Blk w g t cs) : b ≠ g := by
  rintro rfl
  obtain ⟨_, es, clock, hb, _⟩ := h
  unfold Blk at h'
  rw [hb] at h'
  cases h'

theorem at_venc [DecidableEq κ] (x : κ) (f : β → Value) : ∀ l : List (κ × β), mat x (l.map fun p => (p.1, f p.2)) = (mat x l).map fun q => (q.1, f q.2)
  | [] => rfl
  | p :: r => by
    simp only [List.map_cons, mat]
    split
    · rfl
    · rw [at_venc x f r]; cases mat x r <;> rfl

variable {P : Program} {t k e : TypeId} [DecidableEq κ]
theorem MapAt.look_ok (h : MapAt w b kenc venc l) (K : KeyT P k kenc) (ht : P.underlying t = some (.map k e)) {z : Value} (hz : ∀ W, (zeroValue e).run P W = .ok z W) (x : κ) :
    (Instr.lookup t (.map (some b)) (kenc x) true).run P w = .ok (.tuple #[((mlook x l).map venc).getD z, .bool (mlook x l).isSome]) w := by
  obtain ⟨_, es, clock, hb, hes, _⟩ := h
  have hfind := K.find w x es.toList (l.map fun p => (p.1, venc p.2)) (by rw [hes]; simp)
  rw [at_venc] at hfind
  have hob : (getObj b).run P w = .ok (.map es clock) w := by simp [getObj, Sem.run, hb]
  have hck := K.check w es.isEmpty x
  unfold Instr.lookup
  simp only [Sem.run_bind, run_underlying ht, Result.andThen_ok, hob, hck, hfind, Sem.run_pure]
  unfold mlook
  cases mat x l with
  | none => simp [hz]
  | some q => simp
theorem MapAt.look_one (h : MapAt w b kenc venc l) (K : KeyT P k kenc) (ht : P.underlying t = some (.map k e)) {z : Value} (hz : ∀ W, (zeroValue e).run P W = .ok z W) (x : κ) :
    (Instr.lookup t (.map (some b)) (kenc x) false).run P w = .ok (((mlook x l).map venc).getD z) w := by
  obtain ⟨_, es, clock, hb, hes, _⟩ := h
  have hfind := K.find w x es.toList (l.map fun p => (p.1, venc p.2)) (by rw [hes]; simp)
  rw [at_venc] at hfind
  have hob : (getObj b).run P w = .ok (.map es clock) w := by simp [getObj, Sem.run, hb]
  have hck := K.check w es.isEmpty x
  unfold Instr.lookup
  simp only [Sem.run_bind, run_underlying ht, Result.andThen_ok, hob, hck, hfind, Sem.run_pure]
  unfold mlook
  cases mat x l with
  | none => simp [hz]
  | some q => simp
/-- A block of another kind than a row of cells that is set. -/
theorem Keep.setObj {S : List Nat} {a b : World} (h : Keep S a b) {r : Nat} (hr : r ∈ S ∨ a.heap.size ≤ r) (o : Obj) : Keep S a { b with heap := b.heap.setIfInBounds r o } :=
  ⟨h.os, h.tape, h.output, by simpa using h.size, fun k hk hs => by
    have : r ≠ k := fun e => by subst e; rcases hr with hr | hr; exact hs hr; omega
    rw [← h.block k hk hs]
    simp [this]⟩
theorem run_setObj {w : World} {r : Nat} {es : Array MapEntry} {c : Nat} (hb : w.heap[r]? = some (.map es c)) (o : Obj) : (setObj r o).run P w = .ok () { w with heap := w.heap.setIfInBounds r o } := by
  simp [Go.setObj, Sem.run, hb]

theorem at_none {x : κ} : ∀ {l : List (κ × β)}, mat x l = none ↔ x ∉ l.map (·.1)
  | [] => by simp [mat]
  | p :: r => by
    simp only [mat, List.map_cons, List.mem_cons, not_or]
    split
    · rename_i h; simp [h]
    · rename_i h
      have := at_none (x := x) (l := r)
      cases hr : mat x r with
      | none => simp [hr] at this; simp; exact ⟨fun e => h e.symm, this⟩
      | some q => simp [hr] at this; simp [this]
theorem upd_none {x : κ} {v : β} : ∀ {l : List (κ × β)}, mat x l = none → mput x v l = l ++ [(x, v)]
  | [], _ => rfl
  | p :: r, h => by
    simp only [mat] at h
    split at h
    · cases h
    · rename_i hp
      simp only [mput, hp, if_false, List.cons_append]
      rw [upd_none (l := r)]
      cases hr : mat x r with
      | none => rfl
      | some q => simp [hr] at h
theorem upd_some {x : κ} {v : β} : ∀ {l : List (κ × β)} {i : Nat} {u : β}, mat x l = some (i, u) → i < l.length ∧ (∃ p, l[i]? = some p ∧ p = (x, u)) ∧ mput x v l = l.set i (x, v) ∧ mdel x l = l.eraseIdx i
  | [], _, _, h => by simp [mat] at h
  | p :: r, i, u, h => by
    simp only [mat] at h
    split at h
    · rename_i hp
      simp at h
      obtain ⟨rfl, rfl⟩ := h
      refine ⟨by simp, ⟨p, by simp, by rw [← hp]⟩, by simp [mput, hp], by simp [mdel, hp]⟩
    · rename_i hp
      cases hr : mat x r with
      | none => simp [hr] at h
      | some q =>
        simp only [hr, Option.map_some, Option.some.injEq, Prod.mk.injEq] at h
        obtain ⟨h1, rfl⟩ := h
        obtain ⟨a, b, c, d⟩ := upd_some (v := v) (l := r) (i := q.1) (u := q.2) hr
        subst h1
        exact ⟨by simp; omega, by simpa using b, by simp [mput, hp, c], by simp [mdel, hp, d]⟩
theorem del_none {x : κ} : ∀ {l : List (κ × β)}, mat x l = none → mdel x l = l
  | [], _ => rfl
  | p :: r, h => by
    simp only [mat] at h
    split at h
    · cases h
    · rename_i hp
      simp only [mdel, hp, if_false]
      rw [del_none (l := r)]
      cases hr : mat x r with
      | none => rfl
      | some q => simp [hr] at h
theorem keys_upd {x : κ} {v : β} {l : List (κ × β)} : (mput x v l).map (·.1) = if x ∈ l.map (·.1) then l.map (·.1) else l.map (·.1) ++ [x] := by
  cases h : mat x l with
  | none => rw [upd_none h, if_neg (at_none.1 h)]; simp
  | some q =>
    obtain ⟨h1, ⟨p, hp, rfl⟩, h3, _⟩ := upd_some (v := v) (i := q.1) (u := q.2) h
    have : x ∈ l.map (·.1) := by
      have := List.mem_of_getElem? hp
      exact List.mem_map.2 ⟨_, this, rfl⟩
    rw [h3, if_pos this, List.map_set]
    apply List.ext_getElem?
    intro j
    rw [List.getElem?_set]
    split
    · rename_i e; subst e; simp [hp]
      exact h1
    · rfl
theorem nodup_upd {x : κ} {v : β} {l : List (κ × β)} (h : (l.map (·.1)).Nodup) : ((mput x v l).map (·.1)).Nodup := by
  rw [keys_upd]
  split
  · exact h
  · rename_i hx
    rw [List.nodup_append]
    refine ⟨h, by simp, ?_⟩
    intro a ha b hb e
    simp at hb
    subst hb; subst e
    exact hx ha
theorem del_sublist (x : κ) : ∀ l : List (κ × β), (mdel x l).Sublist l
  | [] => List.Sublist.refl _
  | p :: r => by
    simp only [mdel]
    split
    · exact List.sublist_cons_self _ _
    · exact (del_sublist x r).cons_cons _
theorem nodup_del {x : κ} {l : List (κ × β)} (h : (l.map (·.1)).Nodup) : ((mdel x l).map (·.1)).Nodup :=
  h.sublist ((del_sublist x l).map _)

theorem map_eraseIdx' {α γ : Type} (f : α → γ) : ∀ (l : List α) (i : Nat), (l.eraseIdx i).map f = (l.map f).eraseIdx i
  | [], _ => by simp
  | a :: r, 0 => by simp
  | a :: r, i + 1 => by simp [map_eraseIdx' f r i]
/-- 'm[k] = v'. -/
theorem MapAt.update (h : MapAt w b kenc venc l) (K : KeyT P k kenc) (ht : P.underlying t = some (.map k e)) (x : κ) (v : β) :
    ∃ w', (Instr.mapUpdate t (.map (some b)) (kenc x) (venc v)).run P w = .ok () w' ∧ MapAt w' b kenc venc (mput x v l) ∧ Keep [b] w w' := by
  obtain ⟨hn, es, clock, hb, hes, hd, hlt⟩ := h
  have hfind := K.find w x es.toList (l.map fun p => (p.1, venc p.2)) (by rw [hes]; simp)
  rw [at_venc] at hfind
  have hob : (getObj b).run P w = .ok (.map es clock) w := by simp [getObj, Sem.run, hb]
  have hck := K.check w false x
  have hbl : b < w.heap.size := lt_of_heap hb
  cases hx : mat x l with
  | none =>
    refine ⟨{ w with heap := w.heap.setIfInBounds b (.map (es.push { key := kenc x, val := venc v, born := clock }) (clock + 1)) }, ?_, ⟨nodup_upd hn, es.push { key := kenc x, val := venc v, born := clock }, clock + 1, ?_, ?_, ?_, ?_⟩, (Keep.refl _ _).setObj (by simp) _⟩
    · unfold Instr.mapUpdate
      simp only [Sem.run_bind, run_underlying ht, Result.andThen_ok, hob, hck, hfind, hx, Option.map_none, run_setObj hb]
    · simp [hbl]
    · rw [upd_none hx]; simp [hes]
    · simp only [Array.toList_push, List.map_append, List.map_cons, List.map_nil]
      rw [List.nodup_append]
      refine ⟨hd, by simp, ?_⟩
      intro a ha c hc he
      simp at hc
      obtain ⟨m, hm, rfl⟩ := List.mem_map.1 ha
      have := hlt m hm
      omega
    · intro m hm
      simp only [Array.toList_push, List.mem_append, List.mem_singleton] at hm
      rcases hm with hm | rfl
      · exact Nat.lt_succ_of_lt (hlt m hm)
      · exact Nat.lt_succ_self _
  | some q =>
    obtain ⟨h1, ⟨p, hp, rfl⟩, h3, _⟩ := upd_some (v := v) (i := q.1) (u := q.2) hx
    have hlen : es.size = l.length := by have := congrArg List.length hes; simpa using this
    have hqe : q.1 < es.size := by omega
    have hkey : (es[q.1]'hqe).key = kenc x := by
      have := congrArg (fun L => L[q.1]?) hes
      simp [hp, hqe] at this
      exact this.1
    refine ⟨{ w with heap := w.heap.setIfInBounds b (.map (es.modify q.1 fun e => { e with key := kenc x, val := venc v }) clock) }, ?_, ⟨nodup_upd hn, es.modify q.1 fun e => { e with key := kenc x, val := venc v }, clock, ?_, ?_, ?_, ?_⟩, (Keep.refl _ _).setObj (by simp) _⟩
    · unfold Instr.mapUpdate
      have hst : (Instr.keyThatStays ((es[q.1]?.map (·.key)).getD (kenc x)) (kenc x)).run P w = .ok (kenc x) w := by
        simp only [Array.getElem?_eq_getElem hqe, Option.map_some, Option.getD_some, hkey]
        exact K.stays w x
      simp only [Sem.run_bind, run_underlying ht, Result.andThen_ok, hob, hck, hfind, hx, Option.map_some, hst, run_setObj hb]
    · simp [hbl]
    · rw [h3, List.map_set, ← hes]
      apply List.ext_getElem?
      intro j
      simp only [Array.toList_modify, List.getElem?_map, List.getElem?_set, List.getElem?_modify]
      by_cases hj : q.1 = j
      · subst hj; simp [hqe]
      · simp [hj]
    · have : (es.modify q.1 fun e => { e with key := kenc x, val := venc v }).toList.map (·.born) = es.toList.map (·.born) := by
        apply List.ext_getElem?
        intro j
        simp only [Array.toList_modify, List.getElem?_map, List.getElem?_modify]
        by_cases hj : q.1 = j
        · subst hj; simp [hqe]
        · simp [hj]
      rw [this]; exact hd
    · intro m hm
      obtain ⟨j, hj, rfl⟩ := List.getElem_of_mem hm
      simp only [Array.toList_modify, List.getElem_modify]
      have hj' : j < es.toList.length := by simpa using hj
      split
      · exact hlt es.toList[j] (List.getElem_mem hj')
      · exact hlt _ (List.getElem_mem hj')
/-- 'delete(m, k)'. -/
theorem MapAt.delete (h : MapAt w b kenc venc l) (K : KeyT P k kenc) (ht : P.underlying t = some (.map k e)) (x : κ) (ty : TypeId) :
    ∃ w', (Builtin.delete_ #[t, k] ty #[.map (some b), kenc x]).run P w = .ok (.tuple #[]) w' ∧ MapAt w' b kenc venc (mdel x l) ∧ Keep [b] w w' := by
  obtain ⟨hn, es, clock, hb, hes, hd, hlt⟩ := h
  have hfind := K.find w x es.toList (l.map fun p => (p.1, venc p.2)) (by rw [hes]; simp)
  rw [at_venc] at hfind
  have hob : (getObj b).run P w = .ok (.map es clock) w := by simp [getObj, Sem.run, hb]
  have hck := K.check w es.isEmpty x
  have hbl : b < w.heap.size := lt_of_heap hb
  cases hx : mat x l with
  | none =>
    refine ⟨{ w with heap := w.heap.setIfInBounds b (.map es clock) }, ?_, ⟨nodup_del hn, es, clock, ?_, ?_, hd, hlt⟩, (Keep.refl _ _).setObj (by simp) _⟩
    · unfold Builtin.delete_
      simp [run_underlying ht, hob, hck, hfind, hx, run_setObj hb]
    · simp [hbl]
    · rw [del_none hx, hes]
  | some q =>
    obtain ⟨h1, ⟨p, hp, rfl⟩, _, h4⟩ := upd_some (v := q.2) (i := q.1) (u := q.2) hx
    have hlen : es.size = l.length := by have := congrArg List.length hes; simpa using this
    have hqe : q.1 < es.size := by omega
    refine ⟨{ w with heap := w.heap.setIfInBounds b (.map (es.eraseIdxIfInBounds q.1) clock) }, ?_, ⟨nodup_del hn, es.eraseIdxIfInBounds q.1, clock, ?_, ?_, ?_, ?_⟩, (Keep.refl _ _).setObj (by simp) _⟩
    · unfold Builtin.delete_
      simp [run_underlying ht, hob, hck, hfind, hx, run_setObj hb]
    · simp [hbl]
    · rw [h4]
      simp only [Array.eraseIdxIfInBounds, hqe, dif_pos, Array.toList_eraseIdx]
      rw [map_eraseIdx', map_eraseIdx', hes]
    · simp only [Array.eraseIdxIfInBounds, hqe, dif_pos, Array.toList_eraseIdx]
      exact hd.sublist ((List.eraseIdx_sublist _ _).map _)
    · intro m hm
      simp only [Array.eraseIdxIfInBounds, hqe, dif_pos, Array.toList_eraseIdx] at hm
      exact hlt m ((List.eraseIdx_sublist _ _).mem hm)
/-- 'm[k] = v' on a map that has just been made. -/
theorem run_mapUpdate_fresh (K : KeyT P k kenc) (ht : P.underlying t = some (.map k e)) (W : World) (x : κ) (v : Value) :
    (Instr.mapUpdate t (.map (some W.heap.size)) (kenc x) v).run P (W.alloc (.map #[] 0)) = .ok () (W.alloc (.map #[⟨kenc x, v, 0⟩] 1)) := by
  have hb := heap_alloc_new W (.map #[] 0)
  have hob : (getObj W.heap.size).run P (W.alloc (.map #[] 0)) = .ok (.map #[] 0) (W.alloc (.map #[] 0)) := by unfold Go.getObj Sem.run; rw [hb]; rfl
  have hck := K.check (W.alloc (.map #[] 0)) false x
  have hfind := K.find (W.alloc (.map #[] 0)) x [] [] (by simp)
  unfold Instr.mapUpdate
  simp only [Sem.run_bind, run_underlying ht, Result.andThen_ok, hob, hck, hfind, mat, run_setObj hb]
  have : (W.heap.push (.map #[] 0)).setIfInBounds W.heap.size (.map #[⟨kenc x, v, 0⟩] 1) = W.heap.push (.map #[⟨kenc x, v, 0⟩] 1) := by
    apply Array.ext
    · simp
    · intro i h1 h2
      by_cases hi : W.heap.size = i
      · subst hi; simp
      · have : i < W.heap.size := by simp at h2; omega
        rw [Array.getElem_setIfInBounds_ne (by simpa using Nat.lt_succ_of_lt this) hi]
        simp [Array.getElem_push, this]
  exact congrArg (fun H => Result.ok () { W with heap := H }) this
omit [DecidableEq κ] in
theorem MapAt.fresh (W : World) (kenc : κ → Value) (venc : β → Value) (x : κ) (v : β) : MapAt (W.alloc (.map #[⟨kenc x, venc v, 0⟩] 1)) W.heap.size kenc venc [(x, v)] :=
  ⟨by simp, _, _, heap_alloc_new W _, by simp, by simp, by simp⟩
omit [DecidableEq κ] in
theorem MapAt.fresh_ {W : World} {kenc : κ → Value} {venc : β → Value} {x : κ} {v : β} {b : Nat} (h : b = W.heap.size) : MapAt (W.alloc (.map #[⟨kenc x, venc v, 0⟩] 1)) b kenc venc [(x, v)] := h ▸ MapAt.fresh W kenc venc x v
omit [DecidableEq κ] in
theorem MapAt.len (h : MapAt w b kenc venc l) (ht : P.underlying t = some (.map k e)) (ty : TypeId) : (Builtin.len_ #[t] ty #[.map (some b)]).run P w = .ok (.int .i64 l.length) w := by
  obtain ⟨_, es, clock, hb, hes, _⟩ := h
  have hob : (getObj b).run P w = .ok (.map es clock) w := by simp [getObj, Sem.run, hb]
  have hlen : es.size = l.length := by have := congrArg List.length hes; simpa using this
  simp [Builtin.len_, run_underlying ht, hob, hlen, goInt]
end
end Go.Bz
