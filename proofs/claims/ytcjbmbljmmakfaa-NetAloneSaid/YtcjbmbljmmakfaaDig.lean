/- Digests (arrays of eight bytes) as values; '==' on them; maps keyed by them, and by ints. -/
import Derived.Test.YtcjbmbljmmakfaaBase
import Derived.ChangeKeysEq
namespace Go.Bz
open Go.RowKit

structure D8 where
  (a b c d e f g h : Int)
deriving DecidableEq
@[reducible] def dcells (x : D8) : Array Value := #[.int .u8 x.a, .int .u8 x.b, .int .u8 x.c, .int .u8 x.d, .int .u8 x.e, .int .u8 x.f, .int .u8 x.g, .int .u8 x.h]
@[reducible] def dv (x : D8) : Value := .agg #[.int .u8 x.a, .int .u8 x.b, .int .u8 x.c, .int .u8 x.d, .int .u8 x.e, .int .u8 x.f, .int .u8 x.g, .int .u8 x.h]

/-- A digest is stored into a block, from its head on. -/
@[reducible] def put8 (w : World) (g : Nat) (x : D8) : World :=
  (((((((w.setCell ⟨g, 0, none⟩ (.int .u8 x.a)).setCell ⟨g, 1, none⟩ (.int .u8 x.b)).setCell ⟨g, 2, none⟩ (.int .u8 x.c)).setCell ⟨g, 3, none⟩ (.int .u8 x.d)).setCell ⟨g, 4, none⟩ (.int .u8 x.e)).setCell ⟨g, 5, none⟩ (.int .u8 x.f)).setCell ⟨g, 6, none⟩ (.int .u8 x.g)).setCell ⟨g, 7, none⟩ (.int .u8 x.h)
theorem dcells_set8 (y x : D8) : ((((((((dcells y).setIfInBounds 0 (.int .u8 x.a)).setIfInBounds 1 (.int .u8 x.b)).setIfInBounds 2 (.int .u8 x.c)).setIfInBounds 3 (.int .u8 x.d)).setIfInBounds 4 (.int .u8 x.e)).setIfInBounds 5 (.int .u8 x.f)).setIfInBounds 6 (.int .u8 x.g)).setIfInBounds 7 (.int .u8 x.h) = dcells x := by
  simp only [dcells, List.setIfInBounds_toArray, List.set_cons_zero, List.set_cons_succ]
theorem Blk.put8 {w : World} {g : Nat} {t : TypeId} {y : D8} (h : Blk w g t (dcells y)) (x : D8) : Blk (put8 w g x) g t (dcells x) := by
  have h8 := (((((((h.set_ 0 (.int .u8 x.a)).set_ 1 (.int .u8 x.b)).set_ 2 (.int .u8 x.c)).set_ 3 (.int .u8 x.d)).set_ 4 (.int .u8 x.e)).set_ 5 (.int .u8 x.f)).set_ 6 (.int .u8 x.g)).set_ 7 (.int .u8 x.h)
  rw [dcells_set8] at h8
  exact h8
theorem Keep.put8 {S : List Nat} {a b : World} (h : Keep S a b) {g : Nat} (hg : g ∈ S ∨ a.heap.size ≤ g) (x : D8) : Keep S a (put8 b g x) :=
  (((((((h.setCell hg _).setCell hg _).setCell hg _).setCell hg _).setCell hg _).setCell hg _).setCell hg _).setCell hg _

/-- .. from an offset on. -/
@[reducible] def put8o (w : World) (g o : Nat) (x : D8) : World :=
  (((((((w.setCell ⟨g, o, none⟩ (.int .u8 x.a)).setCell ⟨g, o + 1, none⟩ (.int .u8 x.b)).setCell ⟨g, o + 2, none⟩ (.int .u8 x.c)).setCell ⟨g, o + 3, none⟩ (.int .u8 x.d)).setCell ⟨g, o + 4, none⟩ (.int .u8 x.e)).setCell ⟨g, o + 5, none⟩ (.int .u8 x.f)).setCell ⟨g, o + 6, none⟩ (.int .u8 x.g)).setCell ⟨g, o + 7, none⟩ (.int .u8 x.h)
@[reducible] def set8 (cs : Array Value) (o : Nat) (x : D8) : Array Value :=
  (((((((cs.setIfInBounds o (.int .u8 x.a)).setIfInBounds (o + 1) (.int .u8 x.b)).setIfInBounds (o + 2) (.int .u8 x.c)).setIfInBounds (o + 3) (.int .u8 x.d)).setIfInBounds (o + 4) (.int .u8 x.e)).setIfInBounds (o + 5) (.int .u8 x.f)).setIfInBounds (o + 6) (.int .u8 x.g)).setIfInBounds (o + 7) (.int .u8 x.h)
theorem Blk.put8o {w : World} {g : Nat} {t : TypeId} {cs : Array Value} (h : Blk w g t cs) (o : Nat) (x : D8) : Blk (put8o w g o x) g t (set8 cs o x) :=
  (((((((h.set_ o _).set_ (o + 1) _).set_ (o + 2) _).set_ (o + 3) _).set_ (o + 4) _).set_ (o + 5) _).set_ (o + 6) _).set_ (o + 7) _
theorem Keep.put8o {S : List Nat} {a b : World} (h : Keep S a b) {g : Nat} (hg : g ∈ S ∨ a.heap.size ≤ g) (o : Nat) (x : D8) : Keep S a (put8o b g o x) :=
  (((((((h.setCell hg _).setCell hg _).setCell hg _).setCell hg _).setCell hg _).setCell hg _).setCell hg _).setCell hg _
theorem set8_out (cs : Array Value) (o : Nat) (x : D8) (q : Nat) (h : ∀ m, m < 8 → q ≠ o + m) : (set8 cs o x)[q]? = cs[q]? := by
  have h0 := h 0 (by omega); have h1 := h 1 (by omega); have h2 := h 2 (by omega); have h3 := h 3 (by omega)
  have h4 := h 4 (by omega); have h5 := h 5 (by omega); have h6 := h 6 (by omega); have h7 := h 7 (by omega)
  simp only [Nat.add_zero] at h0
  rw [Array.getElem?_setIfInBounds_ne (Ne.symm h7), Array.getElem?_setIfInBounds_ne (Ne.symm h6), Array.getElem?_setIfInBounds_ne (Ne.symm h5), Array.getElem?_setIfInBounds_ne (Ne.symm h4),
    Array.getElem?_setIfInBounds_ne (Ne.symm h3), Array.getElem?_setIfInBounds_ne (Ne.symm h2), Array.getElem?_setIfInBounds_ne (Ne.symm h1), Array.getElem?_setIfInBounds_ne (Ne.symm h0)]
theorem set8_in (cs : Array Value) (o : Nat) (x : D8) (hs : o + 8 ≤ cs.size) : ∀ m, m < 8 → (set8 cs o x)[o + m]? = (dcells x)[m]? := by
  intro m hm
  match m, hm with
  | 0, _ => simp [Array.getElem?_setIfInBounds]; omega
  | 1, _ => simp [Array.getElem?_setIfInBounds]; omega
  | 2, _ => simp [Array.getElem?_setIfInBounds]; omega
  | 3, _ => simp [Array.getElem?_setIfInBounds]; omega
  | 4, _ => simp [Array.getElem?_setIfInBounds]; omega
  | 5, _ => simp [Array.getElem?_setIfInBounds]; omega
  | 6, _ => simp [Array.getElem?_setIfInBounds]; omega
  | 7, _ => simp [Array.getElem?_setIfInBounds]; omega

/-- What '==' on a digest type wants of the program's tables. -/
structure DType (P : Program) (t e : TypeId) : Prop where
  arr : P.underlying t = some (.array 8 e)
  byte : P.underlying e = some (.int .u8)
  one : P.cellsOf e = 1
  info : (P.info? e).isSome = true

section
variable {P : Program} {t e : TypeId} (w : World)
theorem part_cell (he : P.underlying e = some (.int .u8)) (cs : Array Value) (j : Nat) (v : Value) (h : cs[j]? = some v) : (part e cs j).run P w = .ok v w := by
  simp [part, isAgg, run_underlying he, h]
theorem run_eqItem (D : DType P t e) (d : Nat) {xs ys : Array Value} {j : Nat} {a b : Int} (is : List Nat) (hx : xs[j]? = some (.int .u8 a)) (hy : ys[j]? = some (.int .u8 b)) :
    (Op.eqItems (d + 1) e 1 xs ys (j :: is)).run P w = if a = b then (Op.eqItems (d + 1) e 1 xs ys is).run P w else .ok false w := by
  have hb : (Op.equalIn (d + 1) e (.int .u8 a) (.int .u8 b)).run P w = .ok (a == b) w := run_equalIn_int w d e .u8 .u8 a b D.byte
  simp only [Op.eqItems, Sem.run_bind, Nat.mul_one, part_cell w D.byte _ _ _ hx, part_cell w D.byte _ _ _ hy, Result.andThen_ok, hb]
  by_cases h : a = b <;> simp [h]
theorem run_eqD8 (D : DType P t e) (d : Nat) (x y : D8) : (Op.equalIn (d + 2) t (dv x) (dv y)).run P w = .ok (decide (x = y)) w := by
  obtain ⟨i, hi⟩ := Option.isSome_iff_exists.1 D.info
  rw [show d + 2 = (d + 1) + 1 from rfl, run_equalIn_array w (d + 1) _ _ D.arr hi]
  have e0 : List.range 8 = [0, 1, 2, 3, 4, 5, 6, 7] := by decide
  obtain ⟨a, b, c, d, e, f, g, h⟩ := x
  obtain ⟨a', b', c', d', e', f', g', h'⟩ := y
  rw [e0, D.one, run_eqItem w D _ _ rfl rfl, run_eqItem w D _ _ rfl rfl, run_eqItem w D _ _ rfl rfl, run_eqItem w D _ _ rfl rfl, run_eqItem w D _ _ rfl rfl, run_eqItem w D _ _ rfl rfl, run_eqItem w D _ _ rfl rfl, run_eqItem w D _ _ rfl rfl]
  simp only [D8.mk.injEq, Op.eqItems, Sem.run_pure]
  repeat' split
  all_goals simp [*]
theorem run_eqlD8 (D : DType P t e) (x y : D8) : (Op.equal t (dv x) (dv y)).run P w = .ok (decide (x = y)) w := run_eqD8 w D 9998 x y

theorem findAsking_D8 (D : DType P t e) (x : D8) : ∀ (es : List MapEntry) (l : List (D8 × Value)) (i : Nat), es.map (fun e => (e.key, e.val)) = l.map (fun p => (dv p.1, p.2)) →
    (Instr.findAsking t (dv x) es i).run P w = .ok ((mat x l).map fun q => (q.1 + i, q.2)) w
  | [], [], _, _ => by simp [Instr.findAsking, mat]
  | m :: es, [], _, h => by simp at h
  | [], p :: l, _, h => by simp at h
  | m :: es, p :: l, i, h => by
    simp only [List.map_cons, List.cons.injEq, Prod.mk.injEq] at h
    obtain ⟨⟨h1, h2⟩, h3⟩ := h
    have hr := findAsking_D8 D x es l (i + 1) h3
    simp only [Instr.findAsking, Sem.run_bind, h1, run_eqlD8 w D, Result.andThen_ok, mat]
    by_cases hx : p.1 = x
    · simp [hx, h2]
    · have hx' : ¬ x = p.1 := fun e => hx e.symm
      simp only [hx, hx', decide_false, Bool.false_eq_true, if_false, hr]
      cases mat x l with
      | none => simp
      | some q => simp; omega
theorem run_checkD8 (D : DType P t e) (em : Bool) (n : Nat) (x : D8) : (Instr.checkKey em (n + 2) t (dv x)).run P w = .ok () w := by
  have h0 : ∀ W v, (Instr.checkKey em (n + 1) e (.int .u8 v)).run P W = .ok () W := fun W v => by
    simp [Instr.checkKey, run_underlying D.byte]
  obtain ⟨i, hi⟩ := Option.isSome_iff_exists.1 D.info
  have h1 : i.size = 1 := by have := D.one; simpa [Program.cellsOf, hi] using this
  have hs : ∀ W, (sizeOf e).run P W = .ok 1 W := fun W => by simp [sizeOf, typeInfo, hi, h1]
  have px0 : ∀ W, (part e (dcells x) 0).run P W = .ok (.int .u8 x.a) W := fun W => part_cell W D.byte _ _ _ rfl
  have px1 : ∀ W, (part e (dcells x) 1).run P W = .ok (.int .u8 x.b) W := fun W => part_cell W D.byte _ _ _ rfl
  have px2 : ∀ W, (part e (dcells x) 2).run P W = .ok (.int .u8 x.c) W := fun W => part_cell W D.byte _ _ _ rfl
  have px3 : ∀ W, (part e (dcells x) 3).run P W = .ok (.int .u8 x.d) W := fun W => part_cell W D.byte _ _ _ rfl
  have px4 : ∀ W, (part e (dcells x) 4).run P W = .ok (.int .u8 x.e) W := fun W => part_cell W D.byte _ _ _ rfl
  have px5 : ∀ W, (part e (dcells x) 5).run P W = .ok (.int .u8 x.f) W := fun W => part_cell W D.byte _ _ _ rfl
  have px6 : ∀ W, (part e (dcells x) 6).run P W = .ok (.int .u8 x.g) W := fun W => part_cell W D.byte _ _ _ rfl
  have px7 : ∀ W, (part e (dcells x) 7).run P W = .ok (.int .u8 x.h) W := fun W => part_cell W D.byte _ _ _ rfl
  have e0 : List.range' 0 8 = [0, 1, 2, 3, 4, 5, 6, 7] := by decide
  generalize hn : n + 1 = m at h0
  rw [show n + 2 = m + 1 by omega]
  simp only [Instr.checkKey, Sem.run_bind, run_underlying D.arr, Result.andThen_ok]
  simp only [Std.Legacy.Range.forIn_eq_forIn_range', Std.Legacy.Range.size, Nat.sub_zero, Nat.add_one_sub_one, Nat.div_one, Nat.reduceAdd, e0]
  simp only [List.forIn_cons, List.forIn_nil, Sem.run_bind, hs, Result.andThen_ok, Nat.mul_one, px0, px1, px2, px3, px4, px5, px6, px7, h0, Sem.run_pure]
theorem keyT_D8 (D : DType P t e) : KeyT P t dv where
  check w em x := run_checkD8 w D em 9998 x
  find w x es l h := by
    unfold Instr.findKey
    simp only [Sem.run_bind, run_underlying D.arr, Result.andThen_ok]
    cases es with
    | nil =>
      cases l with
      | nil => simp [Instr.findNow, mat]
      | cons p l => simp at h
    | cons m es =>
      have : Instr.findNow (.array 8 e) (dv x) (m :: es) 0 = none := by simp [Instr.findNow, Instr.sameNow]
      rw [this]
      have := findAsking_D8 w D x (m :: es) l 0 h
      simp only [this]
      cases mat x l <;> simp
  stays w x := by
    have : ∀ n, Instr.sameBits (n + 1) (dv x) (dv x) = true := fun n => by simp [Instr.sameBits]
    have h2 : Instr.sameBits 10000 (dv x) (dv x) = true := this 9999
    unfold Instr.keyThatStays
    simp [h2]
end
section
variable {P : Program} {t : TypeId} {q : IntKind}
theorem findNow_int (x : Int) : ∀ (es : List MapEntry) (l : List (Int × Value)) (i : Nat), es.map (fun e => (e.key, e.val)) = l.map (fun p => (Value.int q p.1, p.2)) →
    Instr.findNow (.int q) (.int q x) es i = some ((mat x l).map fun p => (p.1 + i, p.2))
  | [], [], _, _ => by simp [Instr.findNow, mat]
  | m :: es, [], _, h => by simp at h
  | [], p :: l, _, h => by simp at h
  | m :: es, p :: l, i, h => by
    simp only [List.map_cons, List.cons.injEq, Prod.mk.injEq] at h
    obtain ⟨⟨h1, h2⟩, h3⟩ := h
    have hr := findNow_int x es l (i + 1) h3
    simp only [Instr.findNow, h1, Instr.sameNow, if_true, mat]
    by_cases hx : p.1 = x
    · simp [hx, h2]
    · have hx' : ¬ x = p.1 := fun e => hx e.symm
      have hx2 : (x == p.1) = false := by simpa using hx'
      simp only [hx2, hx, if_false, hr]
      cases mat x l with
      | none => simp
      | some q => simp; omega
theorem keyT_int (ht : P.underlying t = some (.int q)) : KeyT P t (Value.int q) where
  check w em x := by
    have : ∀ n, (Instr.checkKey em (n + 1) t (.int q x)).run P w = .ok () w := fun n => by simp [Instr.checkKey, run_underlying ht]
    exact this 9999
  find w x es l h := by
    unfold Instr.findKey
    simp only [Sem.run_bind, run_underlying ht, Result.andThen_ok, findNow_int x es l 0 h]
    cases mat x l <;> simp
  stays w x := by
    have : ∀ n, Instr.sameBits n (.int q x) (.int q x) = true := fun n => by cases n <;> simp [Instr.sameBits]
    unfold Instr.keyThatStays
    simp [this]
end
end Go.Bz
