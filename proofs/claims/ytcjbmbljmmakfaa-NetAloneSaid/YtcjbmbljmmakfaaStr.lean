/- Bytes as strings; literals of integers as slices. -/
import Derived.Test.YtcjbmbljmmakfaaSl
import Derived.Laws.BytesArg
namespace Go.Bz
open Go.RowKit
theorem run_str {P : Program} {w : World} {src e : TypeId} (hs : P.underlying src = some (.slice e)) (he : P.underlying e = some (.int .u8)) {ty : TypeId} {V : Value} {b : List Int} (h : Sl w ty 1 (fun x : Int => #[Value.int .u8 x]) V b) :
    ∀ dst, P.underlying dst = some .string → (convert src dst V).run P w = .ok (.string (strOfNums b)) w := by
  intro dst hd
  obtain ⟨A, cap, rfl, hc1, hc2, hc3⟩ := h
  by_cases hb : b = []
  · subst hb
    cases A with
    | none => exact run_convert_bytes_nil w src e hs he _ _ dst hd
    | some a =>
      rw [run_convert_bytes_string w src dst e _ _ cap hs he hd, List.length_nil, run_bytesToString w a 0 cap [] (by have := run_loadCells_list (P := P) w a [] (by simp); simpa using this)]
      rfl
  · obtain ⟨g, o, rfl, hsl⟩ := hc3 hb
    refine run_convert_bytes_arg w src e hs he g o b.length cap b rfl (fun i hi => ?_) dst hd
    have := hsl.cell (List.getElem?_eq_getElem hi) (j := 0) (by decide)
    simpa [List.getD, List.getElem?_eq_getElem hi] using this
theorem ints_lit {w : World} {g : Nat} {ty : TypeId} {q : IntKind} {l : List Int} (hb : Blk w g ty (l.map (Value.int q)).toArray) (hl : l.length ≤ maxLen) : Sl w ty 1 (fun x : Int => #[Value.int q x]) (.slice (some ⟨g, 0, none⟩) l.length l.length) l := by
  refine ⟨_, _, rfl, Nat.le_refl _, hl, fun _ => ⟨g, 0, rfl, _, hb, fun i x hi j hj => ?_⟩⟩
  have : j = 0 := by omega
  subst this
  simp [hi]
/-- Strings of bytes are the same if the bytes are. -/
theorem strOfNums_eq {a b : List Int} (h : a = b) : strOfNums a = strOfNums b := by rw [h]
end Go.Bz
