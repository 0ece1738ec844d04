/- The document's tree in memory; its New, and the law's begin walked. -/
import Derived.Test.YtbkchniomhdieaaLists
import Derived.Test.YtbkchniomhdieaaTold
namespace Go.Proofs.Ytbkchniomhdieaa
open Go.RowKit Go.Bz

@[reducible] def idv (n : Int) : D8 := ⟨n, 1, 0, 0, 0, 0, 0, 0⟩
theorem dep_mod (dep m : Int) (hm : 0 < m) (hm2 : m ≤ 2000) : ∃ n : Int, IntKind.i64.wrap ((IntKind.u64.wrap dep).tmod m) = n ∧ 0 ≤ n ∧ n < m := by
  have h0 : 0 ≤ IntKind.u64.wrap dep := by
    have : IntKind.u64.wrap dep = dep % 18446744073709551616 := by simp [IntKind.wrap, IntKind.bits, IntKind.signed]
    rw [this]; omega
  have h1 : (IntKind.u64.wrap dep).tmod m = (IntKind.u64.wrap dep) % m := Int.tmod_eq_emod_of_nonneg h0
  have h2 := Int.emod_nonneg (IntKind.u64.wrap dep) (Int.ne_of_gt hm)
  have h3 := Int.emod_lt_of_pos (IntKind.u64.wrap dep) hm
  exact ⟨_, rfl, by rw [h1, IntWalk.i64_in _ (by omega)]; exact h2, by rw [h1, IntWalk.i64_in _ (by omega)]; exact h3⟩
structure RT where
  (depth : Int) (l : List (D8 × D8)) (tip : D8)
@[reducible] def renc (p : D8 × D8) : Array Value := #[.int .u8 p.1.a, .int .u8 p.1.b, .int .u8 p.1.c, .int .u8 p.1.d, .int .u8 p.1.e, .int .u8 p.1.f, .int .u8 p.1.g, .int .u8 p.1.h, .int .u8 p.2.a, .int .u8 p.2.b, .int .u8 p.2.c, .int .u8 p.2.d, .int .u8 p.2.e, .int .u8 p.2.f, .int .u8 p.2.g, .int .u8 p.2.h]
@[reducible] def rcells (V : Value) (T : RT) : Array Value := #[.int .i64 T.depth, V, .int .u8 T.tip.a, .int .u8 T.tip.b, .int .u8 T.tip.c, .int .u8 T.tip.d, .int .u8 T.tip.e, .int .u8 T.tip.f, .int .u8 T.tip.g, .int .u8 T.tip.h]
@[reducible] def rtv (V : Value) (T : RT) : Value := .agg #[.int .i64 T.depth, V, .int .u8 T.tip.a, .int .u8 T.tip.b, .int .u8 T.tip.c, .int .u8 T.tip.d, .int .u8 T.tip.e, .int .u8 T.tip.f, .int .u8 T.tip.g, .int .u8 T.tip.h]
def RT.new (d : D8) (n : Int) : RT := ⟨n, [(d, d0)], d⟩
theorem refnew_any (d : D8) (n : Int) (w : World) : Calls Try.prog 34 #[dv d, .int .i64 n] w (fun e w' => ∃ V, e = .returned (rtv V ⟨n, [(d, d0)], d⟩) ∧ Sl w' 57 16 renc V [(d, d0)] ∧ Keep [] w w') := by
  go_enter Try.func34, Try.ntmps34
  go_wp2_with fail
  exact bodyPost_ret (v := rtv (.slice (some ⟨w.heap.size + 1 + 1, 0, none⟩) 1 1) ⟨n, [(d, d0)], d⟩) (by simp [results, Try.results34, go_sem]) rfl
    ⟨_, rfl, (Own.one (base := 0) (enc := renc) (x := (d, d0)) (Blk.new_ (by simp)) rfl (Nat.zero_le _)).sl (fun _ => rfl), (((Keep.refl _ _).alloc _).alloc _).alloc _⟩
@[reducible] def rz : Array Value := #[.int .i64 0, .slice none 0 0, .int .u8 0, .int .u8 0, .int .u8 0, .int .u8 0, .int .u8 0, .int .u8 0, .int .u8 0, .int .u8 0]
theorem begin_any (dep : Int) (w : World) : Calls Try.prog 17 #[.int .i64 dep] w (fun e w' => ∃ (n : Int) (t mb : Nat) (V : Value), 0 ≤ n ∧ n ≤ 1000 ∧ e = .returned (.tuple #[.pointer (some ⟨t, 0, none⟩), rtv V ⟨n, [(idv 0, d0)], idv 0⟩]) ∧
    w.heap.size ≤ t ∧ w.heap.size ≤ mb ∧ TreeAt w' t mb (FT.new (idv 0) n) ∧ Sl w' 57 16 renc V [(idv 0, d0)] ∧ Keep [] w w') := by
  obtain ⟨n, hn, hn0, hn1⟩ := dep_mod dep 1001 (by decide) (by decide)
  go_enter Try.func17, Try.ntmps17
  have hK := (Keep.refl [] w).alloc (.cells rz 42)
  have hN := Blk.new w 42 rz
  go_wp2_with (first
    | (go_at_call 11; refine (id_any _ _).mono ?_; rintro e w1 ⟨rfl, hk1⟩; have hK := hK.trans hk1; have hN := hN.keep hk1 (by simp); (try have hT := hT.keep0 hk1))
    | (go_at_call 10; refine (new_call _ _ _ hn0 (by omega)).mono ?_; rintro e w2 ⟨t, mb, rfl, ht, hmb, hT, hk2⟩; have ht := Nat.le_trans hK.size ht; have hmb := Nat.le_trans hK.size hmb; have hN := hN.keep hk2 (by simp); have hK2 := hK.trans hk2; clear hK; have hK := hK2; clear hK2)
    | (go_at_call 34; refine (refnew_any _ _ _).mono ?_; rintro e w3 ⟨V, rfl, ⟨A3, cap3, rfl, hq⟩, hk3⟩; have hT := hT.keep0 hk3; have hK := hK.trans hk3; have hN := hN.keep hk3 (by simp); have cN := hN.cell; have fN := hN.frozen))
  have hV : Sl w3 57 16 renc (.slice A3 1 cap3) [(idv 0, d0)] := ⟨A3, cap3, rfl, hq⟩
  have hk : ∀ v0 v1 v2 v3 v4 v5 v6 v7 v8 v9, Keep [w.heap.size] w3 ((((((((((w3.setCell ⟨w.heap.size, 0, none⟩ v0).setCell ⟨w.heap.size, 1, none⟩ v1).setCell ⟨w.heap.size, 2, none⟩ v2).setCell ⟨w.heap.size, 3, none⟩ v3).setCell ⟨w.heap.size, 4, none⟩ v4).setCell ⟨w.heap.size, 5, none⟩ v5).setCell ⟨w.heap.size, 6, none⟩ v6).setCell ⟨w.heap.size, 7, none⟩ v7).setCell ⟨w.heap.size, 8, none⟩ v8).setCell ⟨w.heap.size, 9, none⟩ v9) :=
    fun _ _ _ _ _ _ _ _ _ _ => ((((((((((Keep.refl [w.heap.size] w3).setCell (p := ⟨w.heap.size, 0, none⟩) (.inl (by simp)) _).setCell (p := ⟨w.heap.size, 1, none⟩) (.inl (by simp)) _).setCell (p := ⟨w.heap.size, 2, none⟩) (.inl (by simp)) _).setCell (p := ⟨w.heap.size, 3, none⟩) (.inl (by simp)) _).setCell (p := ⟨w.heap.size, 4, none⟩) (.inl (by simp)) _).setCell (p := ⟨w.heap.size, 5, none⟩) (.inl (by simp)) _).setCell (p := ⟨w.heap.size, 6, none⟩) (.inl (by simp)) _).setCell (p := ⟨w.heap.size, 7, none⟩) (.inl (by simp)) _).setCell (p := ⟨w.heap.size, 8, none⟩) (.inl (by simp)) _).setCell (p := ⟨w.heap.size, 9, none⟩) (.inl (by simp)) _
  have q1 : t ∉ [w.heap.size] := by simp; exact hT.1.ne_ hN (by decide)
  have q2 : mb ∉ [w.heap.size] := by simp; exact hT.2.ne_blk hN
  have q3 : ∀ s ∈ [w.heap.size], ∀ cs, ¬ Blk w3 s 57 cs := by
    intro s hs cs hb
    simp at hs
    subst hs
    exact hN.ne_ hb (by decide) rfl
  obtain ⟨W, hW⟩ : ∃ W, W = ((((((((((w3).setCell ⟨w.heap.size, 0, none⟩ (.int .i64 n)).setCell ⟨w.heap.size, 1, none⟩ (.slice A3 1 cap3)).setCell ⟨w.heap.size, 2, none⟩ (.int .u8 0)).setCell ⟨w.heap.size, 3, none⟩ (.int .u8 1)).setCell ⟨w.heap.size, 4, none⟩ (.int .u8 0)).setCell ⟨w.heap.size, 5, none⟩ (.int .u8 0)).setCell ⟨w.heap.size, 6, none⟩ (.int .u8 0)).setCell ⟨w.heap.size, 7, none⟩ (.int .u8 0)).setCell ⟨w.heap.size, 8, none⟩ (.int .u8 0)).setCell ⟨w.heap.size, 9, none⟩ (.int .u8 0) := ⟨_, rfl⟩
  have hS : Blk W w.heap.size 42 (rcells (.slice A3 1 cap3) ⟨n, [(idv 0, d0)], idv 0⟩) := by
    rw [hW]
    have h9 := ((((((((((hN).set_ 0 (.int .i64 n)).set_ 1 (.slice A3 1 cap3)).set_ 2 (.int .u8 0)).set_ 3 (.int .u8 1)).set_ 4 (.int .u8 0)).set_ 5 (.int .u8 0)).set_ 6 (.int .u8 0)).set_ 7 (.int .u8 0)).set_ 8 (.int .u8 0)).set_ 9 (.int .u8 0)
    simpa only [rz, rcells, List.setIfInBounds_toArray, List.set_cons_zero, List.set_cons_succ] using h9
  have hkW : Keep [w.heap.size] w3 W := by rw [hW]; exact hk ..
  rw [← hW]
  clear hW hk cN fN
  have cS := hS.cell
  exact bodyPost_ret (v := .tuple #[.pointer (some ⟨t, 0, none⟩), rtv (.slice A3 1 cap3) ⟨n, [(idv 0, d0)], idv 0⟩]) (by simp [results, Try.results17, go_sem, cS]) rfl
    ⟨n, t, mb, _, hn0, by omega, rfl, ht, hmb, hT.keep hkW q1 q2, hV.keepTy hkW q3, hK.andThen hkW (by simp)⟩
end Go.Proofs.Ytbkchniomhdieaa
