/- Arguments opened: expressions and statements that come in are trees. -/
import Derived.Test.YtjhcfecpmohgnaaTree
import Derived.Test.YtjhcfecpmohgnaaOpen
namespace Go.Proofs.Ytjhcfecpmohgnaa
open Go.RowKit Go.Bz Go.ChangeShapes Go.WideShapes Go.Deep

theorem i64_wf {n : Int} (h : (Lit.int .i64 n).wf = true) : I64 n := by
  simp only [Lit.wf, Bool.and_eq_true, decide_eq_true_eq] at h
  have h1 : IntKind.i64.min = -9223372036854775808 := by decide
  have h2 : IntKind.i64.max = 9223372036854775807 := by decide
  unfold I64
  omega
section
variable {H : Type} {enc : TypeId × Value → H} {P : Program} {w : World} {base : Nat} {spare : Nat → Bool} {held : Bool}
/-- A slice opened; its elements are read with less fuel. -/
theorem slice_fuel {t e : TypeId} {fuel : Nat} {cs : List Value} {x : DataW H × List MemPlace} (ht : P.underlying t = some (.slice e)) (h : DataW.trod enc P w base spare held fuel t cs = some x) :
    cs = [.slice none 0 0] ∨ ∃ a len cap n, n < fuel ∧ cs = [.slice (some a) len cap] ∧ len ≤ cap ∧ cap ≤ maxLen ∧
      ∀ i, i < len → ∃ cs' y, cs'.length = P.cellsOf e ∧ (∀ j, j < P.cellsOf e → w.cell? (a.add (i * P.cellsOf e + j)) = cs'[j]?) ∧ DataW.trod enc P w base spare held n e cs' = some y := by
  rcases DataW.trod_slice ht h with h0 | ⟨a, len, cap, elems, rest, n, hf, rfl, _, hb, hl, hm, hlen, hel, _, _⟩
  · exact .inl h0.1
  · refine .inr ⟨a, len, cap, n, by omega, rfl, hl, hm, fun i hi => ?_⟩
    have key := hel i hi
    rw [List.getElem?_eq_getElem (by omega)] at key
    obtain ⟨cs', h1, h2⟩ := Option.bind_eq_some_iff.1 key
    obtain ⟨_, hcl, hat⟩ := World.cells?_some h1
    refine ⟨cs', _, hcl, fun j hj => ?_, h2⟩
    rw [← hat j hj, ← Go.Deep.add_add]
theorem struct_fuel {t : TypeId} {fs : Array Field} {fuel : Nat} {cs : List Value} {x : DataW H × List MemPlace} (ht : P.underlying t = some (.struct fs)) (h : DataW.trod enc P w base spare held fuel t cs = some x) :
    cs.length = P.cellsOf t ∧ ∃ n, n < fuel ∧ ∀ (j : Nat) (f : Field), fs[j]? = some f → ∃ y, DataW.trod enc P w base spare held n f.type ((cs.drop f.offset).take (P.cellsOf f.type)) = some y := by
  obtain ⟨xs, n, hf, _, hl, hs, hat⟩ := DataW.trod_struct ht h
  refine ⟨hl, n, by omega, fun j f hj => ?_⟩
  have := hat j f hj
  have hj' : j < xs.length := by rw [hs]; exact (Array.getElem?_eq_some_iff.1 hj).1
  rw [List.getElem?_eq_getElem hj'] at this
  exact ⟨_, this⟩
theorem exl_bound {W : World} : ∀ (l : List {r : ERaw // ∃ h, ExL W h r.L r.ds}), ∃ h, ∀ x ∈ l.map (·.1), ExL W h x.L x.ds
  | [] => ⟨0, by simp⟩
  | ⟨r, k, hr⟩ :: l => by
    obtain ⟨h, hh⟩ := exl_bound l
    refine ⟨max k h, fun x hx => ?_⟩
    rw [List.map_cons, List.mem_cons] at hx
    rcases hx with rfl | hx
    · exact hr.mono (Nat.le_max_left _ _)
    · exact (hh x hx).mono (Nat.le_max_right _ _)
theorem stl_bound {W : World} : ∀ (l : List {r : SRaw // ∃ h, (I64 r.lo ∧ I64 r.hi) ∧ (∃ k, ExL W k r.E r.es) ∧ StL W h r.L r.ls ∧ StL W h r.X r.xs}), ∃ h, ∀ x ∈ l.map (·.1), (I64 x.lo ∧ I64 x.hi) ∧ (∃ k, ExL W k x.E x.es) ∧ StL W h x.L x.ls ∧ StL W h x.X x.xs
  | [] => ⟨0, by simp⟩
  | ⟨r, k, h1, h2, h3, h4⟩ :: l => by
    obtain ⟨h, hh⟩ := stl_bound l
    refine ⟨max k h, fun x hx => ?_⟩
    rw [List.map_cons, List.mem_cons] at hx
    rcases hx with rfl | hx
    · exact ⟨h1, h2, h3.mono (Nat.le_max_left _ _), h4.mono (Nat.le_max_left _ _)⟩
    · obtain ⟨g1, g2, g3, g4⟩ := hh x hx
      exact ⟨g1, g2, g3.mono (Nat.le_max_right _ _), g4.mono (Nat.le_max_right _ _)⟩
/-- Readings of each element make a list that is only read. -/
theorem rdv_of {α : Type} {Q : α → Prop} {cenc : α → Array Value} {k : Nat} {W : World} {a : Addr} {len cap : Nat} (hk : 0 < k) (hs : ∀ x, (cenc x).size = k) (h1 : len ≤ cap) (h2 : cap ≤ maxLen)
    (hel : ∀ i, i < len → ∃ x, Q x ∧ ∀ j, j < k → W.cell? (a.add (i * k + j)) = (cenc x)[j]?) : ∃ l : List {x : α // Q x}, RdV W k cenc (.slice (some a) len cap) (l.map (·.1)) := by
  obtain ⟨l, hl, hR⟩ := Rd.of (α := {x : α // Q x}) (enc := fun x => cenc x.1) (w := W) (a := a) (len := len) hk (fun x => hs x.1) (fun i hi => by
    obtain ⟨x, hq, hc⟩ := hel i hi
    exact ⟨⟨x, hq⟩, hc⟩)
  refine ⟨l, ?_⟩
  subst hl
  have hR' : Rd W k cenc (some a) (l.map (·.1)) := by
    rcases hR with rfl | ⟨ab, ao, h1, h2, h3⟩
    · exact .inl rfl
    · refine .inr ⟨ab, ao, h1, h2, fun i x hi j hj => ?_⟩
      rw [List.getElem?_map] at hi
      cases hli : l[i]? with
      | none => rw [hli] at hi; cases hi
      | some y => rw [hli] at hi; cases hi; exact h3 i y hli j hj
  have := hR'.rdv (cap := cap) (by rw [List.length_map]; exact h1) h2
  rwa [List.length_map] at this
end
section
variable {H : Type} {enc : TypeId × Value → H} {W : World} {base : Nat} {spare : Nat → Bool} {held : Bool}
theorem e1_of {fuel n : Nat} (hn : n ≤ fuel) (ih : ∀ m, m < fuel → ∀ (cs : List Value) (y : DataW H × List MemPlace), DataW.trod enc Try.prog W base spare held m 26 cs = some y → ∃ V h us, cs = [V] ∧ ExL W h V us)
    (cs : List Value) (y : DataW H × List MemPlace) (hy : DataW.trod enc Try.prog W base spare held n 35 cs = some y) : ∃ r : ERaw, (∃ h, ExL W h r.L r.ds) ∧ cs = (eenc r).toList := by
  obtain ⟨hl, m, hm, hat⟩ := struct_fuel Try.underlying35 hy
  have e35 : Try.prog.cellsOf 35 = 4 := by kernel_rfl
  have e3 : Try.prog.cellsOf 3 = 1 := by kernel_rfl
  have e9 : Try.prog.cellsOf 9 = 1 := by kernel_rfl
  have e26 : Try.prog.cellsOf 26 = 1 := by kernel_rfl
  rw [e35] at hl
  match cs, hl with
  | [c0, c1, c2, c3], _ =>
    obtain ⟨y0, h0⟩ := hat 0 _ rfl
    obtain ⟨y1, h1⟩ := hat 1 _ rfl
    obtain ⟨y2, h2⟩ := hat 2 _ rfl
    obtain ⟨y3, h3⟩ := hat 3 _ rfl
    obtain ⟨n0, g0, _, _⟩ := DataW.trod_int Try.underlying3 h0
    obtain ⟨n1, g1, _, _⟩ := DataW.trod_int Try.underlying3 h1
    obtain ⟨s2, g2, _, _⟩ := DataW.trod_string Try.underlying9 h2
    obtain ⟨V, h, us, g3, hx⟩ := ih m (by omega) _ _ h3
    simp [e3, e9, e26] at g0 g1 g2 g3
    exact ⟨⟨n0, n1, s2, V, us⟩, ⟨h, hx⟩, by simp [g0, g1, g2, g3]⟩
theorem exl_of (fuel : Nat) : ∀ (cs : List Value) (y : DataW H × List MemPlace), DataW.trod enc Try.prog W base spare held fuel 26 cs = some y → ∃ V h us, cs = [V] ∧ ExL W h V us := by
  induction fuel using Nat.strongRecOn with
  | ind fuel ih =>
    intro cs y hy
    have e35 : Try.prog.cellsOf 35 = 4 := by kernel_rfl
    rcases slice_fuel Try.underlying26 hy with rfl | ⟨a, len, cap, n, hn, rfl, hlc, hcm, hel⟩
    · exact ⟨_, 1, [], rfl, ExL.nil W 0⟩
    · obtain ⟨l, hR⟩ := rdv_of (α := ERaw) (Q := fun r => ∃ h, ExL W h r.L r.ds) (cenc := eenc) (k := 4) (W := W) (by decide) eenc_sz hlc hcm (fun i hi => by
        obtain ⟨cs', y', hc1, hc2, hc3⟩ := hel i hi
        obtain ⟨r, hr, rfl⟩ := e1_of (Nat.le_of_lt hn) ih cs' y' hc3
        refine ⟨r, hr, fun j hj => ?_⟩
        rw [e35] at hc2
        rw [hc2 j hj]
        simp)
      obtain ⟨h, hh⟩ := exl_bound l
      exact ⟨_, h + 1, _, rfl, _, hR, hh, rfl⟩
theorem s1_of {fuel n : Nat} (hn : n ≤ fuel) (ih : ∀ m, m < fuel → ∀ (cs : List Value) (y : DataW H × List MemPlace), DataW.trod enc Try.prog W base spare held m 25 cs = some y → ∃ V h us, cs = [V] ∧ StL W h V us)
    (cs : List Value) (y : DataW H × List MemPlace) (hy : DataW.trod enc Try.prog W base spare held n 28 cs = some y) :
    ∃ r : SRaw, (∃ h, (I64 r.lo ∧ I64 r.hi) ∧ (∃ k, ExL W k r.E r.es) ∧ StL W h r.L r.ls ∧ StL W h r.X r.xs) ∧ cs = (senc r).toList := by
  obtain ⟨hl, m, hm, hat⟩ := struct_fuel Try.underlying28 hy
  have e28 : Try.prog.cellsOf 28 = 7 := by kernel_rfl
  have e3 : Try.prog.cellsOf 3 = 1 := by kernel_rfl
  have e9 : Try.prog.cellsOf 9 = 1 := by kernel_rfl
  have e26 : Try.prog.cellsOf 26 = 1 := by kernel_rfl
  have e25 : Try.prog.cellsOf 25 = 1 := by kernel_rfl
  rw [e28] at hl
  match cs, hl with
  | [c0, c1, c2, c3, c4, c5, c6], _ =>
    obtain ⟨y0, h0⟩ := hat 0 _ rfl
    obtain ⟨y1, h1⟩ := hat 1 _ rfl
    obtain ⟨y2, h2⟩ := hat 2 _ rfl
    obtain ⟨y3, h3⟩ := hat 3 _ rfl
    obtain ⟨y4, h4⟩ := hat 4 _ rfl
    obtain ⟨y5, h5⟩ := hat 5 _ rfl
    obtain ⟨y6, h6⟩ := hat 6 _ rfl
    obtain ⟨n0, g0, _, _⟩ := DataW.trod_int Try.underlying3 h0
    obtain ⟨s1, g1, _, _⟩ := DataW.trod_string Try.underlying9 h1
    obtain ⟨E, k, es, g2, hE⟩ := exl_of _ _ _ h2
    obtain ⟨n3, g3, _, w3⟩ := DataW.trod_int Try.underlying3 h3
    obtain ⟨n4, g4, _, w4⟩ := DataW.trod_int Try.underlying3 h4
    obtain ⟨L, a, ls, g5, hL⟩ := ih m (by omega) _ _ h5
    obtain ⟨X, b, xs, g6, hX⟩ := ih m (by omega) _ _ h6
    simp [e3, e9, e26, e25] at g0 g1 g2 g3 g4 g5 g6
    exact ⟨⟨n0, s1, E, n3, n4, L, X, es, ls, xs⟩, ⟨max a b, ⟨i64_wf w3, i64_wf w4⟩, ⟨k, hE⟩, hL.mono (Nat.le_max_left _ _), hX.mono (Nat.le_max_right _ _)⟩, by simp [g0, g1, g2, g3, g4, g5, g6]⟩
theorem stl_of (fuel : Nat) : ∀ (cs : List Value) (y : DataW H × List MemPlace), DataW.trod enc Try.prog W base spare held fuel 25 cs = some y → ∃ V h us, cs = [V] ∧ StL W h V us := by
  induction fuel using Nat.strongRecOn with
  | ind fuel ih =>
    intro cs y hy
    have e28 : Try.prog.cellsOf 28 = 7 := by kernel_rfl
    rcases slice_fuel Try.underlying25 hy with rfl | ⟨a, len, cap, n, hn, rfl, hlc, hcm, hel⟩
    · exact ⟨_, 1, [], rfl, StL.nil W 0⟩
    · obtain ⟨l, hR⟩ := rdv_of (α := SRaw) (Q := fun r => ∃ h, (I64 r.lo ∧ I64 r.hi) ∧ (∃ k, ExL W k r.E r.es) ∧ StL W h r.L r.ls ∧ StL W h r.X r.xs) (cenc := senc) (k := 7) (W := W) (by decide) senc_sz hlc hcm (fun i hi => by
        obtain ⟨cs', y', hc1, hc2, hc3⟩ := hel i hi
        obtain ⟨r, hr, rfl⟩ := s1_of (Nat.le_of_lt hn) ih cs' y' hc3
        refine ⟨r, hr, fun j hj => ?_⟩
        rw [e28] at hc2
        rw [hc2 j hj]
        simp)
      obtain ⟨h, hh⟩ := stl_bound l
      exact ⟨_, h + 1, _, rfl, _, hR, hh, rfl⟩
/-- Arguments. -/
theorem stl_arg {v : Value} (h : Reads enc Try.prog W base spare held 25 v.cells.toList) {r : Reach} {b : Nat} (hv : Value.okWide Try.prog W r b 25 v) : ∃ h us, StL W h v us := by
  obtain ⟨n, y, hy⟩ := h
  obtain ⟨V, h, us, hc, hx⟩ := stl_of n _ _ hy
  obtain ⟨a, len, cap, rfl⟩ := okWide_slice Try.underlying25 hv
  simp [Value.cells] at hc
  subst hc
  exact ⟨h, us, hx⟩
theorem expr_arg {v : Value} (h : Reads enc Try.prog W base spare held 35 v.cells.toList) {r : Reach} {b : Nat} (hv : Value.okWide Try.prog W r b 35 v) : ∃ (r : ERaw) (h : Nat), v = .agg (eenc r) ∧ ExL W h r.L r.ds := by
  obtain ⟨n, y, hy⟩ := h
  obtain ⟨cs, rfl, hz⟩ := okWide_struct Try.underlying35 hv
  obtain ⟨q, ⟨k, hx⟩, hc⟩ := e1_of (Nat.le_refl n) (fun m _ => exl_of m) _ _ hy
  simp only [Value.cells] at hc
  rw [Array.toList_inj] at hc
  exact ⟨q, k, by rw [hc], hx⟩
theorem stmt_arg {v : Value} (h : Reads enc Try.prog W base spare held 28 v.cells.toList) {r : Reach} {b : Nat} (hv : Value.okWide Try.prog W r b 28 v) :
    ∃ (r : SRaw) (h : Nat), v = .agg (senc r) ∧ (I64 r.lo ∧ I64 r.hi) ∧ (∃ k, ExL W k r.E r.es) ∧ StL W h r.L r.ls ∧ StL W h r.X r.xs := by
  obtain ⟨n, y, hy⟩ := h
  obtain ⟨cs, rfl, hz⟩ := okWide_struct Try.underlying28 hv
  obtain ⟨q, ⟨k, hx⟩, hc⟩ := s1_of (Nat.le_refl n) (fun m _ => stl_of m) _ _ hy
  simp only [Value.cells] at hc
  rw [Array.toList_inj] at hc
  exact ⟨q, k, by rw [hc], hx⟩
end
end Go.Proofs.Ytjhcfecpmohgnaa
