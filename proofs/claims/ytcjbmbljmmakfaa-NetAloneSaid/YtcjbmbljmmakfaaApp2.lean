/- append of one element: the block of what comes is the old one, or new. -/
import Derived.Test.YtcjbmbljmmakfaaApp
namespace Go.Bz
open Go.RowKit
section
variable {α : Type}
variable {w w' : World} {base : Nat} {ty : TypeId} {k : Nat} {enc : α → Array Value} {v : Value} {l : List α}
theorem run_append1_new {P : Program} {t : TypeId} {bytes : Nat} {z : Value} (A : AppT P t ty k bytes z) (hown : Own w base ty k enc v l) {gx ty' cx : Nat} {y : α} (hb : Blk w gx ty' (enc y)) (hk : (enc y).size = k)
    (h1 : ∀ u ∈ (enc y).toList, u.oneCell' = true) (hlen : (l.length + 1) * bytes ≤ 140737488355328) (hmax : l.length + 1 ≤ maxLen) (hbase : base ≤ w.heap.size) (tyy : TypeId) :
    ∃ v' w', (Builtin.append_ #[t, t] tyy #[v, .slice (some ⟨gx, 0, none⟩) 1 cx]).run P w = .ok v' w' ∧ Own w' base ty k enc v' (l ++ [y]) ∧ Keep (ownB v) w w' ∧ ∀ g ∈ ownB v', g ∈ ownB v ∨ w.heap.size ≤ g := by
  obtain ⟨v', w', hrun, h2, h3⟩ := run_append1 A hown (cx := cx) hb hk h1 hlen hmax hbase tyy
  refine ⟨v', w', hrun, h2, h3, ?_⟩
  obtain ⟨i, hi, hz0, hz1, hz2⟩ := info_parts A.info
  have hnews : ∀ j u, (enc y).toList[j]? = some u → w.cell? ((⟨gx, 0, none⟩ : Addr).add j) = some u := by
    intro j u hj
    have : w.cell? ⟨gx, j, none⟩ = some u := by rw [hb.cell j]; simpa using hj
    by_cases h0 : j = 0
    · subst h0; simpa [Addr.add] using this
    · simpa [Addr.add, h0] using this
  have hsmall : l.length + 1 ≤ 9223372036854775807 := by simp only [maxLen] at hmax; omega
  rcases id hown.2 with ⟨rfl, h0⟩ | ⟨g, cap, cur, rfl, hbg, hg, hnc, hcm, hcs, htake⟩
  · have hr := run_append_nil (P := P) w t tyy ty i z A.sl hi hz0 ⟨gx, 0, none⟩ 1 cx (enc y).toList (by simp [hk, hz1]) hnews (by omega) (by omega) (by rw [hz2]; rw [h0] at hlen; omega)
    rw [hrun] at hr
    injection hr with e _
    subst e
    intro q hq
    simp [ownB, Value.ownBlock] at hq
    subst hq; exact .inr (Nat.le_refl _)
  · by_cases hroom : l.length + 1 ≤ cap
    · obtain ⟨w2, hr, _⟩ := run_append_fits (P := P) w base t tyy ty i k A.sl hi hz1 g l.length cap _ hown ⟨gx, 0, none⟩ 1 cx (enc y).toList (by simp [hk]) hnews h1 hroom
      rw [hrun] at hr
      injection hr with e _
      subst e
      intro q hq
      exact .inl hq
    · have holds : ∀ j u, (l.flatMap fun x => (enc x).toList)[j]? = some u → w.cell? ((⟨g, 0, none⟩ : Addr).add j) = some u := World.ownsRow.cells hown (g := g) rfl
      have hr := run_append_grow (P := P) w t tyy ty i z A.sl hi hz0 ⟨g, 0, none⟩ l.length cap _ (by rw [hz1]; exact hown.1) holds ⟨gx, 0, none⟩ 1 cx (enc y).toList (by simp [hk, hz1]) hnews (by omega) (by omega) (growslice_fits (by omega) (by rw [hz2]; exact hlen))
      rw [hrun] at hr
      injection hr with e _
      subst e
      intro q hq
      simp [ownB, Value.ownBlock] at hq
      subst hq; exact .inr (Nat.le_refl _)
theorem oper_append1_new {P : Program} {o : Oper} {a : Act} {K : Act → World → Prop} {Q : Exit → Act → World → Prop} (s x : Operand) (t : TypeId)
    (ho : o.op = .call { callee := .builtin .append, args := #[s, x], argTypes := #[t, t] }) {bytes : Nat} {z : Value} (A : AppT P t ty k bytes z)
    (hs : a.eval s = v) (hown : Own w base ty k enc v l) {gx ty' cx : Nat} {y : α} (hx : a.eval x = .slice (some ⟨gx, 0, none⟩) 1 cx) (hb : Blk w gx ty' (enc y)) (hk : (enc y).size = k)
    (h1 : ∀ u ∈ (enc y).toList, u.oneCell' = true) (hlen : (l.length + 1) * bytes ≤ 140737488355328) (hmax : l.length + 1 ≤ maxLen) (hbase : base ≤ w.heap.size)
    (h : ∀ v' w', Own w' base ty k enc v' (l ++ [y]) → Keep (ownB v) w w' → (∀ g ∈ ownB v', g ∈ ownB v ∨ w.heap.size ≤ g) → K (a.put o.dst v') w') : Oper.wp P o a w K Q := by
  obtain ⟨v', w', hrun, h2, h3, h4⟩ := run_append1_new A hown (cx := cx) hb hk h1 hlen hmax hbase o.type
  unfold Oper.wp execOp
  simp only [ho, resolve, invoke, builtin, Sem.run_bind, Sem.run_pure, Result.andThen_ok, List.map_toArray, List.map_cons, List.map_nil, hs, hx, hrun]
  exact h v' w' h2 h3 h4
end
end Go.Bz
