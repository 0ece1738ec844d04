/- Statements that come in, with how many there may be. -/
import Derived.Test.YtjhcfecpmohgnaaOpenT
import Derived.Test.YtjhcfecpmohgnaaSubs
import Derived.SizedLaws
namespace Go.Proofs.Ytjhcfecpmohgnaa
open Go.RowKit Go.Bz Go.ChangeShapes Go.WideShapes Go.Deep
section
variable {H : Type} {enc : TypeId × Value → H} {W : World} {base : Nat} {spare : Nat → Bool} {held : Bool}
theorem stl_sized {v : Value} {fuel : Nat} {d : DataW H} {p : List MemPlace} (hy : DataW.trod enc Try.prog W base spare held fuel 25 v.cells.toList = some (d, p)) {r : Reach} {b : Nat} (hv : Value.okWide Try.prog W r b 25 v)
    (hw : ∀ elems sp, d = .slice elems sp → (elems.length + sp.length) * Try.prog.bytesOf 28 ≤ reachBytes) :
    ∃ (h : Nat) (A : Option Addr) (us : List Int) (cap : Nat), v = .slice A us.length cap ∧ StL W h v us ∧ SomeOr v ∧ us.length * 112 ≤ 140737488351232 := by
  obtain ⟨h, us, hx⟩ := stl_arg ⟨_, _, hy⟩ hv
  obtain ⟨A, cap, rfl⟩ := hx.sl
  refine ⟨h, A, us, cap, rfl, hx, ?_, ?_⟩
  · rcases slice_fuel Try.underlying25 hy with h0 | ⟨a, len, c, n, _, h0, _⟩
    · simp [Value.cells] at h0
      exact .inl (by simp [h0])
    · simp [Value.cells] at h0
      exact .inr ⟨a, us.length, cap, by simp [h0]⟩
  · rcases DataW.trod_slice Try.underlying25 hy with h0 | ⟨a, len, c, elems, rest, n, _, hcs, hd, _, _, _, hlen, _⟩
    · have h0 := h0.1
      simp [Value.cells] at h0
      rw [h0.2.1]
      decide
    · simp [Value.cells] at hcs
      simp only [Prod.mk.injEq] at hd
      have := hw _ _ hd.1
      rw [show Try.prog.bytesOf 28 = 112 by kernel_rfl, List.length_map, List.length_map, hlen, ← hcs.2.1] at this
      have e : reachBytes = 140737488351232 := by decide
      omega
end
end Go.Proofs.Ytjhcfecpmohgnaa
