/- The plain law of steps: what expressions and statements cost; nothing of Go. -/
import Derived.Test.YtjhcfecpmohgnaaBase
namespace Go.Proofs.Ytjhcfecpmohgnaa
open Go.Bz

/-- No further than it is counted. -/
def top (n : Int) : Int := if 65537 < n then 65537 else n
def total (l : List Int) : Int := l.sum
/-- So many, and all of a list. -/
def tsum (n : Int) (l : List Int) : Int := top (n + total l)
def ecost (op : Int) (ds : List Int) : Int := if op = 0 ∨ op = 1 then 1 else if op = 2 then tsum 6 ds else tsum 2 ds
def roundsOf (lo hi : Int) : Int := if hi < lo then 0 else (if 65536 < hi - lo then 65536 else hi - lo) + 1
def bcost (ds : List Int) : Int := tsum 0 ds
def costs : List (Int × Int) := [(0, 3), (1, 6), (2, 3), (3, 3), (4, 2), (7, 2), (5, 4), (6, 3), (9, 3), (8, 8)]
def imax (a b : Int) : Int := if b > a then b else a
def innerOf (kind lo hi : Int) (ls xs : List Int) : Int :=
  if kind = 2 then imax (bcost ls) (bcost xs) else if kind = 3 then top (roundsOf lo hi * top (4 + bcost ls)) else 0
def scost (kind lo hi : Int) (es ls xs : List Int) : Int :=
  match mlook kind costs with
  | none => 1
  | some own => if kind = 4 ∨ kind = 7 ∨ kind = 5 then own else if kind = 3 then top (own + innerOf kind lo hi ls xs) else top (tsum own es + innerOf kind lo hi ls xs)
/-- Costs are from 1 on. -/
def Cs (l : List Int) : Prop := ∀ x ∈ l, 1 ≤ x ∧ x ≤ 65537
theorem total_nonneg {l : List Int} (h : Cs l) : 0 ≤ total l := by
  induction l with
  | nil => simp [total]
  | cons a r ih =>
    have h1 := ih (fun x hx => h x (List.mem_cons_of_mem _ hx))
    have h2 := h a (by simp)
    simp only [total, List.sum_cons] at h1 ⊢
    omega
theorem total_cons (a : Int) (l : List Int) : total (a :: l) = a + total l := by simp [total]
theorem total_append (a b : List Int) : total (a ++ b) = total a + total b := by simp [total]
theorem top_le (n : Int) : top n ≤ 65537 := by unfold top; split <;> omega
theorem top_ge {n k : Int} (h : k ≤ n) (hk : k ≤ 65537) : k ≤ top n := by unfold top; split <;> omega
theorem top_top (a b : Int) (hb : 0 ≤ b) : top (top a + b) = top (a + b) := by unfold top; split <;> split <;> omega
theorem top_of {n : Int} (h : n ≤ 65537) : top n = n := by unfold top; split <;> omega
theorem tsum_range {n : Int} {l : List Int} (hn : 0 ≤ n ∧ n ≤ 65537) (h : Cs l) : n ≤ tsum n l ∧ tsum n l ≤ 65537 := by
  have := total_nonneg h
  unfold tsum
  exact ⟨top_ge (by omega) hn.2, top_le _⟩
theorem ecost_range {op : Int} {ds : List Int} (h : Cs ds) : 1 ≤ ecost op ds ∧ ecost op ds ≤ 65537 := by
  unfold ecost
  split
  · decide
  split
  · have := tsum_range (n := 6) (by decide) h; omega
  · have := tsum_range (n := 2) (by decide) h; omega
theorem bcost_range {ds : List Int} (h : Cs ds) : 0 ≤ bcost ds ∧ bcost ds ≤ 65537 := tsum_range (by decide) h
theorem rounds_range (lo hi : Int) : 0 ≤ roundsOf lo hi ∧ roundsOf lo hi ≤ 65537 := by
  unfold roundsOf
  split
  · decide
  split <;> omega
theorem loop_range {lo hi : Int} {ls : List Int} (hl : Cs ls) : 4 ≤ top (4 + bcost ls) ∧ top (4 + bcost ls) ≤ 65537 ∧ 0 ≤ roundsOf lo hi * top (4 + bcost ls) ∧ roundsOf lo hi * top (4 + bcost ls) ≤ 4295098369 := by
  have h1 := bcost_range hl
  have h2 := rounds_range lo hi
  have h3 : 4 ≤ top (4 + bcost ls) := top_ge (by omega) (by decide)
  have h4 := top_le (4 + bcost ls)
  refine ⟨h3, h4, Int.mul_nonneg h2.1 (by omega), ?_⟩
  have := Int.mul_le_mul h2.2 h4 (by omega) (by decide)
  omega
theorem inner_range {kind lo hi : Int} {ls xs : List Int} (hl : Cs ls) (hx : Cs xs) : 0 ≤ innerOf kind lo hi ls xs ∧ innerOf kind lo hi ls xs ≤ 65537 := by
  have h1 := bcost_range hl
  have h2 := bcost_range hx
  have h3 := loop_range (lo := lo) (hi := hi) hl
  unfold innerOf
  split
  · unfold imax; split <;> omega
  split
  · exact ⟨top_ge h3.2.2.1 (by decide), top_le _⟩
  · decide
theorem look_costs {kind own : Int} (h : mlook kind costs = some own) : 2 ≤ own ∧ own ≤ 8 := by
  unfold costs at h
  simp only [mlook, mat] at h
  repeat' (split at h <;> try (simp at h; omega))
theorem scost_range {kind lo hi : Int} {es ls xs : List Int} (he : Cs es) (hl : Cs ls) (hx : Cs xs) : 1 ≤ scost kind lo hi es ls xs ∧ scost kind lo hi es ls xs ≤ 65537 := by
  have hi' := inner_range (kind := kind) (lo := lo) (hi := hi) hl hx
  unfold scost
  split
  · decide
  · rename_i own ho
    have h1 := look_costs ho
    split
    · omega
    split
    · exact ⟨top_ge (by omega) (by decide), top_le _⟩
    · have h2 := tsum_range (n := own) (by omega) he
      exact ⟨top_ge (by omega) (by decide), top_le _⟩
/-- One by one. -/
theorem tsum_snoc {n : Int} {l : List Int} {k : Nat} {c : Int} (hk : l[k]? = some c) (h : Cs l) : top (tsum n (l.take k) + c) = tsum n (l.take (k + 1)) := by
  have hc := h c (List.mem_of_getElem? hk)
  unfold tsum
  rw [top_top _ _ (by omega), List.take_add_one, hk, total_append]
  simp [total]
  congr 1
  omega
theorem tsum_full {n : Int} {l : List Int} (k : Nat) (h : Cs l) (hf : 65536 < tsum n (l.take k)) : tsum n (l.take k) = tsum n l := by
  have e : total l = total (l.take k) + total (l.drop k) := by rw [← total_append, List.take_append_drop]
  have h1 := total_nonneg (l := l.drop k) (fun x hx => h x (List.mem_of_mem_drop hx))
  unfold tsum top at *
  split at hf <;> split <;> split <;> omega
end Go.Proofs.Ytjhcfecpmohgnaa
