/-
  NARROWER THAN 'FOR EVERY INPUT', by the rows' own cells (each row's printed sentence says how): BoundMore: loops · BoundParts: loops · BoundIf: loops · BoundDeep: loops.
  DERIVED. THE GIVEN ROWS OF THIS SEAT. 5 by the template 'for every input the law returns true; each argument reads behind the call as it read before'; 0 by the template 'total and deterministic' (their statements: YtjhcfecpmohgnaaTotals.lean).
  GIVEN WITH THE SEED: the statements are not yours to turn. If you find one false, say at which input.
  Laid BY PROGRAM, IN A SANDBOX (cutbox-rows.mjs): the forced cells as the released guide's own fill.sh prints them over the translation b685d9d01908a5b6… (all of the seat's roots in one cut). By AI agents, Wed Nov 11 2026. No macro, syntax, notation, axiom, sorry.
-/
import Derived.Test.YtjhcfecpmohgnaaChecked
import GoSem.Claim
import GoSem.ClaimJoined
import GoSem.ClaimMapViews
import Derived.JoinedTies
import Derived.KernelRfl
namespace Go.Proofs.Ytjhcfecpmohgnaa
/- THE CELL 'sum', in the pinned program and in every row, IS THE sha256 OF THE DUMP (.gsa) THAT YtjhcfecpmohgnaaProg.lean LOADS. Nothing in Lean hashes anything: it is a label: what it is worth is what the hold of that sum in a sandbox is worth. -/
noncomputable def Try.pinned : Pinned := { name := "ytjhcfecpmohgnaa", sum := "b685d9d01908a5b6f51c239b3dd7082e0bf16957c4cef2a9146948e99297ca11", checked := Try.checked }
namespace Rows
def none {H : Type} : Left H := { results := [], args := [] }

/-- 'baizelaw13.BoundRounds': WHATEVER THE INPUT: true; the input reads as it did. -/
def boundRoundsSpec : ChangeSpec := { name := "boundRounds", fn := fun _ => fun
  | [d] => { results := [.lit (.bool true)], args := [d] }
  | _ => none }
def boundRoundsRow : OpenClaim := { program := "ytjhcfecpmohgnaa", sum := "b685d9d01908a5b6f51c239b3dd7082e0bf16957c4cef2a9146948e99297ca11", func := "baize/baizelaw13.BoundRounds", spec := "boundRounds", unfollowed := true, recurses := true, apart := false }
def BoundRoundsSaid : Prop := boundRoundsRow.holds Try.pinned (OpenSpec.ofChange boundRoundsSpec)

/-- ITS FALSE NEIGHBOUR: 'it returns false'. Refute it at one input. -/
def boundRoundsWrong : ChangeSpec := { name := "boundRounds", fn := fun _ => fun
  | [d] => { results := [.lit (.bool false)], args := [d] }
  | _ => none }
def BoundRoundsWrongFalsely : Prop := boundRoundsRow.holds Try.pinned (OpenSpec.ofChange boundRoundsWrong)

/-- 'baizelaw13.BoundMore': WHATEVER THE INPUT: true; the input reads as it did. -/
def boundMoreSpec : ChangeSpec := { name := "boundMore", fn := fun _ => fun
  | [d1, d2, d3] => { results := [.lit (.bool true)], args := [d1, d2, d3] }
  | _ => none }
def boundMoreRow : OpenClaim := { program := "ytjhcfecpmohgnaa", sum := "b685d9d01908a5b6f51c239b3dd7082e0bf16957c4cef2a9146948e99297ca11", func := "baize/baizelaw13.BoundMore", spec := "boundMore", unfollowed := true, recurses := true, loops := true, apart := false }
def BoundMoreSaid : Prop := boundMoreRow.holds Try.pinned (OpenSpec.ofChange boundMoreSpec)

/-- ITS FALSE NEIGHBOUR: 'it returns false'. Refute it at one input. -/
def boundMoreWrong : ChangeSpec := { name := "boundMore", fn := fun _ => fun
  | [d1, d2, d3] => { results := [.lit (.bool false)], args := [d1, d2, d3] }
  | _ => none }
def BoundMoreWrongFalsely : Prop := boundMoreRow.holds Try.pinned (OpenSpec.ofChange boundMoreWrong)

/-- 'baizelaw13.BoundParts': WHATEVER THE INPUT: true; the input reads as it did. -/
def boundPartsSpec : ChangeSpec := { name := "boundParts", fn := fun _ => fun
  | [d1, d2] => { results := [.lit (.bool true)], args := [d1, d2] }
  | _ => none }
def boundPartsRow : OpenClaim := { program := "ytjhcfecpmohgnaa", sum := "b685d9d01908a5b6f51c239b3dd7082e0bf16957c4cef2a9146948e99297ca11", func := "baize/baizelaw13.BoundParts", spec := "boundParts", unfollowed := true, recurses := true, loops := true, apart := false }
def BoundPartsSaid : Prop := boundPartsRow.holds Try.pinned (OpenSpec.ofChange boundPartsSpec)

/-- ITS FALSE NEIGHBOUR: 'it returns false'. Refute it at one input. -/
def boundPartsWrong : ChangeSpec := { name := "boundParts", fn := fun _ => fun
  | [d1, d2] => { results := [.lit (.bool false)], args := [d1, d2] }
  | _ => none }
def BoundPartsWrongFalsely : Prop := boundPartsRow.holds Try.pinned (OpenSpec.ofChange boundPartsWrong)

/-- 'baizelaw13.BoundIf': WHATEVER THE INPUT: true; the input reads as it did. -/
def boundIfSpec : ChangeSpec := { name := "boundIf", fn := fun _ => fun
  | [d1, d2, d3] => { results := [.lit (.bool true)], args := [d1, d2, d3] }
  | _ => none }
def boundIfRow : OpenClaim := { program := "ytjhcfecpmohgnaa", sum := "b685d9d01908a5b6f51c239b3dd7082e0bf16957c4cef2a9146948e99297ca11", func := "baize/baizelaw13.BoundIf", spec := "boundIf", unfollowed := true, recurses := true, loops := true, apart := false }
def BoundIfSaid : Prop := boundIfRow.holds Try.pinned (OpenSpec.ofChange boundIfSpec)

/-- ITS FALSE NEIGHBOUR: 'it returns false'. Refute it at one input. -/
def boundIfWrong : ChangeSpec := { name := "boundIf", fn := fun _ => fun
  | [d1, d2, d3] => { results := [.lit (.bool false)], args := [d1, d2, d3] }
  | _ => none }
def BoundIfWrongFalsely : Prop := boundIfRow.holds Try.pinned (OpenSpec.ofChange boundIfWrong)

/-- 'baizelaw13.BoundDeep': WHATEVER THE INPUT: true; the input reads as it did. -/
def boundDeepSpec : ChangeSpec := { name := "boundDeep", fn := fun _ => fun
  | [d1, d2] => { results := [.lit (.bool true)], args := [d1, d2] }
  | _ => none }
def boundDeepRow : OpenClaim := { program := "ytjhcfecpmohgnaa", sum := "b685d9d01908a5b6f51c239b3dd7082e0bf16957c4cef2a9146948e99297ca11", func := "baize/baizelaw13.BoundDeep", spec := "boundDeep", unfollowed := true, recurses := true, loops := true, apart := false }
def BoundDeepSaid : Prop := boundDeepRow.holds Try.pinned (OpenSpec.ofChange boundDeepSpec)

/-- ITS FALSE NEIGHBOUR: 'it returns false'. Refute it at one input. -/
def boundDeepWrong : ChangeSpec := { name := "boundDeep", fn := fun _ => fun
  | [d1, d2] => { results := [.lit (.bool false)], args := [d1, d2] }
  | _ => none }
def BoundDeepWrongFalsely : Prop := boundDeepRow.holds Try.pinned (OpenSpec.ofChange boundDeepWrong)

/- THE SECOND FORM. 'bulk': how many values and letters a reading holds, each counted each time it is reached (what is shared counts as often as it is met; a slice's spare places count too). A statement '..UptoSaid' is the law's where the arguments, and the package variables that the reading takes, are together of bulk at most 1048576: NARROWER than '..Said'. Prove '..Said' where nothing that the law and all that it calls make is longer than what came in: it says more and counts as full. Else prove '..UptoSaid'. A law counts once. -/
mutual
def uptoBulk {H : Type} : DataW H → Nat
  | .lit (.string bytes) => bytes.length + 1
  | .lit _ => 1
  | .nil => 1
  | .ptr d => uptoBulk d + 1
  | .slice elems spare => uptoBulkAll elems + uptoBulkAll spare + 1
  | .agg parts => uptoBulkAll parts + 1
  | .iface _ d => uptoBulk d + 1
  | .map entries => uptoBulkEntries entries + 1
  | .held _ => 1
def uptoBulkAll {H : Type} : List (DataW H) → Nat
  | [] => 0
  | d :: r => uptoBulk d + uptoBulkAll r
def uptoBulkEntries {H : Type} : List (Lit × DataW H) → Nat
  | [] => 0
  | x :: r => uptoBulkEntry x + uptoBulkEntries r
def uptoBulkEntry {H : Type} : Lit × DataW H → Nat
  | (.string bytes, d) => bytes.length + uptoBulk d + 1
  | (_, d) => uptoBulk d + 1
 end
def uptoSmall : (H : Type) → List (DataW H) → Bool := fun _ ds => decide (uptoBulkAll ds ≤ 1048576)
def OpenSpec.upto (s : _root_.Go.ChangeSpec) : _root_.Go.OpenSpec := { _root_.Go.OpenSpec.ofChange s with cond := some uptoSmall }

/-- 'baizelaw13.BoundRounds', WHERE WHAT IT READS IS OF BULK AT MOST 1048576: true; the input reads as it did. -/
def boundRoundsUptoRow : OpenClaim := { program := "ytjhcfecpmohgnaa", sum := "b685d9d01908a5b6f51c239b3dd7082e0bf16957c4cef2a9146948e99297ca11", func := "baize/baizelaw13.BoundRounds", spec := "boundRounds", unfollowed := true, recurses := true, apart := false, narrowed := true }
def BoundRoundsUptoSaid : Prop := boundRoundsUptoRow.holds Try.pinned (OpenSpec.upto boundRoundsSpec)

/-- 'baizelaw13.BoundMore', WHERE WHAT IT READS IS OF BULK AT MOST 1048576: true; the input reads as it did. -/
def boundMoreUptoRow : OpenClaim := { program := "ytjhcfecpmohgnaa", sum := "b685d9d01908a5b6f51c239b3dd7082e0bf16957c4cef2a9146948e99297ca11", func := "baize/baizelaw13.BoundMore", spec := "boundMore", unfollowed := true, recurses := true, loops := true, apart := false, narrowed := true }
def BoundMoreUptoSaid : Prop := boundMoreUptoRow.holds Try.pinned (OpenSpec.upto boundMoreSpec)

/-- 'baizelaw13.BoundParts', WHERE WHAT IT READS IS OF BULK AT MOST 1048576: true; the input reads as it did. -/
def boundPartsUptoRow : OpenClaim := { program := "ytjhcfecpmohgnaa", sum := "b685d9d01908a5b6f51c239b3dd7082e0bf16957c4cef2a9146948e99297ca11", func := "baize/baizelaw13.BoundParts", spec := "boundParts", unfollowed := true, recurses := true, loops := true, apart := false, narrowed := true }
def BoundPartsUptoSaid : Prop := boundPartsUptoRow.holds Try.pinned (OpenSpec.upto boundPartsSpec)

/-- 'baizelaw13.BoundIf', WHERE WHAT IT READS IS OF BULK AT MOST 1048576: true; the input reads as it did. -/
def boundIfUptoRow : OpenClaim := { program := "ytjhcfecpmohgnaa", sum := "b685d9d01908a5b6f51c239b3dd7082e0bf16957c4cef2a9146948e99297ca11", func := "baize/baizelaw13.BoundIf", spec := "boundIf", unfollowed := true, recurses := true, loops := true, apart := false, narrowed := true }
def BoundIfUptoSaid : Prop := boundIfUptoRow.holds Try.pinned (OpenSpec.upto boundIfSpec)

/-- 'baizelaw13.BoundDeep', WHERE WHAT IT READS IS OF BULK AT MOST 1048576: true; the input reads as it did. -/
def boundDeepUptoRow : OpenClaim := { program := "ytjhcfecpmohgnaa", sum := "b685d9d01908a5b6f51c239b3dd7082e0bf16957c4cef2a9146948e99297ca11", func := "baize/baizelaw13.BoundDeep", spec := "boundDeep", unfollowed := true, recurses := true, loops := true, apart := false, narrowed := true }
def BoundDeepUptoSaid : Prop := boundDeepUptoRow.holds Try.pinned (OpenSpec.upto boundDeepSpec)

end Rows
end Go.Proofs.Ytjhcfecpmohgnaa
