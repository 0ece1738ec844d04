/-
  No cell of these rows narrows 'for every input' (looked for: loops, veiled, ifaces, maps, wideKeys, modest, calm, conditions, laid).
  DERIVED. THE GIVEN ROWS OF THIS SEAT. 7 by the template 'for every input the law returns true; each argument reads behind the call as it read before'; 0 by the template 'total and deterministic' (their statements: YtbkchniomhdieaaTotals.lean).
  GIVEN WITH THE SEED: the statements are not yours to turn. If you find one false, say at which input.
  Laid BY PROGRAM, IN A SANDBOX (cutbox-rows.mjs): the forced cells as the released guide's own fill.sh prints them over the translation ae6a7e73b5479f0e… (all of the seat's roots in one cut). By AI agents, Wed Nov 11 2026. No macro, syntax, notation, axiom, sorry.
-/
import Derived.Test.YtbkchniomhdieaaChecked
import GoSem.Claim
import GoSem.ClaimJoined
import GoSem.ClaimMapViews
import Derived.JoinedTies
import Derived.KernelRfl
namespace Go.Proofs.Ytbkchniomhdieaa
/- THE CELL 'sum', in the pinned program and in every row, IS THE sha256 OF THE DUMP (.gsa) THAT YtbkchniomhdieaaProg.lean LOADS. Nothing in Lean hashes anything: it is a label: what it is worth is what the hold of that sum in a sandbox is worth. -/
noncomputable def Try.pinned : Pinned := { name := "ytbkchniomhdieaa", sum := "ae6a7e73b5479f0e58b35a9f8bc68493293664f48043dacc5b3ad4e87626a269", checked := Try.checked }
namespace Rows
def none {H : Type} : Left H := { results := [], args := [] }

/-- 'baizelaw28.ForkShallow': WHATEVER THE INPUT: true; the input reads as it did. -/
def forkShallowSpec : ChangeSpec := { name := "forkShallow", fn := fun _ => fun
  | [d1, d2] => { results := [.lit (.bool true)], args := [d1, d2] }
  | _ => none }
def forkShallowRow : OpenClaim := { program := "ytbkchniomhdieaa", sum := "ae6a7e73b5479f0e58b35a9f8bc68493293664f48043dacc5b3ad4e87626a269", func := "baize/baizelaw28.ForkShallow", spec := "forkShallow", plainKeys := false, apart := false }
def ForkShallowSaid : Prop := forkShallowRow.holds Try.pinned (OpenSpec.ofChange forkShallowSpec)

/-- ITS FALSE NEIGHBOUR: 'it returns false'. Refute it at one input. -/
def forkShallowWrong : ChangeSpec := { name := "forkShallow", fn := fun _ => fun
  | [d1, d2] => { results := [.lit (.bool false)], args := [d1, d2] }
  | _ => none }
def ForkShallowWrongFalsely : Prop := forkShallowRow.holds Try.pinned (OpenSpec.ofChange forkShallowWrong)

/-- 'baizelaw28.ForkLines': WHATEVER THE INPUT: true; the input reads as it did. -/
def forkLinesSpec : ChangeSpec := { name := "forkLines", fn := fun _ => fun
  | [d1, d2] => { results := [.lit (.bool true)], args := [d1, d2] }
  | _ => none }
def forkLinesRow : OpenClaim := { program := "ytbkchniomhdieaa", sum := "ae6a7e73b5479f0e58b35a9f8bc68493293664f48043dacc5b3ad4e87626a269", func := "baize/baizelaw28.ForkLines", spec := "forkLines", plainKeys := false, apart := false }
def ForkLinesSaid : Prop := forkLinesRow.holds Try.pinned (OpenSpec.ofChange forkLinesSpec)

/-- ITS FALSE NEIGHBOUR: 'it returns false'. Refute it at one input. -/
def forkLinesWrong : ChangeSpec := { name := "forkLines", fn := fun _ => fun
  | [d1, d2] => { results := [.lit (.bool false)], args := [d1, d2] }
  | _ => none }
def ForkLinesWrongFalsely : Prop := forkLinesRow.holds Try.pinned (OpenSpec.ofChange forkLinesWrong)

/-- 'baizelaw28.ForkFinal': WHATEVER THE INPUT: true; the input reads as it did. -/
def forkFinalSpec : ChangeSpec := { name := "forkFinal", fn := fun _ => fun
  | [d1, d2] => { results := [.lit (.bool true)], args := [d1, d2] }
  | _ => none }
def forkFinalRow : OpenClaim := { program := "ytbkchniomhdieaa", sum := "ae6a7e73b5479f0e58b35a9f8bc68493293664f48043dacc5b3ad4e87626a269", func := "baize/baizelaw28.ForkFinal", spec := "forkFinal", plainKeys := false, apart := false }
def ForkFinalSaid : Prop := forkFinalRow.holds Try.pinned (OpenSpec.ofChange forkFinalSpec)

/-- ITS FALSE NEIGHBOUR: 'it returns false'. Refute it at one input. -/
def forkFinalWrong : ChangeSpec := { name := "forkFinal", fn := fun _ => fun
  | [d1, d2] => { results := [.lit (.bool false)], args := [d1, d2] }
  | _ => none }
def ForkFinalWrongFalsely : Prop := forkFinalRow.holds Try.pinned (OpenSpec.ofChange forkFinalWrong)

/-- 'baizelaw28.ForkLooks': WHATEVER THE INPUT: true; the input reads as it did. -/
def forkLooksSpec : ChangeSpec := { name := "forkLooks", fn := fun _ => fun
  | [d1, d2, d3] => { results := [.lit (.bool true)], args := [d1, d2, d3] }
  | _ => none }
def forkLooksRow : OpenClaim := { program := "ytbkchniomhdieaa", sum := "ae6a7e73b5479f0e58b35a9f8bc68493293664f48043dacc5b3ad4e87626a269", func := "baize/baizelaw28.ForkLooks", spec := "forkLooks", recurses := true, plainKeys := false, apart := false }
def ForkLooksSaid : Prop := forkLooksRow.holds Try.pinned (OpenSpec.ofChange forkLooksSpec)

/-- ITS FALSE NEIGHBOUR: 'it returns false'. Refute it at one input. -/
def forkLooksWrong : ChangeSpec := { name := "forkLooks", fn := fun _ => fun
  | [d1, d2, d3] => { results := [.lit (.bool false)], args := [d1, d2, d3] }
  | _ => none }
def ForkLooksWrongFalsely : Prop := forkLooksRow.holds Try.pinned (OpenSpec.ofChange forkLooksWrong)

/-- 'baizelaw28.ForkRefused': WHATEVER THE INPUT: true; the input reads as it did. -/
def forkRefusedSpec : ChangeSpec := { name := "forkRefused", fn := fun _ => fun
  | [d1, d2, d3] => { results := [.lit (.bool true)], args := [d1, d2, d3] }
  | _ => none }
def forkRefusedRow : OpenClaim := { program := "ytbkchniomhdieaa", sum := "ae6a7e73b5479f0e58b35a9f8bc68493293664f48043dacc5b3ad4e87626a269", func := "baize/baizelaw28.ForkRefused", spec := "forkRefused", inPlace := ["maps.clone"], plainKeys := false, apart := false }
def ForkRefusedSaid : Prop := forkRefusedRow.holds Try.pinned (OpenSpec.ofChange forkRefusedSpec)

/-- ITS FALSE NEIGHBOUR: 'it returns false'. Refute it at one input. -/
def forkRefusedWrong : ChangeSpec := { name := "forkRefused", fn := fun _ => fun
  | [d1, d2, d3] => { results := [.lit (.bool false)], args := [d1, d2, d3] }
  | _ => none }
def ForkRefusedWrongFalsely : Prop := forkRefusedRow.holds Try.pinned (OpenSpec.ofChange forkRefusedWrong)

/-- 'baizelaw28.ForkClones': WHATEVER THE INPUT: true; the input reads as it did. -/
def forkClonesSpec : ChangeSpec := { name := "forkClones", fn := fun _ => fun
  | [d1, d2, d3] => { results := [.lit (.bool true)], args := [d1, d2, d3] }
  | _ => none }
def forkClonesRow : OpenClaim := { program := "ytbkchniomhdieaa", sum := "ae6a7e73b5479f0e58b35a9f8bc68493293664f48043dacc5b3ad4e87626a269", func := "baize/baizelaw28.ForkClones", spec := "forkClones", inPlace := ["maps.clone"], recurses := true, plainKeys := false, apart := false }
def ForkClonesSaid : Prop := forkClonesRow.holds Try.pinned (OpenSpec.ofChange forkClonesSpec)

/-- ITS FALSE NEIGHBOUR: 'it returns false'. Refute it at one input. -/
def forkClonesWrong : ChangeSpec := { name := "forkClones", fn := fun _ => fun
  | [d1, d2, d3] => { results := [.lit (.bool false)], args := [d1, d2, d3] }
  | _ => none }
def ForkClonesWrongFalsely : Prop := forkClonesRow.holds Try.pinned (OpenSpec.ofChange forkClonesWrong)

/-- 'baizelaw28.ForkNews': WHATEVER THE INPUT: true; the input reads as it did. -/
def forkNewsSpec : ChangeSpec := { name := "forkNews", fn := fun _ => fun
  | [d1, d2] => { results := [.lit (.bool true)], args := [d1, d2] }
  | _ => none }
def forkNewsRow : OpenClaim := { program := "ytbkchniomhdieaa", sum := "ae6a7e73b5479f0e58b35a9f8bc68493293664f48043dacc5b3ad4e87626a269", func := "baize/baizelaw28.ForkNews", spec := "forkNews", inPlace := ["maps.clone"], plainKeys := false, apart := false }
def ForkNewsSaid : Prop := forkNewsRow.holds Try.pinned (OpenSpec.ofChange forkNewsSpec)

/-- ITS FALSE NEIGHBOUR: 'it returns false'. Refute it at one input. -/
def forkNewsWrong : ChangeSpec := { name := "forkNews", fn := fun _ => fun
  | [d1, d2] => { results := [.lit (.bool false)], args := [d1, d2] }
  | _ => none }
def ForkNewsWrongFalsely : Prop := forkNewsRow.holds Try.pinned (OpenSpec.ofChange forkNewsWrong)

/- THE SECOND FORM. 'bulk': how many values and letters a reading holds, each counted each time it is reached (what is shared counts as often as it is met; a slice's spare places count too). A statement '..UptoSaid' is the law's where the arguments, and the package variables that the reading takes, are together of bulk at most 1048576: NARROWER than '..Said'. Prove '..Said' where nothing that the law and all that it calls make is longer than what came in: it says more and counts as full. Else prove '..UptoSaid'. A law counts once. -/
mutual
def uptoBulk {H : Type} : DataW H → Nat
  | .lit (.string bytes) => bytes.length + 1
  | .lit _ => 1
  | .nil => 1
  | .ptr d => uptoBulk d + 1
  | .slice elems spare => uptoBulkAll elems + uptoBulkAll spare + 1
  | .agg parts => uptoBulkAll parts + 1
  | .iface _ d => uptoBulk d + 1
  | .map entries => uptoBulkEntries entries + 1
  | .held _ => 1
def uptoBulkAll {H : Type} : List (DataW H) → Nat
  | [] => 0
  | d :: r => uptoBulk d + uptoBulkAll r
def uptoBulkEntries {H : Type} : List (Lit × DataW H) → Nat
  | [] => 0
  | x :: r => uptoBulkEntry x + uptoBulkEntries r
def uptoBulkEntry {H : Type} : Lit × DataW H → Nat
  | (.string bytes, d) => bytes.length + uptoBulk d + 1
  | (_, d) => uptoBulk d + 1
 end
def uptoSmall : (H : Type) → List (DataW H) → Bool := fun _ ds => decide (uptoBulkAll ds ≤ 1048576)
def OpenSpec.upto (s : _root_.Go.ChangeSpec) : _root_.Go.OpenSpec := { _root_.Go.OpenSpec.ofChange s with cond := some uptoSmall }

/-- 'baizelaw28.ForkShallow', WHERE WHAT IT READS IS OF BULK AT MOST 1048576: true; the input reads as it did. -/
def forkShallowUptoRow : OpenClaim := { program := "ytbkchniomhdieaa", sum := "ae6a7e73b5479f0e58b35a9f8bc68493293664f48043dacc5b3ad4e87626a269", func := "baize/baizelaw28.ForkShallow", spec := "forkShallow", plainKeys := false, apart := false, narrowed := true }
def ForkShallowUptoSaid : Prop := forkShallowUptoRow.holds Try.pinned (OpenSpec.upto forkShallowSpec)

/-- 'baizelaw28.ForkLines', WHERE WHAT IT READS IS OF BULK AT MOST 1048576: true; the input reads as it did. -/
def forkLinesUptoRow : OpenClaim := { program := "ytbkchniomhdieaa", sum := "ae6a7e73b5479f0e58b35a9f8bc68493293664f48043dacc5b3ad4e87626a269", func := "baize/baizelaw28.ForkLines", spec := "forkLines", plainKeys := false, apart := false, narrowed := true }
def ForkLinesUptoSaid : Prop := forkLinesUptoRow.holds Try.pinned (OpenSpec.upto forkLinesSpec)

/-- 'baizelaw28.ForkFinal', WHERE WHAT IT READS IS OF BULK AT MOST 1048576: true; the input reads as it did. -/
def forkFinalUptoRow : OpenClaim := { program := "ytbkchniomhdieaa", sum := "ae6a7e73b5479f0e58b35a9f8bc68493293664f48043dacc5b3ad4e87626a269", func := "baize/baizelaw28.ForkFinal", spec := "forkFinal", plainKeys := false, apart := false, narrowed := true }
def ForkFinalUptoSaid : Prop := forkFinalUptoRow.holds Try.pinned (OpenSpec.upto forkFinalSpec)

/-- 'baizelaw28.ForkLooks', WHERE WHAT IT READS IS OF BULK AT MOST 1048576: true; the input reads as it did. -/
def forkLooksUptoRow : OpenClaim := { program := "ytbkchniomhdieaa", sum := "ae6a7e73b5479f0e58b35a9f8bc68493293664f48043dacc5b3ad4e87626a269", func := "baize/baizelaw28.ForkLooks", spec := "forkLooks", recurses := true, plainKeys := false, apart := false, narrowed := true }
def ForkLooksUptoSaid : Prop := forkLooksUptoRow.holds Try.pinned (OpenSpec.upto forkLooksSpec)

/-- 'baizelaw28.ForkRefused', WHERE WHAT IT READS IS OF BULK AT MOST 1048576: true; the input reads as it did. -/
def forkRefusedUptoRow : OpenClaim := { program := "ytbkchniomhdieaa", sum := "ae6a7e73b5479f0e58b35a9f8bc68493293664f48043dacc5b3ad4e87626a269", func := "baize/baizelaw28.ForkRefused", spec := "forkRefused", inPlace := ["maps.clone"], plainKeys := false, apart := false, narrowed := true }
def ForkRefusedUptoSaid : Prop := forkRefusedUptoRow.holds Try.pinned (OpenSpec.upto forkRefusedSpec)

/-- 'baizelaw28.ForkClones', WHERE WHAT IT READS IS OF BULK AT MOST 1048576: true; the input reads as it did. -/
def forkClonesUptoRow : OpenClaim := { program := "ytbkchniomhdieaa", sum := "ae6a7e73b5479f0e58b35a9f8bc68493293664f48043dacc5b3ad4e87626a269", func := "baize/baizelaw28.ForkClones", spec := "forkClones", inPlace := ["maps.clone"], recurses := true, plainKeys := false, apart := false, narrowed := true }
def ForkClonesUptoSaid : Prop := forkClonesUptoRow.holds Try.pinned (OpenSpec.upto forkClonesSpec)

/-- 'baizelaw28.ForkNews', WHERE WHAT IT READS IS OF BULK AT MOST 1048576: true; the input reads as it did. -/
def forkNewsUptoRow : OpenClaim := { program := "ytbkchniomhdieaa", sum := "ae6a7e73b5479f0e58b35a9f8bc68493293664f48043dacc5b3ad4e87626a269", func := "baize/baizelaw28.ForkNews", spec := "forkNews", inPlace := ["maps.clone"], plainKeys := false, apart := false, narrowed := true }
def ForkNewsUptoSaid : Prop := forkNewsUptoRow.holds Try.pinned (OpenSpec.upto forkNewsSpec)

end Rows
end Go.Proofs.Ytbkchniomhdieaa
