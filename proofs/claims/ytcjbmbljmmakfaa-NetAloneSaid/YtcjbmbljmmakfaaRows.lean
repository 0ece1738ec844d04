/-
  No cell of these rows narrows 'for every input' (looked for: loops, veiled, ifaces, maps, wideKeys, modest, calm, conditions, laid).
  DERIVED. THE GIVEN ROWS OF THIS SEAT. 8 by the template 'for every input the law returns true; each argument reads behind the call as it read before'; 0 by the template 'total and deterministic' (their statements: YtcjbmbljmmakfaaTotals.lean).
  GIVEN WITH THE SEED: the statements are not yours to turn. If you find one false, say at which input.
  Laid BY PROGRAM, IN A SANDBOX (cutbox-rows.mjs): the forced cells as the released guide's own fill.sh prints them over the translation a510911c78f9c25e… (all of the seat's roots in one cut). By AI agents, Wed Nov 11 2026. No macro, syntax, notation, axiom, sorry.
-/
import Derived.Test.YtcjbmbljmmakfaaChecked
import GoSem.Claim
import GoSem.ClaimJoined
import GoSem.ClaimMapViews
import Derived.JoinedTies
import Derived.KernelRfl
namespace Go.Proofs.Ytcjbmbljmmakfaa
/- THE CELL 'sum', in the pinned program and in every row, IS THE sha256 OF THE DUMP (.gsa) THAT YtcjbmbljmmakfaaProg.lean LOADS. Nothing in Lean hashes anything: it is a label: what it is worth is what the hold of that sum in a sandbox is worth. -/
noncomputable def Try.pinned : Pinned := { name := "ytcjbmbljmmakfaa", sum := "a510911c78f9c25ebcd4c9a7630344daac6016c5d20ec78f89d0bd5146cedff5", checked := Try.checked }
namespace Rows
def none {H : Type} : Left H := { results := [], args := [] }

/-- 'baizelaw43.NetOnce': WHATEVER THE INPUT: true; the input reads as it did. -/
def netOnceSpec : ChangeSpec := { name := "netOnce", fn := fun _ => fun
  | [d] => { results := [.lit (.bool true)], args := [d] }
  | _ => none }
def netOnceRow : OpenClaim := { program := "ytcjbmbljmmakfaa", sum := "a510911c78f9c25ebcd4c9a7630344daac6016c5d20ec78f89d0bd5146cedff5", func := "baize/baizelaw43.NetOnce", spec := "netOnce", unfollowed := true, recurses := true, apart := false }
def NetOnceSaid : Prop := netOnceRow.holds Try.pinned (OpenSpec.ofChange netOnceSpec)

/-- ITS FALSE NEIGHBOUR: 'it returns false'. Refute it at one input. -/
def netOnceWrong : ChangeSpec := { name := "netOnce", fn := fun _ => fun
  | [d] => { results := [.lit (.bool false)], args := [d] }
  | _ => none }
def NetOnceWrongFalsely : Prop := netOnceRow.holds Try.pinned (OpenSpec.ofChange netOnceWrong)

/-- 'baizelaw43.NetApart': WHATEVER THE INPUT: true; the input reads as it did. -/
def netApartSpec : ChangeSpec := { name := "netApart", fn := fun _ => fun
  | [d1, d2] => { results := [.lit (.bool true)], args := [d1, d2] }
  | _ => none }
def netApartRow : OpenClaim := { program := "ytcjbmbljmmakfaa", sum := "a510911c78f9c25ebcd4c9a7630344daac6016c5d20ec78f89d0bd5146cedff5", func := "baize/baizelaw43.NetApart", spec := "netApart", unfollowed := true, recurses := true, apart := false }
def NetApartSaid : Prop := netApartRow.holds Try.pinned (OpenSpec.ofChange netApartSpec)

/-- ITS FALSE NEIGHBOUR: 'it returns false'. Refute it at one input. -/
def netApartWrong : ChangeSpec := { name := "netApart", fn := fun _ => fun
  | [d1, d2] => { results := [.lit (.bool false)], args := [d1, d2] }
  | _ => none }
def NetApartWrongFalsely : Prop := netApartRow.holds Try.pinned (OpenSpec.ofChange netApartWrong)

/-- 'baizelaw43.NetRoom': WHATEVER THE INPUT: true; the input reads as it did. -/
def netRoomSpec : ChangeSpec := { name := "netRoom", fn := fun _ => fun
  | [d1, d2] => { results := [.lit (.bool true)], args := [d1, d2] }
  | _ => none }
def netRoomRow : OpenClaim := { program := "ytcjbmbljmmakfaa", sum := "a510911c78f9c25ebcd4c9a7630344daac6016c5d20ec78f89d0bd5146cedff5", func := "baize/baizelaw43.NetRoom", spec := "netRoom", unfollowed := true, recurses := true, apart := false }
def NetRoomSaid : Prop := netRoomRow.holds Try.pinned (OpenSpec.ofChange netRoomSpec)

/-- ITS FALSE NEIGHBOUR: 'it returns false'. Refute it at one input. -/
def netRoomWrong : ChangeSpec := { name := "netRoom", fn := fun _ => fun
  | [d1, d2] => { results := [.lit (.bool false)], args := [d1, d2] }
  | _ => none }
def NetRoomWrongFalsely : Prop := netRoomRow.holds Try.pinned (OpenSpec.ofChange netRoomWrong)

/-- 'baizelaw43.NetActs': WHATEVER THE INPUT: true; the input reads as it did. -/
def netActsSpec : ChangeSpec := { name := "netActs", fn := fun _ => fun
  | [d1, d2] => { results := [.lit (.bool true)], args := [d1, d2] }
  | _ => none }
def netActsRow : OpenClaim := { program := "ytcjbmbljmmakfaa", sum := "a510911c78f9c25ebcd4c9a7630344daac6016c5d20ec78f89d0bd5146cedff5", func := "baize/baizelaw43.NetActs", spec := "netActs", unfollowed := true, recurses := true, apart := false }
def NetActsSaid : Prop := netActsRow.holds Try.pinned (OpenSpec.ofChange netActsSpec)

/-- ITS FALSE NEIGHBOUR: 'it returns false'. Refute it at one input. -/
def netActsWrong : ChangeSpec := { name := "netActs", fn := fun _ => fun
  | [d1, d2] => { results := [.lit (.bool false)], args := [d1, d2] }
  | _ => none }
def NetActsWrongFalsely : Prop := netActsRow.holds Try.pinned (OpenSpec.ofChange netActsWrong)

/-- 'baizelaw43.NetCuts': WHATEVER THE INPUT: true; the input reads as it did. -/
def netCutsSpec : ChangeSpec := { name := "netCuts", fn := fun _ => fun
  | [d1, d2, d3] => { results := [.lit (.bool true)], args := [d1, d2, d3] }
  | _ => none }
def netCutsRow : OpenClaim := { program := "ytcjbmbljmmakfaa", sum := "a510911c78f9c25ebcd4c9a7630344daac6016c5d20ec78f89d0bd5146cedff5", func := "baize/baizelaw43.NetCuts", spec := "netCuts", unfollowed := true, recurses := true, apart := false }
def NetCutsSaid : Prop := netCutsRow.holds Try.pinned (OpenSpec.ofChange netCutsSpec)

/-- ITS FALSE NEIGHBOUR: 'it returns false'. Refute it at one input. -/
def netCutsWrong : ChangeSpec := { name := "netCuts", fn := fun _ => fun
  | [d1, d2, d3] => { results := [.lit (.bool false)], args := [d1, d2, d3] }
  | _ => none }
def NetCutsWrongFalsely : Prop := netCutsRow.holds Try.pinned (OpenSpec.ofChange netCutsWrong)

/-- 'baizelaw43.NetAlone': WHATEVER THE INPUT: true; the input reads as it did. -/
def netAloneSpec : ChangeSpec := { name := "netAlone", fn := fun _ => fun
  | [d1, d2, d3] => { results := [.lit (.bool true)], args := [d1, d2, d3] }
  | _ => none }
def netAloneRow : OpenClaim := { program := "ytcjbmbljmmakfaa", sum := "a510911c78f9c25ebcd4c9a7630344daac6016c5d20ec78f89d0bd5146cedff5", func := "baize/baizelaw43.NetAlone", spec := "netAlone", unfollowed := true, recurses := true, apart := false }
def NetAloneSaid : Prop := netAloneRow.holds Try.pinned (OpenSpec.ofChange netAloneSpec)

/-- ITS FALSE NEIGHBOUR: 'it returns false'. Refute it at one input. -/
def netAloneWrong : ChangeSpec := { name := "netAlone", fn := fun _ => fun
  | [d1, d2, d3] => { results := [.lit (.bool false)], args := [d1, d2, d3] }
  | _ => none }
def NetAloneWrongFalsely : Prop := netAloneRow.holds Try.pinned (OpenSpec.ofChange netAloneWrong)

/-- 'baizelaw43.NetClone': WHATEVER THE INPUT: true; the input reads as it did. -/
def netCloneSpec : ChangeSpec := { name := "netClone", fn := fun _ => fun
  | [d1, d2, d3] => { results := [.lit (.bool true)], args := [d1, d2, d3] }
  | _ => none }
def netCloneRow : OpenClaim := { program := "ytcjbmbljmmakfaa", sum := "a510911c78f9c25ebcd4c9a7630344daac6016c5d20ec78f89d0bd5146cedff5", func := "baize/baizelaw43.NetClone", spec := "netClone", inPlace := ["maps.clone"], unfollowed := true, recurses := true, apart := false }
def NetCloneSaid : Prop := netCloneRow.holds Try.pinned (OpenSpec.ofChange netCloneSpec)

/-- ITS FALSE NEIGHBOUR: 'it returns false'. Refute it at one input. -/
def netCloneWrong : ChangeSpec := { name := "netClone", fn := fun _ => fun
  | [d1, d2, d3] => { results := [.lit (.bool false)], args := [d1, d2, d3] }
  | _ => none }
def NetCloneWrongFalsely : Prop := netCloneRow.holds Try.pinned (OpenSpec.ofChange netCloneWrong)

/-- 'baizelaw43.NetNil': WHATEVER THE INPUT: true; the input reads as it did. -/
def netNilSpec : ChangeSpec := { name := "netNil", fn := fun _ => fun
  | [d1, d2, d3] => { results := [.lit (.bool true)], args := [d1, d2, d3] }
  | _ => none }
def netNilRow : OpenClaim := { program := "ytcjbmbljmmakfaa", sum := "a510911c78f9c25ebcd4c9a7630344daac6016c5d20ec78f89d0bd5146cedff5", func := "baize/baizelaw43.NetNil", spec := "netNil", inPlace := ["maps.clone"], unfollowed := true, recurses := true, apart := false }
def NetNilSaid : Prop := netNilRow.holds Try.pinned (OpenSpec.ofChange netNilSpec)

/-- ITS FALSE NEIGHBOUR: 'it returns false'. Refute it at one input. -/
def netNilWrong : ChangeSpec := { name := "netNil", fn := fun _ => fun
  | [d1, d2, d3] => { results := [.lit (.bool false)], args := [d1, d2, d3] }
  | _ => none }
def NetNilWrongFalsely : Prop := netNilRow.holds Try.pinned (OpenSpec.ofChange netNilWrong)

/- THE SECOND FORM. 'bulk': how many values and letters a reading holds, each counted each time it is reached (what is shared counts as often as it is met; a slice's spare places count too). A statement '..UptoSaid' is the law's where the arguments, and the package variables that the reading takes, are together of bulk at most 1048576: NARROWER than '..Said'. Prove '..Said' where nothing that the law and all that it calls make is longer than what came in: it says more and counts as full. Else prove '..UptoSaid'. A law counts once. -/
mutual
def uptoBulk {H : Type} : DataW H → Nat
  | .lit (.string bytes) => bytes.length + 1
  | .lit _ => 1
  | .nil => 1
  | .ptr d => uptoBulk d + 1
  | .slice elems spare => uptoBulkAll elems + uptoBulkAll spare + 1
  | .agg parts => uptoBulkAll parts + 1
  | .iface _ d => uptoBulk d + 1
  | .map entries => uptoBulkEntries entries + 1
  | .held _ => 1
def uptoBulkAll {H : Type} : List (DataW H) → Nat
  | [] => 0
  | d :: r => uptoBulk d + uptoBulkAll r
def uptoBulkEntries {H : Type} : List (Lit × DataW H) → Nat
  | [] => 0
  | x :: r => uptoBulkEntry x + uptoBulkEntries r
def uptoBulkEntry {H : Type} : Lit × DataW H → Nat
  | (.string bytes, d) => bytes.length + uptoBulk d + 1
  | (_, d) => uptoBulk d + 1
 end
def uptoSmall : (H : Type) → List (DataW H) → Bool := fun _ ds => decide (uptoBulkAll ds ≤ 1048576)
def OpenSpec.upto (s : _root_.Go.ChangeSpec) : _root_.Go.OpenSpec := { _root_.Go.OpenSpec.ofChange s with cond := some uptoSmall }

/-- 'baizelaw43.NetOnce', WHERE WHAT IT READS IS OF BULK AT MOST 1048576: true; the input reads as it did. -/
def netOnceUptoRow : OpenClaim := { program := "ytcjbmbljmmakfaa", sum := "a510911c78f9c25ebcd4c9a7630344daac6016c5d20ec78f89d0bd5146cedff5", func := "baize/baizelaw43.NetOnce", spec := "netOnce", unfollowed := true, recurses := true, apart := false, narrowed := true }
def NetOnceUptoSaid : Prop := netOnceUptoRow.holds Try.pinned (OpenSpec.upto netOnceSpec)

/-- 'baizelaw43.NetApart', WHERE WHAT IT READS IS OF BULK AT MOST 1048576: true; the input reads as it did. -/
def netApartUptoRow : OpenClaim := { program := "ytcjbmbljmmakfaa", sum := "a510911c78f9c25ebcd4c9a7630344daac6016c5d20ec78f89d0bd5146cedff5", func := "baize/baizelaw43.NetApart", spec := "netApart", unfollowed := true, recurses := true, apart := false, narrowed := true }
def NetApartUptoSaid : Prop := netApartUptoRow.holds Try.pinned (OpenSpec.upto netApartSpec)

/-- 'baizelaw43.NetRoom', WHERE WHAT IT READS IS OF BULK AT MOST 1048576: true; the input reads as it did. -/
def netRoomUptoRow : OpenClaim := { program := "ytcjbmbljmmakfaa", sum := "a510911c78f9c25ebcd4c9a7630344daac6016c5d20ec78f89d0bd5146cedff5", func := "baize/baizelaw43.NetRoom", spec := "netRoom", unfollowed := true, recurses := true, apart := false, narrowed := true }
def NetRoomUptoSaid : Prop := netRoomUptoRow.holds Try.pinned (OpenSpec.upto netRoomSpec)

/-- 'baizelaw43.NetActs', WHERE WHAT IT READS IS OF BULK AT MOST 1048576: true; the input reads as it did. -/
def netActsUptoRow : OpenClaim := { program := "ytcjbmbljmmakfaa", sum := "a510911c78f9c25ebcd4c9a7630344daac6016c5d20ec78f89d0bd5146cedff5", func := "baize/baizelaw43.NetActs", spec := "netActs", unfollowed := true, recurses := true, apart := false, narrowed := true }
def NetActsUptoSaid : Prop := netActsUptoRow.holds Try.pinned (OpenSpec.upto netActsSpec)

/-- 'baizelaw43.NetCuts', WHERE WHAT IT READS IS OF BULK AT MOST 1048576: true; the input reads as it did. -/
def netCutsUptoRow : OpenClaim := { program := "ytcjbmbljmmakfaa", sum := "a510911c78f9c25ebcd4c9a7630344daac6016c5d20ec78f89d0bd5146cedff5", func := "baize/baizelaw43.NetCuts", spec := "netCuts", unfollowed := true, recurses := true, apart := false, narrowed := true }
def NetCutsUptoSaid : Prop := netCutsUptoRow.holds Try.pinned (OpenSpec.upto netCutsSpec)

/-- 'baizelaw43.NetAlone', WHERE WHAT IT READS IS OF BULK AT MOST 1048576: true; the input reads as it did. -/
def netAloneUptoRow : OpenClaim := { program := "ytcjbmbljmmakfaa", sum := "a510911c78f9c25ebcd4c9a7630344daac6016c5d20ec78f89d0bd5146cedff5", func := "baize/baizelaw43.NetAlone", spec := "netAlone", unfollowed := true, recurses := true, apart := false, narrowed := true }
def NetAloneUptoSaid : Prop := netAloneUptoRow.holds Try.pinned (OpenSpec.upto netAloneSpec)

/-- 'baizelaw43.NetClone', WHERE WHAT IT READS IS OF BULK AT MOST 1048576: true; the input reads as it did. -/
def netCloneUptoRow : OpenClaim := { program := "ytcjbmbljmmakfaa", sum := "a510911c78f9c25ebcd4c9a7630344daac6016c5d20ec78f89d0bd5146cedff5", func := "baize/baizelaw43.NetClone", spec := "netClone", inPlace := ["maps.clone"], unfollowed := true, recurses := true, apart := false, narrowed := true }
def NetCloneUptoSaid : Prop := netCloneUptoRow.holds Try.pinned (OpenSpec.upto netCloneSpec)

/-- 'baizelaw43.NetNil', WHERE WHAT IT READS IS OF BULK AT MOST 1048576: true; the input reads as it did. -/
def netNilUptoRow : OpenClaim := { program := "ytcjbmbljmmakfaa", sum := "a510911c78f9c25ebcd4c9a7630344daac6016c5d20ec78f89d0bd5146cedff5", func := "baize/baizelaw43.NetNil", spec := "netNil", inPlace := ["maps.clone"], unfollowed := true, recurses := true, apart := false, narrowed := true }
def NetNilUptoSaid : Prop := netNilUptoRow.holds Try.pinned (OpenSpec.upto netNilSpec)

end Rows
end Go.Proofs.Ytcjbmbljmmakfaa
