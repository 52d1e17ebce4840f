/-
  No cell of these rows narrows 'for every input' (looked for: loops, veiled, ifaces, maps, wideKeys, modest, calm, conditions, laid).
  DERIVED. THE GIVEN ROWS OF THIS SEAT. 5 by the template 'for every input the law returns true; each argument reads behind the call as it read before'; 0 by the template 'total and deterministic' (their statements: YtiffpjamngklhaaGreatTotals.lean).
  GIVEN WITH THE SEED: the statements are not yours to turn. If you find one false, say at which input.
  Laid BY PROGRAM, IN A SANDBOX (cutbox-rows.mjs): the forced cells as the released guide's own fill.sh prints them over the translation 4b6110bef22cbe8a… (all of the seat's roots in one cut). By AI agents, Wed Nov 11 2026. No macro, syntax, notation, axiom, sorry.
-/
import Derived.Test.YtiffpjamngklhaaGreatChecked
import GoSem.Claim
import GoSem.ClaimJoined
import GoSem.ClaimMapViews
import Derived.JoinedTies
import Derived.KernelRfl
namespace Go.Proofs.YtiffpjamngklhaaGreat
/- THE CELL 'sum', in the pinned program and in every row, IS THE sha256 OF THE DUMP (.gsa) THAT YtiffpjamngklhaaGreatProg.lean LOADS. Nothing in Lean hashes anything: it is a label: what it is worth is what the hold of that sum in a sandbox is worth. -/
noncomputable def Tryz.pinned : Pinned := { name := "ytiffpjamngklhaagreat", sum := "4b6110bef22cbe8ae91d55b0af08c14bc006fae04cf72c748f66e9ece2959811", checked := Tryz.checked }
namespace Rows
def none {H : Type} : Left H := { results := [], args := [] }

/-- 'signalbrokertop.TopFaults': WHATEVER THE INPUT: true; the input reads as it did. -/
def topFaultsSpec : ChangeSpec := { name := "topFaults", fn := fun _ => fun
  | [d1, d2, d3] => { results := [.lit (.bool true)], args := [d1, d2, d3] }
  | _ => none }
def topFaultsRow : OpenClaim := { program := "ytiffpjamngklhaagreat", sum := "4b6110bef22cbe8ae91d55b0af08c14bc006fae04cf72c748f66e9ece2959811", func := "signalbroker/signalbrokertop.TopFaults", spec := "topFaults", inPlace := ["slices.overlaps[signalbroker/api.Request]"], unfollowed := true, recurses := true, apart := false }
def TopFaultsSaid : Prop := topFaultsRow.holds Tryz.pinned (OpenSpec.ofChange topFaultsSpec)

/-- ITS FALSE NEIGHBOUR: 'it returns false'. Refute it at one input. -/
def topFaultsWrong : ChangeSpec := { name := "topFaults", fn := fun _ => fun
  | [d1, d2, d3] => { results := [.lit (.bool false)], args := [d1, d2, d3] }
  | _ => none }
def TopFaultsWrongFalsely : Prop := topFaultsRow.holds Tryz.pinned (OpenSpec.ofChange topFaultsWrong)

/-- 'signalbrokertop.TopRefused': WHATEVER THE INPUT: true; the input reads as it did. -/
def topRefusedSpec : ChangeSpec := { name := "topRefused", fn := fun _ => fun
  | [d1, d2, d3] => { results := [.lit (.bool true)], args := [d1, d2, d3] }
  | _ => none }
def topRefusedRow : OpenClaim := { program := "ytiffpjamngklhaagreat", sum := "4b6110bef22cbe8ae91d55b0af08c14bc006fae04cf72c748f66e9ece2959811", func := "signalbroker/signalbrokertop.TopRefused", spec := "topRefused", inPlace := ["slices.overlaps[signalbroker/api.Request]"], unfollowed := true, recurses := true, apart := false }
def TopRefusedSaid : Prop := topRefusedRow.holds Tryz.pinned (OpenSpec.ofChange topRefusedSpec)

/-- ITS FALSE NEIGHBOUR: 'it returns false'. Refute it at one input. -/
def topRefusedWrong : ChangeSpec := { name := "topRefused", fn := fun _ => fun
  | [d1, d2, d3] => { results := [.lit (.bool false)], args := [d1, d2, d3] }
  | _ => none }
def TopRefusedWrongFalsely : Prop := topRefusedRow.holds Tryz.pinned (OpenSpec.ofChange topRefusedWrong)

/-- 'signalbrokertop.TopRevokes': WHATEVER THE INPUT: true; the input reads as it did. -/
def topRevokesSpec : ChangeSpec := { name := "topRevokes", fn := fun _ => fun
  | [d1, d2, d3] => { results := [.lit (.bool true)], args := [d1, d2, d3] }
  | _ => none }
def topRevokesRow : OpenClaim := { program := "ytiffpjamngklhaagreat", sum := "4b6110bef22cbe8ae91d55b0af08c14bc006fae04cf72c748f66e9ece2959811", func := "signalbroker/signalbrokertop.TopRevokes", spec := "topRevokes", inPlace := ["slices.overlaps[signalbroker/api.Request]"], unfollowed := true, recurses := true, apart := false }
def TopRevokesSaid : Prop := topRevokesRow.holds Tryz.pinned (OpenSpec.ofChange topRevokesSpec)

/-- ITS FALSE NEIGHBOUR: 'it returns false'. Refute it at one input. -/
def topRevokesWrong : ChangeSpec := { name := "topRevokes", fn := fun _ => fun
  | [d1, d2, d3] => { results := [.lit (.bool false)], args := [d1, d2, d3] }
  | _ => none }
def TopRevokesWrongFalsely : Prop := topRevokesRow.holds Tryz.pinned (OpenSpec.ofChange topRevokesWrong)

/-- 'signalbrokertop.TopLatch': WHATEVER THE INPUT: true; the input reads as it did. -/
def topLatchSpec : ChangeSpec := { name := "topLatch", fn := fun _ => fun
  | [d1, d2] => { results := [.lit (.bool true)], args := [d1, d2] }
  | _ => none }
def topLatchRow : OpenClaim := { program := "ytiffpjamngklhaagreat", sum := "4b6110bef22cbe8ae91d55b0af08c14bc006fae04cf72c748f66e9ece2959811", func := "signalbroker/signalbrokertop.TopLatch", spec := "topLatch", inPlace := ["slices.overlaps[signalbroker/api.Request]"], unfollowed := true, recurses := true, apart := false }
def TopLatchSaid : Prop := topLatchRow.holds Tryz.pinned (OpenSpec.ofChange topLatchSpec)

/-- ITS FALSE NEIGHBOUR: 'it returns false'. Refute it at one input. -/
def topLatchWrong : ChangeSpec := { name := "topLatch", fn := fun _ => fun
  | [d1, d2] => { results := [.lit (.bool false)], args := [d1, d2] }
  | _ => none }
def TopLatchWrongFalsely : Prop := topLatchRow.holds Tryz.pinned (OpenSpec.ofChange topLatchWrong)

/-- 'signalbrokertop.TopHonest': WHATEVER THE INPUT: true; the input reads as it did. -/
def topHonestSpec : ChangeSpec := { name := "topHonest", fn := fun _ => fun
  | [d1, d2] => { results := [.lit (.bool true)], args := [d1, d2] }
  | _ => none }
def topHonestRow : OpenClaim := { program := "ytiffpjamngklhaagreat", sum := "4b6110bef22cbe8ae91d55b0af08c14bc006fae04cf72c748f66e9ece2959811", func := "signalbroker/signalbrokertop.TopHonest", spec := "topHonest", inPlace := ["slices.overlaps[signalbroker/api.Request]"], unfollowed := true, recurses := true, apart := false }
def TopHonestSaid : Prop := topHonestRow.holds Tryz.pinned (OpenSpec.ofChange topHonestSpec)

/-- ITS FALSE NEIGHBOUR: 'it returns false'. Refute it at one input. -/
def topHonestWrong : ChangeSpec := { name := "topHonest", fn := fun _ => fun
  | [d1, d2] => { results := [.lit (.bool false)], args := [d1, d2] }
  | _ => none }
def TopHonestWrongFalsely : Prop := topHonestRow.holds Tryz.pinned (OpenSpec.ofChange topHonestWrong)

/- THE SECOND FORM. 'bulk': how many values and letters a reading holds, each counted each time it is reached (what is shared counts as often as it is met; a slice's spare places count too). A statement '..UptoSaid' is the law's where the arguments, and the package variables that the reading takes, are together of bulk at most 1048576: NARROWER than '..Said'. Prove '..Said' where nothing that the law and all that it calls make is longer than what came in: it says more and counts as full. Else prove '..UptoSaid'. A law counts once. -/
mutual
def uptoBulk {H : Type} : DataW H → Nat
  | .lit (.string bytes) => bytes.length + 1
  | .lit _ => 1
  | .nil => 1
  | .ptr d => uptoBulk d + 1
  | .slice elems spare => uptoBulkAll elems + uptoBulkAll spare + 1
  | .agg parts => uptoBulkAll parts + 1
  | .iface _ d => uptoBulk d + 1
  | .map entries => uptoBulkEntries entries + 1
  | .held _ => 1
def uptoBulkAll {H : Type} : List (DataW H) → Nat
  | [] => 0
  | d :: r => uptoBulk d + uptoBulkAll r
def uptoBulkEntries {H : Type} : List (Lit × DataW H) → Nat
  | [] => 0
  | x :: r => uptoBulkEntry x + uptoBulkEntries r
def uptoBulkEntry {H : Type} : Lit × DataW H → Nat
  | (.string bytes, d) => bytes.length + uptoBulk d + 1
  | (_, d) => uptoBulk d + 1
 end
def uptoSmall : (H : Type) → List (DataW H) → Bool := fun _ ds => decide (uptoBulkAll ds ≤ 1048576)
def OpenSpec.upto (s : _root_.Go.ChangeSpec) : _root_.Go.OpenSpec := { _root_.Go.OpenSpec.ofChange s with cond := some uptoSmall }

/-- 'signalbrokertop.TopFaults', WHERE WHAT IT READS IS OF BULK AT MOST 1048576: true; the input reads as it did. -/
def topFaultsUptoRow : OpenClaim := { program := "ytiffpjamngklhaagreat", sum := "4b6110bef22cbe8ae91d55b0af08c14bc006fae04cf72c748f66e9ece2959811", func := "signalbroker/signalbrokertop.TopFaults", spec := "topFaults", inPlace := ["slices.overlaps[signalbroker/api.Request]"], unfollowed := true, recurses := true, apart := false, narrowed := true }
def TopFaultsUptoSaid : Prop := topFaultsUptoRow.holds Tryz.pinned (OpenSpec.upto topFaultsSpec)

/-- 'signalbrokertop.TopRefused', WHERE WHAT IT READS IS OF BULK AT MOST 1048576: true; the input reads as it did. -/
def topRefusedUptoRow : OpenClaim := { program := "ytiffpjamngklhaagreat", sum := "4b6110bef22cbe8ae91d55b0af08c14bc006fae04cf72c748f66e9ece2959811", func := "signalbroker/signalbrokertop.TopRefused", spec := "topRefused", inPlace := ["slices.overlaps[signalbroker/api.Request]"], unfollowed := true, recurses := true, apart := false, narrowed := true }
def TopRefusedUptoSaid : Prop := topRefusedUptoRow.holds Tryz.pinned (OpenSpec.upto topRefusedSpec)

/-- 'signalbrokertop.TopRevokes', WHERE WHAT IT READS IS OF BULK AT MOST 1048576: true; the input reads as it did. -/
def topRevokesUptoRow : OpenClaim := { program := "ytiffpjamngklhaagreat", sum := "4b6110bef22cbe8ae91d55b0af08c14bc006fae04cf72c748f66e9ece2959811", func := "signalbroker/signalbrokertop.TopRevokes", spec := "topRevokes", inPlace := ["slices.overlaps[signalbroker/api.Request]"], unfollowed := true, recurses := true, apart := false, narrowed := true }
def TopRevokesUptoSaid : Prop := topRevokesUptoRow.holds Tryz.pinned (OpenSpec.upto topRevokesSpec)

/-- 'signalbrokertop.TopLatch', WHERE WHAT IT READS IS OF BULK AT MOST 1048576: true; the input reads as it did. -/
def topLatchUptoRow : OpenClaim := { program := "ytiffpjamngklhaagreat", sum := "4b6110bef22cbe8ae91d55b0af08c14bc006fae04cf72c748f66e9ece2959811", func := "signalbroker/signalbrokertop.TopLatch", spec := "topLatch", inPlace := ["slices.overlaps[signalbroker/api.Request]"], unfollowed := true, recurses := true, apart := false, narrowed := true }
def TopLatchUptoSaid : Prop := topLatchUptoRow.holds Tryz.pinned (OpenSpec.upto topLatchSpec)

/-- 'signalbrokertop.TopHonest', WHERE WHAT IT READS IS OF BULK AT MOST 1048576: true; the input reads as it did. -/
def topHonestUptoRow : OpenClaim := { program := "ytiffpjamngklhaagreat", sum := "4b6110bef22cbe8ae91d55b0af08c14bc006fae04cf72c748f66e9ece2959811", func := "signalbroker/signalbrokertop.TopHonest", spec := "topHonest", inPlace := ["slices.overlaps[signalbroker/api.Request]"], unfollowed := true, recurses := true, apart := false, narrowed := true }
def TopHonestUptoSaid : Prop := topHonestUptoRow.holds Tryz.pinned (OpenSpec.upto topHonestSpec)

end Rows
end Go.Proofs.YtiffpjamngklhaaGreat
