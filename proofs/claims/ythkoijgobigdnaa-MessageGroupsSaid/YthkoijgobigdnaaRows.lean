/-
  No cell of these rows narrows 'for every input' (looked for: loops, veiled, ifaces, maps, wideKeys, modest, calm, conditions, laid).
  DERIVED. THE GIVEN ROWS OF THIS SEAT. 6 by the template 'for every input the law returns true; each argument reads behind the call as it read before'; 0 by the template 'total and deterministic' (their statements: YthkoijgobigdnaaTotals.lean).
  GIVEN WITH THE SEED: the statements are not yours to turn. If you find one false, say at which input.
  Laid BY PROGRAM, IN A SANDBOX (cutbox-rows.mjs): the forced cells as the released guide's own fill.sh prints them over the translation f0b925336981170d… (all of the seat's roots in one cut). By AI agents, Wed Nov 11 2026. No macro, syntax, notation, axiom, sorry.
-/
import Derived.Test.YthkoijgobigdnaaChecked
import GoSem.Claim
import GoSem.ClaimJoined
import GoSem.ClaimMapViews
import Derived.JoinedTies
import Derived.KernelRfl
namespace Go.Proofs.Ythkoijgobigdnaa
/- THE CELL 'sum', in the pinned program and in every row, IS THE sha256 OF THE DUMP (.gsa) THAT YthkoijgobigdnaaProg.lean LOADS. Nothing in Lean hashes anything: it is a label: what it is worth is what the hold of that sum in a sandbox is worth. -/
noncomputable def Try.pinned : Pinned := { name := "ythkoijgobigdnaa", sum := "f0b925336981170d2bb563b308c4a170ceae45a32e4f4831433f0b4dc3b4fd33", checked := Try.checked }
namespace Rows
def none {H : Type} : Left H := { results := [], args := [] }

/-- 'signalbrokerlaw05.MessageReads': WHATEVER THE INPUT: true; the input reads as it did. -/
def messageReadsSpec : ChangeSpec := { name := "messageReads", fn := fun _ => fun
  | [d1, d2, d3, d4, d5] => { results := [.lit (.bool true)], args := [d1, d2, d3, d4, d5] }
  | _ => none }
def messageReadsRow : OpenClaim := { program := "ythkoijgobigdnaa", sum := "f0b925336981170d2bb563b308c4a170ceae45a32e4f4831433f0b4dc3b4fd33", func := "signalbroker/signalbrokerlaw05.MessageReads", spec := "messageReads", apart := false }
def MessageReadsSaid : Prop := messageReadsRow.holds Try.pinned (OpenSpec.ofChange messageReadsSpec)

/-- ITS FALSE NEIGHBOUR: 'it returns false'. Refute it at one input. -/
def messageReadsWrong : ChangeSpec := { name := "messageReads", fn := fun _ => fun
  | [d1, d2, d3, d4, d5] => { results := [.lit (.bool false)], args := [d1, d2, d3, d4, d5] }
  | _ => none }
def MessageReadsWrongFalsely : Prop := messageReadsRow.holds Try.pinned (OpenSpec.ofChange messageReadsWrong)

/-- 'signalbrokerlaw05.MessageGroups': WHATEVER THE INPUT: true; the input reads as it did. -/
def messageGroupsSpec : ChangeSpec := { name := "messageGroups", fn := fun _ => fun
  | [d1, d2] => { results := [.lit (.bool true)], args := [d1, d2] }
  | _ => none }
def messageGroupsRow : OpenClaim := { program := "ythkoijgobigdnaa", sum := "f0b925336981170d2bb563b308c4a170ceae45a32e4f4831433f0b4dc3b4fd33", func := "signalbroker/signalbrokerlaw05.MessageGroups", spec := "messageGroups", apart := false }
def MessageGroupsSaid : Prop := messageGroupsRow.holds Try.pinned (OpenSpec.ofChange messageGroupsSpec)

/-- ITS FALSE NEIGHBOUR: 'it returns false'. Refute it at one input. -/
def messageGroupsWrong : ChangeSpec := { name := "messageGroups", fn := fun _ => fun
  | [d1, d2] => { results := [.lit (.bool false)], args := [d1, d2] }
  | _ => none }
def MessageGroupsWrongFalsely : Prop := messageGroupsRow.holds Try.pinned (OpenSpec.ofChange messageGroupsWrong)

/-- 'signalbrokerlaw05.MessageOne': WHATEVER THE INPUT: true; the input reads as it did. -/
def messageOneSpec : ChangeSpec := { name := "messageOne", fn := fun _ => fun
  | [d1, d2, d3, d4, d5] => { results := [.lit (.bool true)], args := [d1, d2, d3, d4, d5] }
  | _ => none }
def messageOneRow : OpenClaim := { program := "ythkoijgobigdnaa", sum := "f0b925336981170d2bb563b308c4a170ceae45a32e4f4831433f0b4dc3b4fd33", func := "signalbroker/signalbrokerlaw05.MessageOne", spec := "messageOne", apart := false }
def MessageOneSaid : Prop := messageOneRow.holds Try.pinned (OpenSpec.ofChange messageOneSpec)

/-- ITS FALSE NEIGHBOUR: 'it returns false'. Refute it at one input. -/
def messageOneWrong : ChangeSpec := { name := "messageOne", fn := fun _ => fun
  | [d1, d2, d3, d4, d5] => { results := [.lit (.bool false)], args := [d1, d2, d3, d4, d5] }
  | _ => none }
def MessageOneWrongFalsely : Prop := messageOneRow.holds Try.pinned (OpenSpec.ofChange messageOneWrong)

/-- 'signalbrokerlaw05.MessageBack': WHATEVER THE INPUT: true; the input reads as it did. -/
def messageBackSpec : ChangeSpec := { name := "messageBack", fn := fun _ => fun
  | [d1, d2] => { results := [.lit (.bool true)], args := [d1, d2] }
  | _ => none }
def messageBackRow : OpenClaim := { program := "ythkoijgobigdnaa", sum := "f0b925336981170d2bb563b308c4a170ceae45a32e4f4831433f0b4dc3b4fd33", func := "signalbroker/signalbrokerlaw05.MessageBack", spec := "messageBack", apart := false }
def MessageBackSaid : Prop := messageBackRow.holds Try.pinned (OpenSpec.ofChange messageBackSpec)

/-- ITS FALSE NEIGHBOUR: 'it returns false'. Refute it at one input. -/
def messageBackWrong : ChangeSpec := { name := "messageBack", fn := fun _ => fun
  | [d1, d2] => { results := [.lit (.bool false)], args := [d1, d2] }
  | _ => none }
def MessageBackWrongFalsely : Prop := messageBackRow.holds Try.pinned (OpenSpec.ofChange messageBackWrong)

/-- 'signalbrokerlaw05.MessageSizes': WHATEVER THE INPUT: true; the input reads as it did. -/
def messageSizesSpec : ChangeSpec := { name := "messageSizes", fn := fun _ => fun
  | [d] => { results := [.lit (.bool true)], args := [d] }
  | _ => none }
def messageSizesRow : OpenClaim := { program := "ythkoijgobigdnaa", sum := "f0b925336981170d2bb563b308c4a170ceae45a32e4f4831433f0b4dc3b4fd33", func := "signalbroker/signalbrokerlaw05.MessageSizes", spec := "messageSizes", apart := false }
def MessageSizesSaid : Prop := messageSizesRow.holds Try.pinned (OpenSpec.ofChange messageSizesSpec)

/-- ITS FALSE NEIGHBOUR: 'it returns false'. Refute it at one input. -/
def messageSizesWrong : ChangeSpec := { name := "messageSizes", fn := fun _ => fun
  | [d] => { results := [.lit (.bool false)], args := [d] }
  | _ => none }
def MessageSizesWrongFalsely : Prop := messageSizesRow.holds Try.pinned (OpenSpec.ofChange messageSizesWrong)

/-- 'signalbrokerlaw05.MessageValid': WHATEVER THE INPUT: true; the input reads as it did. -/
def messageValidSpec : ChangeSpec := { name := "messageValid", fn := fun _ => fun
  | [d1, d2] => { results := [.lit (.bool true)], args := [d1, d2] }
  | _ => none }
def messageValidRow : OpenClaim := { program := "ythkoijgobigdnaa", sum := "f0b925336981170d2bb563b308c4a170ceae45a32e4f4831433f0b4dc3b4fd33", func := "signalbroker/signalbrokerlaw05.MessageValid", spec := "messageValid", apart := false }
def MessageValidSaid : Prop := messageValidRow.holds Try.pinned (OpenSpec.ofChange messageValidSpec)

/-- ITS FALSE NEIGHBOUR: 'it returns false'. Refute it at one input. -/
def messageValidWrong : ChangeSpec := { name := "messageValid", fn := fun _ => fun
  | [d1, d2] => { results := [.lit (.bool false)], args := [d1, d2] }
  | _ => none }
def MessageValidWrongFalsely : Prop := messageValidRow.holds Try.pinned (OpenSpec.ofChange messageValidWrong)

/- THE SECOND FORM. 'bulk': how many values and letters a reading holds, each counted each time it is reached (what is shared counts as often as it is met; a slice's spare places count too). A statement '..UptoSaid' is the law's where the arguments, and the package variables that the reading takes, are together of bulk at most 1048576: NARROWER than '..Said'. Prove '..Said' where nothing that the law and all that it calls make is longer than what came in: it says more and counts as full. Else prove '..UptoSaid'. A law counts once. -/
mutual
def uptoBulk {H : Type} : DataW H → Nat
  | .lit (.string bytes) => bytes.length + 1
  | .lit _ => 1
  | .nil => 1
  | .ptr d => uptoBulk d + 1
  | .slice elems spare => uptoBulkAll elems + uptoBulkAll spare + 1
  | .agg parts => uptoBulkAll parts + 1
  | .iface _ d => uptoBulk d + 1
  | .map entries => uptoBulkEntries entries + 1
  | .held _ => 1
def uptoBulkAll {H : Type} : List (DataW H) → Nat
  | [] => 0
  | d :: r => uptoBulk d + uptoBulkAll r
def uptoBulkEntries {H : Type} : List (Lit × DataW H) → Nat
  | [] => 0
  | x :: r => uptoBulkEntry x + uptoBulkEntries r
def uptoBulkEntry {H : Type} : Lit × DataW H → Nat
  | (.string bytes, d) => bytes.length + uptoBulk d + 1
  | (_, d) => uptoBulk d + 1
 end
def uptoSmall : (H : Type) → List (DataW H) → Bool := fun _ ds => decide (uptoBulkAll ds ≤ 1048576)
def OpenSpec.upto (s : _root_.Go.ChangeSpec) : _root_.Go.OpenSpec := { _root_.Go.OpenSpec.ofChange s with cond := some uptoSmall }

/-- 'signalbrokerlaw05.MessageReads', WHERE WHAT IT READS IS OF BULK AT MOST 1048576: true; the input reads as it did. -/
def messageReadsUptoRow : OpenClaim := { program := "ythkoijgobigdnaa", sum := "f0b925336981170d2bb563b308c4a170ceae45a32e4f4831433f0b4dc3b4fd33", func := "signalbroker/signalbrokerlaw05.MessageReads", spec := "messageReads", apart := false, narrowed := true }
def MessageReadsUptoSaid : Prop := messageReadsUptoRow.holds Try.pinned (OpenSpec.upto messageReadsSpec)

/-- 'signalbrokerlaw05.MessageGroups', WHERE WHAT IT READS IS OF BULK AT MOST 1048576: true; the input reads as it did. -/
def messageGroupsUptoRow : OpenClaim := { program := "ythkoijgobigdnaa", sum := "f0b925336981170d2bb563b308c4a170ceae45a32e4f4831433f0b4dc3b4fd33", func := "signalbroker/signalbrokerlaw05.MessageGroups", spec := "messageGroups", apart := false, narrowed := true }
def MessageGroupsUptoSaid : Prop := messageGroupsUptoRow.holds Try.pinned (OpenSpec.upto messageGroupsSpec)

/-- 'signalbrokerlaw05.MessageOne', WHERE WHAT IT READS IS OF BULK AT MOST 1048576: true; the input reads as it did. -/
def messageOneUptoRow : OpenClaim := { program := "ythkoijgobigdnaa", sum := "f0b925336981170d2bb563b308c4a170ceae45a32e4f4831433f0b4dc3b4fd33", func := "signalbroker/signalbrokerlaw05.MessageOne", spec := "messageOne", apart := false, narrowed := true }
def MessageOneUptoSaid : Prop := messageOneUptoRow.holds Try.pinned (OpenSpec.upto messageOneSpec)

/-- 'signalbrokerlaw05.MessageBack', WHERE WHAT IT READS IS OF BULK AT MOST 1048576: true; the input reads as it did. -/
def messageBackUptoRow : OpenClaim := { program := "ythkoijgobigdnaa", sum := "f0b925336981170d2bb563b308c4a170ceae45a32e4f4831433f0b4dc3b4fd33", func := "signalbroker/signalbrokerlaw05.MessageBack", spec := "messageBack", apart := false, narrowed := true }
def MessageBackUptoSaid : Prop := messageBackUptoRow.holds Try.pinned (OpenSpec.upto messageBackSpec)

/-- 'signalbrokerlaw05.MessageSizes', WHERE WHAT IT READS IS OF BULK AT MOST 1048576: true; the input reads as it did. -/
def messageSizesUptoRow : OpenClaim := { program := "ythkoijgobigdnaa", sum := "f0b925336981170d2bb563b308c4a170ceae45a32e4f4831433f0b4dc3b4fd33", func := "signalbroker/signalbrokerlaw05.MessageSizes", spec := "messageSizes", apart := false, narrowed := true }
def MessageSizesUptoSaid : Prop := messageSizesUptoRow.holds Try.pinned (OpenSpec.upto messageSizesSpec)

/-- 'signalbrokerlaw05.MessageValid', WHERE WHAT IT READS IS OF BULK AT MOST 1048576: true; the input reads as it did. -/
def messageValidUptoRow : OpenClaim := { program := "ythkoijgobigdnaa", sum := "f0b925336981170d2bb563b308c4a170ceae45a32e4f4831433f0b4dc3b4fd33", func := "signalbroker/signalbrokerlaw05.MessageValid", spec := "messageValid", apart := false, narrowed := true }
def MessageValidUptoSaid : Prop := messageValidUptoRow.holds Try.pinned (OpenSpec.upto messageValidSpec)

end Rows
end Go.Proofs.Ythkoijgobigdnaa
