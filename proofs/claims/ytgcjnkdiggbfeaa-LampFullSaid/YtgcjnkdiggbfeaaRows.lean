/-
  No cell of these rows narrows 'for every input' (looked for: loops, veiled, ifaces, maps, wideKeys, modest, calm, conditions, laid).
  DERIVED. THE GIVEN ROWS OF THIS SEAT. 4 by the template 'for every input the law returns true; each argument reads behind the call as it read before'; 0 by the template 'total and deterministic' (their statements: YtgcjnkdiggbfeaaTotals.lean).
  GIVEN WITH THE SEED: the statements are not yours to turn. If you find one false, say at which input.
  Laid BY PROGRAM, IN A SANDBOX (cutbox-rows.mjs): the forced cells as the released guide's own fill.sh prints them over the translation 777d5ab1b29ef771… (all of the seat's roots in one cut). By AI agents, Wed Nov 11 2026. No macro, syntax, notation, axiom, sorry.
-/
import Derived.Test.YtgcjnkdiggbfeaaChecked
import GoSem.Claim
import GoSem.ClaimJoined
import GoSem.ClaimMapViews
import Derived.JoinedTies
import Derived.KernelRfl
namespace Go.Proofs.Ytgcjnkdiggbfeaa
/- THE CELL 'sum', in the pinned program and in every row, IS THE sha256 OF THE DUMP (.gsa) THAT YtgcjnkdiggbfeaaProg.lean LOADS. Nothing in Lean hashes anything: it is a label: what it is worth is what the hold of that sum in a sandbox is worth. -/
noncomputable def Try.pinned : Pinned := { name := "ytgcjnkdiggbfeaa", sum := "777d5ab1b29ef7710b556f639a1e4b298dabc7d9d29ce1bd64536fb2d2c21e7c", checked := Try.checked }
namespace Rows
def none {H : Type} : Left H := { results := [], args := [] }

/-- 'signalbrokerlaw08.LampCounts': WHATEVER THE INPUT: true; the input reads as it did. -/
def lampCountsSpec : ChangeSpec := { name := "lampCounts", fn := fun _ => fun
  | [d1, d2, d3] => { results := [.lit (.bool true)], args := [d1, d2, d3] }
  | _ => none }
def lampCountsRow : OpenClaim := { program := "ytgcjnkdiggbfeaa", sum := "777d5ab1b29ef7710b556f639a1e4b298dabc7d9d29ce1bd64536fb2d2c21e7c", func := "signalbroker/signalbrokerlaw08.LampCounts", spec := "lampCounts", apart := false }
def LampCountsSaid : Prop := lampCountsRow.holds Try.pinned (OpenSpec.ofChange lampCountsSpec)

/-- ITS FALSE NEIGHBOUR: 'it returns false'. Refute it at one input. -/
def lampCountsWrong : ChangeSpec := { name := "lampCounts", fn := fun _ => fun
  | [d1, d2, d3] => { results := [.lit (.bool false)], args := [d1, d2, d3] }
  | _ => none }
def LampCountsWrongFalsely : Prop := lampCountsRow.holds Try.pinned (OpenSpec.ofChange lampCountsWrong)

/-- 'signalbrokerlaw08.LampWalks': WHATEVER THE INPUT: true; the input reads as it did. -/
def lampWalksSpec : ChangeSpec := { name := "lampWalks", fn := fun _ => fun
  | [d1, d2, d3] => { results := [.lit (.bool true)], args := [d1, d2, d3] }
  | _ => none }
def lampWalksRow : OpenClaim := { program := "ytgcjnkdiggbfeaa", sum := "777d5ab1b29ef7710b556f639a1e4b298dabc7d9d29ce1bd64536fb2d2c21e7c", func := "signalbroker/signalbrokerlaw08.LampWalks", spec := "lampWalks", apart := false }
def LampWalksSaid : Prop := lampWalksRow.holds Try.pinned (OpenSpec.ofChange lampWalksSpec)

/-- ITS FALSE NEIGHBOUR: 'it returns false'. Refute it at one input. -/
def lampWalksWrong : ChangeSpec := { name := "lampWalks", fn := fun _ => fun
  | [d1, d2, d3] => { results := [.lit (.bool false)], args := [d1, d2, d3] }
  | _ => none }
def LampWalksWrongFalsely : Prop := lampWalksRow.holds Try.pinned (OpenSpec.ofChange lampWalksWrong)

/-- 'signalbrokerlaw08.LampFull': WHATEVER THE INPUT: true; the input reads as it did. -/
def lampFullSpec : ChangeSpec := { name := "lampFull", fn := fun _ => fun
  | [d1, d2, d3] => { results := [.lit (.bool true)], args := [d1, d2, d3] }
  | _ => none }
def lampFullRow : OpenClaim := { program := "ytgcjnkdiggbfeaa", sum := "777d5ab1b29ef7710b556f639a1e4b298dabc7d9d29ce1bd64536fb2d2c21e7c", func := "signalbroker/signalbrokerlaw08.LampFull", spec := "lampFull", apart := false }
def LampFullSaid : Prop := lampFullRow.holds Try.pinned (OpenSpec.ofChange lampFullSpec)

/-- ITS FALSE NEIGHBOUR: 'it returns false'. Refute it at one input. -/
def lampFullWrong : ChangeSpec := { name := "lampFull", fn := fun _ => fun
  | [d1, d2, d3] => { results := [.lit (.bool false)], args := [d1, d2, d3] }
  | _ => none }
def LampFullWrongFalsely : Prop := lampFullRow.holds Try.pinned (OpenSpec.ofChange lampFullWrong)

/-- 'signalbrokerlaw08.LampSteps': WHATEVER THE INPUT: true; the input reads as it did. -/
def lampStepsSpec : ChangeSpec := { name := "lampSteps", fn := fun _ => fun
  | [d1, d2, d3, d4, d5] => { results := [.lit (.bool true)], args := [d1, d2, d3, d4, d5] }
  | _ => none }
def lampStepsRow : OpenClaim := { program := "ytgcjnkdiggbfeaa", sum := "777d5ab1b29ef7710b556f639a1e4b298dabc7d9d29ce1bd64536fb2d2c21e7c", func := "signalbroker/signalbrokerlaw08.LampSteps", spec := "lampSteps", apart := false }
def LampStepsSaid : Prop := lampStepsRow.holds Try.pinned (OpenSpec.ofChange lampStepsSpec)

/-- ITS FALSE NEIGHBOUR: 'it returns false'. Refute it at one input. -/
def lampStepsWrong : ChangeSpec := { name := "lampSteps", fn := fun _ => fun
  | [d1, d2, d3, d4, d5] => { results := [.lit (.bool false)], args := [d1, d2, d3, d4, d5] }
  | _ => none }
def LampStepsWrongFalsely : Prop := lampStepsRow.holds Try.pinned (OpenSpec.ofChange lampStepsWrong)

/- THE SECOND FORM. 'bulk': how many values and letters a reading holds, each counted each time it is reached (what is shared counts as often as it is met; a slice's spare places count too). A statement '..UptoSaid' is the law's where the arguments, and the package variables that the reading takes, are together of bulk at most 1048576: NARROWER than '..Said'. Prove '..Said' where nothing that the law and all that it calls make is longer than what came in: it says more and counts as full. Else prove '..UptoSaid'. A law counts once. -/
mutual
def uptoBulk {H : Type} : DataW H → Nat
  | .lit (.string bytes) => bytes.length + 1
  | .lit _ => 1
  | .nil => 1
  | .ptr d => uptoBulk d + 1
  | .slice elems spare => uptoBulkAll elems + uptoBulkAll spare + 1
  | .agg parts => uptoBulkAll parts + 1
  | .iface _ d => uptoBulk d + 1
  | .map entries => uptoBulkEntries entries + 1
  | .held _ => 1
def uptoBulkAll {H : Type} : List (DataW H) → Nat
  | [] => 0
  | d :: r => uptoBulk d + uptoBulkAll r
def uptoBulkEntries {H : Type} : List (Lit × DataW H) → Nat
  | [] => 0
  | x :: r => uptoBulkEntry x + uptoBulkEntries r
def uptoBulkEntry {H : Type} : Lit × DataW H → Nat
  | (.string bytes, d) => bytes.length + uptoBulk d + 1
  | (_, d) => uptoBulk d + 1
 end
def uptoSmall : (H : Type) → List (DataW H) → Bool := fun _ ds => decide (uptoBulkAll ds ≤ 1048576)
def OpenSpec.upto (s : _root_.Go.ChangeSpec) : _root_.Go.OpenSpec := { _root_.Go.OpenSpec.ofChange s with cond := some uptoSmall }

/-- 'signalbrokerlaw08.LampCounts', WHERE WHAT IT READS IS OF BULK AT MOST 1048576: true; the input reads as it did. -/
def lampCountsUptoRow : OpenClaim := { program := "ytgcjnkdiggbfeaa", sum := "777d5ab1b29ef7710b556f639a1e4b298dabc7d9d29ce1bd64536fb2d2c21e7c", func := "signalbroker/signalbrokerlaw08.LampCounts", spec := "lampCounts", apart := false, narrowed := true }
def LampCountsUptoSaid : Prop := lampCountsUptoRow.holds Try.pinned (OpenSpec.upto lampCountsSpec)

/-- 'signalbrokerlaw08.LampWalks', WHERE WHAT IT READS IS OF BULK AT MOST 1048576: true; the input reads as it did. -/
def lampWalksUptoRow : OpenClaim := { program := "ytgcjnkdiggbfeaa", sum := "777d5ab1b29ef7710b556f639a1e4b298dabc7d9d29ce1bd64536fb2d2c21e7c", func := "signalbroker/signalbrokerlaw08.LampWalks", spec := "lampWalks", apart := false, narrowed := true }
def LampWalksUptoSaid : Prop := lampWalksUptoRow.holds Try.pinned (OpenSpec.upto lampWalksSpec)

/-- 'signalbrokerlaw08.LampFull', WHERE WHAT IT READS IS OF BULK AT MOST 1048576: true; the input reads as it did. -/
def lampFullUptoRow : OpenClaim := { program := "ytgcjnkdiggbfeaa", sum := "777d5ab1b29ef7710b556f639a1e4b298dabc7d9d29ce1bd64536fb2d2c21e7c", func := "signalbroker/signalbrokerlaw08.LampFull", spec := "lampFull", apart := false, narrowed := true }
def LampFullUptoSaid : Prop := lampFullUptoRow.holds Try.pinned (OpenSpec.upto lampFullSpec)

/-- 'signalbrokerlaw08.LampSteps', WHERE WHAT IT READS IS OF BULK AT MOST 1048576: true; the input reads as it did. -/
def lampStepsUptoRow : OpenClaim := { program := "ytgcjnkdiggbfeaa", sum := "777d5ab1b29ef7710b556f639a1e4b298dabc7d9d29ce1bd64536fb2d2c21e7c", func := "signalbroker/signalbrokerlaw08.LampSteps", spec := "lampSteps", apart := false, narrowed := true }
def LampStepsUptoSaid : Prop := lampStepsUptoRow.holds Try.pinned (OpenSpec.upto lampStepsSpec)

end Rows
end Go.Proofs.Ytgcjnkdiggbfeaa
