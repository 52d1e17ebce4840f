/-
  No cell of these rows narrows 'for every input' (looked for: loops, veiled, ifaces, maps, wideKeys, modest, calm, conditions, laid).
  DERIVED. THE GIVEN ROWS OF THIS SEAT. 3 by the template 'for every input the law returns true; each argument reads behind the call as it read before'; 0 by the template 'total and deterministic' (their statements: YtidmpeimdjmjdaaTotals.lean).
  GIVEN WITH THE SEED: the statements are not yours to turn. If you find one false, say at which input.
  Laid BY PROGRAM, IN A SANDBOX (cutbox-rows.mjs): the forced cells as the released guide's own fill.sh prints them over the translation 6d998a4e3ff423d8… (all of the seat's roots in one cut). By AI agents, Wed Nov 11 2026. No macro, syntax, notation, axiom, sorry.
-/
import Derived.Test.YtidmpeimdjmjdaaChecked
import GoSem.Claim
import GoSem.ClaimJoined
import GoSem.ClaimMapViews
import Derived.JoinedTies
import Derived.KernelRfl
namespace Go.Proofs.Ytidmpeimdjmjdaa
/- THE CELL 'sum', in the pinned program and in every row, IS THE sha256 OF THE DUMP (.gsa) THAT YtidmpeimdjmjdaaProg.lean LOADS. Nothing in Lean hashes anything: it is a label: what it is worth is what the hold of that sum in a sandbox is worth. -/
noncomputable def Try.pinned : Pinned := { name := "ytidmpeimdjmjdaa", sum := "6d998a4e3ff423d821a0ae2ac799b99c08892db737d51be544ebac942b950d1a", checked := Try.checked }
namespace Rows
def none {H : Type} : Left H := { results := [], args := [] }

/-- 'signalbrokerlaw13.RightsHold': WHATEVER THE INPUT: true; the input reads as it did. -/
def rightsHoldSpec : ChangeSpec := { name := "rightsHold", fn := fun _ => fun
  | [d1, d2, d3] => { results := [.lit (.bool true)], args := [d1, d2, d3] }
  | _ => none }
def rightsHoldRow : OpenClaim := { program := "ytidmpeimdjmjdaa", sum := "6d998a4e3ff423d821a0ae2ac799b99c08892db737d51be544ebac942b950d1a", func := "signalbroker/signalbrokerlaw13.RightsHold", spec := "rightsHold", apart := false }
def RightsHoldSaid : Prop := rightsHoldRow.holds Try.pinned (OpenSpec.ofChange rightsHoldSpec)

/-- ITS FALSE NEIGHBOUR: 'it returns false'. Refute it at one input. -/
def rightsHoldWrong : ChangeSpec := { name := "rightsHold", fn := fun _ => fun
  | [d1, d2, d3] => { results := [.lit (.bool false)], args := [d1, d2, d3] }
  | _ => none }
def RightsHoldWrongFalsely : Prop := rightsHoldRow.holds Try.pinned (OpenSpec.ofChange rightsHoldWrong)

/-- 'signalbrokerlaw13.RightsGrow': WHATEVER THE INPUT: true; the input reads as it did. -/
def rightsGrowSpec : ChangeSpec := { name := "rightsGrow", fn := fun _ => fun
  | [d1, d2, d3, d4] => { results := [.lit (.bool true)], args := [d1, d2, d3, d4] }
  | _ => none }
def rightsGrowRow : OpenClaim := { program := "ytidmpeimdjmjdaa", sum := "6d998a4e3ff423d821a0ae2ac799b99c08892db737d51be544ebac942b950d1a", func := "signalbroker/signalbrokerlaw13.RightsGrow", spec := "rightsGrow", apart := false }
def RightsGrowSaid : Prop := rightsGrowRow.holds Try.pinned (OpenSpec.ofChange rightsGrowSpec)

/-- ITS FALSE NEIGHBOUR: 'it returns false'. Refute it at one input. -/
def rightsGrowWrong : ChangeSpec := { name := "rightsGrow", fn := fun _ => fun
  | [d1, d2, d3, d4] => { results := [.lit (.bool false)], args := [d1, d2, d3, d4] }
  | _ => none }
def RightsGrowWrongFalsely : Prop := rightsGrowRow.holds Try.pinned (OpenSpec.ofChange rightsGrowWrong)

/-- 'signalbrokerlaw13.RightsFree': WHATEVER THE INPUT: true; the input reads as it did. -/
def rightsFreeSpec : ChangeSpec := { name := "rightsFree", fn := fun _ => fun
  | [d] => { results := [.lit (.bool true)], args := [d] }
  | _ => none }
def rightsFreeRow : OpenClaim := { program := "ytidmpeimdjmjdaa", sum := "6d998a4e3ff423d821a0ae2ac799b99c08892db737d51be544ebac942b950d1a", func := "signalbroker/signalbrokerlaw13.RightsFree", spec := "rightsFree", apart := false }
def RightsFreeSaid : Prop := rightsFreeRow.holds Try.pinned (OpenSpec.ofChange rightsFreeSpec)

/-- ITS FALSE NEIGHBOUR: 'it returns false'. Refute it at one input. -/
def rightsFreeWrong : ChangeSpec := { name := "rightsFree", fn := fun _ => fun
  | [d] => { results := [.lit (.bool false)], args := [d] }
  | _ => none }
def RightsFreeWrongFalsely : Prop := rightsFreeRow.holds Try.pinned (OpenSpec.ofChange rightsFreeWrong)

/- THE SECOND FORM. 'bulk': how many values and letters a reading holds, each counted each time it is reached (what is shared counts as often as it is met; a slice's spare places count too). A statement '..UptoSaid' is the law's where the arguments, and the package variables that the reading takes, are together of bulk at most 1048576: NARROWER than '..Said'. Prove '..Said' where nothing that the law and all that it calls make is longer than what came in: it says more and counts as full. Else prove '..UptoSaid'. A law counts once. -/
mutual
def uptoBulk {H : Type} : DataW H → Nat
  | .lit (.string bytes) => bytes.length + 1
  | .lit _ => 1
  | .nil => 1
  | .ptr d => uptoBulk d + 1
  | .slice elems spare => uptoBulkAll elems + uptoBulkAll spare + 1
  | .agg parts => uptoBulkAll parts + 1
  | .iface _ d => uptoBulk d + 1
  | .map entries => uptoBulkEntries entries + 1
  | .held _ => 1
def uptoBulkAll {H : Type} : List (DataW H) → Nat
  | [] => 0
  | d :: r => uptoBulk d + uptoBulkAll r
def uptoBulkEntries {H : Type} : List (Lit × DataW H) → Nat
  | [] => 0
  | x :: r => uptoBulkEntry x + uptoBulkEntries r
def uptoBulkEntry {H : Type} : Lit × DataW H → Nat
  | (.string bytes, d) => bytes.length + uptoBulk d + 1
  | (_, d) => uptoBulk d + 1
 end
def uptoSmall : (H : Type) → List (DataW H) → Bool := fun _ ds => decide (uptoBulkAll ds ≤ 1048576)
def OpenSpec.upto (s : _root_.Go.ChangeSpec) : _root_.Go.OpenSpec := { _root_.Go.OpenSpec.ofChange s with cond := some uptoSmall }

/-- 'signalbrokerlaw13.RightsHold', WHERE WHAT IT READS IS OF BULK AT MOST 1048576: true; the input reads as it did. -/
def rightsHoldUptoRow : OpenClaim := { program := "ytidmpeimdjmjdaa", sum := "6d998a4e3ff423d821a0ae2ac799b99c08892db737d51be544ebac942b950d1a", func := "signalbroker/signalbrokerlaw13.RightsHold", spec := "rightsHold", apart := false, narrowed := true }
def RightsHoldUptoSaid : Prop := rightsHoldUptoRow.holds Try.pinned (OpenSpec.upto rightsHoldSpec)

/-- 'signalbrokerlaw13.RightsGrow', WHERE WHAT IT READS IS OF BULK AT MOST 1048576: true; the input reads as it did. -/
def rightsGrowUptoRow : OpenClaim := { program := "ytidmpeimdjmjdaa", sum := "6d998a4e3ff423d821a0ae2ac799b99c08892db737d51be544ebac942b950d1a", func := "signalbroker/signalbrokerlaw13.RightsGrow", spec := "rightsGrow", apart := false, narrowed := true }
def RightsGrowUptoSaid : Prop := rightsGrowUptoRow.holds Try.pinned (OpenSpec.upto rightsGrowSpec)

/-- 'signalbrokerlaw13.RightsFree', WHERE WHAT IT READS IS OF BULK AT MOST 1048576: true; the input reads as it did. -/
def rightsFreeUptoRow : OpenClaim := { program := "ytidmpeimdjmjdaa", sum := "6d998a4e3ff423d821a0ae2ac799b99c08892db737d51be544ebac942b950d1a", func := "signalbroker/signalbrokerlaw13.RightsFree", spec := "rightsFree", apart := false, narrowed := true }
def RightsFreeUptoSaid : Prop := rightsFreeUptoRow.holds Try.pinned (OpenSpec.upto rightsFreeSpec)

end Rows
end Go.Proofs.Ytidmpeimdjmjdaa
