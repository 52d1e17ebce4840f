/-
  No cell of these rows narrows 'for every input' (looked for: loops, veiled, ifaces, maps, wideKeys, modest, calm, conditions, laid).
  DERIVED. THE GIVEN ROWS OF THIS SEAT. 2 by the template 'for every input the law returns true; each argument reads behind the call as it read before'; 0 by the template 'total and deterministic' (their statements: YtgnfnbbdicnijaaTotals.lean).
  GIVEN WITH THE SEED: the statements are not yours to turn. If you find one false, say at which input.
  Laid BY PROGRAM, IN A SANDBOX (cutbox-rows.mjs): the forced cells as the released guide's own fill.sh prints them over the translation 5c92b697b36d8807… (all of the seat's roots in one cut). By AI agents, Wed Nov 11 2026. No macro, syntax, notation, axiom, sorry.
-/
import Derived.Test.YtgnfnbbdicnijaaChecked
import GoSem.Claim
import GoSem.ClaimJoined
import GoSem.ClaimMapViews
import Derived.JoinedTies
import Derived.KernelRfl
namespace Go.Proofs.Ytgnfnbbdicnijaa
/- THE CELL 'sum', in the pinned program and in every row, IS THE sha256 OF THE DUMP (.gsa) THAT YtgnfnbbdicnijaaProg.lean LOADS. Nothing in Lean hashes anything: it is a label: what it is worth is what the hold of that sum in a sandbox is worth. -/
noncomputable def Try.pinned : Pinned := { name := "ytgnfnbbdicnijaa", sum := "5c92b697b36d8807dc5e1fcd4ad337b0f04912c3d9870617cc3929b2e52d4e58", checked := Try.checked }
namespace Rows
def none {H : Type} : Left H := { results := [], args := [] }

/-- 'signalbrokerlaw18.WindowSince': WHATEVER THE INPUT: true; the input reads as it did. -/
def windowSinceSpec : ChangeSpec := { name := "windowSince", fn := fun _ => fun
  | [d1, d2, d3] => { results := [.lit (.bool true)], args := [d1, d2, d3] }
  | _ => none }
def windowSinceRow : OpenClaim := { program := "ytgnfnbbdicnijaa", sum := "5c92b697b36d8807dc5e1fcd4ad337b0f04912c3d9870617cc3929b2e52d4e58", func := "signalbroker/signalbrokerlaw18.WindowSince", spec := "windowSince", apart := false }
def WindowSinceSaid : Prop := windowSinceRow.holds Try.pinned (OpenSpec.ofChange windowSinceSpec)

/-- ITS FALSE NEIGHBOUR: 'it returns false'. Refute it at one input. -/
def windowSinceWrong : ChangeSpec := { name := "windowSince", fn := fun _ => fun
  | [d1, d2, d3] => { results := [.lit (.bool false)], args := [d1, d2, d3] }
  | _ => none }
def WindowSinceWrongFalsely : Prop := windowSinceRow.holds Try.pinned (OpenSpec.ofChange windowSinceWrong)

/-- 'signalbrokerlaw18.WindowMakes': WHATEVER THE INPUT: true; the input reads as it did. -/
def windowMakesSpec : ChangeSpec := { name := "windowMakes", fn := fun _ => fun
  | [d1, d2, d3, d4, d5, d6] => { results := [.lit (.bool true)], args := [d1, d2, d3, d4, d5, d6] }
  | _ => none }
def windowMakesRow : OpenClaim := { program := "ytgnfnbbdicnijaa", sum := "5c92b697b36d8807dc5e1fcd4ad337b0f04912c3d9870617cc3929b2e52d4e58", func := "signalbroker/signalbrokerlaw18.WindowMakes", spec := "windowMakes", apart := false }
def WindowMakesSaid : Prop := windowMakesRow.holds Try.pinned (OpenSpec.ofChange windowMakesSpec)

/-- ITS FALSE NEIGHBOUR: 'it returns false'. Refute it at one input. -/
def windowMakesWrong : ChangeSpec := { name := "windowMakes", fn := fun _ => fun
  | [d1, d2, d3, d4, d5, d6] => { results := [.lit (.bool false)], args := [d1, d2, d3, d4, d5, d6] }
  | _ => none }
def WindowMakesWrongFalsely : Prop := windowMakesRow.holds Try.pinned (OpenSpec.ofChange windowMakesWrong)

/- THE SECOND FORM. 'bulk': how many values and letters a reading holds, each counted each time it is reached (what is shared counts as often as it is met; a slice's spare places count too). A statement '..UptoSaid' is the law's where the arguments, and the package variables that the reading takes, are together of bulk at most 1048576: NARROWER than '..Said'. Prove '..Said' where nothing that the law and all that it calls make is longer than what came in: it says more and counts as full. Else prove '..UptoSaid'. A law counts once. -/
mutual
def uptoBulk {H : Type} : DataW H → Nat
  | .lit (.string bytes) => bytes.length + 1
  | .lit _ => 1
  | .nil => 1
  | .ptr d => uptoBulk d + 1
  | .slice elems spare => uptoBulkAll elems + uptoBulkAll spare + 1
  | .agg parts => uptoBulkAll parts + 1
  | .iface _ d => uptoBulk d + 1
  | .map entries => uptoBulkEntries entries + 1
  | .held _ => 1
def uptoBulkAll {H : Type} : List (DataW H) → Nat
  | [] => 0
  | d :: r => uptoBulk d + uptoBulkAll r
def uptoBulkEntries {H : Type} : List (Lit × DataW H) → Nat
  | [] => 0
  | x :: r => uptoBulkEntry x + uptoBulkEntries r
def uptoBulkEntry {H : Type} : Lit × DataW H → Nat
  | (.string bytes, d) => bytes.length + uptoBulk d + 1
  | (_, d) => uptoBulk d + 1
 end
def uptoSmall : (H : Type) → List (DataW H) → Bool := fun _ ds => decide (uptoBulkAll ds ≤ 1048576)
def OpenSpec.upto (s : _root_.Go.ChangeSpec) : _root_.Go.OpenSpec := { _root_.Go.OpenSpec.ofChange s with cond := some uptoSmall }

/-- 'signalbrokerlaw18.WindowSince', WHERE WHAT IT READS IS OF BULK AT MOST 1048576: true; the input reads as it did. -/
def windowSinceUptoRow : OpenClaim := { program := "ytgnfnbbdicnijaa", sum := "5c92b697b36d8807dc5e1fcd4ad337b0f04912c3d9870617cc3929b2e52d4e58", func := "signalbroker/signalbrokerlaw18.WindowSince", spec := "windowSince", apart := false, narrowed := true }
def WindowSinceUptoSaid : Prop := windowSinceUptoRow.holds Try.pinned (OpenSpec.upto windowSinceSpec)

/-- 'signalbrokerlaw18.WindowMakes', WHERE WHAT IT READS IS OF BULK AT MOST 1048576: true; the input reads as it did. -/
def windowMakesUptoRow : OpenClaim := { program := "ytgnfnbbdicnijaa", sum := "5c92b697b36d8807dc5e1fcd4ad337b0f04912c3d9870617cc3929b2e52d4e58", func := "signalbroker/signalbrokerlaw18.WindowMakes", spec := "windowMakes", apart := false, narrowed := true }
def WindowMakesUptoSaid : Prop := windowMakesUptoRow.holds Try.pinned (OpenSpec.upto windowMakesSpec)

end Rows
end Go.Proofs.Ytgnfnbbdicnijaa
