/-
  No cell of these rows narrows 'for every input' (looked for: loops, veiled, ifaces, maps, wideKeys, modest, calm, conditions, laid).
  DERIVED. THE GIVEN ROWS OF THIS SEAT. 3 by the template 'for every input the law returns true; each argument reads behind the call as it read before'; 0 by the template 'total and deterministic' (their statements: YtpjnajallekjoaaTotals.lean).
  GIVEN WITH THE SEED: the statements are not yours to turn. If you find one false, say at which input.
  Laid BY PROGRAM, IN A SANDBOX (cutbox-rows.mjs): the forced cells as the released guide's own fill.sh prints them over the translation 7959fc6d43162226… (all of the seat's roots in one cut). By AI agents, Wed Nov 11 2026. No macro, syntax, notation, axiom, sorry.
-/
import Derived.Test.YtpjnajallekjoaaChecked
import GoSem.Claim
import GoSem.ClaimJoined
import GoSem.ClaimMapViews
import Derived.JoinedTies
import Derived.KernelRfl
namespace Go.Proofs.Ytpjnajallekjoaa
/- THE CELL 'sum', in the pinned program and in every row, IS THE sha256 OF THE DUMP (.gsa) THAT YtpjnajallekjoaaProg.lean LOADS. Nothing in Lean hashes anything: it is a label: what it is worth is what the hold of that sum in a sandbox is worth. -/
noncomputable def Try.pinned : Pinned := { name := "ytpjnajallekjoaa", sum := "7959fc6d43162226a3436118e5215597306a6d9a1510c8c532fb64d08cbc1bfb", checked := Try.checked }
namespace Rows
def none {H : Type} : Left H := { results := [], args := [] }

/-- 'signalbrokerlaw24.StatusGrants': WHATEVER THE INPUT: true; the input reads as it did. -/
def statusGrantsSpec : ChangeSpec := { name := "statusGrants", fn := fun _ => fun
  | [d1, d2, d3] => { results := [.lit (.bool true)], args := [d1, d2, d3] }
  | _ => none }
def statusGrantsRow : OpenClaim := { program := "ytpjnajallekjoaa", sum := "7959fc6d43162226a3436118e5215597306a6d9a1510c8c532fb64d08cbc1bfb", func := "signalbroker/signalbrokerlaw24.StatusGrants", spec := "statusGrants", apart := false }
def StatusGrantsSaid : Prop := statusGrantsRow.holds Try.pinned (OpenSpec.ofChange statusGrantsSpec)

/-- ITS FALSE NEIGHBOUR: 'it returns false'. Refute it at one input. -/
def statusGrantsWrong : ChangeSpec := { name := "statusGrants", fn := fun _ => fun
  | [d1, d2, d3] => { results := [.lit (.bool false)], args := [d1, d2, d3] }
  | _ => none }
def StatusGrantsWrongFalsely : Prop := statusGrantsRow.holds Try.pinned (OpenSpec.ofChange statusGrantsWrong)

/-- 'signalbrokerlaw24.StatusCodes': WHATEVER THE INPUT: true; the input reads as it did. -/
def statusCodesSpec : ChangeSpec := { name := "statusCodes", fn := fun _ => fun
  | [d1, d2, d3, d4, d5] => { results := [.lit (.bool true)], args := [d1, d2, d3, d4, d5] }
  | _ => none }
def statusCodesRow : OpenClaim := { program := "ytpjnajallekjoaa", sum := "7959fc6d43162226a3436118e5215597306a6d9a1510c8c532fb64d08cbc1bfb", func := "signalbroker/signalbrokerlaw24.StatusCodes", spec := "statusCodes", apart := false }
def StatusCodesSaid : Prop := statusCodesRow.holds Try.pinned (OpenSpec.ofChange statusCodesSpec)

/-- ITS FALSE NEIGHBOUR: 'it returns false'. Refute it at one input. -/
def statusCodesWrong : ChangeSpec := { name := "statusCodes", fn := fun _ => fun
  | [d1, d2, d3, d4, d5] => { results := [.lit (.bool false)], args := [d1, d2, d3, d4, d5] }
  | _ => none }
def StatusCodesWrongFalsely : Prop := statusCodesRow.holds Try.pinned (OpenSpec.ofChange statusCodesWrong)

/-- 'signalbrokerlaw24.StatusWidth': WHATEVER THE INPUT: true; the input reads as it did. -/
def statusWidthSpec : ChangeSpec := { name := "statusWidth", fn := fun _ => fun
  | [d1, d2, d3, d4, d5] => { results := [.lit (.bool true)], args := [d1, d2, d3, d4, d5] }
  | _ => none }
def statusWidthRow : OpenClaim := { program := "ytpjnajallekjoaa", sum := "7959fc6d43162226a3436118e5215597306a6d9a1510c8c532fb64d08cbc1bfb", func := "signalbroker/signalbrokerlaw24.StatusWidth", spec := "statusWidth", apart := false }
def StatusWidthSaid : Prop := statusWidthRow.holds Try.pinned (OpenSpec.ofChange statusWidthSpec)

/-- ITS FALSE NEIGHBOUR: 'it returns false'. Refute it at one input. -/
def statusWidthWrong : ChangeSpec := { name := "statusWidth", fn := fun _ => fun
  | [d1, d2, d3, d4, d5] => { results := [.lit (.bool false)], args := [d1, d2, d3, d4, d5] }
  | _ => none }
def StatusWidthWrongFalsely : Prop := statusWidthRow.holds Try.pinned (OpenSpec.ofChange statusWidthWrong)

/- THE SECOND FORM. 'bulk': how many values and letters a reading holds, each counted each time it is reached (what is shared counts as often as it is met; a slice's spare places count too). A statement '..UptoSaid' is the law's where the arguments, and the package variables that the reading takes, are together of bulk at most 1048576: NARROWER than '..Said'. Prove '..Said' where nothing that the law and all that it calls make is longer than what came in: it says more and counts as full. Else prove '..UptoSaid'. A law counts once. -/
mutual
def uptoBulk {H : Type} : DataW H → Nat
  | .lit (.string bytes) => bytes.length + 1
  | .lit _ => 1
  | .nil => 1
  | .ptr d => uptoBulk d + 1
  | .slice elems spare => uptoBulkAll elems + uptoBulkAll spare + 1
  | .agg parts => uptoBulkAll parts + 1
  | .iface _ d => uptoBulk d + 1
  | .map entries => uptoBulkEntries entries + 1
  | .held _ => 1
def uptoBulkAll {H : Type} : List (DataW H) → Nat
  | [] => 0
  | d :: r => uptoBulk d + uptoBulkAll r
def uptoBulkEntries {H : Type} : List (Lit × DataW H) → Nat
  | [] => 0
  | x :: r => uptoBulkEntry x + uptoBulkEntries r
def uptoBulkEntry {H : Type} : Lit × DataW H → Nat
  | (.string bytes, d) => bytes.length + uptoBulk d + 1
  | (_, d) => uptoBulk d + 1
 end
def uptoSmall : (H : Type) → List (DataW H) → Bool := fun _ ds => decide (uptoBulkAll ds ≤ 1048576)
def OpenSpec.upto (s : _root_.Go.ChangeSpec) : _root_.Go.OpenSpec := { _root_.Go.OpenSpec.ofChange s with cond := some uptoSmall }

/-- 'signalbrokerlaw24.StatusGrants', WHERE WHAT IT READS IS OF BULK AT MOST 1048576: true; the input reads as it did. -/
def statusGrantsUptoRow : OpenClaim := { program := "ytpjnajallekjoaa", sum := "7959fc6d43162226a3436118e5215597306a6d9a1510c8c532fb64d08cbc1bfb", func := "signalbroker/signalbrokerlaw24.StatusGrants", spec := "statusGrants", apart := false, narrowed := true }
def StatusGrantsUptoSaid : Prop := statusGrantsUptoRow.holds Try.pinned (OpenSpec.upto statusGrantsSpec)

/-- 'signalbrokerlaw24.StatusCodes', WHERE WHAT IT READS IS OF BULK AT MOST 1048576: true; the input reads as it did. -/
def statusCodesUptoRow : OpenClaim := { program := "ytpjnajallekjoaa", sum := "7959fc6d43162226a3436118e5215597306a6d9a1510c8c532fb64d08cbc1bfb", func := "signalbroker/signalbrokerlaw24.StatusCodes", spec := "statusCodes", apart := false, narrowed := true }
def StatusCodesUptoSaid : Prop := statusCodesUptoRow.holds Try.pinned (OpenSpec.upto statusCodesSpec)

/-- 'signalbrokerlaw24.StatusWidth', WHERE WHAT IT READS IS OF BULK AT MOST 1048576: true; the input reads as it did. -/
def statusWidthUptoRow : OpenClaim := { program := "ytpjnajallekjoaa", sum := "7959fc6d43162226a3436118e5215597306a6d9a1510c8c532fb64d08cbc1bfb", func := "signalbroker/signalbrokerlaw24.StatusWidth", spec := "statusWidth", apart := false, narrowed := true }
def StatusWidthUptoSaid : Prop := statusWidthUptoRow.holds Try.pinned (OpenSpec.upto statusWidthSpec)

end Rows
end Go.Proofs.Ytpjnajallekjoaa
