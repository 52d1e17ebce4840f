/-
  No cell of these rows narrows 'for every input' (looked for: loops, veiled, ifaces, maps, wideKeys, modest, calm, conditions, laid).
  DERIVED. THE GIVEN ROWS OF THIS SEAT. 4 by the template 'for every input the law returns true; each argument reads behind the call as it read before'; 0 by the template 'total and deterministic' (their statements: YtlfccoakodnbaaaTotals.lean).
  GIVEN WITH THE SEED: the statements are not yours to turn. If you find one false, say at which input.
  Laid BY PROGRAM, IN A SANDBOX (cutbox-rows.mjs): the forced cells as the released guide's own fill.sh prints them over the translation e34f00e30be12cb1… (all of the seat's roots in one cut). By AI agents, Wed Nov 11 2026. No macro, syntax, notation, axiom, sorry.
-/
import Derived.Test.YtlfccoakodnbaaaChecked
import GoSem.Claim
import GoSem.ClaimJoined
import GoSem.ClaimMapViews
import Derived.JoinedTies
import Derived.KernelRfl
namespace Go.Proofs.Ytlfccoakodnbaaa
/- THE CELL 'sum', in the pinned program and in every row, IS THE sha256 OF THE DUMP (.gsa) THAT YtlfccoakodnbaaaProg.lean LOADS. Nothing in Lean hashes anything: it is a label: what it is worth is what the hold of that sum in a sandbox is worth. -/
noncomputable def Try.pinned : Pinned := { name := "ytlfccoakodnbaaa", sum := "e34f00e30be12cb112d76cb900d26cbd4909cc183ec01a9d4cf4d770e71c78c4", checked := Try.checked }
namespace Rows
def none {H : Type} : Left H := { results := [], args := [] }

/-- 'signalbrokerlaw25.InboxWaits': WHATEVER THE INPUT: true; the input reads as it did. -/
def inboxWaitsSpec : ChangeSpec := { name := "inboxWaits", fn := fun _ => fun
  | [d] => { results := [.lit (.bool true)], args := [d] }
  | _ => none }
def inboxWaitsRow : OpenClaim := { program := "ytlfccoakodnbaaa", sum := "e34f00e30be12cb112d76cb900d26cbd4909cc183ec01a9d4cf4d770e71c78c4", func := "signalbroker/signalbrokerlaw25.InboxWaits", spec := "inboxWaits", unfollowed := true, recurses := true, apart := false }
def InboxWaitsSaid : Prop := inboxWaitsRow.holds Try.pinned (OpenSpec.ofChange inboxWaitsSpec)

/-- ITS FALSE NEIGHBOUR: 'it returns false'. Refute it at one input. -/
def inboxWaitsWrong : ChangeSpec := { name := "inboxWaits", fn := fun _ => fun
  | [d] => { results := [.lit (.bool false)], args := [d] }
  | _ => none }
def InboxWaitsWrongFalsely : Prop := inboxWaitsRow.holds Try.pinned (OpenSpec.ofChange inboxWaitsWrong)

/-- 'signalbrokerlaw25.InboxPieces': WHATEVER THE INPUT: true; the input reads as it did. -/
def inboxPiecesSpec : ChangeSpec := { name := "inboxPieces", fn := fun _ => fun
  | [d1, d2] => { results := [.lit (.bool true)], args := [d1, d2] }
  | _ => none }
def inboxPiecesRow : OpenClaim := { program := "ytlfccoakodnbaaa", sum := "e34f00e30be12cb112d76cb900d26cbd4909cc183ec01a9d4cf4d770e71c78c4", func := "signalbroker/signalbrokerlaw25.InboxPieces", spec := "inboxPieces", unfollowed := true, recurses := true, apart := false }
def InboxPiecesSaid : Prop := inboxPiecesRow.holds Try.pinned (OpenSpec.ofChange inboxPiecesSpec)

/-- ITS FALSE NEIGHBOUR: 'it returns false'. Refute it at one input. -/
def inboxPiecesWrong : ChangeSpec := { name := "inboxPieces", fn := fun _ => fun
  | [d1, d2] => { results := [.lit (.bool false)], args := [d1, d2] }
  | _ => none }
def InboxPiecesWrongFalsely : Prop := inboxPiecesRow.holds Try.pinned (OpenSpec.ofChange inboxPiecesWrong)

/-- 'signalbrokerlaw25.InboxTold': WHATEVER THE INPUT: true; the input reads as it did. -/
def inboxToldSpec : ChangeSpec := { name := "inboxTold", fn := fun _ => fun
  | [d] => { results := [.lit (.bool true)], args := [d] }
  | _ => none }
def inboxToldRow : OpenClaim := { program := "ytlfccoakodnbaaa", sum := "e34f00e30be12cb112d76cb900d26cbd4909cc183ec01a9d4cf4d770e71c78c4", func := "signalbroker/signalbrokerlaw25.InboxTold", spec := "inboxTold", unfollowed := true, recurses := true, apart := false }
def InboxToldSaid : Prop := inboxToldRow.holds Try.pinned (OpenSpec.ofChange inboxToldSpec)

/-- ITS FALSE NEIGHBOUR: 'it returns false'. Refute it at one input. -/
def inboxToldWrong : ChangeSpec := { name := "inboxTold", fn := fun _ => fun
  | [d] => { results := [.lit (.bool false)], args := [d] }
  | _ => none }
def InboxToldWrongFalsely : Prop := inboxToldRow.holds Try.pinned (OpenSpec.ofChange inboxToldWrong)

/-- 'signalbrokerlaw25.InboxSteps': WHATEVER THE INPUT: true; the input reads as it did. -/
def inboxStepsSpec : ChangeSpec := { name := "inboxSteps", fn := fun _ => fun
  | [d1, d2, d3] => { results := [.lit (.bool true)], args := [d1, d2, d3] }
  | _ => none }
def inboxStepsRow : OpenClaim := { program := "ytlfccoakodnbaaa", sum := "e34f00e30be12cb112d76cb900d26cbd4909cc183ec01a9d4cf4d770e71c78c4", func := "signalbroker/signalbrokerlaw25.InboxSteps", spec := "inboxSteps", unfollowed := true, recurses := true, apart := false }
def InboxStepsSaid : Prop := inboxStepsRow.holds Try.pinned (OpenSpec.ofChange inboxStepsSpec)

/-- ITS FALSE NEIGHBOUR: 'it returns false'. Refute it at one input. -/
def inboxStepsWrong : ChangeSpec := { name := "inboxSteps", fn := fun _ => fun
  | [d1, d2, d3] => { results := [.lit (.bool false)], args := [d1, d2, d3] }
  | _ => none }
def InboxStepsWrongFalsely : Prop := inboxStepsRow.holds Try.pinned (OpenSpec.ofChange inboxStepsWrong)

/- THE SECOND FORM. 'bulk': how many values and letters a reading holds, each counted each time it is reached (what is shared counts as often as it is met; a slice's spare places count too). A statement '..UptoSaid' is the law's where the arguments, and the package variables that the reading takes, are together of bulk at most 1048576: NARROWER than '..Said'. Prove '..Said' where nothing that the law and all that it calls make is longer than what came in: it says more and counts as full. Else prove '..UptoSaid'. A law counts once. -/
mutual
def uptoBulk {H : Type} : DataW H → Nat
  | .lit (.string bytes) => bytes.length + 1
  | .lit _ => 1
  | .nil => 1
  | .ptr d => uptoBulk d + 1
  | .slice elems spare => uptoBulkAll elems + uptoBulkAll spare + 1
  | .agg parts => uptoBulkAll parts + 1
  | .iface _ d => uptoBulk d + 1
  | .map entries => uptoBulkEntries entries + 1
  | .held _ => 1
def uptoBulkAll {H : Type} : List (DataW H) → Nat
  | [] => 0
  | d :: r => uptoBulk d + uptoBulkAll r
def uptoBulkEntries {H : Type} : List (Lit × DataW H) → Nat
  | [] => 0
  | x :: r => uptoBulkEntry x + uptoBulkEntries r
def uptoBulkEntry {H : Type} : Lit × DataW H → Nat
  | (.string bytes, d) => bytes.length + uptoBulk d + 1
  | (_, d) => uptoBulk d + 1
 end
def uptoSmall : (H : Type) → List (DataW H) → Bool := fun _ ds => decide (uptoBulkAll ds ≤ 1048576)
def OpenSpec.upto (s : _root_.Go.ChangeSpec) : _root_.Go.OpenSpec := { _root_.Go.OpenSpec.ofChange s with cond := some uptoSmall }

/-- 'signalbrokerlaw25.InboxWaits', WHERE WHAT IT READS IS OF BULK AT MOST 1048576: true; the input reads as it did. -/
def inboxWaitsUptoRow : OpenClaim := { program := "ytlfccoakodnbaaa", sum := "e34f00e30be12cb112d76cb900d26cbd4909cc183ec01a9d4cf4d770e71c78c4", func := "signalbroker/signalbrokerlaw25.InboxWaits", spec := "inboxWaits", unfollowed := true, recurses := true, apart := false, narrowed := true }
def InboxWaitsUptoSaid : Prop := inboxWaitsUptoRow.holds Try.pinned (OpenSpec.upto inboxWaitsSpec)

/-- 'signalbrokerlaw25.InboxPieces', WHERE WHAT IT READS IS OF BULK AT MOST 1048576: true; the input reads as it did. -/
def inboxPiecesUptoRow : OpenClaim := { program := "ytlfccoakodnbaaa", sum := "e34f00e30be12cb112d76cb900d26cbd4909cc183ec01a9d4cf4d770e71c78c4", func := "signalbroker/signalbrokerlaw25.InboxPieces", spec := "inboxPieces", unfollowed := true, recurses := true, apart := false, narrowed := true }
def InboxPiecesUptoSaid : Prop := inboxPiecesUptoRow.holds Try.pinned (OpenSpec.upto inboxPiecesSpec)

/-- 'signalbrokerlaw25.InboxTold', WHERE WHAT IT READS IS OF BULK AT MOST 1048576: true; the input reads as it did. -/
def inboxToldUptoRow : OpenClaim := { program := "ytlfccoakodnbaaa", sum := "e34f00e30be12cb112d76cb900d26cbd4909cc183ec01a9d4cf4d770e71c78c4", func := "signalbroker/signalbrokerlaw25.InboxTold", spec := "inboxTold", unfollowed := true, recurses := true, apart := false, narrowed := true }
def InboxToldUptoSaid : Prop := inboxToldUptoRow.holds Try.pinned (OpenSpec.upto inboxToldSpec)

/-- 'signalbrokerlaw25.InboxSteps', WHERE WHAT IT READS IS OF BULK AT MOST 1048576: true; the input reads as it did. -/
def inboxStepsUptoRow : OpenClaim := { program := "ytlfccoakodnbaaa", sum := "e34f00e30be12cb112d76cb900d26cbd4909cc183ec01a9d4cf4d770e71c78c4", func := "signalbroker/signalbrokerlaw25.InboxSteps", spec := "inboxSteps", unfollowed := true, recurses := true, apart := false, narrowed := true }
def InboxStepsUptoSaid : Prop := inboxStepsUptoRow.holds Try.pinned (OpenSpec.upto inboxStepsSpec)

end Rows
end Go.Proofs.Ytlfccoakodnbaaa
