/-
  No cell of these rows narrows 'for every input' (looked for: loops, veiled, ifaces, maps, wideKeys, modest, calm, conditions, laid).
  DERIVED. THE GIVEN ROWS OF THIS SEAT. 5 by the template 'for every input the law returns true; each argument reads behind the call as it read before'; 0 by the template 'total and deterministic' (their statements: YtbanejpihdhbdaaTotals.lean).
  GIVEN WITH THE SEED: the statements are not yours to turn. If you find one false, say at which input.
  Laid BY PROGRAM, IN A SANDBOX (cutbox-rows.mjs): the forced cells as the released guide's own fill.sh prints them over the translation 444b8c40afda1bf5… (all of the seat's roots in one cut). By AI agents, Wed Nov 11 2026. No macro, syntax, notation, axiom, sorry.
-/
import Derived.Test.YtbanejpihdhbdaaChecked
import GoSem.Claim
import GoSem.ClaimJoined
import GoSem.ClaimMapViews
import Derived.JoinedTies
import Derived.KernelRfl
namespace Go.Proofs.Ytbanejpihdhbdaa
/- THE CELL 'sum', in the pinned program and in every row, IS THE sha256 OF THE DUMP (.gsa) THAT YtbanejpihdhbdaaProg.lean LOADS. Nothing in Lean hashes anything: it is a label: what it is worth is what the hold of that sum in a sandbox is worth. -/
noncomputable def Try.pinned : Pinned := { name := "ytbanejpihdhbdaa", sum := "444b8c40afda1bf557a830de7f742279885cae402ffe6984941c3fe64215d426", checked := Try.checked }
namespace Rows
def none {H : Type} : Left H := { results := [], args := [] }

/-- 'signalbrokerlaw19.RequestOrder': WHATEVER THE INPUT: true; the input reads as it did. -/
def requestOrderSpec : ChangeSpec := { name := "requestOrder", fn := fun _ => fun
  | [d1, d2, d3] => { results := [.lit (.bool true)], args := [d1, d2, d3] }
  | _ => none }
def requestOrderRow : OpenClaim := { program := "ytbanejpihdhbdaa", sum := "444b8c40afda1bf557a830de7f742279885cae402ffe6984941c3fe64215d426", func := "signalbroker/signalbrokerlaw19.RequestOrder", spec := "requestOrder", inPlace := ["slices.overlaps[signalbroker/api.Request]"], unfollowed := true, recurses := true, apart := false }
def RequestOrderSaid : Prop := requestOrderRow.holds Try.pinned (OpenSpec.ofChange requestOrderSpec)

/-- ITS FALSE NEIGHBOUR: 'it returns false'. Refute it at one input. -/
def requestOrderWrong : ChangeSpec := { name := "requestOrder", fn := fun _ => fun
  | [d1, d2, d3] => { results := [.lit (.bool false)], args := [d1, d2, d3] }
  | _ => none }
def RequestOrderWrongFalsely : Prop := requestOrderRow.holds Try.pinned (OpenSpec.ofChange requestOrderWrong)

/-- 'signalbrokerlaw19.RequestClaims': WHATEVER THE INPUT: true; the input reads as it did. -/
def requestClaimsSpec : ChangeSpec := { name := "requestClaims", fn := fun _ => fun
  | [d1, d2, d3, d4] => { results := [.lit (.bool true)], args := [d1, d2, d3, d4] }
  | _ => none }
def requestClaimsRow : OpenClaim := { program := "ytbanejpihdhbdaa", sum := "444b8c40afda1bf557a830de7f742279885cae402ffe6984941c3fe64215d426", func := "signalbroker/signalbrokerlaw19.RequestClaims", spec := "requestClaims", inPlace := ["slices.overlaps[signalbroker/api.Request]"], unfollowed := true, recurses := true, apart := false }
def RequestClaimsSaid : Prop := requestClaimsRow.holds Try.pinned (OpenSpec.ofChange requestClaimsSpec)

/-- ITS FALSE NEIGHBOUR: 'it returns false'. Refute it at one input. -/
def requestClaimsWrong : ChangeSpec := { name := "requestClaims", fn := fun _ => fun
  | [d1, d2, d3, d4] => { results := [.lit (.bool false)], args := [d1, d2, d3, d4] }
  | _ => none }
def RequestClaimsWrongFalsely : Prop := requestClaimsRow.holds Try.pinned (OpenSpec.ofChange requestClaimsWrong)

/-- 'signalbrokerlaw19.RequestChanges': WHATEVER THE INPUT: true; the input reads as it did. -/
def requestChangesSpec : ChangeSpec := { name := "requestChanges", fn := fun _ => fun
  | [d1, d2, d3, d4, d5, d6, d7, d8, d9] => { results := [.lit (.bool true)], args := [d1, d2, d3, d4, d5, d6, d7, d8, d9] }
  | _ => none }
def requestChangesRow : OpenClaim := { program := "ytbanejpihdhbdaa", sum := "444b8c40afda1bf557a830de7f742279885cae402ffe6984941c3fe64215d426", func := "signalbroker/signalbrokerlaw19.RequestChanges", spec := "requestChanges", inPlace := ["slices.overlaps[signalbroker/api.Request]"], unfollowed := true, recurses := true, apart := false }
def RequestChangesSaid : Prop := requestChangesRow.holds Try.pinned (OpenSpec.ofChange requestChangesSpec)

/-- ITS FALSE NEIGHBOUR: 'it returns false'. Refute it at one input. -/
def requestChangesWrong : ChangeSpec := { name := "requestChanges", fn := fun _ => fun
  | [d1, d2, d3, d4, d5, d6, d7, d8, d9] => { results := [.lit (.bool false)], args := [d1, d2, d3, d4, d5, d6, d7, d8, d9] }
  | _ => none }
def RequestChangesWrongFalsely : Prop := requestChangesRow.holds Try.pinned (OpenSpec.ofChange requestChangesWrong)

/-- 'signalbrokerlaw19.RequestLists': WHATEVER THE INPUT: true; the input reads as it did. -/
def requestListsSpec : ChangeSpec := { name := "requestLists", fn := fun _ => fun
  | [d1, d2, d3, d4, d5, d6] => { results := [.lit (.bool true)], args := [d1, d2, d3, d4, d5, d6] }
  | _ => none }
def requestListsRow : OpenClaim := { program := "ytbanejpihdhbdaa", sum := "444b8c40afda1bf557a830de7f742279885cae402ffe6984941c3fe64215d426", func := "signalbroker/signalbrokerlaw19.RequestLists", spec := "requestLists", inPlace := ["slices.overlaps[signalbroker/api.Request]"], unfollowed := true, recurses := true, apart := false }
def RequestListsSaid : Prop := requestListsRow.holds Try.pinned (OpenSpec.ofChange requestListsSpec)

/-- ITS FALSE NEIGHBOUR: 'it returns false'. Refute it at one input. -/
def requestListsWrong : ChangeSpec := { name := "requestLists", fn := fun _ => fun
  | [d1, d2, d3, d4, d5, d6] => { results := [.lit (.bool false)], args := [d1, d2, d3, d4, d5, d6] }
  | _ => none }
def RequestListsWrongFalsely : Prop := requestListsRow.holds Try.pinned (OpenSpec.ofChange requestListsWrong)

/-- 'signalbrokerlaw19.RequestKeeps': WHATEVER THE INPUT: true; the input reads as it did. -/
def requestKeepsSpec : ChangeSpec := { name := "requestKeeps", fn := fun _ => fun
  | [d1, d2, d3, d4] => { results := [.lit (.bool true)], args := [d1, d2, d3, d4] }
  | _ => none }
def requestKeepsRow : OpenClaim := { program := "ytbanejpihdhbdaa", sum := "444b8c40afda1bf557a830de7f742279885cae402ffe6984941c3fe64215d426", func := "signalbroker/signalbrokerlaw19.RequestKeeps", spec := "requestKeeps", inPlace := ["slices.overlaps[signalbroker/api.Request]"], unfollowed := true, recurses := true, apart := false }
def RequestKeepsSaid : Prop := requestKeepsRow.holds Try.pinned (OpenSpec.ofChange requestKeepsSpec)

/-- ITS FALSE NEIGHBOUR: 'it returns false'. Refute it at one input. -/
def requestKeepsWrong : ChangeSpec := { name := "requestKeeps", fn := fun _ => fun
  | [d1, d2, d3, d4] => { results := [.lit (.bool false)], args := [d1, d2, d3, d4] }
  | _ => none }
def RequestKeepsWrongFalsely : Prop := requestKeepsRow.holds Try.pinned (OpenSpec.ofChange requestKeepsWrong)

/- THE SECOND FORM. 'bulk': how many values and letters a reading holds, each counted each time it is reached (what is shared counts as often as it is met; a slice's spare places count too). A statement '..UptoSaid' is the law's where the arguments, and the package variables that the reading takes, are together of bulk at most 1048576: NARROWER than '..Said'. Prove '..Said' where nothing that the law and all that it calls make is longer than what came in: it says more and counts as full. Else prove '..UptoSaid'. A law counts once. -/
mutual
def uptoBulk {H : Type} : DataW H → Nat
  | .lit (.string bytes) => bytes.length + 1
  | .lit _ => 1
  | .nil => 1
  | .ptr d => uptoBulk d + 1
  | .slice elems spare => uptoBulkAll elems + uptoBulkAll spare + 1
  | .agg parts => uptoBulkAll parts + 1
  | .iface _ d => uptoBulk d + 1
  | .map entries => uptoBulkEntries entries + 1
  | .held _ => 1
def uptoBulkAll {H : Type} : List (DataW H) → Nat
  | [] => 0
  | d :: r => uptoBulk d + uptoBulkAll r
def uptoBulkEntries {H : Type} : List (Lit × DataW H) → Nat
  | [] => 0
  | x :: r => uptoBulkEntry x + uptoBulkEntries r
def uptoBulkEntry {H : Type} : Lit × DataW H → Nat
  | (.string bytes, d) => bytes.length + uptoBulk d + 1
  | (_, d) => uptoBulk d + 1
 end
def uptoSmall : (H : Type) → List (DataW H) → Bool := fun _ ds => decide (uptoBulkAll ds ≤ 1048576)
def OpenSpec.upto (s : _root_.Go.ChangeSpec) : _root_.Go.OpenSpec := { _root_.Go.OpenSpec.ofChange s with cond := some uptoSmall }

/-- 'signalbrokerlaw19.RequestOrder', WHERE WHAT IT READS IS OF BULK AT MOST 1048576: true; the input reads as it did. -/
def requestOrderUptoRow : OpenClaim := { program := "ytbanejpihdhbdaa", sum := "444b8c40afda1bf557a830de7f742279885cae402ffe6984941c3fe64215d426", func := "signalbroker/signalbrokerlaw19.RequestOrder", spec := "requestOrder", inPlace := ["slices.overlaps[signalbroker/api.Request]"], unfollowed := true, recurses := true, apart := false, narrowed := true }
def RequestOrderUptoSaid : Prop := requestOrderUptoRow.holds Try.pinned (OpenSpec.upto requestOrderSpec)

/-- 'signalbrokerlaw19.RequestClaims', WHERE WHAT IT READS IS OF BULK AT MOST 1048576: true; the input reads as it did. -/
def requestClaimsUptoRow : OpenClaim := { program := "ytbanejpihdhbdaa", sum := "444b8c40afda1bf557a830de7f742279885cae402ffe6984941c3fe64215d426", func := "signalbroker/signalbrokerlaw19.RequestClaims", spec := "requestClaims", inPlace := ["slices.overlaps[signalbroker/api.Request]"], unfollowed := true, recurses := true, apart := false, narrowed := true }
def RequestClaimsUptoSaid : Prop := requestClaimsUptoRow.holds Try.pinned (OpenSpec.upto requestClaimsSpec)

/-- 'signalbrokerlaw19.RequestChanges', WHERE WHAT IT READS IS OF BULK AT MOST 1048576: true; the input reads as it did. -/
def requestChangesUptoRow : OpenClaim := { program := "ytbanejpihdhbdaa", sum := "444b8c40afda1bf557a830de7f742279885cae402ffe6984941c3fe64215d426", func := "signalbroker/signalbrokerlaw19.RequestChanges", spec := "requestChanges", inPlace := ["slices.overlaps[signalbroker/api.Request]"], unfollowed := true, recurses := true, apart := false, narrowed := true }
def RequestChangesUptoSaid : Prop := requestChangesUptoRow.holds Try.pinned (OpenSpec.upto requestChangesSpec)

/-- 'signalbrokerlaw19.RequestLists', WHERE WHAT IT READS IS OF BULK AT MOST 1048576: true; the input reads as it did. -/
def requestListsUptoRow : OpenClaim := { program := "ytbanejpihdhbdaa", sum := "444b8c40afda1bf557a830de7f742279885cae402ffe6984941c3fe64215d426", func := "signalbroker/signalbrokerlaw19.RequestLists", spec := "requestLists", inPlace := ["slices.overlaps[signalbroker/api.Request]"], unfollowed := true, recurses := true, apart := false, narrowed := true }
def RequestListsUptoSaid : Prop := requestListsUptoRow.holds Try.pinned (OpenSpec.upto requestListsSpec)

/-- 'signalbrokerlaw19.RequestKeeps', WHERE WHAT IT READS IS OF BULK AT MOST 1048576: true; the input reads as it did. -/
def requestKeepsUptoRow : OpenClaim := { program := "ytbanejpihdhbdaa", sum := "444b8c40afda1bf557a830de7f742279885cae402ffe6984941c3fe64215d426", func := "signalbroker/signalbrokerlaw19.RequestKeeps", spec := "requestKeeps", inPlace := ["slices.overlaps[signalbroker/api.Request]"], unfollowed := true, recurses := true, apart := false, narrowed := true }
def RequestKeepsUptoSaid : Prop := requestKeepsUptoRow.holds Try.pinned (OpenSpec.upto requestKeepsSpec)

end Rows
end Go.Proofs.Ytbanejpihdhbdaa
