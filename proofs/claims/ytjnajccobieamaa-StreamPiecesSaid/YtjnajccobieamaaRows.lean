/-
  No cell of these rows narrows 'for every input' (looked for: loops, veiled, ifaces, maps, wideKeys, modest, calm, conditions, laid).
  DERIVED. THE GIVEN ROWS OF THIS SEAT. 6 by the template 'for every input the law returns true; each argument reads behind the call as it read before'; 0 by the template 'total and deterministic' (their statements: YtjnajccobieamaaTotals.lean).
  GIVEN WITH THE SEED: the statements are not yours to turn. If you find one false, say at which input.
  Laid BY PROGRAM, IN A SANDBOX (cutbox-rows.mjs): the forced cells as the released guide's own fill.sh prints them over the translation 29f457b14a8358ef… (all of the seat's roots in one cut). By AI agents, Wed Nov 11 2026. No macro, syntax, notation, axiom, sorry.
-/
import Derived.Test.YtjnajccobieamaaChecked
import GoSem.Claim
import GoSem.ClaimJoined
import GoSem.ClaimMapViews
import Derived.JoinedTies
import Derived.KernelRfl
namespace Go.Proofs.Ytjnajccobieamaa
/- THE CELL 'sum', in the pinned program and in every row, IS THE sha256 OF THE DUMP (.gsa) THAT YtjnajccobieamaaProg.lean LOADS. Nothing in Lean hashes anything: it is a label: what it is worth is what the hold of that sum in a sandbox is worth. -/
noncomputable def Try.pinned : Pinned := { name := "ytjnajccobieamaa", sum := "29f457b14a8358ef88904e6273586358b0df7344debafd26667631b4476fe3e7", checked := Try.checked }
namespace Rows
def none {H : Type} : Left H := { results := [], args := [] }

/-- 'signalbrokerlaw04.StreamFinds': WHATEVER THE INPUT: true; the input reads as it did. -/
def streamFindsSpec : ChangeSpec := { name := "streamFinds", fn := fun _ => fun
  | [d] => { results := [.lit (.bool true)], args := [d] }
  | _ => none }
def streamFindsRow : OpenClaim := { program := "ytjnajccobieamaa", sum := "29f457b14a8358ef88904e6273586358b0df7344debafd26667631b4476fe3e7", func := "signalbroker/signalbrokerlaw04.StreamFinds", spec := "streamFinds", unfollowed := true, recurses := true, apart := false }
def StreamFindsSaid : Prop := streamFindsRow.holds Try.pinned (OpenSpec.ofChange streamFindsSpec)

/-- ITS FALSE NEIGHBOUR: 'it returns false'. Refute it at one input. -/
def streamFindsWrong : ChangeSpec := { name := "streamFinds", fn := fun _ => fun
  | [d] => { results := [.lit (.bool false)], args := [d] }
  | _ => none }
def StreamFindsWrongFalsely : Prop := streamFindsRow.holds Try.pinned (OpenSpec.ofChange streamFindsWrong)

/-- 'signalbrokerlaw04.StreamOnce': WHATEVER THE INPUT: true; the input reads as it did. -/
def streamOnceSpec : ChangeSpec := { name := "streamOnce", fn := fun _ => fun
  | [d1, d2] => { results := [.lit (.bool true)], args := [d1, d2] }
  | _ => none }
def streamOnceRow : OpenClaim := { program := "ytjnajccobieamaa", sum := "29f457b14a8358ef88904e6273586358b0df7344debafd26667631b4476fe3e7", func := "signalbroker/signalbrokerlaw04.StreamOnce", spec := "streamOnce", unfollowed := true, recurses := true, apart := false }
def StreamOnceSaid : Prop := streamOnceRow.holds Try.pinned (OpenSpec.ofChange streamOnceSpec)

/-- ITS FALSE NEIGHBOUR: 'it returns false'. Refute it at one input. -/
def streamOnceWrong : ChangeSpec := { name := "streamOnce", fn := fun _ => fun
  | [d1, d2] => { results := [.lit (.bool false)], args := [d1, d2] }
  | _ => none }
def StreamOnceWrongFalsely : Prop := streamOnceRow.holds Try.pinned (OpenSpec.ofChange streamOnceWrong)

/-- 'signalbrokerlaw04.StreamTakes': WHATEVER THE INPUT: true; the input reads as it did. -/
def streamTakesSpec : ChangeSpec := { name := "streamTakes", fn := fun _ => fun
  | [d1, d2, d3] => { results := [.lit (.bool true)], args := [d1, d2, d3] }
  | _ => none }
def streamTakesRow : OpenClaim := { program := "ytjnajccobieamaa", sum := "29f457b14a8358ef88904e6273586358b0df7344debafd26667631b4476fe3e7", func := "signalbroker/signalbrokerlaw04.StreamTakes", spec := "streamTakes", unfollowed := true, recurses := true, apart := false }
def StreamTakesSaid : Prop := streamTakesRow.holds Try.pinned (OpenSpec.ofChange streamTakesSpec)

/-- ITS FALSE NEIGHBOUR: 'it returns false'. Refute it at one input. -/
def streamTakesWrong : ChangeSpec := { name := "streamTakes", fn := fun _ => fun
  | [d1, d2, d3] => { results := [.lit (.bool false)], args := [d1, d2, d3] }
  | _ => none }
def StreamTakesWrongFalsely : Prop := streamTakesRow.holds Try.pinned (OpenSpec.ofChange streamTakesWrong)

/-- 'signalbrokerlaw04.StreamSlow': WHATEVER THE INPUT: true; the input reads as it did. -/
def streamSlowSpec : ChangeSpec := { name := "streamSlow", fn := fun _ => fun
  | [d1, d2] => { results := [.lit (.bool true)], args := [d1, d2] }
  | _ => none }
def streamSlowRow : OpenClaim := { program := "ytjnajccobieamaa", sum := "29f457b14a8358ef88904e6273586358b0df7344debafd26667631b4476fe3e7", func := "signalbroker/signalbrokerlaw04.StreamSlow", spec := "streamSlow", unfollowed := true, recurses := true, apart := false }
def StreamSlowSaid : Prop := streamSlowRow.holds Try.pinned (OpenSpec.ofChange streamSlowSpec)

/-- ITS FALSE NEIGHBOUR: 'it returns false'. Refute it at one input. -/
def streamSlowWrong : ChangeSpec := { name := "streamSlow", fn := fun _ => fun
  | [d1, d2] => { results := [.lit (.bool false)], args := [d1, d2] }
  | _ => none }
def StreamSlowWrongFalsely : Prop := streamSlowRow.holds Try.pinned (OpenSpec.ofChange streamSlowWrong)

/-- 'signalbrokerlaw04.StreamPuts': WHATEVER THE INPUT: true; the input reads as it did. -/
def streamPutsSpec : ChangeSpec := { name := "streamPuts", fn := fun _ => fun
  | [d1, d2, d3, d4] => { results := [.lit (.bool true)], args := [d1, d2, d3, d4] }
  | _ => none }
def streamPutsRow : OpenClaim := { program := "ytjnajccobieamaa", sum := "29f457b14a8358ef88904e6273586358b0df7344debafd26667631b4476fe3e7", func := "signalbroker/signalbrokerlaw04.StreamPuts", spec := "streamPuts", unfollowed := true, recurses := true, apart := false }
def StreamPutsSaid : Prop := streamPutsRow.holds Try.pinned (OpenSpec.ofChange streamPutsSpec)

/-- ITS FALSE NEIGHBOUR: 'it returns false'. Refute it at one input. -/
def streamPutsWrong : ChangeSpec := { name := "streamPuts", fn := fun _ => fun
  | [d1, d2, d3, d4] => { results := [.lit (.bool false)], args := [d1, d2, d3, d4] }
  | _ => none }
def StreamPutsWrongFalsely : Prop := streamPutsRow.holds Try.pinned (OpenSpec.ofChange streamPutsWrong)

/-- 'signalbrokerlaw04.StreamPieces': WHATEVER THE INPUT: true; the input reads as it did. -/
def streamPiecesSpec : ChangeSpec := { name := "streamPieces", fn := fun _ => fun
  | [d1, d2] => { results := [.lit (.bool true)], args := [d1, d2] }
  | _ => none }
def streamPiecesRow : OpenClaim := { program := "ytjnajccobieamaa", sum := "29f457b14a8358ef88904e6273586358b0df7344debafd26667631b4476fe3e7", func := "signalbroker/signalbrokerlaw04.StreamPieces", spec := "streamPieces", unfollowed := true, recurses := true, apart := false }
def StreamPiecesSaid : Prop := streamPiecesRow.holds Try.pinned (OpenSpec.ofChange streamPiecesSpec)

/-- ITS FALSE NEIGHBOUR: 'it returns false'. Refute it at one input. -/
def streamPiecesWrong : ChangeSpec := { name := "streamPieces", fn := fun _ => fun
  | [d1, d2] => { results := [.lit (.bool false)], args := [d1, d2] }
  | _ => none }
def StreamPiecesWrongFalsely : Prop := streamPiecesRow.holds Try.pinned (OpenSpec.ofChange streamPiecesWrong)

/- THE SECOND FORM. 'bulk': how many values and letters a reading holds, each counted each time it is reached (what is shared counts as often as it is met; a slice's spare places count too). A statement '..UptoSaid' is the law's where the arguments, and the package variables that the reading takes, are together of bulk at most 1048576: NARROWER than '..Said'. Prove '..Said' where nothing that the law and all that it calls make is longer than what came in: it says more and counts as full. Else prove '..UptoSaid'. A law counts once. -/
mutual
def uptoBulk {H : Type} : DataW H → Nat
  | .lit (.string bytes) => bytes.length + 1
  | .lit _ => 1
  | .nil => 1
  | .ptr d => uptoBulk d + 1
  | .slice elems spare => uptoBulkAll elems + uptoBulkAll spare + 1
  | .agg parts => uptoBulkAll parts + 1
  | .iface _ d => uptoBulk d + 1
  | .map entries => uptoBulkEntries entries + 1
  | .held _ => 1
def uptoBulkAll {H : Type} : List (DataW H) → Nat
  | [] => 0
  | d :: r => uptoBulk d + uptoBulkAll r
def uptoBulkEntries {H : Type} : List (Lit × DataW H) → Nat
  | [] => 0
  | x :: r => uptoBulkEntry x + uptoBulkEntries r
def uptoBulkEntry {H : Type} : Lit × DataW H → Nat
  | (.string bytes, d) => bytes.length + uptoBulk d + 1
  | (_, d) => uptoBulk d + 1
 end
def uptoSmall : (H : Type) → List (DataW H) → Bool := fun _ ds => decide (uptoBulkAll ds ≤ 1048576)
def OpenSpec.upto (s : _root_.Go.ChangeSpec) : _root_.Go.OpenSpec := { _root_.Go.OpenSpec.ofChange s with cond := some uptoSmall }

/-- 'signalbrokerlaw04.StreamFinds', WHERE WHAT IT READS IS OF BULK AT MOST 1048576: true; the input reads as it did. -/
def streamFindsUptoRow : OpenClaim := { program := "ytjnajccobieamaa", sum := "29f457b14a8358ef88904e6273586358b0df7344debafd26667631b4476fe3e7", func := "signalbroker/signalbrokerlaw04.StreamFinds", spec := "streamFinds", unfollowed := true, recurses := true, apart := false, narrowed := true }
def StreamFindsUptoSaid : Prop := streamFindsUptoRow.holds Try.pinned (OpenSpec.upto streamFindsSpec)

/-- 'signalbrokerlaw04.StreamOnce', WHERE WHAT IT READS IS OF BULK AT MOST 1048576: true; the input reads as it did. -/
def streamOnceUptoRow : OpenClaim := { program := "ytjnajccobieamaa", sum := "29f457b14a8358ef88904e6273586358b0df7344debafd26667631b4476fe3e7", func := "signalbroker/signalbrokerlaw04.StreamOnce", spec := "streamOnce", unfollowed := true, recurses := true, apart := false, narrowed := true }
def StreamOnceUptoSaid : Prop := streamOnceUptoRow.holds Try.pinned (OpenSpec.upto streamOnceSpec)

/-- 'signalbrokerlaw04.StreamTakes', WHERE WHAT IT READS IS OF BULK AT MOST 1048576: true; the input reads as it did. -/
def streamTakesUptoRow : OpenClaim := { program := "ytjnajccobieamaa", sum := "29f457b14a8358ef88904e6273586358b0df7344debafd26667631b4476fe3e7", func := "signalbroker/signalbrokerlaw04.StreamTakes", spec := "streamTakes", unfollowed := true, recurses := true, apart := false, narrowed := true }
def StreamTakesUptoSaid : Prop := streamTakesUptoRow.holds Try.pinned (OpenSpec.upto streamTakesSpec)

/-- 'signalbrokerlaw04.StreamSlow', WHERE WHAT IT READS IS OF BULK AT MOST 1048576: true; the input reads as it did. -/
def streamSlowUptoRow : OpenClaim := { program := "ytjnajccobieamaa", sum := "29f457b14a8358ef88904e6273586358b0df7344debafd26667631b4476fe3e7", func := "signalbroker/signalbrokerlaw04.StreamSlow", spec := "streamSlow", unfollowed := true, recurses := true, apart := false, narrowed := true }
def StreamSlowUptoSaid : Prop := streamSlowUptoRow.holds Try.pinned (OpenSpec.upto streamSlowSpec)

/-- 'signalbrokerlaw04.StreamPuts', WHERE WHAT IT READS IS OF BULK AT MOST 1048576: true; the input reads as it did. -/
def streamPutsUptoRow : OpenClaim := { program := "ytjnajccobieamaa", sum := "29f457b14a8358ef88904e6273586358b0df7344debafd26667631b4476fe3e7", func := "signalbroker/signalbrokerlaw04.StreamPuts", spec := "streamPuts", unfollowed := true, recurses := true, apart := false, narrowed := true }
def StreamPutsUptoSaid : Prop := streamPutsUptoRow.holds Try.pinned (OpenSpec.upto streamPutsSpec)

/-- 'signalbrokerlaw04.StreamPieces', WHERE WHAT IT READS IS OF BULK AT MOST 1048576: true; the input reads as it did. -/
def streamPiecesUptoRow : OpenClaim := { program := "ytjnajccobieamaa", sum := "29f457b14a8358ef88904e6273586358b0df7344debafd26667631b4476fe3e7", func := "signalbroker/signalbrokerlaw04.StreamPieces", spec := "streamPieces", unfollowed := true, recurses := true, apart := false, narrowed := true }
def StreamPiecesUptoSaid : Prop := streamPiecesUptoRow.holds Try.pinned (OpenSpec.upto streamPiecesSpec)

end Rows
end Go.Proofs.Ytjnajccobieamaa
