/-
  No cell of these rows narrows 'for every input' (looked for: loops, veiled, ifaces, maps, wideKeys, modest, calm, conditions, laid).
  DERIVED. THE GIVEN ROWS OF THIS SEAT. 5 by the template 'for every input the law returns true; each argument reads behind the call as it read before'; 0 by the template 'total and deterministic' (their statements: YtdkifkbnkedbpaaTotals.lean).
  GIVEN WITH THE SEED: the statements are not yours to turn. If you find one false, say at which input.
  Laid BY PROGRAM, IN A SANDBOX (cutbox-rows.mjs): the forced cells as the released guide's own fill.sh prints them over the translation 880e5279aff9ed6c… (all of the seat's roots in one cut). By AI agents, Wed Nov 11 2026. No macro, syntax, notation, axiom, sorry.
-/
import Derived.Test.YtdkifkbnkedbpaaChecked
import GoSem.Claim
import GoSem.ClaimJoined
import GoSem.ClaimMapViews
import Derived.JoinedTies
import Derived.KernelRfl
namespace Go.Proofs.Ytdkifkbnkedbpaa
/- THE CELL 'sum', in the pinned program and in every row, IS THE sha256 OF THE DUMP (.gsa) THAT YtdkifkbnkedbpaaProg.lean LOADS. Nothing in Lean hashes anything: it is a label: what it is worth is what the hold of that sum in a sandbox is worth. -/
noncomputable def Try.pinned : Pinned := { name := "ytdkifkbnkedbpaa", sum := "880e5279aff9ed6cde9ea68ab6bcf3355e954c76434614542d8b17c705a6f5dc", checked := Try.checked }
namespace Rows
def none {H : Type} : Left H := { results := [], args := [] }

/-- 'signalbrokerlaw23.RecordReads': WHATEVER THE INPUT: true; the input reads as it did. -/
def recordReadsSpec : ChangeSpec := { name := "recordReads", fn := fun _ => fun
  | [d1, d2, d3, d4, d5] => { results := [.lit (.bool true)], args := [d1, d2, d3, d4, d5] }
  | _ => none }
def recordReadsRow : OpenClaim := { program := "ytdkifkbnkedbpaa", sum := "880e5279aff9ed6cde9ea68ab6bcf3355e954c76434614542d8b17c705a6f5dc", func := "signalbroker/signalbrokerlaw23.RecordReads", spec := "recordReads", apart := false }
def RecordReadsSaid : Prop := recordReadsRow.holds Try.pinned (OpenSpec.ofChange recordReadsSpec)

/-- ITS FALSE NEIGHBOUR: 'it returns false'. Refute it at one input. -/
def recordReadsWrong : ChangeSpec := { name := "recordReads", fn := fun _ => fun
  | [d1, d2, d3, d4, d5] => { results := [.lit (.bool false)], args := [d1, d2, d3, d4, d5] }
  | _ => none }
def RecordReadsWrongFalsely : Prop := recordReadsRow.holds Try.pinned (OpenSpec.ofChange recordReadsWrong)

/-- 'signalbrokerlaw23.RecordViews': WHATEVER THE INPUT: true; the input reads as it did. -/
def recordViewsSpec : ChangeSpec := { name := "recordViews", fn := fun _ => fun
  | [d1, d2] => { results := [.lit (.bool true)], args := [d1, d2] }
  | _ => none }
def recordViewsRow : OpenClaim := { program := "ytdkifkbnkedbpaa", sum := "880e5279aff9ed6cde9ea68ab6bcf3355e954c76434614542d8b17c705a6f5dc", func := "signalbroker/signalbrokerlaw23.RecordViews", spec := "recordViews", apart := false }
def RecordViewsSaid : Prop := recordViewsRow.holds Try.pinned (OpenSpec.ofChange recordViewsSpec)

/-- ITS FALSE NEIGHBOUR: 'it returns false'. Refute it at one input. -/
def recordViewsWrong : ChangeSpec := { name := "recordViews", fn := fun _ => fun
  | [d1, d2] => { results := [.lit (.bool false)], args := [d1, d2] }
  | _ => none }
def RecordViewsWrongFalsely : Prop := recordViewsRow.holds Try.pinned (OpenSpec.ofChange recordViewsWrong)

/-- 'signalbrokerlaw23.RecordBack': WHATEVER THE INPUT: true; the input reads as it did. -/
def recordBackSpec : ChangeSpec := { name := "recordBack", fn := fun _ => fun
  | [d1, d2, d3, d4] => { results := [.lit (.bool true)], args := [d1, d2, d3, d4] }
  | _ => none }
def recordBackRow : OpenClaim := { program := "ytdkifkbnkedbpaa", sum := "880e5279aff9ed6cde9ea68ab6bcf3355e954c76434614542d8b17c705a6f5dc", func := "signalbroker/signalbrokerlaw23.RecordBack", spec := "recordBack", apart := false }
def RecordBackSaid : Prop := recordBackRow.holds Try.pinned (OpenSpec.ofChange recordBackSpec)

/-- ITS FALSE NEIGHBOUR: 'it returns false'. Refute it at one input. -/
def recordBackWrong : ChangeSpec := { name := "recordBack", fn := fun _ => fun
  | [d1, d2, d3, d4] => { results := [.lit (.bool false)], args := [d1, d2, d3, d4] }
  | _ => none }
def RecordBackWrongFalsely : Prop := recordBackRow.holds Try.pinned (OpenSpec.ofChange recordBackWrong)

/-- 'signalbrokerlaw23.RecordTells': WHATEVER THE INPUT: true; the input reads as it did. -/
def recordTellsSpec : ChangeSpec := { name := "recordTells", fn := fun _ => fun
  | [d1, d2, d3, d4] => { results := [.lit (.bool true)], args := [d1, d2, d3, d4] }
  | _ => none }
def recordTellsRow : OpenClaim := { program := "ytdkifkbnkedbpaa", sum := "880e5279aff9ed6cde9ea68ab6bcf3355e954c76434614542d8b17c705a6f5dc", func := "signalbroker/signalbrokerlaw23.RecordTells", spec := "recordTells", apart := false }
def RecordTellsSaid : Prop := recordTellsRow.holds Try.pinned (OpenSpec.ofChange recordTellsSpec)

/-- ITS FALSE NEIGHBOUR: 'it returns false'. Refute it at one input. -/
def recordTellsWrong : ChangeSpec := { name := "recordTells", fn := fun _ => fun
  | [d1, d2, d3, d4] => { results := [.lit (.bool false)], args := [d1, d2, d3, d4] }
  | _ => none }
def RecordTellsWrongFalsely : Prop := recordTellsRow.holds Try.pinned (OpenSpec.ofChange recordTellsWrong)

/-- 'signalbrokerlaw23.RecordCounts': WHATEVER THE INPUT: true; the input reads as it did. -/
def recordCountsSpec : ChangeSpec := { name := "recordCounts", fn := fun _ => fun
  | [d1, d2] => { results := [.lit (.bool true)], args := [d1, d2] }
  | _ => none }
def recordCountsRow : OpenClaim := { program := "ytdkifkbnkedbpaa", sum := "880e5279aff9ed6cde9ea68ab6bcf3355e954c76434614542d8b17c705a6f5dc", func := "signalbroker/signalbrokerlaw23.RecordCounts", spec := "recordCounts", apart := false }
def RecordCountsSaid : Prop := recordCountsRow.holds Try.pinned (OpenSpec.ofChange recordCountsSpec)

/-- ITS FALSE NEIGHBOUR: 'it returns false'. Refute it at one input. -/
def recordCountsWrong : ChangeSpec := { name := "recordCounts", fn := fun _ => fun
  | [d1, d2] => { results := [.lit (.bool false)], args := [d1, d2] }
  | _ => none }
def RecordCountsWrongFalsely : Prop := recordCountsRow.holds Try.pinned (OpenSpec.ofChange recordCountsWrong)

/- THE SECOND FORM. 'bulk': how many values and letters a reading holds, each counted each time it is reached (what is shared counts as often as it is met; a slice's spare places count too). A statement '..UptoSaid' is the law's where the arguments, and the package variables that the reading takes, are together of bulk at most 1048576: NARROWER than '..Said'. Prove '..Said' where nothing that the law and all that it calls make is longer than what came in: it says more and counts as full. Else prove '..UptoSaid'. A law counts once. -/
mutual
def uptoBulk {H : Type} : DataW H → Nat
  | .lit (.string bytes) => bytes.length + 1
  | .lit _ => 1
  | .nil => 1
  | .ptr d => uptoBulk d + 1
  | .slice elems spare => uptoBulkAll elems + uptoBulkAll spare + 1
  | .agg parts => uptoBulkAll parts + 1
  | .iface _ d => uptoBulk d + 1
  | .map entries => uptoBulkEntries entries + 1
  | .held _ => 1
def uptoBulkAll {H : Type} : List (DataW H) → Nat
  | [] => 0
  | d :: r => uptoBulk d + uptoBulkAll r
def uptoBulkEntries {H : Type} : List (Lit × DataW H) → Nat
  | [] => 0
  | x :: r => uptoBulkEntry x + uptoBulkEntries r
def uptoBulkEntry {H : Type} : Lit × DataW H → Nat
  | (.string bytes, d) => bytes.length + uptoBulk d + 1
  | (_, d) => uptoBulk d + 1
 end
def uptoSmall : (H : Type) → List (DataW H) → Bool := fun _ ds => decide (uptoBulkAll ds ≤ 1048576)
def OpenSpec.upto (s : _root_.Go.ChangeSpec) : _root_.Go.OpenSpec := { _root_.Go.OpenSpec.ofChange s with cond := some uptoSmall }

/-- 'signalbrokerlaw23.RecordReads', WHERE WHAT IT READS IS OF BULK AT MOST 1048576: true; the input reads as it did. -/
def recordReadsUptoRow : OpenClaim := { program := "ytdkifkbnkedbpaa", sum := "880e5279aff9ed6cde9ea68ab6bcf3355e954c76434614542d8b17c705a6f5dc", func := "signalbroker/signalbrokerlaw23.RecordReads", spec := "recordReads", apart := false, narrowed := true }
def RecordReadsUptoSaid : Prop := recordReadsUptoRow.holds Try.pinned (OpenSpec.upto recordReadsSpec)

/-- 'signalbrokerlaw23.RecordViews', WHERE WHAT IT READS IS OF BULK AT MOST 1048576: true; the input reads as it did. -/
def recordViewsUptoRow : OpenClaim := { program := "ytdkifkbnkedbpaa", sum := "880e5279aff9ed6cde9ea68ab6bcf3355e954c76434614542d8b17c705a6f5dc", func := "signalbroker/signalbrokerlaw23.RecordViews", spec := "recordViews", apart := false, narrowed := true }
def RecordViewsUptoSaid : Prop := recordViewsUptoRow.holds Try.pinned (OpenSpec.upto recordViewsSpec)

/-- 'signalbrokerlaw23.RecordBack', WHERE WHAT IT READS IS OF BULK AT MOST 1048576: true; the input reads as it did. -/
def recordBackUptoRow : OpenClaim := { program := "ytdkifkbnkedbpaa", sum := "880e5279aff9ed6cde9ea68ab6bcf3355e954c76434614542d8b17c705a6f5dc", func := "signalbroker/signalbrokerlaw23.RecordBack", spec := "recordBack", apart := false, narrowed := true }
def RecordBackUptoSaid : Prop := recordBackUptoRow.holds Try.pinned (OpenSpec.upto recordBackSpec)

/-- 'signalbrokerlaw23.RecordTells', WHERE WHAT IT READS IS OF BULK AT MOST 1048576: true; the input reads as it did. -/
def recordTellsUptoRow : OpenClaim := { program := "ytdkifkbnkedbpaa", sum := "880e5279aff9ed6cde9ea68ab6bcf3355e954c76434614542d8b17c705a6f5dc", func := "signalbroker/signalbrokerlaw23.RecordTells", spec := "recordTells", apart := false, narrowed := true }
def RecordTellsUptoSaid : Prop := recordTellsUptoRow.holds Try.pinned (OpenSpec.upto recordTellsSpec)

/-- 'signalbrokerlaw23.RecordCounts', WHERE WHAT IT READS IS OF BULK AT MOST 1048576: true; the input reads as it did. -/
def recordCountsUptoRow : OpenClaim := { program := "ytdkifkbnkedbpaa", sum := "880e5279aff9ed6cde9ea68ab6bcf3355e954c76434614542d8b17c705a6f5dc", func := "signalbroker/signalbrokerlaw23.RecordCounts", spec := "recordCounts", apart := false, narrowed := true }
def RecordCountsUptoSaid : Prop := recordCountsUptoRow.holds Try.pinned (OpenSpec.upto recordCountsSpec)

end Rows
end Go.Proofs.Ytdkifkbnkedbpaa
