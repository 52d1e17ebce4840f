/-
  No cell of these rows narrows 'for every input' (looked for: loops, veiled, ifaces, maps, wideKeys, modest, calm, conditions, laid).
  DERIVED. THE GIVEN ROWS OF THIS SEAT. 6 by the template 'for every input the law returns true; each argument reads behind the call as it read before'; 0 by the template 'total and deterministic' (their statements: YtgngmmmdhhjbhaaTotals.lean).
  GIVEN WITH THE SEED: the statements are not yours to turn. If you find one false, say at which input.
  Laid BY PROGRAM, IN A SANDBOX (cutbox-rows.mjs): the forced cells as the released guide's own fill.sh prints them over the translation 2a901f53cc2a212f… (all of the seat's roots in one cut). By AI agents, Wed Nov 11 2026. No macro, syntax, notation, axiom, sorry.
-/
import Derived.Test.YtgngmmmdhhjbhaaChecked
import GoSem.Claim
import GoSem.ClaimJoined
import GoSem.ClaimMapViews
import Derived.JoinedTies
import Derived.KernelRfl
namespace Go.Proofs.Ytgngmmmdhhjbhaa
/- THE CELL 'sum', in the pinned program and in every row, IS THE sha256 OF THE DUMP (.gsa) THAT YtgngmmmdhhjbhaaProg.lean LOADS. Nothing in Lean hashes anything: it is a label: what it is worth is what the hold of that sum in a sandbox is worth. -/
noncomputable def Try.pinned : Pinned := { name := "ytgngmmmdhhjbhaa", sum := "2a901f53cc2a212f159aae8bed93f545557f4f63564a53ead262a50ce9d19de8", checked := Try.checked }
namespace Rows
def none {H : Type} : Left H := { results := [], args := [] }

/-- 'signalbrokerlaw14.TokenChanges': WHATEVER THE INPUT: true; the input reads as it did. -/
def tokenChangesSpec : ChangeSpec := { name := "tokenChanges", fn := fun _ => fun
  | [d1, d2, d3, d4, d5, d6, d7, d8, d9] => { results := [.lit (.bool true)], args := [d1, d2, d3, d4, d5, d6, d7, d8, d9] }
  | _ => none }
def tokenChangesRow : OpenClaim := { program := "ytgngmmmdhhjbhaa", sum := "2a901f53cc2a212f159aae8bed93f545557f4f63564a53ead262a50ce9d19de8", func := "signalbroker/signalbrokerlaw14.TokenChanges", spec := "tokenChanges", unfollowed := true, recurses := true, apart := false }
def TokenChangesSaid : Prop := tokenChangesRow.holds Try.pinned (OpenSpec.ofChange tokenChangesSpec)

/-- ITS FALSE NEIGHBOUR: 'it returns false'. Refute it at one input. -/
def tokenChangesWrong : ChangeSpec := { name := "tokenChanges", fn := fun _ => fun
  | [d1, d2, d3, d4, d5, d6, d7, d8, d9] => { results := [.lit (.bool false)], args := [d1, d2, d3, d4, d5, d6, d7, d8, d9] }
  | _ => none }
def TokenChangesWrongFalsely : Prop := tokenChangesRow.holds Try.pinned (OpenSpec.ofChange tokenChangesWrong)

/-- 'signalbrokerlaw14.TokenNarrows': WHATEVER THE INPUT: true; the input reads as it did. -/
def tokenNarrowsSpec : ChangeSpec := { name := "tokenNarrows", fn := fun _ => fun
  | [d] => { results := [.lit (.bool true)], args := [d] }
  | _ => none }
def tokenNarrowsRow : OpenClaim := { program := "ytgngmmmdhhjbhaa", sum := "2a901f53cc2a212f159aae8bed93f545557f4f63564a53ead262a50ce9d19de8", func := "signalbroker/signalbrokerlaw14.TokenNarrows", spec := "tokenNarrows", unfollowed := true, recurses := true, apart := false }
def TokenNarrowsSaid : Prop := tokenNarrowsRow.holds Try.pinned (OpenSpec.ofChange tokenNarrowsSpec)

/-- ITS FALSE NEIGHBOUR: 'it returns false'. Refute it at one input. -/
def tokenNarrowsWrong : ChangeSpec := { name := "tokenNarrows", fn := fun _ => fun
  | [d] => { results := [.lit (.bool false)], args := [d] }
  | _ => none }
def TokenNarrowsWrongFalsely : Prop := tokenNarrowsRow.holds Try.pinned (OpenSpec.ofChange tokenNarrowsWrong)

/-- 'signalbrokerlaw14.TokenExpires': WHATEVER THE INPUT: true; the input reads as it did. -/
def tokenExpiresSpec : ChangeSpec := { name := "tokenExpires", fn := fun _ => fun
  | [d1, d2] => { results := [.lit (.bool true)], args := [d1, d2] }
  | _ => none }
def tokenExpiresRow : OpenClaim := { program := "ytgngmmmdhhjbhaa", sum := "2a901f53cc2a212f159aae8bed93f545557f4f63564a53ead262a50ce9d19de8", func := "signalbroker/signalbrokerlaw14.TokenExpires", spec := "tokenExpires", unfollowed := true, recurses := true, apart := false }
def TokenExpiresSaid : Prop := tokenExpiresRow.holds Try.pinned (OpenSpec.ofChange tokenExpiresSpec)

/-- ITS FALSE NEIGHBOUR: 'it returns false'. Refute it at one input. -/
def tokenExpiresWrong : ChangeSpec := { name := "tokenExpires", fn := fun _ => fun
  | [d1, d2] => { results := [.lit (.bool false)], args := [d1, d2] }
  | _ => none }
def TokenExpiresWrongFalsely : Prop := tokenExpiresRow.holds Try.pinned (OpenSpec.ofChange tokenExpiresWrong)

/-- 'signalbrokerlaw14.TokenKills': WHATEVER THE INPUT: true; the input reads as it did. -/
def tokenKillsSpec : ChangeSpec := { name := "tokenKills", fn := fun _ => fun
  | [d1, d2, d3, d4] => { results := [.lit (.bool true)], args := [d1, d2, d3, d4] }
  | _ => none }
def tokenKillsRow : OpenClaim := { program := "ytgngmmmdhhjbhaa", sum := "2a901f53cc2a212f159aae8bed93f545557f4f63564a53ead262a50ce9d19de8", func := "signalbroker/signalbrokerlaw14.TokenKills", spec := "tokenKills", unfollowed := true, recurses := true, apart := false }
def TokenKillsSaid : Prop := tokenKillsRow.holds Try.pinned (OpenSpec.ofChange tokenKillsSpec)

/-- ITS FALSE NEIGHBOUR: 'it returns false'. Refute it at one input. -/
def tokenKillsWrong : ChangeSpec := { name := "tokenKills", fn := fun _ => fun
  | [d1, d2, d3, d4] => { results := [.lit (.bool false)], args := [d1, d2, d3, d4] }
  | _ => none }
def TokenKillsWrongFalsely : Prop := tokenKillsRow.holds Try.pinned (OpenSpec.ofChange tokenKillsWrong)

/-- 'signalbrokerlaw14.TokenSlots': WHATEVER THE INPUT: true; the input reads as it did. -/
def tokenSlotsSpec : ChangeSpec := { name := "tokenSlots", fn := fun _ => fun
  | [d1, d2, d3, d4] => { results := [.lit (.bool true)], args := [d1, d2, d3, d4] }
  | _ => none }
def tokenSlotsRow : OpenClaim := { program := "ytgngmmmdhhjbhaa", sum := "2a901f53cc2a212f159aae8bed93f545557f4f63564a53ead262a50ce9d19de8", func := "signalbroker/signalbrokerlaw14.TokenSlots", spec := "tokenSlots", unfollowed := true, recurses := true, apart := false }
def TokenSlotsSaid : Prop := tokenSlotsRow.holds Try.pinned (OpenSpec.ofChange tokenSlotsSpec)

/-- ITS FALSE NEIGHBOUR: 'it returns false'. Refute it at one input. -/
def tokenSlotsWrong : ChangeSpec := { name := "tokenSlots", fn := fun _ => fun
  | [d1, d2, d3, d4] => { results := [.lit (.bool false)], args := [d1, d2, d3, d4] }
  | _ => none }
def TokenSlotsWrongFalsely : Prop := tokenSlotsRow.holds Try.pinned (OpenSpec.ofChange tokenSlotsWrong)

/-- 'signalbrokerlaw14.TokenChecks': WHATEVER THE INPUT: true; the input reads as it did. -/
def tokenChecksSpec : ChangeSpec := { name := "tokenChecks", fn := fun _ => fun
  | [d1, d2, d3, d4, d5, d6, d7] => { results := [.lit (.bool true)], args := [d1, d2, d3, d4, d5, d6, d7] }
  | _ => none }
def tokenChecksRow : OpenClaim := { program := "ytgngmmmdhhjbhaa", sum := "2a901f53cc2a212f159aae8bed93f545557f4f63564a53ead262a50ce9d19de8", func := "signalbroker/signalbrokerlaw14.TokenChecks", spec := "tokenChecks", unfollowed := true, recurses := true, apart := false }
def TokenChecksSaid : Prop := tokenChecksRow.holds Try.pinned (OpenSpec.ofChange tokenChecksSpec)

/-- ITS FALSE NEIGHBOUR: 'it returns false'. Refute it at one input. -/
def tokenChecksWrong : ChangeSpec := { name := "tokenChecks", fn := fun _ => fun
  | [d1, d2, d3, d4, d5, d6, d7] => { results := [.lit (.bool false)], args := [d1, d2, d3, d4, d5, d6, d7] }
  | _ => none }
def TokenChecksWrongFalsely : Prop := tokenChecksRow.holds Try.pinned (OpenSpec.ofChange tokenChecksWrong)

/- THE SECOND FORM. 'bulk': how many values and letters a reading holds, each counted each time it is reached (what is shared counts as often as it is met; a slice's spare places count too). A statement '..UptoSaid' is the law's where the arguments, and the package variables that the reading takes, are together of bulk at most 1048576: NARROWER than '..Said'. Prove '..Said' where nothing that the law and all that it calls make is longer than what came in: it says more and counts as full. Else prove '..UptoSaid'. A law counts once. -/
mutual
def uptoBulk {H : Type} : DataW H → Nat
  | .lit (.string bytes) => bytes.length + 1
  | .lit _ => 1
  | .nil => 1
  | .ptr d => uptoBulk d + 1
  | .slice elems spare => uptoBulkAll elems + uptoBulkAll spare + 1
  | .agg parts => uptoBulkAll parts + 1
  | .iface _ d => uptoBulk d + 1
  | .map entries => uptoBulkEntries entries + 1
  | .held _ => 1
def uptoBulkAll {H : Type} : List (DataW H) → Nat
  | [] => 0
  | d :: r => uptoBulk d + uptoBulkAll r
def uptoBulkEntries {H : Type} : List (Lit × DataW H) → Nat
  | [] => 0
  | x :: r => uptoBulkEntry x + uptoBulkEntries r
def uptoBulkEntry {H : Type} : Lit × DataW H → Nat
  | (.string bytes, d) => bytes.length + uptoBulk d + 1
  | (_, d) => uptoBulk d + 1
 end
def uptoSmall : (H : Type) → List (DataW H) → Bool := fun _ ds => decide (uptoBulkAll ds ≤ 1048576)
def OpenSpec.upto (s : _root_.Go.ChangeSpec) : _root_.Go.OpenSpec := { _root_.Go.OpenSpec.ofChange s with cond := some uptoSmall }

/-- 'signalbrokerlaw14.TokenChanges', WHERE WHAT IT READS IS OF BULK AT MOST 1048576: true; the input reads as it did. -/
def tokenChangesUptoRow : OpenClaim := { program := "ytgngmmmdhhjbhaa", sum := "2a901f53cc2a212f159aae8bed93f545557f4f63564a53ead262a50ce9d19de8", func := "signalbroker/signalbrokerlaw14.TokenChanges", spec := "tokenChanges", unfollowed := true, recurses := true, apart := false, narrowed := true }
def TokenChangesUptoSaid : Prop := tokenChangesUptoRow.holds Try.pinned (OpenSpec.upto tokenChangesSpec)

/-- 'signalbrokerlaw14.TokenNarrows', WHERE WHAT IT READS IS OF BULK AT MOST 1048576: true; the input reads as it did. -/
def tokenNarrowsUptoRow : OpenClaim := { program := "ytgngmmmdhhjbhaa", sum := "2a901f53cc2a212f159aae8bed93f545557f4f63564a53ead262a50ce9d19de8", func := "signalbroker/signalbrokerlaw14.TokenNarrows", spec := "tokenNarrows", unfollowed := true, recurses := true, apart := false, narrowed := true }
def TokenNarrowsUptoSaid : Prop := tokenNarrowsUptoRow.holds Try.pinned (OpenSpec.upto tokenNarrowsSpec)

/-- 'signalbrokerlaw14.TokenExpires', WHERE WHAT IT READS IS OF BULK AT MOST 1048576: true; the input reads as it did. -/
def tokenExpiresUptoRow : OpenClaim := { program := "ytgngmmmdhhjbhaa", sum := "2a901f53cc2a212f159aae8bed93f545557f4f63564a53ead262a50ce9d19de8", func := "signalbroker/signalbrokerlaw14.TokenExpires", spec := "tokenExpires", unfollowed := true, recurses := true, apart := false, narrowed := true }
def TokenExpiresUptoSaid : Prop := tokenExpiresUptoRow.holds Try.pinned (OpenSpec.upto tokenExpiresSpec)

/-- 'signalbrokerlaw14.TokenKills', WHERE WHAT IT READS IS OF BULK AT MOST 1048576: true; the input reads as it did. -/
def tokenKillsUptoRow : OpenClaim := { program := "ytgngmmmdhhjbhaa", sum := "2a901f53cc2a212f159aae8bed93f545557f4f63564a53ead262a50ce9d19de8", func := "signalbroker/signalbrokerlaw14.TokenKills", spec := "tokenKills", unfollowed := true, recurses := true, apart := false, narrowed := true }
def TokenKillsUptoSaid : Prop := tokenKillsUptoRow.holds Try.pinned (OpenSpec.upto tokenKillsSpec)

/-- 'signalbrokerlaw14.TokenSlots', WHERE WHAT IT READS IS OF BULK AT MOST 1048576: true; the input reads as it did. -/
def tokenSlotsUptoRow : OpenClaim := { program := "ytgngmmmdhhjbhaa", sum := "2a901f53cc2a212f159aae8bed93f545557f4f63564a53ead262a50ce9d19de8", func := "signalbroker/signalbrokerlaw14.TokenSlots", spec := "tokenSlots", unfollowed := true, recurses := true, apart := false, narrowed := true }
def TokenSlotsUptoSaid : Prop := tokenSlotsUptoRow.holds Try.pinned (OpenSpec.upto tokenSlotsSpec)

/-- 'signalbrokerlaw14.TokenChecks', WHERE WHAT IT READS IS OF BULK AT MOST 1048576: true; the input reads as it did. -/
def tokenChecksUptoRow : OpenClaim := { program := "ytgngmmmdhhjbhaa", sum := "2a901f53cc2a212f159aae8bed93f545557f4f63564a53ead262a50ce9d19de8", func := "signalbroker/signalbrokerlaw14.TokenChecks", spec := "tokenChecks", unfollowed := true, recurses := true, apart := false, narrowed := true }
def TokenChecksUptoSaid : Prop := tokenChecksUptoRow.holds Try.pinned (OpenSpec.upto tokenChecksSpec)

end Rows
end Go.Proofs.Ytgngmmmdhhjbhaa
