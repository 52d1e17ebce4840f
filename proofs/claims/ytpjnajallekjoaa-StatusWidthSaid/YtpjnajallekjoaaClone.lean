/- slices.Clone of bytes -/
import Derived.Test.YtpjnajallekjoaaBuf
import Derived.WalkSpells
namespace Go.Proofs.Ytpjnajallekjoaa
open Go.RowKit
set_option maxRecDepth 20000

/-- bytes in memory of the call's own -/
def NewB (l : List UInt8) (w : World) (e : Ending) (w' : World) : Prop := ∃ a c, e = .returned (.slice a l.length c) ∧ Own w' w.heap.size 5 1 a l.length c (l.map encB) ∧ Below w.heap.size w w'
end Go.Proofs.Ytpjnajallekjoaa
