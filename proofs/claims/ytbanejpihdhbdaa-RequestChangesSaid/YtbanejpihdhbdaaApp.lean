/- append onto a row of the call's own, at this program's types -/
import Derived.Test.YtbanejpihdhbdaaProg
import Derived.Test.YtbanejpihdhbdaaLib
namespace Go.Proofs.Ytbanejpihdhbdaa
open Go.RowKit

section
variable {ops : Array Oper} {rest : List Oper} {o : Oper} {a : Act} {Q : Exit → Act → World → Prop} {w : World}

theorem info_int : (Try.prog.info? 3).map (fun i => (i.zero, i.size, i.bytes)) = some (some (.int .i64 0), 1, 8) := by kernel_rfl

theorem Grew.step {base : Nat} {w w' : World} {e : TypeId} {size n cap : Nat} {b b' : Option Addr} {xs : List Value} (own : Own w base e size b n cap xs) (g : Grew base w w' b b') : ∀ W, Below base W w → Below base W w' :=
  fun _ h => Grew.below h g own.base_le

end
end Go.Proofs.Ytbanejpihdhbdaa
