/- append of bytes inside a region that draws its order -/
import Derived.Test.YtbanejpihdhbdaaApp
import Derived.Test.YtbanejpihdhbdaaReg
import Derived.Deep.RegionLaw
namespace Go.Proofs.Ytbanejpihdhbdaa
open Go.RowKit

theorem Grew.touch {base : Nat} {w w' : World} {a a' : Option Addr} {W : List Nat} {lo hi : Nat → Nat} (g : Grew base w w' a a') (h : ∀ k, a.map (·.block) = some k → ∃ m ∈ W, lo m ≤ k ∧ k < hi m) : Touch W lo hi w w' :=
  ⟨g.1.os, g.1.tape, g.1.output, g.1.size, fun b hb hx => g.1.block b hb fun e => by
    obtain ⟨m, hm, h1, h2⟩ := h b e.symm
    exact hx m hm ⟨h1, h2⟩⟩
theorem Grew.below0 {base : Nat} {w w' : World} {a' : Option Addr} (g : Grew base w w' none a') : Below w.heap.size w w' :=
  ⟨g.1.os, g.1.tape, g.1.output, g.1.size, fun b hb => g.1.block b hb (by simp)⟩
theorem Own.take {w : World} {base : Nat} {e : TypeId} {n cap : Nat} {a : Option Addr} {xs : List Value} (h : Own w base e 1 a n cap xs) (k : Nat) (hk : k ≤ n) : Own w base e 1 a k cap (xs.take k) := by
  have hn : n * 1 = xs.length := h.1.symm
  refine ⟨by rw [List.length_take]; omega, ?_⟩
  rcases h.2 with ⟨hv, h0⟩ | ⟨g, c, cur, hv, hb, hg, hnc, hm, hs, ht⟩
  · injection hv with h1 h2 h3
    exact .inl ⟨by rw [h1, h3]; congr; omega, by omega⟩
  · injection hv with h1 h2 h3
    refine .inr ⟨g, c, cur, by rw [h1, h3], hb, hg, by omega, hm, hs, ?_⟩
    rw [← ht, List.take_take]
    congr 1
    omega
theorem Own.takeB {w : World} {base : Nat} {e : TypeId} {n cap : Nat} {a : Option Addr} {l : List UInt8} (h : Own w base e 1 a n cap (l.map encB)) (k : Nat) (hk : k ≤ n) : Own w base e 1 a k cap ((l.take k).map encB) := by
  rw [List.map_take]; exact h.take k hk

section
variable {ops : Array Oper} {o : Oper} {a : Act} {w : World} {Q : Exit → Act → World → Prop}
end
end Go.Proofs.Ytbanejpihdhbdaa
