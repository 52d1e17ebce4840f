/- append of bytes inside a region that draws its order -/
import Derived.Test.YtgngmmmdhhjbhaaApp
import Derived.Test.YtgngmmmdhhjbhaaReg
import Derived.Deep.RegionLaw
namespace Go.Proofs.Ytgngmmmdhhjbhaa
open Go.RowKit

theorem Grew.touch {base : Nat} {w w' : World} {a a' : Option Addr} {W : List Nat} {lo hi : Nat → Nat} (g : Grew base w w' a a') (h : ∀ k, a.map (·.block) = some k → ∃ m ∈ W, lo m ≤ k ∧ k < hi m) : Touch W lo hi w w' :=
  ⟨g.1.os, g.1.tape, g.1.output, g.1.size, fun b hb hx => g.1.block b hb fun e => by
    obtain ⟨m, hm, h1, h2⟩ := h b e.symm
    exact hx m hm ⟨h1, h2⟩⟩
theorem Grew.below0 {base : Nat} {w w' : World} {a' : Option Addr} (g : Grew base w w' none a') : Below w.heap.size w w' :=
  ⟨g.1.os, g.1.tape, g.1.output, g.1.size, fun b hb => g.1.block b hb (by simp)⟩
theorem Own.take {w : World} {base : Nat} {e : TypeId} {n cap : Nat} {a : Option Addr} {xs : List Value} (h : Own w base e 1 a n cap xs) (k : Nat) (hk : k ≤ n) : Own w base e 1 a k cap (xs.take k) := by
  have hn : n * 1 = xs.length := h.1.symm
  refine ⟨by rw [List.length_take]; omega, ?_⟩
  rcases h.2 with ⟨hv, h0⟩ | ⟨g, c, cur, hv, hb, hg, hnc, hm, hs, ht⟩
  · injection hv with h1 h2 h3
    exact .inl ⟨by rw [h1, h3]; congr; omega, by omega⟩
  · injection hv with h1 h2 h3
    refine .inr ⟨g, c, cur, by rw [h1, h3], hb, hg, by omega, hm, hs, ?_⟩
    rw [← ht, List.take_take]
    congr 1
    omega
theorem Own.takeB {w : World} {base : Nat} {e : TypeId} {n cap : Nat} {a : Option Addr} {l : List UInt8} (h : Own w base e 1 a n cap (l.map encB)) (k : Nat) (hk : k ≤ n) : Own w base e 1 a k cap ((l.take k).map encB) := by
  rw [List.map_take]; exact h.take k hk

section
variable {ops : Array Oper} {o : Oper} {a : Act} {w : World} {Q : Exit → Act → World → Prop}
/-- one step of a region that draws -/
theorem step_appB {K : Act → World → Prop} {E : Prop} (hgd : o.guard = none) (s x : Operand) (ho : o.op = .call { callee := .builtin .append, args := #[s, x], argTypes := #[24, 24] })
    (base : Nat) (b : Option Addr) (n cap : Nat) (l : List UInt8) (hs : a.eval s = .slice b n cap) (A : Option Addr) (m c : Nat) (k : List UInt8) (hx : a.eval x = .slice A m c)
    (own : Own w base 5 1 b n cap (l.map encB)) (hr : Byt w A k) (hm : m = k.length) (N : Nat) (hN : N = n + m) (hbig : N ≤ 100000000000) (hbase : base ≤ w.heap.size)
    (h : ∀ b' cap' w', Own w' base 5 1 b' N cap' ((l ++ k).map encB) → Grew base w w' b b' → (∀ W, Below base W w → Below base W w') → K (a.put o.dst (.slice b' N cap')) w') :
    if Region.wanted o (yielded ops a.tmps) = true then Oper.wp Try.prog o a w K Q else E := by
  obtain ⟨i0, hi, hz0, hz1, hz2⟩ := info_parts info_byte
  have hw : Region.wanted o (yielded ops a.tmps) = true := by simp [Region.wanted, hgd]
  rw [if_pos hw]
  obtain ⟨b', cap', w', hrun, own', g⟩ := run_append_row (P := Try.prog) w base 24 o.type _ i0 _ 1 1 Try.underlying24 hi hz0 hz1 hz2 rfl (by decide) b n cap _ own A m c (k.map encB) (by simp [hm]) hr (mapB_one _) (by simp only [maxLen]; omega) (by omega) hbase
  unfold Oper.wp
  simp only [execOp, ho, resolve, invoke, builtin, Sem.run_bind, Sem.run_pure, Result.andThen_ok, List.map_toArray, List.map_cons, List.map_nil, hs, hx, hrun]
  rw [← hN] at own' ⊢
  rw [← List.map_append] at own'
  exact h b' cap' w' own' g (Grew.step own g)

/-- the same as an operation's obligation -/
theorem obl_appB {ρ : Operand → Value} {R : Value → World → Prop} {dst : Option Tmp} {s x : Operand} {ty : TypeId} {pos : String} {after : Array Edge} {guard : Option (Nat × Bool)}
    (base : Nat) (b : Option Addr) (n cap : Nat) (l : List UInt8) (hs : ρ s = .slice b n cap) (A : Option Addr) (m c : Nat) (k : List UInt8) (hx : ρ x = .slice A m c)
    (own : Own w base 5 1 b n cap (l.map encB)) (hr : Byt w A k) (hm : m = k.length) (N : Nat) (hN : N = n + m) (hbig : N ≤ 100000000000) (hbase : base ≤ w.heap.size)
    (h : ∀ b' cap' w', Own w' base 5 1 b' N cap' ((l ++ k).map encB) → Grew base w w' b b' → (∀ W, Below base W w → Below base W w') → R (.slice b' N cap') w') :
    oblUpon Try.prog R ((execOp ρ { dst, op := .call { callee := .builtin .append, args := #[s, x], argTypes := #[24, 24] }, type := ty, pos, after, guard }).run Try.prog w) := by
  obtain ⟨i0, hi, hz0, hz1, hz2⟩ := info_parts info_byte
  obtain ⟨b', cap', w', hrun, own', g⟩ := run_append_row (P := Try.prog) w base 24 ty _ i0 _ 1 1 Try.underlying24 hi hz0 hz1 hz2 rfl (by decide) b n cap _ own A m c (k.map encB) (by simp [hm]) hr (mapB_one _) (by simp only [maxLen]; omega) (by omega) hbase
  simp only [execOp, resolve, invoke, builtin, Sem.run_bind, Sem.run_pure, Result.andThen_ok, List.map_toArray, List.map_cons, List.map_nil, hs, hx, hrun]
  rw [← hN] at own' ⊢
  rw [← List.map_append] at own'
  exact h b' cap' w' own' g (Grew.step own g)
end
end Go.Proofs.Ytgngmmmdhhjbhaa
