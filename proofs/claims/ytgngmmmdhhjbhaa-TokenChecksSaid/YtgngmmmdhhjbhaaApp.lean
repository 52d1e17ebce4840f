/- append onto a row of the call's own, at this program's types -/
import Derived.Test.YtgngmmmdhhjbhaaProg
import Derived.Test.YtgngmmmdhhjbhaaLib
namespace Go.Proofs.Ytgngmmmdhhjbhaa
open Go.RowKit

section
variable {ops : Array Oper} {rest : List Oper} {o : Oper} {a : Act} {Q : Exit → Act → World → Prop} {w : World}

theorem info_byte : (Try.prog.info? 5).map (fun i => (i.zero, i.size, i.bytes)) = some (some (.int .u8 0), 1, 1) := by kernel_rfl
theorem info_int : (Try.prog.info? 3).map (fun i => (i.zero, i.size, i.bytes)) = some (some (.int .i64 0), 1, 8) := by kernel_rfl

theorem Grew.step {base : Nat} {w w' : World} {e : TypeId} {size n cap : Nat} {b b' : Option Addr} {xs : List Value} (own : Own w base e size b n cap xs) (g : Grew base w w' b b') : ∀ W, Below base W w → Below base W w' :=
  fun _ h => Grew.below h g own.base_le

/-- append(s, x...) of bytes -/
theorem appB (hgd : o.guard = none) (s x : Operand) (ho : o.op = .call { callee := .builtin .append, args := #[s, x], argTypes := #[24, 24] })
    (base : Nat) (b : Option Addr) (n cap : Nat) (l : List UInt8) (hs : a.eval s = .slice b n cap) (A : Option Addr) (m c : Nat) (k : List UInt8) (hx : a.eval x = .slice A m c)
    (own : Own w base 5 1 b n cap (l.map encB)) (hr : Byt w A k) (hm : m = k.length) (N : Nat) (hN : N = n + m) (hbig : N ≤ 100000000000) (hbase : base ≤ w.heap.size)
    (h : ∀ b' cap' w', Own w' base 5 1 b' N cap' ((l ++ k).map encB) → Grew base w w' b b' → (∀ W, Below base W w → Below base W w') → wpList Try.prog ops Q rest (a.put o.dst (.slice b' N cap')) w') :
    wpList Try.prog ops Q (o :: rest) a w := by
  obtain ⟨i0, hi, hz0, hz1, hz2⟩ := info_parts info_byte
  refine wp_append_row _ hgd s x _ ho base _ i0 _ 1 1 Try.underlying24 hi hz0 hz1 hz2 rfl (by decide) b n cap _ hs A m c hx own (k.map encB) (by simp [hm]) hr (mapB_one _) (by simp only [maxLen]; omega) (by omega) hbase ?_
  intro b' cap' w' own' g
  rw [← hN] at own' ⊢
  rw [← List.map_append] at own'
  exact h b' cap' w' own' g (Grew.step own g)

/-- append(s, x) of one byte: it has just been laid in a block of its own -/
theorem app1B (hgd : o.guard = none) (s x : Operand) (ho : o.op = .call { callee := .builtin .append, args := #[s, x], argTypes := #[24, 24] })
    (base : Nat) (b : Option Addr) (n cap : Nat) (l : List UInt8) (hs : a.eval s = .slice b n cap) (z : UInt8) (zi : Int) (hx : a.eval x = .slice (some ⟨w.heap.size, 0, none⟩) 1 1)
    (own : Own w base 5 1 b n cap (l.map encB)) (hz : zi = (z.toNat : Int)) (N : Nat) (hN : N = n + 1) (hbig : N ≤ 100000000000) (hbase : base ≤ w.heap.size)
    (h : ∀ b' cap' w', Own w' base 5 1 b' N cap' ((l ++ [z]).map encB) → Grew base (w.alloc (.cells #[.int .u8 zi] 5)) w' b b' → (∀ W, Below base W w → Below base W w') → wpList Try.prog ops Q rest (a.put o.dst (.slice b' N cap')) w') :
    wpList Try.prog ops Q (o :: rest) a (w.alloc (.cells #[.int .u8 zi] 5)) := by
  subst hz
  refine appB hgd s x ho base b n cap l hs _ 1 1 [z] hx (own.alloc _) (byt_new rfl) rfl N hN hbig (by simp; omega) ?_
  intro b' cap' w' own' g hb
  exact h b' cap' w' own' g (fun W hW => hb W (hW.alloc hbase _))
end
end Go.Proofs.Ytgngmmmdhhjbhaa
