/- Buffers: blocks that are known whole as a list; make and copy, the world behind them under a fresh name. -/
import Derived.Test.YtbanejpihdhbdaaApp
import Derived.Laws.CopyOwn
import Derived.Laws.MakeOwn
namespace Go.Proofs.Ytbanejpihdhbdaa
open Go.RowKit

section
variable {α : Type} {enc : α → Value} {w : World} {g : Nat} {t : TypeId} {l : List α}
theorem Blk.setL (h : Blk w g t (l.map enc).toArray) (i : Nat) (x : α) {u : Value} (hu : u = enc x) : Blk (w.setCell ⟨g, i, none⟩ u) g t ((l.set i x).map enc).toArray := by
  subst hu
  have := Blk.set h i (enc x)
  rw [List.map_set]
  simpa using this
theorem Blk.cellL (h : Blk w g t (l.map enc).toArray) (i : Nat) (hi : i < l.length) : w.cell? ⟨g, i, none⟩ = some (enc l[i]) := by
  rw [Blk.cell h]; simp [hi]
theorem Blk.rowL (h : Blk w g t (l.map enc).toArray) : Row w (some ⟨g, 0, none⟩) (l.map enc) :=
  .inr ⟨g, 0, rfl, h.lt, fun i hi => by rw [Nat.zero_add, Blk.cell h]; simp at hi; simp [hi]⟩
theorem Blk.ownL (h : Blk w g t (l.map enc).toArray) {base n : Nat} (hb : base ≤ g) (hn : n = l.length) (hm : n ≤ maxLen) : Own w base t 1 (some ⟨g, 0, none⟩) n n (l.map enc) := by
  subst hn
  exact ⟨by simp, .inr ⟨g, l.length, (l.map enc).toArray, rfl, hb, h, Nat.le_refl _, hm, by simp, List.take_of_length_le (by simp)⟩⟩
end
/-- an owned row that is full, as a block -/
theorem Own.full {w : World} {base : Nat} {e : TypeId} {n : Nat} {g : Nat} {xs : List Value} (h : Own w base e 1 (some ⟨g, 0, none⟩) n n xs) : Blk w g e xs.toArray := by
  rcases h.2 with ⟨h0, _⟩ | ⟨g', c, cur, hv, hb, hg, hnc, hm, hs, ht⟩
  · cases h0
  · injection hv with ha _ hc
    injection ha with ha
    injection ha with ha _ _
    subst ha
    subst hc
    have : cur = xs.toArray := by
      rw [← ht, List.take_of_length_le (by simp; omega)]
    rw [this] at hg
    exact hg

section
variable {P : Program} {ops : Array Oper} {rest : List Oper} {dst : Option Tmp} {a : Act} {Q : Exit → Act → World → Prop} {w : World} {ty : TypeId} {pos : String} {after : Array Edge}

theorem madeCells_one (z : Value) (n : Nat) : madeCells #[z] n = (List.replicate n z).toArray := by
  apply Array.ext
  · simp [madeCells]
  · intro i h1 h2
    simp [madeCells, Nat.mod_one]

/-- make([]T, m, n), T of one cell -/
theorem wp_make {t : TypeId} {x y : Operand} (e : TypeId) (i : TypeInfo) (z : Value) (ht : P.underlying t = some (.slice e)) (hi : P.info? e = some i) (hz : i.zero = some z) (hsize : i.size = 1) (hz1 : z.cells = #[z])
    (m n : Nat) (hx : a.eval x = .int .i64 m) (hy : a.eval y = .int .i64 n) (hmn : m ≤ n) (hb : i.bytes * n ≤ 281474976710656) (hn : n ≤ 100000000000)
    (h : ∀ W, Blk W w.heap.size e (List.replicate n z).toArray → Below w.heap.size w W → W.heap.size = w.heap.size + 1 → wpList P ops Q rest (a.put dst (.slice (some ⟨w.heap.size, 0, none⟩) m n)) W) :
    wpList P ops Q ({ dst := dst, op := .makeSlice t x y, type := ty, pos := pos, after := after, guard := none } :: rest) a w := by
  refine wpList_plain rfl fun K hK => ?_
  have hb' : (i.bytes : Int) * (n : Int) ≤ 281474976710656 := by
    have h : ((i.bytes * n : Nat) : Int) ≤ 281474976710656 := by omega
    rwa [Int.natCast_mul] at h
  have hrun := run_make (P := P) w t e i z ht hi hz .i64 .i64 m n (by omega) (by omega) hb' (by omega)
  simp only [Int.toNat_natCast, hsize, Nat.mul_one, hz1, madeCells_one] at hrun
  unfold Oper.wp
  simp only [execOp, hx, hy, Sem.run_bind, Result.andThen_ok, hrun]
  simp [go_sem]
  exact hK _ _ (h _ (Blk.new _ _ _) ((Below.refl _ _).alloc (Nat.le_refl _) _) (by simp))
end
/-- a call met in a still region -/
theorem qst {P : Program} {f : FuncId} {args : Array Value} {w : World} {v : Value} (h : Calls P f args w fun e w' => e = .returned v ∧ w = w') : Calls P f args w fun e w'' => e = .returned v ∧ w'' = w := h.mono fun _ _ ⟨he, hm⟩ => ⟨he, hm.symm⟩
/-- goes through at a copy alone -/
theorem at_copy {P : Program} {ops : Array Oper} {rest : List Oper} {dst : Option Tmp} {a : Act} {Q : Exit → Act → World → Prop} {w : World} {ty : TypeId} {pos : String} {after : Array Edge} {d s : Operand} {t u : TypeId}
    (h : wpList P ops Q ({ dst := dst, op := .call { callee := .builtin .copy, args := #[d, s], argTypes := #[t, u] }, type := ty, pos := pos, after := after, guard := none } :: rest) a w) :
    wpList P ops Q ({ dst := dst, op := .call { callee := .builtin .copy, args := #[d, s], argTypes := #[t, u] }, type := ty, pos := pos, after := after, guard := none } :: rest) a w := h
end Go.Proofs.Ytbanejpihdhbdaa
