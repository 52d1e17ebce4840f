/- Buffers: blocks that are known whole as a list; make and copy, the world behind them under a fresh name. -/
import Derived.Test.YtgngmmmdhhjbhaaApp
import Derived.Laws.CopyOwn
import Derived.Laws.MakeOwn
namespace Go.Proofs.Ytgngmmmdhhjbhaa
open Go.RowKit

section
variable {α : Type} {enc : α → Value} {w : World} {g : Nat} {t : TypeId} {l : List α}
theorem Blk.setL (h : Blk w g t (l.map enc).toArray) (i : Nat) (x : α) {u : Value} (hu : u = enc x) : Blk (w.setCell ⟨g, i, none⟩ u) g t ((l.set i x).map enc).toArray := by
  subst hu
  have := Blk.set h i (enc x)
  rw [List.map_set]
  simpa using this
theorem Blk.cellL (h : Blk w g t (l.map enc).toArray) (i : Nat) (hi : i < l.length) : w.cell? ⟨g, i, none⟩ = some (enc l[i]) := by
  rw [Blk.cell h]; simp [hi]
theorem Blk.rowL (h : Blk w g t (l.map enc).toArray) : Row w (some ⟨g, 0, none⟩) (l.map enc) :=
  .inr ⟨g, 0, rfl, h.lt, fun i hi => by rw [Nat.zero_add, Blk.cell h]; simp at hi; simp [hi]⟩
theorem Blk.ownL (h : Blk w g t (l.map enc).toArray) {base n : Nat} (hb : base ≤ g) (hn : n = l.length) (hm : n ≤ maxLen) : Own w base t 1 (some ⟨g, 0, none⟩) n n (l.map enc) := by
  subst hn
  exact ⟨by simp, .inr ⟨g, l.length, (l.map enc).toArray, rfl, hb, h, Nat.le_refl _, hm, by simp, List.take_of_length_le (by simp)⟩⟩
end
/-- an owned row that is full, as a block -/
theorem Own.full {w : World} {base : Nat} {e : TypeId} {n : Nat} {g : Nat} {xs : List Value} (h : Own w base e 1 (some ⟨g, 0, none⟩) n n xs) : Blk w g e xs.toArray := by
  rcases h.2 with ⟨h0, _⟩ | ⟨g', c, cur, hv, hb, hg, hnc, hm, hs, ht⟩
  · cases h0
  · injection hv with ha _ hc
    injection ha with ha
    injection ha with ha _ _
    subst ha
    subst hc
    have : cur = xs.toArray := by
      rw [← ht, List.take_of_length_le (by simp; omega)]
    rw [this] at hg
    exact hg

section
variable {P : Program} {ops : Array Oper} {rest : List Oper} {dst : Option Tmp} {a : Act} {Q : Exit → Act → World → Prop} {w : World} {ty : TypeId} {pos : String} {after : Array Edge}

theorem madeCells_one (z : Value) (n : Nat) : madeCells #[z] n = (List.replicate n z).toArray := by
  apply Array.ext
  · simp [madeCells]
  · intro i h1 h2
    simp [madeCells, Nat.mod_one]

/-- make([]T, m, n), T of one cell -/
theorem wp_make {t : TypeId} {x y : Operand} (e : TypeId) (i : TypeInfo) (z : Value) (ht : P.underlying t = some (.slice e)) (hi : P.info? e = some i) (hz : i.zero = some z) (hsize : i.size = 1) (hz1 : z.cells = #[z])
    (m n : Nat) (hx : a.eval x = .int .i64 m) (hy : a.eval y = .int .i64 n) (hmn : m ≤ n) (hb : i.bytes * n ≤ 281474976710656) (hn : n ≤ 100000000000)
    (h : ∀ W, Blk W w.heap.size e (List.replicate n z).toArray → Below w.heap.size w W → W.heap.size = w.heap.size + 1 → wpList P ops Q rest (a.put dst (.slice (some ⟨w.heap.size, 0, none⟩) m n)) W) :
    wpList P ops Q ({ dst := dst, op := .makeSlice t x y, type := ty, pos := pos, after := after, guard := none } :: rest) a w := by
  refine wpList_plain rfl fun K hK => ?_
  have hb' : (i.bytes : Int) * (n : Int) ≤ 281474976710656 := by
    have h : ((i.bytes * n : Nat) : Int) ≤ 281474976710656 := by omega
    rwa [Int.natCast_mul] at h
  have hrun := run_make (P := P) w t e i z ht hi hz .i64 .i64 m n (by omega) (by omega) hb' (by omega)
  simp only [Int.toNat_natCast, hsize, Nat.mul_one, hz1, madeCells_one] at hrun
  unfold Oper.wp
  simp only [execOp, hx, hy, Sem.run_bind, Result.andThen_ok, hrun]
  simp [go_sem]
  exact hK _ _ (h _ (Blk.new _ _ _) ((Below.refl _ _).alloc (Nat.le_refl _) _) (by simp))
end
/-- make([]byte, n) -/
theorem wp_makeB {ops : Array Oper} {rest : List Oper} {dst : Option Tmp} {a : Act} {Q : Exit → Act → World → Prop} {w : World} {ty : TypeId} {pos : String} {after : Array Edge} {x y : Operand}
    (m n : Nat) (hx : a.eval x = .int .i64 m) (hy : a.eval y = .int .i64 n) (hmn : m ≤ n) (hn : n ≤ 100000000000)
    (h : ∀ W, Blk W w.heap.size 5 ((List.replicate n (0 : UInt8)).map encB).toArray → Below w.heap.size w W → W.heap.size = w.heap.size + 1 → wpList Try.prog ops Q rest (a.put dst (.slice (some ⟨w.heap.size, 0, none⟩) m n)) W) :
    wpList Try.prog ops Q ({ dst := dst, op := .makeSlice 24 x y, type := ty, pos := pos, after := after, guard := none } :: rest) a w := by
  obtain ⟨i0, hi, hz0, hz1, hz2⟩ := info_parts info_byte
  refine wp_make _ i0 _ Try.underlying24 hi hz0 hz1 rfl m n hx hy hmn (by rw [hz2]; omega) hn ?_
  intro W hW
  refine h W ?_
  rw [List.map_replicate]
  exact hW
/-- copy of bytes into a block that is known whole -/
theorem wp_copyB {ops : Array Oper} {rest : List Oper} {dst : Option Tmp} {a : Act} {Q : Exit → Act → World → Prop} {w : World} {ty : TypeId} {pos : String} {after : Array Edge} {d s : Operand}
    {dp sp : Option Addr} {dLen dCap sLen sCap : Nat} (g off : Nat) (cur : List UInt8) (hg : Blk w g 5 (cur.map encB).toArray) (cs : List UInt8) (B : Nat) (w0 : World)
    (hd : a.eval d = .slice dp dLen dCap) (hs : a.eval s = .slice sp sLen sCap) (hn : cs.length = sLen ∧ sLen ≤ dLen) (hdp : 0 < sLen → dp = some ⟨g, off, none⟩)
    (hsrc : Byt w sp cs) (hfit : off + cs.length ≤ cur.length) (hb : Below B w0 w) (hBg : B ≤ g)
    (h : ∀ w', Blk w' g 5 ((splice cur off cs).map encB).toArray → Below B w0 w' → wpList Try.prog ops Q rest (a.put dst (goInt sLen)) w') :
    wpList Try.prog ops Q ({ dst := dst, op := .call { callee := .builtin .copy, args := #[d, s], argTypes := #[24, 24] }, type := ty, pos := pos, after := after, guard := none } :: rest) a w := by
  obtain ⟨i0, hi, hz0, hz1, hz2⟩ := info_parts info_byte
  refine wpList_copy_splice rfl d s _ _ rfl _ Try.underlying24 (by rw [hi, Option.map_some, hz1]) dp sp dLen dCap sLen sCap hd hs g off (cur.map encB) _ hg (cs.map encB) (by rw [List.length_map, hn.1]; exact (Nat.min_eq_left hn.2).symm) ?_ (by simpa using hfit) (mapB_one _) B w0 hb hBg ?_
  · intro hpos
    rw [List.length_map] at hpos
    have hpos' : 0 < sLen := by omega
    refine ⟨hdp hpos', ?_⟩
    cases sp with
    | none => have := Row.of_none w hsrc; simp at this; rw [this] at hpos; simp at hpos
    | some ad => exact ⟨ad, rfl, Row.cells w hsrc⟩
  · intro w' hH hb'
    rw [List.length_map, hn.1]
    refine h w' ?_ hb'
    have e : (splice cur off cs).map encB = splice (cur.map encB) off (cs.map encB) := by simp [splice]
    rw [e]
    exact hH.out
/-- append of bytes where the operation is guarded, and wanted -/
theorem appBG {ops : Array Oper} {rest : List Oper} {o : Oper} {a : Act} {Q : Exit → Act → World → Prop} {w : World} (hw : Region.wanted o (yielded ops a.tmps) = true) (s x : Operand) (ho : o.op = .call { callee := .builtin .append, args := #[s, x], argTypes := #[24, 24] })
    (base : Nat) (b : Option Addr) (n cap : Nat) (l : List UInt8) (hs : a.eval s = .slice b n cap) (A : Option Addr) (m c : Nat) (k : List UInt8) (hx : a.eval x = .slice A m c)
    (own : Own w base 5 1 b n cap (l.map encB)) (hr : Byt w A k) (hm : m = k.length) (N : Nat) (hN : N = n + m) (hbig : N ≤ 100000000000) (hbase : base ≤ w.heap.size)
    (h : ∀ b' cap' w', Own w' base 5 1 b' N cap' ((l ++ k).map encB) → Grew base w w' b b' → (∀ W, Below base W w → Below base W w') → wpList Try.prog ops Q rest (a.put o.dst (.slice b' N cap')) w') :
    wpList Try.prog ops Q (o :: rest) a w := by
  obtain ⟨i0, hi, hz0, hz1, hz2⟩ := info_parts info_byte
  refine wpList_step fun K hK => ?_
  rw [if_pos hw]
  obtain ⟨b', cap', w', hrun, own', g⟩ := run_append_row (P := Try.prog) w base 24 o.type _ i0 _ 1 1 Try.underlying24 hi hz0 hz1 hz2 rfl (by decide) b n cap _ own A m c (k.map encB) (by simp [hm]) hr (mapB_one _) (by simp only [maxLen]; omega) (by omega) hbase
  unfold Oper.wp
  simp only [execOp, ho, resolve, invoke, builtin, Sem.run_bind, Sem.run_pure, Result.andThen_ok, List.map_toArray, List.map_cons, List.map_nil, hs, hx, hrun]
  rw [← hN] at own' ⊢
  rw [← List.map_append] at own'
  exact hK _ _ (h b' cap' w' own' g (Grew.step own g))
/-- a call met in a still region -/
theorem qst {P : Program} {f : FuncId} {args : Array Value} {w : World} {v : Value} (h : Calls P f args w fun e w' => e = .returned v ∧ w = w') : Calls P f args w fun e w'' => e = .returned v ∧ w'' = w := h.mono fun _ _ ⟨he, hm⟩ => ⟨he, hm.symm⟩
/-- goes through at a copy alone -/
theorem at_copy {P : Program} {ops : Array Oper} {rest : List Oper} {dst : Option Tmp} {a : Act} {Q : Exit → Act → World → Prop} {w : World} {ty : TypeId} {pos : String} {after : Array Edge} {d s : Operand} {t u : TypeId}
    (h : wpList P ops Q ({ dst := dst, op := .call { callee := .builtin .copy, args := #[d, s], argTypes := #[t, u] }, type := ty, pos := pos, after := after, guard := none } :: rest) a w) :
    wpList P ops Q ({ dst := dst, op := .call { callee := .builtin .copy, args := #[d, s], argTypes := #[t, u] }, type := ty, pos := pos, after := after, guard := none } :: rest) a w := h
end Go.Proofs.Ytgngmmmdhhjbhaa
