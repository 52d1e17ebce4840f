/- Words of my own for the walks: rows of cells in memory that are read, rows that the call owns, append onto them. No program in sight. -/
import Derived.WalkKit
import Derived.WalkLawsBesides
import Derived.Lib.Hide
import Derived.Maps.AppendAt
import Derived.Deep.Draws
namespace Go.Proofs.Ytgngmmmdhhjbhaa
open Go.RowKit

theorem ret_int {k : IntKind} {a b : Int} (h : a = b) : Ending.returned (.int k a) = .returned (.int k b) := by rw [h]
theorem ret_bool {a b : Bool} (h : a = b) : Ending.returned (.bool a) = .returned (.bool b) := by rw [h]
@[go_sem] theorem u32_signed {α : Type} (x y : α) : (if IntKind.u32.signed = true then x else y) = y := if_neg (by decide)
@[go_sem] theorem u32_max : IntKind.u32.max = 4294967295 := by decide

@[go_sem] theorem cell?_setCell_self (w : World) (a : Addr) (x : Value) : (w.setCell a x).cell? a = (w.cell? a).map (fun _ => x) := by
  cases h : w.cell? a with
  | some u => rw [World.cell?_setCell_same w a x h]; rfl
  | none =>
    unfold World.cell? World.setCell at *
    simp only [Array.getElem?_modify, if_true] at *
    cases hb : w.heap[a.block]? with
    | none => rfl
    | some o =>
      rw [hb] at h
      cases o with
      | cells c e f =>
        simp only [Option.map_some] at h ⊢
        cases hs : a.spot.isSome with
        | true => rfl
        | false => simp [hs] at h ⊢; exact h
      | _ => rfl
theorem below_drewN {B : Nat} {a w : World} (h : Below B a w) (n : Nat) : Below B a (w.drewN n) := ⟨h.os, h.tape, h.output, h.size, h.block⟩
theorem bcell {W w1 : World} (hb : Below W.heap.size W w1) : (∀ b o, b < W.heap.size → w1.cell? ⟨b, o, none⟩ = W.cell? ⟨b, o, none⟩) ∧ (∀ b o, b < W.heap.size → w1.frozen? ⟨b, o, none⟩ = W.frozen? ⟨b, o, none⟩) ∧ W.heap.size ≤ w1.heap.size :=
  ⟨fun b o h => hb.cell (p := ⟨b, o, none⟩) h, fun b o h => hb.frozen (p := ⟨b, o, none⟩) h, hb.size⟩

/-- The cells 'xs' lie in memory from the address 'a' on ('a' is whatever it is when there are none). -/
def Row (w : World) (a : Option Addr) (xs : List Value) : Prop :=
  xs = [] ∨ ∃ b off, a = some ⟨b, off, none⟩ ∧ b < w.heap.size ∧ ∀ i (h : i < xs.length), w.cell? ⟨b, off + i, none⟩ = some xs[i]

def encB (x : UInt8) : Value := .int .u8 (x.toNat : Int)
def encI (x : Int) : Value := .int .i64 x
/-- bytes that can be read -/
def Byt (w : World) (a : Option Addr) (l : List UInt8) : Prop := Row w a (l.map encB)
/-- ints that can be read -/
def Ints (w : World) (a : Option Addr) (l : List Int) : Prop := Row w a (l.map encI)

theorem Row.nil (w : World) (a : Option Addr) : Row w a [] := .inl rfl
theorem Byt.nil (w : World) (a : Option Addr) : Byt w a [] := .inl rfl
theorem Ints.nil (w : World) (a : Option Addr) : Ints w a [] := .inl rfl

theorem Row.keep {w w' : World} {a : Option Addr} {xs : List Value} (h : Row w a xs) (hk : ∀ b off, a = some ⟨b, off, none⟩ → b < w.heap.size → w'.heap[b]? = w.heap[b]?) : Row w' a xs := by
  rcases h with h | ⟨b, off, rfl, hlt, hc⟩
  · exact .inl h
  · have hh := hk b off rfl hlt
    refine .inr ⟨b, off, rfl, ?_, fun i hi => ?_⟩
    · rw [Array.getElem?_eq_getElem hlt] at hh
      exact (Array.getElem?_eq_some_iff.1 hh).1
    · rw [← hc i hi]; exact World.cell?_of_block (w := w) hh
theorem Row.below {w w' : World} {B : Nat} {a : Option Addr} {xs : List Value} (h : Row w a xs) (hb : Below B w w') (hB : w.heap.size ≤ B) : Row w' a xs :=
  h.keep fun b _ _ hlt => hb.block b (by omega)
theorem Row.alloc {w : World} {a : Option Addr} {xs : List Value} (h : Row w a xs) (o : Obj) : Row (w.alloc o) a xs :=
  h.keep fun b _ _ hlt => Below.heap_alloc w o b hlt
theorem Row.drew {w : World} {a : Option Addr} {xs : List Value} (h : Row w a xs) : Row w.drew a xs := h
theorem Byt.below {w w' : World} {B : Nat} {a : Option Addr} {l : List UInt8} (h : Byt w a l) (hb : Below B w w') (hB : w.heap.size ≤ B) : Byt w' a l := Row.below h hb hB
theorem Byt.alloc {w : World} {a : Option Addr} {l : List UInt8} (h : Byt w a l) (o : Obj) : Byt (w.alloc o) a l := Row.alloc h o
theorem Ints.below {w w' : World} {B : Nat} {a : Option Addr} {l : List Int} (h : Ints w a l) (hb : Below B w w') (hB : w.heap.size ≤ B) : Ints w' a l := Row.below h hb hB
theorem Ints.alloc {w : World} {a : Option Addr} {l : List Int} (h : Ints w a l) (o : Obj) : Ints (w.alloc o) a l := Row.alloc h o

/-- a row, opened: each cell by itself -/
theorem Byt.open {w : World} {a : Option Addr} {l : List UInt8} (h : Byt w a l) : l = [] ∨ ∃ b off, a = some ⟨b, off, none⟩ ∧ b < w.heap.size ∧ ∀ i (h : i < l.length), w.cell? ⟨b, off + i, none⟩ = some (.int .u8 (l[i].toNat : Int)) := by
  rcases h with h | ⟨b, off, rfl, hlt, hc⟩
  · exact .inl (by simpa using h)
  · exact .inr ⟨b, off, rfl, hlt, fun i hi => by rw [hc i (by simpa using hi)]; simp [encB]⟩
theorem Ints.open {w : World} {a : Option Addr} {l : List Int} (h : Ints w a l) : l = [] ∨ ∃ b off, a = some ⟨b, off, none⟩ ∧ b < w.heap.size ∧ ∀ i (h : i < l.length), w.cell? ⟨b, off + i, none⟩ = some (.int .i64 l[i]) := by
  rcases h with h | ⟨b, off, rfl, hlt, hc⟩
  · exact .inl (by simpa using h)
  · exact .inr ⟨b, off, rfl, hlt, fun i hi => by rw [hc i (by simpa using hi)]; simp [encI]⟩

/-- A slice value that the call made: it owns its row (nil, or at the head of a block from 'base' on). -/
def Own (w : World) (base : Nat) (e : TypeId) (size : Nat) (a : Option Addr) (n cap : Nat) (xs : List Value) : Prop := w.ownsRow base e size (.slice a n cap) n xs
def OwnB (w : World) (base : Nat) (e : TypeId) (a : Option Addr) (cap : Nat) (l : List UInt8) : Prop := Own w base e 1 a l.length cap (l.map encB)
def OwnI (w : World) (base : Nat) (e : TypeId) (a : Option Addr) (cap : Nat) (l : List Int) : Prop := Own w base e 1 a l.length cap (l.map encI)

section
variable {w w' : World} {base : Nat} {e : TypeId} {size n cap : Nat} {a : Option Addr} {xs : List Value}
theorem Own.nil (w : World) (base : Nat) (e : TypeId) (size : Nat) : Own w base e size none 0 0 [] := World.ownsRow_nil w base e size
theorem OwnB.nil (w : World) (base : Nat) (e : TypeId) : OwnB w base e none 0 [] := World.ownsRow_nil w base e 1
theorem OwnI.nil (w : World) (base : Nat) (e : TypeId) : OwnI w base e none 0 [] := World.ownsRow_nil w base e 1
theorem Own.lt (h : Own w base e size a n cap xs) : ∀ k, (Value.slice a n cap).ownBlock = some k → base ≤ k ∧ k < w.heap.size := World.ownsRow.lt h
theorem Own.row (h : Own w base e size a n cap xs) : Row w a xs := by
  rcases h.2 with ⟨hv, hn⟩ | ⟨g, c, cur, hv, hb, hg, rest⟩
  · refine .inl ?_
    have := h.1
    rw [hn, Nat.zero_mul] at this
    exact List.eq_nil_of_length_eq_zero this
  · injection hv with ha _ _
    subst ha
    refine .inr ⟨g, 0, rfl, (Array.getElem?_eq_some_iff.1 hg).1, fun i hi => ?_⟩
    have := World.ownsRow.cells h (g := g) rfl i xs[i] (by simp)
    have hadd : (⟨g, 0, none⟩ : Addr).add i = ⟨g, 0 + i, none⟩ := by unfold Addr.add; split <;> simp_all
    rw [hadd] at this
    exact this
theorem Own.keep (h : Own w base e size a n cap xs) (hk : ∀ b, a = some ⟨b, 0, none⟩ → base ≤ b → b < w.heap.size → w'.heap[b]? = w.heap[b]?) : Own w' base e size a n cap xs := by
  refine ⟨h.1, ?_⟩
  rcases h.2 with hn | ⟨g, c, cur, hv, hb, hg, rest⟩
  · exact .inl hn
  · refine .inr ⟨g, c, cur, hv, hb, ?_, rest⟩
    injection hv with ha _ _
    rw [hk g ha hb (Array.getElem?_eq_some_iff.1 hg).1]
    exact hg
theorem Own.below {B : Nat} (h : Own w base e size a n cap xs) (hb : Below B w w') (hB : w.heap.size ≤ B) : Own w' base e size a n cap xs :=
  h.keep fun b _ _ hlt => hb.block b (by omega)
theorem Own.alloc (h : Own w base e size a n cap xs) (o : Obj) : Own (w.alloc o) base e size a n cap xs :=
  h.keep fun b _ _ hlt => Below.heap_alloc w o b hlt
theorem Own.mono {base' : Nat} (h : Own w base e size a n cap xs) (hb : base' ≤ base) : Own w base' e size a n cap xs := by
  refine ⟨h.1, ?_⟩
  rcases h.2 with hn | ⟨g, c, cur, hv, hb', rest⟩
  · exact .inl hn
  · exact .inr ⟨g, c, cur, hv, by omega, rest⟩
end

/-- the row's head, the world behind an append -/
def Grew (base : Nat) (w w' : World) (a a' : Option Addr) : Prop := w.grownBy w' ((a.map (·.block))) ∧ (a'.map (·.block) = a.map (·.block) ∨ a'.map (·.block) = some w.heap.size) ∧ base ≤ w.heap.size

section
variable {P : Program} (w : World)

theorem ownBlock_slice (a : Option Addr) (n c : Nat) : (Value.slice a n c).ownBlock = a.map (·.block) := by cases a <;> rfl

theorem run_append_none (base : Nat) (t ty e : TypeId) (i : TypeInfo) (size : Nat) (ht : P.underlying t = some (.slice e)) (hi : P.info? e = some i)
    (v : Value) (n : Nat) (xs : List Value) (hown : w.ownsRow base e size v n xs) (c : Nat) : (Builtin.append_ #[t, t] ty #[v, .slice none 0 c]).run P w = .ok v w := by
  rcases hown.2 with ⟨rfl, rfl⟩ | ⟨g, cap, cur, rfl, _, _, hnc, _⟩
  · simp [Builtin.append_, run_underlying ht, sizeOf, typeInfo, hi, Builtin.lenOf, Builtin.firstCells]
  · simp [Builtin.append_, run_underlying ht, sizeOf, typeInfo, hi, Builtin.lenOf, Builtin.firstCells, hnc, storeCells]

theorem Row.of_none {xs : List Value} (h : Row w none xs) : xs = [] := by
  rcases h with h | ⟨_, _, h, _⟩
  · exact h
  · cases h
theorem Row.cells {xs : List Value} {ad : Addr} (h : Row w (some ad) xs) : ∀ j u, xs[j]? = some u → w.cell? (ad.add j) = some u := by
  intro j u hu
  rcases h with rfl | ⟨b, off, ha, _, hc⟩
  · simp at hu
  · injection ha with ha
    subst ha
    obtain ⟨hj, rfl⟩ := List.getElem?_eq_some_iff.1 hu
    rw [← hc j hj]
    congr 1
    unfold Addr.add
    split <;> simp_all

/-- append of whatever can be read, onto a row that the call owns -/
theorem run_append_row (base : Nat) (t ty e : TypeId) (i : TypeInfo) (z : Value) (size bytes : Nat) (ht : P.underlying t = some (.slice e)) (hi : P.info? e = some i) (hz : i.zero = some z)
    (hsize : i.size = size) (hby : i.bytes = bytes) (hzs : z.cells.size = size) (hsz : 0 < size)
    (a : Option Addr) (n cap : Nat) (xs : List Value) (hown : Own w base e size a n cap xs)
    (A : Option Addr) (m c : Nat) (news : List Value) (hl : news.length = m * size) (hr : Row w A news) (h1 : ∀ u ∈ news, u.oneCell' = true)
    (h63 : n + m ≤ maxLen) (hbytes : (n + m) * bytes ≤ 140737488355328) (hbase : base ≤ w.heap.size) :
    ∃ a' cap' w', (Builtin.append_ #[t, t] ty #[.slice a n cap, .slice A m c]).run P w = .ok (.slice a' (n + m) cap') w' ∧ Own w' base e size a' (n + m) cap' (xs ++ news) ∧ Grew base w w' a a' := by
  rcases A with _ | ad
  · have hn := hr.of_none
    subst hn
    have hm : m = 0 := by
      rcases Nat.eq_zero_or_pos m with h0 | h0
      · exact h0
      · have := Nat.mul_pos h0 hsz
        simp at hl
        omega
    subst hm
    exact ⟨a, cap, w, run_append_none w base t ty e i size ht hi _ n xs hown c, by simpa using hown, World.grownBy.refl w _, .inl rfl, hbase⟩
  · obtain ⟨v', w', hrun, h2, h3, _, h5⟩ := run_append_own_at (P := P) w base t ty e i z size bytes ht hi hz hsize hby hzs hsz _ n xs hown ad m c news hl hr.cells h1 h63 hbytes hbase
    have hv : ∃ a' cap', v' = .slice a' (n + m) cap' := by
      rcases h2.2 with ⟨rfl, h0⟩ | ⟨g, cp, cur, rfl, _⟩
      · exact ⟨none, 0, by rw [h0]⟩
      · exact ⟨_, _, rfl⟩
    obtain ⟨a', cap', rfl⟩ := hv
    rw [ownBlock_slice] at h3 h5
    rw [ownBlock_slice] at h5
    exact ⟨a', cap', w', hrun, h2, h3, h5, hbase⟩

/-- the same at the operation -/
theorem wp_append_row {ops : Array Oper} {rest : List Oper} {o : Oper} {a : Act} {Q : Exit → Act → World → Prop} (hgd : o.guard = none) (s x : Operand) (t : TypeId)
    (ho : o.op = .call { callee := .builtin .append, args := #[s, x], argTypes := #[t, t] })
    (base : Nat) (e : TypeId) (i : TypeInfo) (z : Value) (size bytes : Nat) (ht : P.underlying t = some (.slice e)) (hi : P.info? e = some i) (hz : i.zero = some z)
    (hsize : i.size = size) (hby : i.bytes = bytes) (hzs : z.cells.size = size) (hsz : 0 < size)
    (b : Option Addr) (n cap : Nat) (xs : List Value) (hs : a.eval s = .slice b n cap) (A : Option Addr) (m c : Nat) (hx : a.eval x = .slice A m c)
    (hown : Own w base e size b n cap xs) (news : List Value) (hl : news.length = m * size) (hr : Row w A news) (h1 : ∀ u ∈ news, u.oneCell' = true)
    (h63 : n + m ≤ maxLen) (hbytes : (n + m) * bytes ≤ 140737488355328) (hbase : base ≤ w.heap.size)
    (h : ∀ b' cap' w', Own w' base e size b' (n + m) cap' (xs ++ news) → Grew base w w' b b' → wpList P ops Q rest (a.put o.dst (.slice b' (n + m) cap')) w') : wpList P ops Q (o :: rest) a w := by
  refine wpList_plain hgd fun K hK => ?_
  obtain ⟨b', cap', w', hrun, h2, h3⟩ := run_append_row (P := P) w base t o.type e i z size bytes ht hi hz hsize hby hzs hsz b n cap xs hown A m c news hl hr h1 h63 hbytes hbase
  unfold Oper.wp execOp
  simp only [ho, resolve, invoke, builtin, Sem.run_bind, Sem.run_pure, Result.andThen_ok, List.map_toArray, List.map_cons, List.map_nil, hs, hx, hrun]
  exact hK _ _ (h b' cap' w' h2 h3)
end

theorem Grew.below {base : Nat} {W w w' : World} {a a' : Option Addr} (hb : Below base W w) (hg : Grew base w w' a a') (ha : ∀ k, a.map (·.block) = some k → base ≤ k) : Below base W w' :=
  hb.grown hg.1 hg.2.2 (fun k hk => ha k hk)
theorem Own.base_le {w : World} {base : Nat} {e : TypeId} {size n cap : Nat} {a : Option Addr} {xs : List Value} (h : Own w base e size a n cap xs) : ∀ k, a.map (·.block) = some k → base ≤ k := by
  intro k hk
  exact (Own.lt h k (by rw [ownBlock_slice]; exact hk)).1
/-- a row elsewhere, behind an append -/
theorem Row.grew {base : Nat} {w w' : World} {a a' A : Option Addr} {xs : List Value} (h : Row w A xs) (hg : Grew base w w' a a') (hne : ∀ k, a.map (·.block) = some k → A.map (·.block) ≠ some k) : Row w' A xs :=
  h.keep fun b off hA hlt => hg.1.block b hlt (fun e => hne b e.symm (by rw [hA]; rfl))

/-- two rows whose blocks are not one -/
def Apart (a b : Option Addr) : Prop := ∀ k, a.map (·.block) = some k → b.map (·.block) ≠ some k
theorem Apart.symm {a b : Option Addr} (h : Apart a b) : Apart b a := fun k hb ha => h k ha hb
theorem Apart.none_left (b : Option Addr) : Apart none b := fun k h => by simp at h
theorem Apart.none_right (b : Option Addr) : Apart b none := fun k _ h => by simp at h
theorem Own.lt' {w : World} {base : Nat} {e : TypeId} {size n cap : Nat} {a : Option Addr} {xs : List Value} (h : Own w base e size a n cap xs) : ∀ k, a.map (·.block) = some k → k < w.heap.size := by
  intro k hk
  exact (Own.lt h k (by rw [ownBlock_slice]; exact hk)).2
theorem Own.grew {w w' : World} {base base' : Nat} {e : TypeId} {size n cap : Nat} {a a' b : Option Addr} {xs : List Value} (h : Own w base e size b n cap xs) (g : Grew base' w w' a a') (hne : Apart a b) : Own w' base e size b n cap xs :=
  h.keep fun k hb _ hlt => g.1.block k hlt (fun e => hne k e.symm (by rw [hb]; rfl))
theorem Apart.grew {w w' : World} {base : Nat} {a a' b : Option Addr} (h : Apart a b) (hb : ∀ k, b.map (·.block) = some k → k < w.heap.size) (g : Grew base w w' a a') : Apart a' b := by
  intro k ha hk
  rcases g.2.1 with e | e
  · exact h k (e ▸ ha) hk
  · have := hb k hk
    rw [e] at ha
    injection ha with ha
    omega
theorem Own.byt {w : World} {base : Nat} {e : TypeId} {size n cap : Nat} {a : Option Addr} {l : List UInt8} (h : Own w base e size a n cap (l.map encB)) : Byt w a l := h.row
theorem Own.ints {w : World} {base : Nat} {e : TypeId} {size n cap : Nat} {a : Option Addr} {l : List Int} (h : Own w base e size a n cap (l.map encI)) : Ints w a l := h.row
theorem encB_one (x : UInt8) : (encB x).oneCell' = true := rfl
theorem encI_one (x : Int) : (encI x).oneCell' = true := rfl
theorem mapB_one (l : List UInt8) : ∀ u ∈ l.map encB, u.oneCell' = true := by
  intro u hu
  obtain ⟨x, _, rfl⟩ := List.mem_map.1 hu
  rfl
theorem mapI_one (l : List Int) : ∀ u ∈ l.map encI, u.oneCell' = true := by
  intro u hu
  obtain ⟨x, _, rfl⟩ := List.mem_map.1 hu
  rfl

/-- a block that has just been made, read from its head -/
theorem row_new (w : World) (C : Array Value) (e : TypeId) (m : Nat × Nat) : Row (w.alloc (.cells C e m)) (some ⟨w.heap.size, 0, none⟩) C.toList := by
  refine .inr ⟨_, 0, rfl, by simp, fun i hi => ?_⟩
  rw [World.cell?_alloc_mark]
  simp at hi
  simp [hi]
theorem byt_new {w : World} {C : Array Value} {e : TypeId} {m : Nat × Nat} {l : List UInt8} (h : C.toList = l.map encB) : Byt (w.alloc (.cells C e m)) (some ⟨w.heap.size, 0, none⟩) l := by
  rw [Byt, ← h]; exact row_new w C e m
theorem own_new (w : World) (C : Array Value) (e : TypeId) (size n : Nat) (hC : C.size = n * size) (hn : n ≤ maxLen) : Own (w.alloc (.cells C e)) w.heap.size e size (some ⟨w.heap.size, 0, none⟩) n n C.toList :=
  ⟨by simpa using hC, .inr ⟨w.heap.size, n, C, rfl, Nat.le_refl _, heap_alloc_new w _, Nat.le_refl _, hn, hC, by
    rw [← hC, show C.size = C.toList.length by simp, List.take_length]⟩⟩

theorem own_made (w : World) (C : Array Value) (e : TypeId) (size cap : Nat) (hC : C.size = cap * size) (hn : cap ≤ maxLen) : Own (w.alloc (.cells C e)) w.heap.size e size (some ⟨w.heap.size, 0, none⟩) 0 cap [] :=
  World.ownsRow_made w C cap (Nat.le_refl _) hn hC
theorem ofInt_i64_nat (a : Nat) (ha : a < 9223372036854775808) : (BitVec.ofInt 64 (a : Int)).toNat = a := by
  rw [BitVec.ofInt_natCast, BitVec.toNat_ofNat]; exact Nat.mod_eq_of_lt (by omega)
theorem i64_and (a b : Nat) (ha : a < 9223372036854775808) (hb : b < 9223372036854775808) : bits .and .i64 (a : Int) (b : Int) = ((a &&& b : Nat) : Int) := by
  have hx : a &&& b < 2 ^ 63 := Nat.and_lt_two_pow _ (by omega)
  show IntKind.i64.wrap ((BitVec.ofInt 64 (a : Int) &&& BitVec.ofInt 64 (b : Int)).toNat : Int) = _
  rw [BitVec.toNat_and, ofInt_i64_nat a ha, ofInt_i64_nat b hb, IntKind.wrap_i64]
  omega
theorem i64_or (a b : Nat) (ha : a < 9223372036854775808) (hb : b < 9223372036854775808) : bits .or .i64 (a : Int) (b : Int) = ((a ||| b : Nat) : Int) := by
  have hx : a ||| b < 2 ^ 63 := Nat.or_lt_two_pow (by omega) (by omega)
  show IntKind.i64.wrap ((BitVec.ofInt 64 (a : Int) ||| BitVec.ofInt 64 (b : Int)).toNat : Int) = _
  rw [BitVec.toNat_or, ofInt_i64_nat a ha, ofInt_i64_nat b hb, IntKind.wrap_i64]
  omega

theorem Row.take {w : World} {a : Option Addr} {xs : List Value} (h : Row w a xs) (k : Nat) : Row w a (xs.take k) := by
  rcases h with rfl | ⟨b, off, rfl, hlt, hc⟩
  · exact .inl (by simp)
  · refine .inr ⟨b, off, rfl, hlt, fun i hi => ?_⟩
    have : i < xs.length := by simp at hi; omega
    rw [hc i this]
    simp
theorem Byt.take {w : World} {a : Option Addr} {l : List UInt8} (h : Byt w a l) (k : Nat) : Byt w a (l.take k) := by
  unfold Byt at h ⊢
  rw [List.map_take]
  exact Row.take h k
theorem Row.drop {w : World} {b off : Nat} {xs : List Value} (h : Row w (some ⟨b, off, none⟩) xs) (k : Nat) : Row w (some ⟨b, off + k, none⟩) (xs.drop k) := by
  rcases h with rfl | ⟨b', off', ha, hlt, hc⟩
  · exact .inl (by simp)
  · injection ha with ha
    injection ha with h1 h2 _
    subst h1 h2
    refine .inr ⟨_, _, rfl, hlt, fun i hi => ?_⟩
    have : k + i < xs.length := by simp at hi; omega
    rw [Nat.add_assoc, hc (k + i) this]
    simp
theorem Byt.drop {w : World} {b off : Nat} {l : List UInt8} (h : Byt w (some ⟨b, off, none⟩) l) (k : Nat) : Byt w (some ⟨b, off + k, none⟩) (l.drop k) := by
  unfold Byt at h ⊢
  rw [List.map_drop]
  exact Row.drop h k

/-- an owned row, opened and written -/
theorem Own.open_ {w : World} {base : Nat} {e : TypeId} {size n cap : Nat} {a : Option Addr} {xs : List Value} (h : Own w base e size a n cap xs) (hn : 1 ≤ n) : ∃ g, a = some ⟨g, 0, none⟩ ∧ base ≤ g ∧ g < w.heap.size := by
  rcases h.2 with ⟨_, h0⟩ | ⟨g, c, cur, hv, hb, hg, _⟩
  · omega
  · injection hv with ha _ _
    exact ⟨g, ha, hb, (Array.getElem?_eq_some_iff.1 hg).1⟩
theorem Own.cap_le {w : World} {base : Nat} {e : TypeId} {size n cap : Nat} {a : Option Addr} {xs : List Value} (h : Own w base e size a n cap xs) : n ≤ cap := by
  rcases h.2 with ⟨hv, h0⟩ | ⟨g, c, cur, hv, _, _, hnc, _⟩
  · omega
  · injection hv with _ _ hc
    omega
theorem Own.cell {w : World} {base : Nat} {e : TypeId} {size n cap g : Nat} {xs : List Value} (h : Own w base e size (some ⟨g, 0, none⟩) n cap xs) (k : Nat) (hk : k < xs.length) : w.cell? ⟨g, k, none⟩ = some xs[k] := by
  have := World.ownsRow.cells h (g := g) rfl k xs[k] (by simp)
  have hadd : (⟨g, 0, none⟩ : Addr).add k = ⟨g, k, none⟩ := by unfold Addr.add; split <;> simp_all
  rwa [hadd] at this
theorem Own.frozen {w : World} {base : Nat} {e : TypeId} {size n cap g : Nat} {xs : List Value} (h : Own w base e size (some ⟨g, 0, none⟩) n cap xs) (k : Nat) : w.frozen? ⟨g, k, none⟩ = false := by
  rcases h.2 with ⟨h0, _⟩ | ⟨g', c, cur, hv, hb, hg, _⟩
  · cases h0
  · injection hv with ha _ _
    injection ha with ha
    injection ha with ha _ _
    subst ha
    simp [World.frozen?, hg]
theorem Own.set {w : World} {base : Nat} {e : TypeId} {size n cap g : Nat} {xs : List Value} (h : Own w base e size (some ⟨g, 0, none⟩) n cap xs) (k : Nat) (u : Value) : Own (w.setCell ⟨g, k, none⟩ u) base e size (some ⟨g, 0, none⟩) n cap (xs.set k u) := by
  refine ⟨by rw [List.length_set]; exact h.1, ?_⟩
  rcases h.2 with ⟨h0, _⟩ | ⟨g', c, cur, hv, hb, hg, hnc, hm, hs, ht⟩
  · cases h0
  · refine .inr ⟨g', c, cur.setIfInBounds k u, hv, hb, ?_, hnc, hm, by simpa using hs, ?_⟩
    · injection hv with ha _ _
      injection ha with ha
      injection ha with ha _ _
      subst ha
      simp only [World.setCell, Array.getElem?_modify, if_true, hg]
      rfl
    · rw [Array.toList_setIfInBounds, List.take_set, ht]
theorem Own.setB {w : World} {base : Nat} {e : TypeId} {size n cap g : Nat} {l : List UInt8} (h : Own w base e size (some ⟨g, 0, none⟩) n cap (l.map encB)) (k : Nat) (x : UInt8) (u : Value) (hu : u = encB x) : Own (w.setCell ⟨g, k, none⟩ u) base e size (some ⟨g, 0, none⟩) n cap ((l.set k x).map encB) := by
  subst hu
  rw [List.map_set]
  exact h.set k _
/-- a row elsewhere, behind a store -/
theorem Own.far {w : World} {base : Nat} {e : TypeId} {size n cap : Nat} {b : Option Addr} {xs : List Value} (h : Own w base e size b n cap xs) {p : Addr} (hp : b.map (·.block) ≠ some p.block) (u : Value) : Own (w.setCell p u) base e size b n cap xs :=
  h.keep fun k hb _ _ => Below.heap_setCell w p u k (fun e => hp (by rw [hb, ← e]; rfl))
theorem Row.far {w : World} {a : Option Addr} {xs : List Value} (h : Row w a xs) {p : Addr} (hp : a.map (·.block) ≠ some p.block) (u : Value) : Row (w.setCell p u) a xs :=
  h.keep fun k off hb _ => Below.heap_setCell w p u k (fun e => hp (by rw [hb, ← e]; rfl))

/-- a block that is known whole -/
def Blk (w : World) (g : Nat) (t : TypeId) (cs : Array Value) : Prop := w.heap[g]? = some (.cells cs t (0, 0))
theorem Blk.lt {w : World} {g : Nat} {t : TypeId} {cs : Array Value} (h : Blk w g t cs) : g < w.heap.size := (Array.getElem?_eq_some_iff.1 h).1
theorem Blk.cell {w : World} {g : Nat} {t : TypeId} {cs : Array Value} (h : Blk w g t cs) (i : Nat) : w.cell? ⟨g, i, none⟩ = cs[i]? := cell_of_row w g i cs t (0, 0) h
theorem Blk.frozen {w : World} {g : Nat} {t : TypeId} {cs : Array Value} (h : Blk w g t cs) (i : Nat) : w.frozen? ⟨g, i, none⟩ = false := by
  unfold Blk at h
  simp [World.frozen?, h]
theorem Blk.new (w : World) (t : TypeId) (cs : Array Value) : Blk (w.alloc (.cells cs t)) w.heap.size t cs := heap_alloc_new w _
theorem Blk.alloc {w : World} {g : Nat} {t : TypeId} {cs : Array Value} (h : Blk w g t cs) (o : Obj) : Blk (w.alloc o) g t cs := (Below.heap_alloc w o g h.lt).trans h
theorem Blk.below {w w' : World} {g : Nat} {t : TypeId} {cs : Array Value} {B : Nat} (h : Blk w g t cs) (hb : Below B w w') (hg : g < B) : Blk w' g t cs := (hb.block g hg).trans h
theorem Blk.set {w : World} {g : Nat} {t : TypeId} {cs : Array Value} (h : Blk w g t cs) (i : Nat) (u : Value) : Blk (w.setCell ⟨g, i, none⟩ u) g t (cs.setIfInBounds i u) := by
  unfold Blk at h ⊢
  simp [World.setCell, Array.getElem?_modify, h]
theorem Blk.far {w : World} {g : Nat} {t : TypeId} {cs : Array Value} (h : Blk w g t cs) {p : Addr} (hp : g ≠ p.block) (u : Value) : Blk (w.setCell p u) g t cs := (Below.heap_setCell w p u g hp).trans h
theorem Blk.drewN {w : World} {g : Nat} {t : TypeId} {cs : Array Value} (h : Blk w g t cs) (n : Nat) : Blk (w.drewN n) g t cs := h

theorem Blk.five {w : World} {g : Nat} {t : TypeId} {a b c d e : Value} (h : Blk w g t #[a, b, c, d, e]) : w.cell? ⟨g, 0, none⟩ = some a ∧ w.cell? ⟨g, 1, none⟩ = some b ∧ w.cell? ⟨g, 2, none⟩ = some c ∧ w.cell? ⟨g, 3, none⟩ = some d ∧ w.cell? ⟨g, 4, none⟩ = some e ∧ (∀ i, w.frozen? ⟨g, i, none⟩ = false) ∧ g < w.heap.size :=
  ⟨h.cell 0, h.cell 1, h.cell 2, h.cell 3, h.cell 4, h.frozen, h.lt⟩
theorem Blk.set5 {w : World} {g : Nat} {t : TypeId} {a b c d e : Value} (h : Blk w g t #[a, b, c, d, e]) (a' b' c' d' e' : Value) :
    Blk (((((w.setCell ⟨g, 0, none⟩ a').setCell ⟨g, 1, none⟩ b').setCell ⟨g, 2, none⟩ c').setCell ⟨g, 3, none⟩ d').setCell ⟨g, 4, none⟩ e') g t #[a', b', c', d', e'] := ((((h.set 0 a').set 1 b').set 2 c').set 3 d').set 4 e'

/-- what comes in as a slice of integers (as the shell of a law's proof has it) -/
def IsRow (k : IntKind) (w : World) (a : Option Addr) (len cap : Nat) (zs : List Int) : Prop :=
  (a = none ∧ len = 0 ∧ cap = 0 ∧ zs = []) ∨
  ∃ x, a = some x ∧ len ≤ cap ∧ cap ≤ maxLen ∧ zs.length = cap ∧ (∀ i, i < zs.length → w.cell? (x.add i) = some (.int k (zs.getD i 0))) ∧ ∀ n ∈ zs, (Lit.int k n).wf = true

theorem isRow_row {k : IntKind} {w : World} {a : Option Addr} {len cap : Nat} {zs : List Int} (h : IsRow k w a len cap zs) :
    len ≤ 9223372036854775807 ∧ (zs.take len).length = len ∧ Row w a ((zs.take len).map (Value.int k)) ∧ ∀ n ∈ zs.take len, (Lit.int k n).wf = true := by
  rcases h with ⟨rfl, rfl, rfl, rfl⟩ | ⟨x, rfl, hl, hm, hz, hc, hw⟩
  · exact ⟨by omega, rfl, .inl rfl, by simp⟩
  · unfold maxLen at hm
    refine ⟨by omega, by simp; omega, ?_, fun n hn => hw n (List.mem_of_mem_take hn)⟩
    rcases Nat.eq_zero_or_pos len with h0 | h0
    · subst h0; exact .inl (by simp)
    · obtain ⟨b, off, sp⟩ := x
      have h0c := hc 0 (by omega)
      have hsp : sp = none := by simpa [Addr.add] using World.cell?_spot h0c
      subst hsp
      refine .inr ⟨b, off, rfl, ?_, fun i hi => ?_⟩
      · exact World.block_lt_of_cell? w _ h0c
      · have hi' : i < len ∧ i < zs.length := by simp at hi; omega
        have hadd : (⟨b, off, none⟩ : Addr).add i = ⟨b, off + i, none⟩ := by unfold Addr.add; split <;> simp_all
        rw [← hadd, hc i hi'.2]
        simp [List.getD_eq_getElem?_getD, hi'.2]

theorem byte_of_wf {n : Int} (h : (Lit.int .u8 n).wf = true) : ((UInt8.ofNat n.toNat).toNat : Int) = n := by
  simp [Lit.wf, IntKind.min, IntKind.max, IntKind.signed, IntKind.bits] at h
  simp
  omega

theorem isRow_cap {k : IntKind} {w : World} {a : Option Addr} {len cap : Nat} {zs : List Int} (h : IsRow k w a len cap zs) : len ≤ cap := by
  rcases h with ⟨_, rfl, rfl, _⟩ | ⟨_, _, h, _⟩
  · omega
  · exact h
theorem isRow_byt {w : World} {a : Option Addr} {len cap : Nat} {zs : List Int} (h : IsRow .u8 w a len cap zs) :
    ∃ l : List UInt8, l.length = len ∧ l.length ≤ 9223372036854775807 ∧ Byt w a l := by
  obtain ⟨h1, h2, h3, h4⟩ := isRow_row h
  refine ⟨(zs.take len).map (fun n => UInt8.ofNat n.toNat), by simpa using h2, by simp; omega, ?_⟩
  have e : ((zs.take len).map (fun n => UInt8.ofNat n.toNat)).map encB = (zs.take len).map (Value.int .u8) := by
    rw [List.map_map]
    refine List.map_congr_left fun n hn => ?_
    show Value.int .u8 _ = Value.int .u8 n
    rw [byte_of_wf (h4 n hn)]
  rw [Byt, e]
  exact h3

theorem wf_i64 {n : Int} (h : (Lit.int .i64 n).wf = true) : -9223372036854775808 ≤ n ∧ n ≤ 9223372036854775807 := by
  simpa [Lit.wf, IntKind.min, IntKind.max, IntKind.signed, IntKind.bits] using h

theorem wf_u32 {n : Int} (h : (Lit.int .u32 n).wf = true) : 0 ≤ n ∧ n ≤ 4294967295 := by
  simpa [Lit.wf, IntKind.min, IntKind.max, IntKind.signed, IntKind.bits] using h
theorem wf_u8 {n : Int} (h : (Lit.int .u8 n).wf = true) : 0 ≤ n ∧ n ≤ 255 := by
  simpa [Lit.wf, IntKind.min, IntKind.max, IntKind.signed, IntKind.bits] using h

theorem isRow_ints {w : World} {a : Option Addr} {len cap : Nat} {zs : List Int} (h : IsRow .i64 w a len cap zs) :
    ∃ l : List Int, l.length = len ∧ l.length ≤ 9223372036854775807 ∧ Ints w a l ∧ ∀ n ∈ l, -9223372036854775808 ≤ n ∧ n ≤ 9223372036854775807 := by
  obtain ⟨h1, h2, h3, h4⟩ := isRow_row h
  exact ⟨zs.take len, h2, by omega, h3, fun n hn => wf_i64 (h4 n hn)⟩
end Go.Proofs.Ytgngmmmdhhjbhaa
