/- record.Size, Parse -/
import Derived.Test.YtdkifkbnkedbpaaRecOne
namespace Go.Proofs.Ytdkifkbnkedbpaa
set_option linter.unusedVariables false
open Go.RowKit Go.Sort
set_option maxRecDepth 100000

theorem info_view : (Try.prog.info? 43).map (fun i => (i.zero, i.size, i.bytes)) = some (some (.agg #[.bool false, .bool false, .slice none 0 0, .slice none 0 0]), 4, 56) := by kernel_rfl
/-- a list of views that the call makes -/
structure VxL (W : World) (B : Nat) (its : List Vx) (xa : Option Addr) (xc : Nat) : Prop where
  own : Own W B 43 4 xa its.length xc (vxCells its)
  cs : ∀ v ∈ its, Own W 0 3 1 v.ca v.cs.length v.cc (v.cs.map encI)
  ns : ∀ v ∈ its, Own W 0 3 1 v.na v.ns.length v.nc (v.ns.map encI)
section
variable {w W W' : World} {B : Nat} {its : List Vx} {xa : Option Addr} {xc : Nat}
theorem VxL.keep (h : VxL W B its xa xc) (hb : ∀ b, b < W.heap.size → W'.heap[b]? = W.heap[b]?) : VxL W' B its xa xc :=
  ⟨h.own.keep fun b _ _ hl => hb b hl, fun v hv => (h.cs v hv).keep fun b _ _ hl => hb b hl, fun v hv => (h.ns v hv).keep fun b _ _ hl => hb b hl⟩
theorem VxL.below (h : VxL W B its xa xc) (hb : Below W.heap.size W W') : VxL W' B its xa xc := h.keep fun b hl => hb.block b hl
theorem VxL.vws (h : VxL W B its xa xc) : Vws W xa its := ⟨h.own.row, fun v hv => (h.cs v hv).ints, fun v hv => (h.ns v hv).ints⟩
theorem VxL.push (h : VxL W B its xa xc) {x : Vx} {xb : Option Addr} {N xd : Nat} (hN : N = its.length + 1) (own : Own W' B 43 4 xb N xd (vxCells its ++ x.cells)) (gr : Grew B W W' xa xb) (hp : Own W 0 3 1 x.ca x.cs.length x.cc (x.cs.map encI)) (hq : Own W 0 3 1 x.na x.ns.length x.nc (x.ns.map encI)) : VxL W' B (its ++ [x]) xb xd := by
  subst hN
  have pw : ∀ y ∈ its ++ [x], Own W 0 3 1 y.ca y.cs.length y.cc (y.cs.map encI) := fun y hy => by
    rcases List.mem_append.1 hy with hy | hy
    · exact h.cs y hy
    · rw [List.mem_singleton.1 hy]; exact hp
  have qw : ∀ y ∈ its ++ [x], Own W 0 3 1 y.na y.ns.length y.nc (y.ns.map encI) := fun y hy => by
    rcases List.mem_append.1 hy with hy | hy
    · exact h.ns y hy
    · rw [List.mem_singleton.1 hy]; exact hq
  have e : vxCells (its ++ [x]) = vxCells its ++ x.cells := by simp [vxCells]
  exact ⟨by rw [e, List.length_append]; exact own, fun y hy => (pw y hy).grew gr (h.own.apart2 (pw y hy) (by decide)), fun y hy => (qw y hy).grew gr (h.own.apart2 (qw y hy) (by decide))⟩
theorem VxL.nil (W : World) (B : Nat) : VxL W B [] none 0 := ⟨Own.nil _ _ _ _, by simp, by simp⟩
end
/-- append of one view that has just been laid -/
theorem app1V {ops : Array Oper} {rest : List Oper} {o : Oper} {a : Act} {Q : Exit → Act → World → Prop} {w : World} (hgd : o.guard = none) (s x : Operand) (ho : o.op = .call { callee := .builtin .append, args := #[s, x], argTypes := #[28, 28] })
    (B : Nat) (xa : Option Addr) (n xc : Nat) (its : List Vx) (hs : a.eval s = .slice xa n xc) (hn : n = its.length) (fl ov : Bool) (cs ns : List Int) (ca : Option Addr) (cc : Nat) (na : Option Addr) (nc n1 n2 : Nat) (h1 : n1 = cs.length) (h2 : n2 = ns.length) (X : Nat) (hx : a.eval x = .slice (some ⟨X, 0, none⟩) 1 1) (hX : X = w.heap.size)
    (il : VxL w B its xa xc) (hB : B ≤ w.heap.size) (hp : Own w 0 3 1 ca n1 cc (cs.map encI)) (hq : Own w 0 3 1 na n2 nc (ns.map encI)) (hbig : its.length ≤ 1000000000)
    (h : ∀ xb xd w', VxL w' B (its ++ [⟨fl, ov, cs, ns, ca, cc, na, nc⟩]) xb xd → Grew B (w.alloc (.cells #[.bool fl, .bool ov, .slice ca n1 cc, .slice na n2 nc] 43)) w' xa xb → wpList Try.prog ops Q rest (a.put o.dst (.slice xb (n + 1) xd)) w') :
    wpList Try.prog ops Q (o :: rest) a (w.alloc (.cells #[.bool fl, .bool ov, .slice ca n1 cc, .slice na n2 nc] 43)) := by
  subst hn hX h1 h2
  obtain ⟨i0, hi, hz0, hz1, hz2⟩ := info_parts info_view
  have il1 := il.below (show Below w.heap.size w (w.alloc (.cells #[.bool fl, .bool ov, .slice ca cs.length cc, .slice na ns.length nc] 43)) from (by repeat (first | (with_reducible refine Below.setCell ?_ ?_ _) | (with_reducible refine Below.alloc ?_ ?_ _) | (with_reducible refine Below.drew ?_) | (with_reducible refine below_drewN ?_ _) | (with_reducible exact Below.refl _ _) | (focus (simp; done)) | (focus (simp; omega)) | (focus omega))))
  have hrow : Row (w.alloc (.cells #[.bool fl, .bool ov, .slice ca cs.length cc, .slice na ns.length nc] 43)) (some ⟨w.heap.size, 0, none⟩) [.bool fl, .bool ov, .slice ca cs.length cc, .slice na ns.length nc] :=
    row_new w #[.bool fl, .bool ov, .slice ca cs.length cc, .slice na ns.length nc] 43 (0, 0)
  refine wp_append_row _ hgd s x _ ho B _ i0 _ 4 56 Try.underlying28 hi hz0 hz1 hz2 rfl (by decide) xa its.length xc _ hs (some ⟨w.heap.size, 0, none⟩) 1 1 hx il1.own [.bool fl, .bool ov, .slice ca cs.length cc, .slice na ns.length nc] rfl hrow (by simp [Value.oneCell']) (by simp only [maxLen]; omega) (by omega) (by simp; omega) ?_
  intro xb xd w' own' gr
  exact h xb xd w' (il1.push (x := ⟨fl, ov, cs, ns, ca, cc, na, nc⟩) rfl own' gr (hp.alloc _) (hq.alloc _)) gr
/-- make([]View, 0, n) -/
theorem wp_makeV {ops : Array Oper} {rest : List Oper} {dst : Option Tmp} {a : Act} {Q : Exit → Act → World → Prop} {w : World} {ty : TypeId} {pos : String} {after : Array Edge} {x y : Operand}
    (n : Nat) (hx : a.eval x = .int .i64 0) (hy : a.eval y = .int .i64 n) (hn : n ≤ 1000000)
    (h : ∀ W, VxL W w.heap.size [] (some ⟨w.heap.size, 0, none⟩) n → Below w.heap.size w W → W.heap.size = w.heap.size + 1 → wpList Try.prog ops Q rest (a.put dst (.slice (some ⟨w.heap.size, 0, none⟩) 0 n)) W) :
    wpList Try.prog ops Q ({ dst := dst, op := .makeSlice 28 x y, type := ty, pos := pos, after := after, guard := none } :: rest) a w := by
  obtain ⟨i0, hi, hz0, hz1, hz2⟩ := info_parts info_view
  refine wpList_plain rfl fun K hK => ?_
  have hrun := run_make (P := Try.prog) w 28 43 i0 _ Try.underlying28 hi hz0 .i64 .i64 ((0 : Nat) : Int) n (by omega) (by omega) (by rw [hz2]; omega) (by omega)
  simp only [Int.toNat_natCast, hz1] at hrun
  unfold Oper.wp
  simp only [execOp, hx, hy, Sem.run_bind]
  rw [show (Value.int IntKind.i64 0) = Value.int IntKind.i64 ((0 : Nat) : Int) from rfl, hrun]
  simp [go_sem]
  exact hK _ _ (h _ ⟨own_made w _ _ 4 n (by simp [madeCells]) (by simp only [maxLen]; omega), by simp, by simp⟩ ((Below.refl _ _).alloc (Nat.le_refl _) _) (by simp))
theorem rec_Size (n : Int) (w : World) (h0 : 0 ≤ n) (h1 : n ≤ 1000) : Calls Try.prog 23 #[.int .i64 n] w fun e w' => e = .returned (.int .i64 (3 + n)) ∧ w = w' := by
  go_enter Try.func23, Try.ntmps23
  go_wp2
  go_ret
  exact ⟨rfl, rfl⟩
theorem rec_SizeW (n : Int) (w : World) : Calls Try.prog 23 #[.int .i64 n] w fun e w' => e = .returned (.int .i64 (wrap64 (3 + n))) ∧ w = w' := by
  go_enter Try.func23, Try.ntmps23
  go_wp2
  go_ret
  exact ⟨rfl, rfl⟩
theorem ref23_Size (n : Int) (w : World) (h0 : 0 ≤ n) (h1 : n ≤ 1000) : Calls Try.prog 24 #[.int .i64 n] w fun e w' => e = .returned (.int .i64 (3 + n)) ∧ w = w' := by
  go_enter Try.func24, Try.ntmps24
  go_wp2
  go_ret
  exact ⟨rfl, rfl⟩
theorem ref23_SizeW (n : Int) (w : World) : Calls Try.prog 24 #[.int .i64 n] w fun e w' => e = .returned (.int .i64 (wrap64 (3 + n))) ∧ w = w' := by
  go_enter Try.func24, Try.ntmps24
  go_wp2
  go_ret
  exact ⟨rfl, rfl⟩
theorem rec_oneL (a : Option Addr) (l : List UInt8) (n m c : Nat) (w : World) (hb : Byt w a l) (hl : l.length = m + 3) (hn : n = m + 3) (hm8 : m ≤ 8) : Calls Try.prog 33 #[.slice a n c] w (OneR l m w) := by
  match l, hb, hl with
  | x :: y :: z :: r, hb, hl => exact rec_one a x y z r n m c w hb hn (by simpa using hl.symm) hm8
theorem one_N {l : List UInt8} (h : Hid (unV l = none)) (a : Option Addr) (n m c : Nat) (w : World) (hb : Byt w a l) (hl : l.length = m + 3) (hn : n = m + 3) (hm8 : m ≤ 8) : Calls Try.prog 33 #[.slice a n c] w fun e w' => ∃ (fl ov : Bool) (n1 n2 : Nat) (ca : Option Addr) (cc : Nat) (na : Option Addr) (nc : Nat), e = .returned (.tuple #[.agg #[.bool fl, .bool ov, .slice ca n1 cc, .slice na n2 nc], .bool false]) ∧ Below w.heap.size w w' :=
  (rec_oneL a l n m c w hb hl hn hm8).mono fun e w' ⟨fl, ov, n1, n2, ca, cc, na, nc, b, he, hbl, hr⟩ => by
    rcases hr with ⟨rfl, _⟩ | ⟨_, _, _, cs, ns, hu, _⟩
    · exact ⟨fl, ov, n1, n2, ca, cc, na, nc, he, hbl⟩
    · rw [h.out] at hu; cases hu
theorem one_Y {l : List UInt8} {fl ov : Bool} {cs ns : List Int} (h : Hid (unV l = some (fl, ov, cs, ns))) (a : Option Addr) (n m c : Nat) (w : World) (hb : Byt w a l) (hl : l.length = m + 3) (hn : n = m + 3) (hm8 : m ≤ 8) : Calls Try.prog 33 #[.slice a n c] w fun e w' => ∃ (ca : Option Addr) (cc : Nat) (na : Option Addr) (nc : Nat), e = .returned (.tuple #[.agg #[.bool fl, .bool ov, .slice ca m cc, .slice na m nc], .bool true]) ∧ Below w.heap.size w w' ∧ Own w' w.heap.size 3 1 ca m cc (cs.map encI) ∧ Own w' w.heap.size 3 1 na m nc (ns.map encI) :=
  (rec_oneL a l n m c w hb hl hn hm8).mono fun e w' ⟨fl', ov', n1, n2, ca, cc, na, nc, b, he, hbl, hr⟩ => by
    rcases hr with ⟨_, hu⟩ | ⟨rfl, rfl, rfl, cs', ns', hu, _, _, o1, o2⟩
    · rw [h.out] at hu; cases hu
    · rw [h.out] at hu
      injection hu with hu
      simp only [Prod.mk.injEq] at hu
      obtain ⟨rfl, rfl, rfl, rfl⟩ := hu
      exact ⟨ca, cc, na, nc, he, hbl, o1, o2⟩
theorem byt_next {w : World} {ba oa : Nat} {p : List UInt8} {pc T : Nat} (hb : Byt w (some ⟨ba, oa, none⟩) p) (hc : p.length ≤ pc) : Byt w (if pc = T then some ⟨ba, oa, none⟩ else some ⟨ba, oa + T, none⟩) (p.drop T) := by
  by_cases h : pc = T
  · rw [if_pos h, List.drop_eq_nil_of_le (by omega)]
    exact Byt.nil _ _
  · rw [if_neg h]
    exact hb.drop T
end Go.Proofs.Ytdkifkbnkedbpaa
