/- slices.Clone of legs; request.clone -/
import Derived.Test.YtbanejpihdhbdaaDkReqs
import Derived.WalkSpells
namespace Go.Proofs.Ytbanejpihdhbdaa
set_option linter.unusedVariables false
open Go.RowKit Go.Sort
set_option maxRecDepth 100000

theorem Blk.next (w : World) (o : Obj) (e : TypeId) (C : Array Value) : Blk ((w.alloc o).alloc (.cells C e)) (w.heap.size + 1) e C := by
  have h := Blk.new (w.alloc o) e C
  rwa [show (w.alloc o).heap.size = w.heap.size + 1 by simp] at h
/-- append of legs onto an owned row -/
theorem appLg {ops : Array Oper} {rest : List Oper} {o : Oper} {a : Act} {Q : Exit → Act → World → Prop} {w : World} (hgd : o.guard = none) (s x : Operand) (ho : o.op = .call { callee := .builtin .append, args := #[s, x], argTypes := #[26, 26] })
    (base : Nat) (b : Option Addr) (n cap : Nat) (k : List Lg) (hs : a.eval s = .slice b n cap) (A : Option Addr) (m c : Nat) (l : List Lg) (hx : a.eval x = .slice A m c) (own : Own w base 25 5 b n cap (lgCells k)) (hr : Row w A (lgCells l)) (hm : m = l.length) (hbase : base ≤ w.heap.size) (hbig : n + m ≤ 1000000)
    (h : ∀ b' cap' w', Own w' base 25 5 b' (n + m) cap' (lgCells (k ++ l)) → Grew base w w' b b' → wpList Try.prog ops Q rest (a.put o.dst (.slice b' (n + m) cap')) w') : wpList Try.prog ops Q (o :: rest) a w := by
  obtain ⟨i0, hi, hz0, hz1, hz2⟩ := info_parts info_leg
  refine wp_append_row _ hgd s x _ ho base _ i0 _ 5 40 Try.underlying26 hi hz0 hz1 hz2 rfl (by decide) b n cap _ hs A m c hx own (lgCells l) (by rw [lgCells_len, hm]) hr (lgCells_one l) (by simp only [maxLen]; omega) (by omega) hbase ?_
  intro b' cap' w' own' g
  exact h b' cap' w' (by rw [lgCells_append]; exact own') g
def CloneR (l : List Lg) (n : Nat) (w : World) (e : Ending) (w' : World) : Prop := ∃ (a' : Option Addr) (c' : Nat), e = .returned (.slice a' n c') ∧ Own w' w.heap.size 25 5 a' n c' (lgCells l) ∧ Below w.heap.size w w'
theorem clone_Lg (a : Option Addr) (n c : Nat) (l : List Lg) (w : World) (hb : Row w a (lgCells l)) (hn : n = l.length) (hl : n ≤ 100000) (ha : a = none → c = 0) :
    Calls Try.prog 41 #[.slice a n c] w (CloneR l n w) := by
  have HN := Lib.hid hn
  clear hn
  have hnil := fun (w : World) (a : Option Addr) (n c : Nat) => Lib.run_eql_slice_nil (P := Try.prog) w 26 25 a n c 0 0 Try.underlying26
  cases a with
  | none =>
    obtain rfl := ha rfl
    have h0 := hb.of_none
    have hl0 : l = [] := by
      have := lgCells_len l
      rw [h0] at this
      exact List.eq_nil_of_length_eq_zero (by simp at this; omega)
    subst hl0
    obtain rfl : n = 0 := HN.out
    go_enter Try.func41, Try.ntmps41
    go_wp2
    go_ret
    exact ⟨none, 0, rfl, Own.nil _ _ _ _, Below.refl _ _⟩
  | some ad =>
    go_enter Try.func41, Try.ntmps41
    go_wp2_with ((at_builtin; refine appLg rfl _ _ rfl w.heap.size (some ⟨w.heap.size, 0, none⟩) 0 0 [] rfl (some ad) n c l rfl (own_made _ #[] _ 5 0 rfl (by simp [maxLen])) (hb.alloc _) HN.out (by simp) (by omega) ?_; intro b' cap' w3 own3 g3; rw [Nat.zero_add] at own3 ⊢))
    go_ret
    exact ⟨_, _, rfl, by simpa using own3, Grew.below (Below.alloc (Below.refl _ _) (Nat.le_refl _) _) g3 (fun k hk => by simp at hk; omega)⟩
/-- a clone of a request -/
def RCloneR (i v k t : Int) (l : List Lg) (w : World) (e : Ending) (w' : World) : Prop := ∃ (a' : Option Addr) (n c' : Nat), e = .returned (.agg #[.int .i64 i, .int .i64 v, .int .i64 k, .int .i64 t, .slice a' n c']) ∧ Hid (n = l.length) ∧ Own w' w.heap.size 25 5 a' n c' (lgCells l) ∧ Below w.heap.size w w'
set_option maxHeartbeats 4000000 in
theorem request_clone (i v k t : Int) (a : Option Addr) (n c : Nat) (l : List Lg) (w : World) (hb : Row w a (lgCells l)) (hn : n = l.length) (hl : n ≤ 100000) (ha : a = none → c = 0) :
    Calls Try.prog 55 #[.agg #[.int .i64 i, .int .i64 v, .int .i64 k, .int .i64 t, .slice a n c]] w (RCloneR i v k t l w) := by
  have HN := Lib.hid hn
  clear hn
  go_enter Try.func55, Try.ntmps55
  go_upto_region 1 with fail
  refine wp_named (fun W => Blk W w.heap.size 45 #[.int .i64 i, .int .i64 v, .int .i64 k, .int .i64 t, .slice a n c] ∧ Blk W (w.heap.size + 1) 45 #[.int .i64 0, .int .i64 0, .int .i64 0, .int .i64 0, .slice none 0 0] ∧ Row W a (lgCells l) ∧ RowKit.Below w.heap.size w W ∧ W.heap.size = w.heap.size + 2) ⟨(Blk.new _ _ _).alloc _, Blk.next _ _ _ _, (hb.alloc _).alloc _, (by repeat (first | (with_reducible refine Below.setCell ?_ ?_ _) | (with_reducible refine Below.alloc ?_ ?_ _) | (with_reducible refine Below.drew ?_) | (with_reducible refine below_drewN ?_ _) | (with_reducible exact Below.refl _ _) | (focus (simp; done)) | (focus (simp; omega)) | (focus omega))), by simp⟩ ?_
  obtain ⟨V, hV⟩ : ∃ V, w.heap.size = V := ⟨_, rfl⟩
  rw [hV]
  clear hb
  rintro W ⟨kV, kR, hb, be, hWs⟩
  have HWS := Lib.hid hWs
  obtain ⟨v0, v1, v2, v3, v4, vf, vl⟩ := kV.five
  have hWV : V + 2 ≤ W.heap.size := by omega
  clear hWs
  go_upto_region 2 with ((go_at_call 41; (with_reducible refine (clone_Lg a n c l _ hb HN.out hl ha).mono ?_); rintro e w2 ⟨xa, xc, rfl, own, hb2⟩; ((have k2 := kV.below hb2 vl); (have kR2 := kR.below hb2 kR.lt); clear v0 v1 v2 v3 v4 vf; (obtain ⟨v0, v1, v2, v3, v4, vf, vl2⟩ := k2.five))))
  have hq : xa.map (·.block) ≠ some V := fun e => by have := own.base_le _ e; omega
  refine wp_named (fun U => Blk U V 45 #[.int .i64 i, .int .i64 v, .int .i64 k, .int .i64 t, .slice xa n xc] ∧ Blk U (V + 1) 45 #[.int .i64 0, .int .i64 0, .int .i64 0, .int .i64 0, .slice none 0 0] ∧ Own U W.heap.size 25 5 xa n xc (lgCells l) ∧ RowKit.Below w.heap.size w U) ⟨k2.set 4 _, kR2.far (p := ⟨V, 4, none⟩) (by simp) _, own.far (p := ⟨V, 4, none⟩) hq _, (by repeat (first | (with_reducible refine Below.setCell ?_ ?_ _) | (with_reducible refine Below.alloc ?_ ?_ _) | (with_reducible refine Below.drew ?_) | (with_reducible refine below_drewN ?_ _) | (with_reducible exact Below.refl _ _) | (with_reducible refine Below.trans ?_ (Below.mono hb2 ?_)) | (with_reducible refine Below.trans ?_ (Below.mono be ?_)) | (focus (simp; done)) | (focus (simp; omega)) | (focus omega) | (focus (have q0 := Below.size hb2; (try simp at q0); have q1 := Below.size be; (try simp at q1); (try simp); omega))))⟩ ?_
  clear v0 v1 v2 v3 v4 vf vl vl2 k2 kR2 own kV kR hb be hb2
  rintro U ⟨kV, kR, own, be⟩
  obtain ⟨v0, v1, v2, v3, v4, vf, vl⟩ := kV.five
  obtain ⟨r0, r1, r2, r3, r4, rf, rl⟩ := kR.five
  go_wp2_with fail
  refine bodyPost_ret (v := .agg #[.int .i64 i, .int .i64 v, .int .i64 k, .int .i64 t, .slice xa n xc]) (by simp [results, Try.results55, go_sem, r0, r1, r2, r3, r4]) rfl ?_
  exact ⟨xa, n, xc, rfl, HN, (own.past5 kR (by decide) _ _ _ _ _).mono (by omega), (by repeat (first | (with_reducible refine Below.setCell ?_ ?_ _) | (with_reducible refine Below.alloc ?_ ?_ _) | (with_reducible refine Below.drew ?_) | (with_reducible refine below_drewN ?_ _) | (with_reducible exact Below.refl _ _) | (with_reducible refine Below.trans ?_ (Below.mono be ?_)) | (focus (simp; done)) | (focus (simp; omega)) | (focus omega) | (focus (have q0 := Below.size be; (try simp at q0); (try simp); omega))))⟩
end Go.Proofs.Ytbanejpihdhbdaa
