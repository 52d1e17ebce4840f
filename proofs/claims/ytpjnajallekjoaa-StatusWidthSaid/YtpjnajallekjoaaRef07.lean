/- signalbrokerref07.Of, Groups; signalbrokerref06.Conflict; signalbrokerref09.after: what they hand back lies in range -/
import Derived.Test.YtpjnajallekjoaaJunction
import Derived.Test.YtpjnajallekjoaaApp
import Derived.Deep.DeepCutAuto
import Derived.Outline
namespace Go.Proofs.Ytpjnajallekjoaa
set_option linter.unusedVariables false
open Go.RowKit Go.Sort
set_option maxRecDepth 100000

/-- a junction's value in a world, its rows below 'base' -/
structure JAt (w : World) (base : Nat) (jb jc jb2 jc2 : Nat) (ps : List Ph) (cs : List Int) (s : Int) : Prop where
  ph : Row w (some ⟨jb, 0, none⟩) (phCells ps)
  cf : Ints w (some ⟨jb2, 0, none⟩) cs
  lb : jb < base
  lb2 : jb2 < base
  lw : base ≤ w.heap.size
  n1 : 1 ≤ ps.length ∧ ps.length ≤ 8
  cl : cs.length = ps.length
  ok : ∀ p ∈ ps, PhOk p
  s0 : 0 ≤ s ∧ s ≤ 2
theorem JAt.below {w w' : World} {base jb jc jb2 jc2 : Nat} {ps : List Ph} {cs : List Int} {s : Int} (h : JAt w base jb jc jb2 jc2 ps cs s) (hb : Below base w w') : JAt w' base jb jc jb2 jc2 ps cs s :=
  ⟨h.ph.keep fun b off e _ => hb.block b (by injection e with e; injection e with e _ _; have := h.lb; omega), Row.keep h.cf fun b off e _ => hb.block b (by injection e with e; injection e with e _ _; have := h.lb2; omega), h.lb, h.lb2, Nat.le_trans h.lw hb.size, h.n1, h.cl, h.ok, h.s0⟩
theorem JAt.mono {w : World} {base base' jb jc jb2 jc2 : Nat} {ps : List Ph} {cs : List Int} {s : Int} (h : JAt w base jb jc jb2 jc2 ps cs s) (hb : base ≤ base') (hw : base' ≤ w.heap.size) : JAt w base' jb jc jb2 jc2 ps cs s :=
  ⟨h.ph, h.cf, Nat.lt_of_lt_of_le h.lb hb, Nat.lt_of_lt_of_le h.lb2 hb, hw, h.n1, h.cl, h.ok, h.s0⟩
@[reducible] def jAgg (jb jc jb2 jc2 n : Nat) (s : Int) : Value := .agg #[.slice (some ⟨jb, 0, none⟩) n jc, .slice (some ⟨jb2, 0, none⟩) n jc2, .int .i64 s]

/-- append of one int that has just been laid -/
theorem app1I {ops : Array Oper} {rest : List Oper} {o : Oper} {a : Act} {Q : Exit → Act → World → Prop} {w0 w : World} (hgd : o.guard = none) (s x : Operand) (ho : o.op = .call { callee := .builtin .append, args := #[s, x], argTypes := #[22, 22] })
    (base : Nat) (b : Option Addr) (n cap : Nat) (l : List Int) (hs : a.eval s = .slice b n cap) (q : Int) (X : Nat) (hx : a.eval x = .slice (some ⟨X, 0, none⟩) 1 1) (hX : Blk w X 3 #[.int .i64 q])
    (own : Own w base 3 1 b n cap (l.map encI)) (hbig : n ≤ 1000000) (hbase : base ≤ w.heap.size)
    (h : ∀ b' cap' w', Own w' base 3 1 b' (n + 1) cap' ((l ++ [q]).map encI) → Grew base w w' b b' → (∀ W, Below base W w → Below base W w') → wpList Try.prog ops Q rest (a.put o.dst (.slice b' (n + 1) cap')) w') :
    wpList Try.prog ops Q (o :: rest) a w := by
  obtain ⟨i0, hi, hz0, hz1, hz2⟩ := info_parts info_int
  have hr : Row w (some ⟨X, 0, none⟩) [.int .i64 q] := .inr ⟨X, 0, rfl, hX.lt, fun i hi => by
    obtain rfl : i = 0 := by simpa using hi
    exact hX.cell 0⟩
  refine wp_append_row _ hgd s x _ ho base _ i0 _ 1 8 Try.underlying22 hi hz0 hz1 hz2 rfl (by decide) b n cap _ hs (some ⟨X, 0, none⟩) 1 1 hx own [.int .i64 q] rfl hr (by simp [Value.oneCell']) (by simp only [maxLen]; omega) (by omega) hbase ?_
  intro b' cap' w' own' g
  refine h b' cap' w' (by simpa [encI] using own') g (Grew.step own g)

/-- what Of hands back: phases of the ring and the group -/
def OfR (ps : List Ph) (ring group : Int) (w : World) (e : Ending) (w' : World) : Prop :=
  ∃ (l : List Int) (n : Nat) (a : Option Addr) (c : Nat), Hid (n = l.length) ∧ e = .returned (.slice a n c) ∧ n ≤ 8 ∧ Own w' w.heap.size 3 1 a n c (l.map encI) ∧ (∀ q ∈ l, ∃ i : Nat, ∃ h : i < ps.length, q = i ∧ ps[i].ring = ring) ∧ Below w.heap.size w w'
set_option maxHeartbeats 4000000 in
theorem ref07_Of (base jb jc jb2 jc2 : Nat) (ps : List Ph) (cs : List Int) (s ring group : Int) (w : World) (hj : JAt w base jb jc jb2 jc2 ps cs s) :
    Calls Try.prog 64 #[jAgg jb jc jb2 jc2 ps.length s, .int .i64 ring, .int .i64 group] w (OfR ps ring group w) := by
  have hn := hj.n1
  go_enter Try.func64, Try.ntmps64
  go_wp2
  go_loopw [7, 13] (fun s7 s13 wr => ∃ (i : Nat) (l : List Int) (a : Option Addr) (c : Nat), s7 = .slice a l.length c ∧ s13 = .int .i64 i ∧ i ≤ ps.length ∧ l.length ≤ i ∧ Own wr (w.heap.size + 1) 3 1 a l.length c (l.map encI) ∧ (∀ q ∈ l, ∃ i : Nat, ∃ h : i < ps.length, q = i ∧ ps[i].ring = ring) ∧ RowKit.Below w.heap.size w wr ∧ w.heap.size + 1 ≤ wr.heap.size) (fun _ s _ => ps.length - (intOf s).toNat)
  case atStart => exact ⟨0, [], none, 0, rfl, rfl, by omega, by simp, Own.nil _ _ _ _, by simp, (by repeat (first | (with_reducible refine Below.setCell ?_ ?_ _) | (with_reducible refine Below.alloc ?_ ?_ _) | (with_reducible refine Below.drew ?_) | (with_reducible refine below_drewN ?_ _) | (with_reducible exact Below.refl _ _) | (focus (simp; done)) | (focus (simp; omega)) | (focus omega))), by simp⟩
  case round =>
    obtain ⟨i, l, a, c, rfl, rfl, hi, hl, own, hm, be, sz⟩ := hrel
    have HMM := Lib.hid hm
    clear hm
    by_cases hlt : i < ps.length
    · obtain ⟨x0, x1, x2, x3, x4, x5, x6, x7⟩ := row_phase (hj.below (be.mono hj.lw)).ph i hlt
      have hjb : jb < wr.heap.size := by have := hj.lb; have := hj.lw; omega
      obtain ⟨p, hp⟩ : ∃ p, ps[i] = p := ⟨_, rfl⟩
      rw [hp] at x0 x1 x2 x3 x4 x5 x6 x7
      have HP := Lib.hid hp
      clear hp
      obtain ⟨r, g, mg, xg, y, rd, wk, cl⟩ := p
      simp only at x0 x1 x2 x3 x4 x5 x6 x7
      by_cases hr : r = ring
      · subst hr
        by_cases hg : g = group
        · subst hg
          go_wp2_with ((at_builtin; refine app1I (w0 := w) rfl _ _ rfl (w.heap.size + 1) a l.length c l rfl (i : Int) (wr.heap.size + 1) rfl (by simpa using Blk.new (wr.alloc (.cells #[.int .i64 r, .int .i64 g, .int .i64 mg, .int .i64 xg, .int .i64 y, .int .i64 rd, .int .i64 wk, .int .i64 cl] 85)) 3 #[.int .i64 (i : Int)]) ((own.alloc _).alloc _) (by omega) (by simp; omega) ?_; intro b' c' w' own' gr bl; (have be' := bl _ (RowKit.Below.refl _ _))))
          go_roundw
          case rel =>
            refine ⟨i + 1, l ++ [(i : Int)], b', c', by rw [List.length_append]; rfl, by go_num, by omega, by rw [List.length_append]; simp; omega, by rw [List.length_append]; exact own', fun q hq => ?_, (by repeat (first | (with_reducible refine Below.setCell ?_ ?_ _) | (with_reducible refine Below.alloc ?_ ?_ _) | (with_reducible refine Below.drew ?_) | (with_reducible refine below_drewN ?_ _) | (with_reducible exact Below.refl _ _) | (with_reducible refine Below.trans ?_ (Below.mono be' ?_)) | (with_reducible refine Below.trans ?_ (Below.mono be ?_)) | (focus (simp; done)) | (focus (simp; omega)) | (focus omega) | (focus (have q0 := Below.size be'; (try simp at q0); have q1 := Below.size be; (try simp at q1); (try simp); omega)))), by have := be'.size; simp at this; omega⟩
            rcases List.mem_append.1 hq with hq | hq
            · exact HMM.out q hq
            · exact ⟨i, hlt, List.mem_singleton.1 hq, by rw [HP.out]⟩
          case measure => simp [intOf]; omega
        · have z0 : (g == group) = false := by rw [beq_eq_false_iff_ne]; exact hg
          go_wp2_with fail
          go_roundw
          case rel => exact ⟨i + 1, l, a, c, rfl, by go_num, by omega, by omega, own.alloc _, HMM.out, (by repeat (first | (with_reducible refine Below.setCell ?_ ?_ _) | (with_reducible refine Below.alloc ?_ ?_ _) | (with_reducible refine Below.drew ?_) | (with_reducible refine below_drewN ?_ _) | (with_reducible exact Below.refl _ _) | (with_reducible refine Below.trans ?_ (Below.mono be ?_)) | (focus (simp; done)) | (focus (simp; omega)) | (focus omega) | (focus (have q0 := Below.size be; (try simp at q0); (try simp); omega)))), by simp; omega⟩
          case measure => simp [intOf]; omega
      · have z0 : (r == ring) = false := by rw [beq_eq_false_iff_ne]; exact hr
        go_wp2_with fail
        go_roundw
        case rel => exact ⟨i + 1, l, a, c, rfl, by go_num, by omega, by omega, own.alloc _, HMM.out, (by repeat (first | (with_reducible refine Below.setCell ?_ ?_ _) | (with_reducible refine Below.alloc ?_ ?_ _) | (with_reducible refine Below.drew ?_) | (with_reducible refine below_drewN ?_ _) | (with_reducible exact Below.refl _ _) | (with_reducible refine Below.trans ?_ (Below.mono be ?_)) | (focus (simp; done)) | (focus (simp; omega)) | (focus omega) | (focus (have q0 := Below.size be; (try simp at q0); (try simp); omega)))), by simp; omega⟩
        case measure => simp [intOf]; omega
    · obtain rfl : i = ps.length := by omega
      go_wp2
      go_ret
      exact ⟨l, l.length, a, c, Lib.hid rfl, rfl, by omega, own.mono (by omega), HMM.out, (by repeat (first | (with_reducible refine Below.setCell ?_ ?_ _) | (with_reducible refine Below.alloc ?_ ?_ _) | (with_reducible refine Below.drew ?_) | (with_reducible refine below_drewN ?_ _) | (with_reducible exact Below.refl _ _) | (with_reducible refine Below.trans ?_ (Below.mono be ?_)) | (focus (simp; done)) | (focus (simp; omega)) | (focus omega) | (focus (have q0 := Below.size be; (try simp at q0); (try simp); omega))))⟩
def GrpR (w : World) (e : Ending) (w' : World) : Prop := ∃ n : Int, e = .returned (.int .i64 n) ∧ 1 ≤ n ∧ n ≤ 3 ∧ Below w.heap.size w w'
set_option maxHeartbeats 4000000 in
theorem ref07_Groups (base jb jc jb2 jc2 : Nat) (ps : List Ph) (cs : List Int) (s : Int) (w : World) (hj : JAt w base jb jc jb2 jc2 ps cs s) :
    Calls Try.prog 59 #[jAgg jb jc jb2 jc2 ps.length s] w (GrpR w) := by
  have hn := hj.n1
  go_enter Try.func59, Try.ntmps59
  go_wp2
  go_loopw [3, 9] (fun s3 s9 wr => ∃ (i : Nat) (N : Int), s3 = .int .i64 N ∧ s9 = .int .i64 i ∧ i ≤ ps.length ∧ 0 ≤ N ∧ N ≤ 3 ∧ (0 < i → 1 ≤ N) ∧ RowKit.Below w.heap.size w wr) (fun _ s _ => ps.length - (intOf s).toNat)
  case atStart => exact ⟨0, 0, rfl, rfl, by omega, by omega, by omega, by omega, (by repeat (first | (with_reducible refine Below.setCell ?_ ?_ _) | (with_reducible refine Below.alloc ?_ ?_ _) | (with_reducible refine Below.drew ?_) | (with_reducible refine below_drewN ?_ _) | (with_reducible exact Below.refl _ _) | (focus (simp; done)) | (focus (simp; omega)) | (focus omega)))⟩
  case round =>
    obtain ⟨i, N, rfl, rfl, hi, hN0, hN3, hN1, be⟩ := hrel
    by_cases hlt : i < ps.length
    · obtain ⟨x0, x1, x2, x3, x4, x5, x6, x7⟩ := row_phase (hj.below (be.mono hj.lw)).ph i hlt
      have hjb : jb < wr.heap.size := by have := hj.lb; have := hj.lw; have := be.size; omega
      have hok := hj.ok _ (List.getElem_mem hlt)
      obtain ⟨p, hp⟩ : ∃ p, ps[i] = p := ⟨_, rfl⟩
      rw [hp] at x0 x1 x2 x3 x4 x5 x6 x7 hok
      clear hp
      obtain ⟨r, g, mg, xg, y, rd, wk, cl⟩ := p
      simp only at x0 x1 x2 x3 x4 x5 x6 x7
      have hg := hok.group
      simp only at hg
      obtain ⟨N', hN'⟩ : ∃ N', (if N < g + 1 then g + 1 else N) = N' := ⟨_, rfl⟩
      have hb : 1 ≤ N' ∧ N' ≤ 3 := by rw [← hN']; split <;> omega
      clear hok
      go_wp2_with fail
      go_roundw
      case rel => exact ⟨i + 1, N', rfl, by go_num, by omega, by omega, by omega, by omega, (by repeat (first | (with_reducible refine Below.setCell ?_ ?_ _) | (with_reducible refine Below.alloc ?_ ?_ _) | (with_reducible refine Below.drew ?_) | (with_reducible refine below_drewN ?_ _) | (with_reducible exact Below.refl _ _) | (with_reducible refine Below.trans ?_ (Below.mono be ?_)) | (focus (simp; done)) | (focus (simp; omega)) | (focus omega) | (focus (have q0 := Below.size be; (try simp at q0); (try simp); omega))))⟩
      case measure => simp [intOf]; omega
    · obtain rfl : i = ps.length := by omega
      have h1 := hN1 (by omega)
      clear hN1
      go_wp2
      go_ret
      exact ⟨N, rfl, h1, hN3, be⟩
def SomeB (w : World) (e : Ending) (w' : World) : Prop := ∃ b : Bool, e = .returned (.bool b) ∧ w = w'
theorem SomeB.mk {w : World} {b : Bool} : SomeB w (.returned (.bool b)) w := ⟨b, rfl, rfl⟩
set_option maxHeartbeats 4000000 in
theorem ref06_Conflict (a : Option Addr) (cs : List Int) (n c : Nat) (p q : Int) (w : World) (hc : Ints w a cs) (hn : n = cs.length) (h8 : n ≤ 8) :
    Calls Try.prog 53 #[.slice a n c, .int .i64 p, .int .i64 q] w (SomeB w) := by
  have HN := Lib.hid hn
  clear hn
  by_cases h : 0 ≤ p ∧ p < n ∧ 0 ≤ q ∧ q < n
  · obtain ⟨p0, p1, q0, q1⟩ := h
    obtain ⟨P, rfl⟩ := Int.eq_ofNat_of_zero_le p0
    obtain ⟨Q, rfl⟩ := Int.eq_ofNat_of_zero_le q0
    rcases hc.open with h | ⟨b, off, rfl, hlt, hcell⟩
    · have := HN.out; rw [h] at this; simp at this; omega
    have hP : P < cs.length := by have := HN.out; omega
    have x0 := hcell P hP
    clear hcell
    go_enter Try.func53, Try.ntmps53
    go_wp2
    all_goals (go_ret; exact SomeB.mk)
  · by_cases p0 : 0 ≤ p
    · by_cases p1 : p < n
      · by_cases q0 : 0 ≤ q
        · have q1 : ¬ q < n := by omega
          clear h
          go_enter Try.func53, Try.ntmps53
          go_wp2
          all_goals (go_ret; exact SomeB.mk)
        · clear h
          go_enter Try.func53, Try.ntmps53
          go_wp2
          all_goals (go_ret; exact SomeB.mk)
      · clear h
        go_enter Try.func53, Try.ntmps53
        go_wp2
        all_goals (go_ret; exact SomeB.mk)
    · clear h
      go_enter Try.func53, Try.ntmps53
      go_wp2
      all_goals (go_ret; exact SomeB.mk)
/-- what after hands back -/
def InRing (ps : List Ph) (ring q : Int) : Prop := q = -1 ∨ ∃ i : Nat, ∃ h : i < ps.length, q = i ∧ ps[i].ring = ring
def AftR (ps : List Ph) (ring : Int) (w : World) (e : Ending) (w' : World) : Prop := ∃ q : Int, e = .returned (.int .i64 q) ∧ InRing ps ring q ∧ Below w.heap.size w w'
theorem InRing.bd {ps : List Ph} {ring q : Int} (h : InRing ps ring q) : -1 ≤ q ∧ q < ps.length ∨ (q = -1) := by
  rcases h with h | ⟨i, h, rfl, _⟩
  · exact .inr h
  · left; omega
set_option maxHeartbeats 4000000 in
theorem ref09_after (base jb jc jb2 jc2 : Nat) (ps : List Ph) (cs : List Int) (s ring group p : Int) (w : World) (hj : JAt w base jb jc jb2 jc2 ps cs s) :
    Calls Try.prog 63 #[jAgg jb jc jb2 jc2 ps.length s, .int .i64 ring, .int .i64 group, .int .i64 p] w (AftR ps ring w) := by
  have hn := hj.n1
  have hlw := hj.lw
  go_enter Try.func63, Try.ntmps63
  go_wp2_with ((go_at_call 64; (with_reducible refine (ref07_Of base jb jc jb2 jc2 ps cs s ring group _ (hj.below ((by repeat (first | (with_reducible refine Below.setCell ?_ ?_ _) | (with_reducible refine Below.alloc ?_ ?_ _) | (with_reducible refine Below.drew ?_) | (with_reducible refine below_drewN ?_ _) | (with_reducible exact Below.refl _ _) | (focus (simp; done)) | (focus (simp; omega)) | (focus omega))) : RowKit.Below base w _))).mono ?_); rintro e w1 ⟨l, m, a, c, hm, rfl, hm8, own, hin, hb1⟩))
  have be1 : RowKit.Below w.heap.size w w1 := (by repeat (first | (with_reducible refine Below.setCell ?_ ?_ _) | (with_reducible refine Below.alloc ?_ ?_ _) | (with_reducible refine Below.drew ?_) | (with_reducible refine below_drewN ?_ _) | (with_reducible exact Below.refl _ _) | (with_reducible refine Below.trans ?_ (Below.mono hb1 ?_)) | (focus (simp; done)) | (focus (simp; omega)) | (focus omega) | (focus (have q0 := Below.size hb1; (try simp at q0); (try simp); omega))))
  have HIN := Lib.hid hin
  clear hin
  go_loopw [16] (fun s16 wr => ∃ i : Nat, s16 = .int .i64 i ∧ i ≤ m ∧ RowKit.Below w1.heap.size w1 wr) (fun s _ => m - (intOf s).toNat)
  case atStart => exact ⟨0, rfl, by omega, RowKit.Below.refl _ _⟩
  case round =>
    obtain ⟨i, rfl, hi, be⟩ := hrel
    by_cases hlt : i < m
    · obtain ⟨g, rfl, hg, hgl⟩ := own.open_ (by omega)
      have hil : i < l.length := by rw [← hm.out]; exact hlt
      have x0 := (own.below be (Nat.le_refl _)).cell i (by simpa using hil)
      have hq := HIN.out _ (List.getElem_mem hil)
      obtain ⟨q, hqe⟩ : ∃ q, l[i] = q := ⟨_, rfl⟩
      simp only [List.getElem_map, encI, hqe] at x0
      rw [hqe] at hq
      have hgr : g < wr.heap.size := by have := be.size; omega
      have HQ : Hid (InRing ps ring q) := Lib.hid (.inr hq)
      clear hqe hq
      go_wp2_with fail
      · go_ret
        exact ⟨q, rfl, HQ.out, (by repeat (first | (with_reducible refine Below.setCell ?_ ?_ _) | (with_reducible refine Below.alloc ?_ ?_ _) | (with_reducible refine Below.drew ?_) | (with_reducible refine below_drewN ?_ _) | (with_reducible exact Below.refl _ _) | (with_reducible refine Below.trans ?_ (Below.mono be ?_)) | (with_reducible refine Below.trans ?_ (Below.mono be1 ?_)) | (focus (simp; done)) | (focus (simp; omega)) | (focus omega) | (focus (have q0 := Below.size be; (try simp at q0); have q1 := Below.size be1; (try simp at q1); (try simp); omega))))⟩
      · go_roundw
        case rel => exact ⟨i + 1, by go_num, by omega, (by repeat (first | (with_reducible refine Below.setCell ?_ ?_ _) | (with_reducible refine Below.alloc ?_ ?_ _) | (with_reducible refine Below.drew ?_) | (with_reducible refine below_drewN ?_ _) | (with_reducible exact Below.refl _ _) | (with_reducible refine Below.trans ?_ (Below.mono be ?_)) | (focus (simp; done)) | (focus (simp; omega)) | (focus omega) | (focus (have q0 := Below.size be; (try simp at q0); (try simp); omega))))⟩
        case measure => simp [intOf]; omega
    · obtain rfl : i = m := by omega
      go_wp2
      go_ret
      exact ⟨-1, rfl, .inl rfl, (by repeat (first | (with_reducible refine Below.setCell ?_ ?_ _) | (with_reducible refine Below.alloc ?_ ?_ _) | (with_reducible refine Below.drew ?_) | (with_reducible refine below_drewN ?_ _) | (with_reducible exact Below.refl _ _) | (with_reducible refine Below.trans ?_ (Below.mono be ?_)) | (with_reducible refine Below.trans ?_ (Below.mono be1 ?_)) | (focus (simp; done)) | (focus (simp; omega)) | (focus omega) | (focus (have q0 := Below.size be; (try simp at q0); have q1 := Below.size be1; (try simp at q1); (try simp); omega))))⟩
end Go.Proofs.Ytpjnajallekjoaa
