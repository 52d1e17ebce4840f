/- signalbrokerref19.Without, Expire -/
import Derived.Test.YtbanejpihdhbdaaRqOps
import Derived.Test.YtbanejpihdhbdaaRef19b
namespace Go.Proofs.Ytbanejpihdhbdaa
set_option linter.unusedVariables false
open Go.RowKit Go.Sort
set_option maxRecDepth 100000

/-- append of one request whose cells have just been laid: its legs are another's -/
theorem app1Rw {ops : Array Oper} {rest : List Oper} {o : Oper} {a : Act} {Q : Exit → Act → World → Prop} {w : World} (hgd : o.guard = none) (s x : Operand) (ho : o.op = .call { callee := .builtin .append, args := #[s, x], argTypes := #[27, 27] })
    (B : Nat) (xa : Option Addr) (n xc : Nat) (l : List Rq) (hs : a.eval s = .slice xa n xc) (r : Rq) (X : Nat) (hx : a.eval x = .slice (some ⟨X, 0, none⟩) 1 1) (hX : Blk w X 45 r.cells.toArray)
    (own : Own w B 45 5 xa n xc (rqCells l)) (hB : B ≤ w.heap.size) (hbig : n ≤ 1000000)
    (h : ∀ xb xd w', Own w' B 45 5 xb (n + 1) xd (rqCells (l ++ [r])) → Grew B w w' xa xb → (∀ W, Below B W w → Below B W w') → wpList Try.prog ops Q rest (a.put o.dst (.slice xb (n + 1) xd)) w') : wpList Try.prog ops Q (o :: rest) a w := by
  obtain ⟨i0, hi, hz0, hz1, hz2⟩ := info_parts info_req
  have hr : Row w (some ⟨X, 0, none⟩) r.cells := .inr ⟨X, 0, rfl, hX.lt, fun i hi => by
    rw [Nat.zero_add, hX.cell]
    simp⟩
  refine wp_append_row _ hgd s x _ ho B _ i0 _ 5 56 Try.underlying27 hi hz0 hz1 hz2 rfl (by decide) xa n xc _ hs (some ⟨X, 0, none⟩) 1 1 hx own r.cells rfl hr (by simp [Rq.cells, Value.oneCell']) (by simp only [maxLen]; omega) (by omega) hB ?_
  intro xb xd w' own' gr
  exact h xb xd w' (by rw [rqCells_append]; simpa [rqCells] using own') gr (Grew.step own gr)
def kpt (p : Rk → Bool) (l : List Rq) : List Rq := l.filter fun r => p r.key
theorem kpt_succ {p : Rk → Bool} {l : List Rq} {i : Nat} (h : i < l.length) : kpt p (l.take (i + 1)) = kpt p (l.take i) ++ kpt p [l[i]] := by
  unfold kpt
  rw [← List.take_append_getElem h, List.filter_append]
theorem kpt_yes {p : Rk → Bool} {x : Rq} (h : p x.key = true) : kpt p [x] = [x] := by simp [kpt, h]
theorem kpt_no {p : Rk → Bool} {x : Rq} (h : p x.key = false) : kpt p [x] = [] := by simp [kpt, h]
theorem kpt_keys (p : Rk → Bool) (l : List Rq) : (kpt p l).map Rq.key = (l.map Rq.key).filter p := by
  unfold kpt
  rw [List.filter_map]
  rfl
set_option maxHeartbeats 8000000 in
theorem ref19_Without (a : Option Addr) (l : List Rq) (n c : Nat) (q : Int) (w : World) (h : Rqs w a l) (hn : n = l.length) (l9 : n ≤ 10000) (hl : ∀ r ∈ l, r.legs.length ≤ 100000) :
    Calls Try.prog 30 #[.slice a n c, .int .i64 q] w (KeptR (l.map Rq.key) (pWithout q) w) := by
  subst hn
  go_enter Try.func30, Try.ntmps30
  go_wp2_with fail
  go_loopw [5, 10] (fun s5 s10 wr => ∃ (i m : Nat) (ca : Option Addr) (cc : Nat), s5 = .slice ca m cc ∧ s10 = .int .i64 i ∧ i ≤ l.length ∧ m ≤ i ∧ Hid (m = (kpt (pWithout q) (l.take i)).length) ∧ Own wr w.heap.size 45 5 ca m cc (rqCells (kpt (pWithout q) (l.take i))) ∧ RowKit.Below w.heap.size w wr) (fun _ s _ => l.length - (intOf s).toNat)
  case atStart => exact ⟨0, 0, none, 0, rfl, rfl, by omega, by omega, Lib.hid rfl, Own.nil _ _ _ _, (by repeat (first | (with_reducible refine Below.setCell ?_ ?_ _) | (with_reducible refine Below.alloc ?_ ?_ _) | (with_reducible refine Below.drew ?_) | (with_reducible refine below_drewN ?_ _) | (with_reducible exact Below.refl _ _) | (focus (simp; done)) | (focus (simp; omega)) | (focus omega)))⟩
  case round =>
    obtain ⟨i, m, ca, cc, rfl, rfl, hi, hm, hmk, own, bw⟩ := hrel
    by_cases hlt : i < l.length
    · obtain ⟨ba, oa, rfl⟩ := h.open (by omega)
      have hr := h.below bw (Nat.le_refl _)
      obtain ⟨x0, x1, x2, x3, x4, xb⟩ := row_req hr.row i hlt
      have HX := Lib.hid (kpt_succ (p := pWithout q) hlt)
      obtain ⟨x, hx⟩ : ∃ x, l[i] = x := ⟨_, rfl⟩
      rw [hx] at x0 x1 x2 x3 x4 HX
      clear hx hr
      obtain ⟨id, veh, cls, til, lg, la, lc⟩ := x
      simp only at x0 x1 x2 x3 x4
      have kx : (i : Int) < (l.length : Int) := by omega
      have hbw := bw.size
      obtain ⟨kl, hkl⟩ : ∃ kl, kpt (pWithout q) (l.take i) = kl := ⟨_, rfl⟩
      rw [hkl] at HX own hmk
      clear hkl
      go_upto_region 5 with fail
      obtain ⟨X, hX⟩ : ∃ X, wr.heap.size = X := ⟨_, rfl⟩
      refine wp_named (fun Z => Blk Z X 45 #[.int .i64 id, .int .i64 veh, .int .i64 cls, .int .i64 til, .slice la lg.length lc] ∧ Own Z w.heap.size 45 5 ca m cc (rqCells kl) ∧ RowKit.Below w.heap.size w Z) ⟨by rw [← hX]; exact Blk.new _ _ _, own.alloc _, (by repeat (first | (with_reducible refine Below.setCell ?_ ?_ _) | (with_reducible refine Below.alloc ?_ ?_ _) | (with_reducible refine Below.drew ?_) | (with_reducible refine below_drewN ?_ _) | (with_reducible exact Below.refl _ _) | (with_reducible refine Below.trans ?_ (Below.mono bw ?_)) | (focus (simp; done)) | (focus (simp; omega)) | (focus omega) | (focus (have q0 := Below.size bw; (try simp at q0); (try simp); omega))))⟩ ?_
      rw [hX]
      clear hX hbw x0 x1 x2 x3 x4 xb own bw
      rintro Z ⟨kX, own, bz⟩
      obtain ⟨v0, v1, v2, v3, v4, vf, vl⟩ := kX.five
      have hsz := bz.size
      cases hp : (veh != q) with
      | false =>
        have HK := Lib.hid (kpt_no (p := pWithout q) (x := ⟨id, veh, cls, til, lg, la, lc⟩) hp)
        go_wp2_with fail
        go_roundw
        case rel => exact ⟨i + 1, m, ca, cc, rfl, by go_num, by omega, by omega, Lib.hid (by rw [HX.out, HK.out, List.append_nil]; exact hmk.out), by rw [HX.out, HK.out, List.append_nil]; exact own, bz⟩
        case measure => simp [intOf]; omega
      | true =>
        have HK := Lib.hid (kpt_yes (p := pWithout q) (x := ⟨id, veh, cls, til, lg, la, lc⟩) hp)
        go_wp2_with ((at_builtin; refine app1Rw rfl _ _ rfl w.heap.size ca m cc kl rfl ⟨id, veh, cls, til, lg, la, lc⟩ Z.heap.size rfl (Blk.new _ _ _) (own.alloc _) (by simp; omega) (by omega) ?_; intro xb xd w7 own7 g7 bl7))
        go_roundw
        case rel => exact ⟨i + 1, m + 1, xb, xd, rfl, by go_num, by omega, by omega, Lib.hid (by rw [HX.out, HK.out, List.length_append, ← hmk.out]; rfl), by rw [HX.out, HK.out]; exact own7, bl7 _ (by repeat (first | (with_reducible refine Below.setCell ?_ ?_ _) | (with_reducible refine Below.alloc ?_ ?_ _) | (with_reducible refine Below.drew ?_) | (with_reducible refine below_drewN ?_ _) | (with_reducible exact Below.refl _ _) | (with_reducible refine Below.trans ?_ (Below.mono bz ?_)) | (focus (simp; done)) | (focus (simp; omega)) | (focus omega) | (focus (have q0 := Below.size bz; (try simp at q0); (try simp); omega))))⟩
        case measure => simp [intOf]; omega
    · obtain rfl : i = l.length := by omega
      rw [List.take_length] at hmk own
      have hq : Rqs wr ca (kpt (pWithout q) l) := ⟨own.row, fun r hr => (h.legs r ((List.mem_filter.1 hr).1)).below bw (Nat.le_refl _)⟩
      go_wp2_with ((go_at_call 51; (with_reducible refine (ref19_Copy ca (kpt (pWithout q) l) m cc _ hq hmk.out (by omega) (fun r hr => hl r ((List.mem_filter.1 hr).1))).mono ?_); rintro e w2 ⟨xa, xc, l2, rfl, hk, hn2, il, hb⟩))
      go_ret
      exact ⟨m, xa, xc, l2, rfl, Lib.hid (by rw [hk.out, kpt_keys]), hn2, il.mono bw.size, (by repeat (first | (with_reducible refine Below.setCell ?_ ?_ _) | (with_reducible refine Below.alloc ?_ ?_ _) | (with_reducible refine Below.drew ?_) | (with_reducible refine below_drewN ?_ _) | (with_reducible exact Below.refl _ _) | (with_reducible refine Below.trans ?_ (Below.mono hb ?_)) | (with_reducible refine Below.trans ?_ (Below.mono bw ?_)) | (focus (simp; done)) | (focus (simp; omega)) | (focus omega) | (focus (have q0 := Below.size hb; (try simp at q0); have q1 := Below.size bw; (try simp at q1); (try simp); omega))))⟩
set_option maxHeartbeats 8000000 in
theorem ref19_Expire (a : Option Addr) (l : List Rq) (n c : Nat) (q : Int) (w : World) (h : Rqs w a l) (hn : n = l.length) (l9 : n ≤ 10000) (hl : ∀ r ∈ l, r.legs.length ≤ 100000) :
    Calls Try.prog 32 #[.slice a n c, .int .i64 q] w (KeptR (l.map Rq.key) (pExpire q) w) := by
  subst hn
  go_enter Try.func32, Try.ntmps32
  go_wp2_with fail
  go_loopw [5, 10] (fun s5 s10 wr => ∃ (i m : Nat) (ca : Option Addr) (cc : Nat), s5 = .slice ca m cc ∧ s10 = .int .i64 i ∧ i ≤ l.length ∧ m ≤ i ∧ Hid (m = (kpt (pExpire q) (l.take i)).length) ∧ Own wr w.heap.size 45 5 ca m cc (rqCells (kpt (pExpire q) (l.take i))) ∧ RowKit.Below w.heap.size w wr) (fun _ s _ => l.length - (intOf s).toNat)
  case atStart => exact ⟨0, 0, none, 0, rfl, rfl, by omega, by omega, Lib.hid rfl, Own.nil _ _ _ _, (by repeat (first | (with_reducible refine Below.setCell ?_ ?_ _) | (with_reducible refine Below.alloc ?_ ?_ _) | (with_reducible refine Below.drew ?_) | (with_reducible refine below_drewN ?_ _) | (with_reducible exact Below.refl _ _) | (focus (simp; done)) | (focus (simp; omega)) | (focus omega)))⟩
  case round =>
    obtain ⟨i, m, ca, cc, rfl, rfl, hi, hm, hmk, own, bw⟩ := hrel
    by_cases hlt : i < l.length
    · obtain ⟨ba, oa, rfl⟩ := h.open (by omega)
      have hr := h.below bw (Nat.le_refl _)
      obtain ⟨x0, x1, x2, x3, x4, xb⟩ := row_req hr.row i hlt
      have HX := Lib.hid (kpt_succ (p := pExpire q) hlt)
      obtain ⟨x, hx⟩ : ∃ x, l[i] = x := ⟨_, rfl⟩
      rw [hx] at x0 x1 x2 x3 x4 HX
      clear hx hr
      obtain ⟨id, veh, cls, til, lg, la, lc⟩ := x
      simp only at x0 x1 x2 x3 x4
      have kx : (i : Int) < (l.length : Int) := by omega
      have hbw := bw.size
      obtain ⟨kl, hkl⟩ : ∃ kl, kpt (pExpire q) (l.take i) = kl := ⟨_, rfl⟩
      rw [hkl] at HX own hmk
      clear hkl
      go_upto_region 5 with fail
      obtain ⟨X, hX⟩ : ∃ X, wr.heap.size = X := ⟨_, rfl⟩
      refine wp_named (fun Z => Blk Z X 45 #[.int .i64 id, .int .i64 veh, .int .i64 cls, .int .i64 til, .slice la lg.length lc] ∧ Own Z w.heap.size 45 5 ca m cc (rqCells kl) ∧ RowKit.Below w.heap.size w Z) ⟨by rw [← hX]; exact Blk.new _ _ _, own.alloc _, (by repeat (first | (with_reducible refine Below.setCell ?_ ?_ _) | (with_reducible refine Below.alloc ?_ ?_ _) | (with_reducible refine Below.drew ?_) | (with_reducible refine below_drewN ?_ _) | (with_reducible exact Below.refl _ _) | (with_reducible refine Below.trans ?_ (Below.mono bw ?_)) | (focus (simp; done)) | (focus (simp; omega)) | (focus omega) | (focus (have q0 := Below.size bw; (try simp at q0); (try simp); omega))))⟩ ?_
      rw [hX]
      clear hX hbw x0 x1 x2 x3 x4 xb own bw
      rintro Z ⟨kX, own, bz⟩
      obtain ⟨v0, v1, v2, v3, v4, vf, vl⟩ := kX.five
      have hsz := bz.size
      cases hp : (decide (q ≤ til)) with
      | false =>
        have HK := Lib.hid (kpt_no (p := pExpire q) (x := ⟨id, veh, cls, til, lg, la, lc⟩) hp)
        go_wp2_with fail
        go_roundw
        case rel => exact ⟨i + 1, m, ca, cc, rfl, by go_num, by omega, by omega, Lib.hid (by rw [HX.out, HK.out, List.append_nil]; exact hmk.out), by rw [HX.out, HK.out, List.append_nil]; exact own, bz⟩
        case measure => simp [intOf]; omega
      | true =>
        have HK := Lib.hid (kpt_yes (p := pExpire q) (x := ⟨id, veh, cls, til, lg, la, lc⟩) hp)
        go_wp2_with ((at_builtin; refine app1Rw rfl _ _ rfl w.heap.size ca m cc kl rfl ⟨id, veh, cls, til, lg, la, lc⟩ Z.heap.size rfl (Blk.new _ _ _) (own.alloc _) (by simp; omega) (by omega) ?_; intro xb xd w7 own7 g7 bl7))
        go_roundw
        case rel => exact ⟨i + 1, m + 1, xb, xd, rfl, by go_num, by omega, by omega, Lib.hid (by rw [HX.out, HK.out, List.length_append, ← hmk.out]; rfl), by rw [HX.out, HK.out]; exact own7, bl7 _ (by repeat (first | (with_reducible refine Below.setCell ?_ ?_ _) | (with_reducible refine Below.alloc ?_ ?_ _) | (with_reducible refine Below.drew ?_) | (with_reducible refine below_drewN ?_ _) | (with_reducible exact Below.refl _ _) | (with_reducible refine Below.trans ?_ (Below.mono bz ?_)) | (focus (simp; done)) | (focus (simp; omega)) | (focus omega) | (focus (have q0 := Below.size bz; (try simp at q0); (try simp); omega))))⟩
        case measure => simp [intOf]; omega
    · obtain rfl : i = l.length := by omega
      rw [List.take_length] at hmk own
      have hq : Rqs wr ca (kpt (pExpire q) l) := ⟨own.row, fun r hr => (h.legs r ((List.mem_filter.1 hr).1)).below bw (Nat.le_refl _)⟩
      go_wp2_with ((go_at_call 51; (with_reducible refine (ref19_Copy ca (kpt (pExpire q) l) m cc _ hq hmk.out (by omega) (fun r hr => hl r ((List.mem_filter.1 hr).1))).mono ?_); rintro e w2 ⟨xa, xc, l2, rfl, hk, hn2, il, hb⟩))
      go_ret
      exact ⟨m, xa, xc, l2, rfl, Lib.hid (by rw [hk.out, kpt_keys]), hn2, il.mono bw.size, (by repeat (first | (with_reducible refine Below.setCell ?_ ?_ _) | (with_reducible refine Below.alloc ?_ ?_ _) | (with_reducible refine Below.drew ?_) | (with_reducible refine below_drewN ?_ _) | (with_reducible exact Below.refl _ _) | (with_reducible refine Below.trans ?_ (Below.mono hb ?_)) | (with_reducible refine Below.trans ?_ (Below.mono bw ?_)) | (focus (simp; done)) | (focus (simp; omega)) | (focus omega) | (focus (have q0 := Below.size hb; (try simp at q0); have q1 := Below.size bw; (try simp at q1); (try simp); omega))))⟩
theorem cancM_kpt {l : List Rq} {q : Int} : (kpt (pCancel q) l).length = l.length ↔ (findM (l.map Rq.key) q).isSome = false := by
  rw [findM_none]
  unfold kpt
  rw [List.length_filter_eq_length_iff]
  constructor
  · intro h r hr
    obtain ⟨x, hx, rfl⟩ := List.mem_map.1 hr
    simpa [pCancel] using h x hx
  · intro h x hx
    simpa [pCancel] using h x.key (List.mem_map.2 ⟨x, hx, rfl⟩)
set_option maxHeartbeats 8000000 in
theorem ref19_Cancel (a : Option Addr) (l : List Rq) (n c : Nat) (q : Int) (w : World) (h : Rqs w a l) (hn : n = l.length) (l9 : n ≤ 10000) (hl : ∀ r ∈ l, r.legs.length ≤ r.c ∧ r.legs.length ≤ 10000) :
    Calls Try.prog 26 #[.slice a n c, .int .i64 q] w (LE (cancM (l.map Rq.key) q) w) := by
  subst hn
  go_enter Try.func26, Try.ntmps26
  by_cases hp : RqsOk (l.map Rq.key) 4
  · have HP := Lib.hid hp
    clear hp
    go_wp2_with ((go_at_call 27; (with_reducible refine (Says.y (ref19_Valid a l l.length c 4 _ h rfl (by omega) (fun r hr => ⟨(hl r hr).1, by have := (hl r hr).2; omega⟩)) HP.out).mono ?_); rintro e w1 ⟨rfl, hb1⟩))
    go_loopw [6, 14] (fun s6 s14 wr => ∃ (i m : Nat) (ca : Option Addr) (cc : Nat), s6 = .slice ca m cc ∧ s14 = .int .i64 i ∧ i ≤ l.length ∧ m ≤ i ∧ Hid (m = (kpt (pCancel q) (l.take i)).length) ∧ Own wr w.heap.size 45 5 ca m cc (rqCells (kpt (pCancel q) (l.take i))) ∧ RowKit.Below w.heap.size w wr) (fun _ s _ => l.length - (intOf s).toNat)
    case atStart => exact ⟨0, 0, none, 0, rfl, rfl, by omega, by omega, Lib.hid rfl, Own.nil _ _ _ _, (by repeat (first | (with_reducible refine Below.setCell ?_ ?_ _) | (with_reducible refine Below.alloc ?_ ?_ _) | (with_reducible refine Below.drew ?_) | (with_reducible refine below_drewN ?_ _) | (with_reducible exact Below.refl _ _) | (with_reducible refine Below.trans ?_ (Below.mono hb1 ?_)) | (focus (simp; done)) | (focus (simp; omega)) | (focus omega) | (focus (have q0 := Below.size hb1; (try simp at q0); (try simp); omega))))⟩
    case round =>
      obtain ⟨i, m, ca, cc, rfl, rfl, hi, hm, hmk, own, bw⟩ := hrel
      by_cases hlt : i < l.length
      · obtain ⟨ba, oa, rfl⟩ := h.open (by omega)
        have hr := h.below bw (Nat.le_refl _)
        obtain ⟨x0, x1, x2, x3, x4, xb⟩ := row_req hr.row i hlt
        have HX := Lib.hid (kpt_succ (p := pCancel q) hlt)
        obtain ⟨x, hx⟩ : ∃ x, l[i] = x := ⟨_, rfl⟩
        rw [hx] at x0 x1 x2 x3 x4 HX
        clear hx hr
        obtain ⟨id, veh, cls, til, lg, la, lc⟩ := x
        simp only at x0 x1 x2 x3 x4
        have kx : (i : Int) < (l.length : Int) := by omega
        have hbw := bw.size
        obtain ⟨kl, hkl⟩ : ∃ kl, kpt (pCancel q) (l.take i) = kl := ⟨_, rfl⟩
        rw [hkl] at HX own hmk
        clear hkl
        go_upto_region 7 with fail
        obtain ⟨X, hX⟩ : ∃ X, wr.heap.size = X := ⟨_, rfl⟩
        refine wp_named (fun Z => Blk Z X 45 #[.int .i64 id, .int .i64 veh, .int .i64 cls, .int .i64 til, .slice la lg.length lc] ∧ Own Z w.heap.size 45 5 ca m cc (rqCells kl) ∧ RowKit.Below w.heap.size w Z) ⟨by rw [← hX]; exact Blk.new _ _ _, own.alloc _, (by repeat (first | (with_reducible refine Below.setCell ?_ ?_ _) | (with_reducible refine Below.alloc ?_ ?_ _) | (with_reducible refine Below.drew ?_) | (with_reducible refine below_drewN ?_ _) | (with_reducible exact Below.refl _ _) | (with_reducible refine Below.trans ?_ (Below.mono bw ?_)) | (focus (simp; done)) | (focus (simp; omega)) | (focus omega) | (focus (have q0 := Below.size bw; (try simp at q0); (try simp); omega))))⟩ ?_
        rw [hX]
        clear hX hbw x0 x1 x2 x3 x4 xb own bw
        rintro Z ⟨kX, own, bz⟩
        obtain ⟨v0, v1, v2, v3, v4, vf, vl⟩ := kX.five
        have hsz := bz.size
        cases hp : (id != q) with
        | false =>
          have HK := Lib.hid (kpt_no (p := pCancel q) (x := ⟨id, veh, cls, til, lg, la, lc⟩) hp)
          go_wp2_with fail
          go_roundw
          case rel => exact ⟨i + 1, m, ca, cc, rfl, by go_num, by omega, by omega, Lib.hid (by rw [HX.out, HK.out, List.append_nil]; exact hmk.out), by rw [HX.out, HK.out, List.append_nil]; exact own, bz⟩
          case measure => simp [intOf]; omega
        | true =>
          have HK := Lib.hid (kpt_yes (p := pCancel q) (x := ⟨id, veh, cls, til, lg, la, lc⟩) hp)
          go_wp2_with ((at_builtin; refine app1Rw rfl _ _ rfl w.heap.size ca m cc kl rfl ⟨id, veh, cls, til, lg, la, lc⟩ Z.heap.size rfl (Blk.new _ _ _) (own.alloc _) (by simp; omega) (by omega) ?_; intro xb xd w7 own7 g7 bl7))
          go_roundw
          case rel => exact ⟨i + 1, m + 1, xb, xd, rfl, by go_num, by omega, by omega, Lib.hid (by rw [HX.out, HK.out, List.length_append, ← hmk.out]; rfl), by rw [HX.out, HK.out]; exact own7, bl7 _ (by repeat (first | (with_reducible refine Below.setCell ?_ ?_ _) | (with_reducible refine Below.alloc ?_ ?_ _) | (with_reducible refine Below.drew ?_) | (with_reducible refine below_drewN ?_ _) | (with_reducible exact Below.refl _ _) | (with_reducible refine Below.trans ?_ (Below.mono bz ?_)) | (focus (simp; done)) | (focus (simp; omega)) | (focus omega) | (focus (have q0 := Below.size bz; (try simp at q0); (try simp); omega))))⟩
          case measure => simp [intOf]; omega
      · obtain rfl : i = l.length := by omega
        rw [List.take_length] at hmk own
        by_cases hall : m = l.length
        · have hne := cancM_12 HP.out (cancM_kpt.1 (by rw [← hmk.out]; exact hall))
          subst hall
          go_wp2_with fail
          refine bodyPost_ret (v := .tuple #[.slice none 0 0, .int .i64 _]) (by simp [results, Try.results26, go_sem]; rfl) rfl ?_
          exact LE.err hne (by repeat (first | (with_reducible refine Below.setCell ?_ ?_ _) | (with_reducible refine Below.alloc ?_ ?_ _) | (with_reducible refine Below.drew ?_) | (with_reducible refine below_drewN ?_ _) | (with_reducible exact Below.refl _ _) | (with_reducible refine Below.trans ?_ (Below.mono bw ?_)) | (focus (simp; done)) | (focus (simp; omega)) | (focus omega) | (focus (have q0 := Below.size bw; (try simp at q0); (try simp); omega))))
        · have hso : (findM (l.map Rq.key) q).isSome = true := by
            cases hf : (findM (l.map Rq.key) q).isSome with
            | true => rfl
            | false => exact absurd (hmk.out.trans (cancM_kpt.2 hf)) hall
          have hM := cancM_0 HP.out hso
          have hq : Rqs wr ca (kpt (pCancel q) l) := ⟨own.row, fun r hr => (h.legs r (List.mem_filter.1 hr).1).below bw (Nat.le_refl _)⟩
          have hall2 : ¬ (m : Int) = (l.length : Int) := by omega
          go_wp2_with ((go_at_call 51; (with_reducible refine (ref19_Copy ca (kpt (pCancel q) l) m cc _ hq hmk.out (by omega) (fun r hr => by have := (hl r (List.mem_filter.1 hr).1).2; omega)).mono ?_); rintro e w2 ⟨xa, xc, l2, rfl, hk, hn2, il, hb⟩))
          refine bodyPost_ret (v := .tuple #[.slice xa m xc, .int .i64 0]) (by simp [results, Try.results26, go_sem]) rfl ?_
          exact ⟨xa, m, xc, l2, 0, rfl, Lib.hid (by rw [hM, hk.out, kpt_keys]), hn2, il.mono bw.size, (by repeat (first | (with_reducible refine Below.setCell ?_ ?_ _) | (with_reducible refine Below.alloc ?_ ?_ _) | (with_reducible refine Below.drew ?_) | (with_reducible refine below_drewN ?_ _) | (with_reducible exact Below.refl _ _) | (with_reducible refine Below.trans ?_ (Below.mono hb ?_)) | (with_reducible refine Below.trans ?_ (Below.mono bw ?_)) | (focus (simp; done)) | (focus (simp; omega)) | (focus omega) | (focus (have q0 := Below.size hb; (try simp at q0); have q1 := Below.size bw; (try simp at q1); (try simp); omega))))⟩
  · have HP := Lib.hid hp
    clear hp
    go_wp2_with ((go_at_call 27; (with_reducible refine (Says.n (ref19_Valid a l l.length c 4 _ h rfl (by omega) (fun r hr => ⟨(hl r hr).1, by have := (hl r hr).2; omega⟩)) HP.out).mono ?_); rintro e w1 ⟨rfl, hb1⟩))
    refine bodyPost_ret (v := .tuple #[.slice none 0 0, .int .i64 _]) (by simp [results, Try.results26, go_sem]; rfl) rfl ?_
    exact LE.err (cancM_1 HP.out) (by repeat (first | (with_reducible refine Below.setCell ?_ ?_ _) | (with_reducible refine Below.alloc ?_ ?_ _) | (with_reducible refine Below.drew ?_) | (with_reducible refine below_drewN ?_ _) | (with_reducible exact Below.refl _ _) | (with_reducible refine Below.trans ?_ (Below.mono hb1 ?_)) | (focus (simp; done)) | (focus (simp; omega)) | (focus omega) | (focus (have q0 := Below.size hb1; (try simp at q0); (try simp); omega))))
end Go.Proofs.Ytbanejpihdhbdaa
