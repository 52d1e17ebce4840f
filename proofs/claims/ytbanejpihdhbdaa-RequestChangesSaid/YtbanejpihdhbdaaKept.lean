/- request.kept with each of its function values -/
import Derived.Test.YtbanejpihdhbdaaRqClone
namespace Go.Proofs.Ytbanejpihdhbdaa
set_option linter.unusedVariables false
open Go.RowKit Go.Sort
set_option maxRecDepth 100000

theorem boolOf_bool (b : Bool) : boolOf (.bool b) = some b := rfl
attribute [go_sem] boolOf_bool
theorem keep_Cancel (i v k t : Int) (la : Option Addr) (ln lc nb : Nat) (q : Int) (w : World) (hc : w.cell? ⟨nb, 0, none⟩ = some (.int .i64 q)) (hl : nb < w.heap.size) :
    Calls Try.prog 45 #[.agg #[.int .i64 i, .int .i64 v, .int .i64 k, .int .i64 t, .slice la ln lc], .pointer (some ⟨nb, 0, none⟩)] w fun e w' => e = .returned (.bool (i != q)) ∧ Below w.heap.size w w' := by
  go_enter Try.func45, Try.ntmps45
  go_wp2
  all_goals
    go_ret
    exact ⟨ret_bool (by first | rfl | (simp; done) | (simp; omega) | (rw [Bool.eq_iff_iff]; simp []; done) | (rw [Bool.eq_iff_iff]; simp []; omega)), (by repeat (first | (with_reducible refine Below.setCell ?_ ?_ _) | (with_reducible refine Below.alloc ?_ ?_ _) | (with_reducible refine Below.drew ?_) | (with_reducible refine below_drewN ?_ _) | (with_reducible exact Below.refl _ _) | (focus (simp; done)) | (focus (simp; omega)) | (focus omega)))⟩
theorem keep_Without (i v k t : Int) (la : Option Addr) (ln lc nb : Nat) (q : Int) (w : World) (hc : w.cell? ⟨nb, 0, none⟩ = some (.int .i64 q)) (hl : nb < w.heap.size) :
    Calls Try.prog 49 #[.agg #[.int .i64 i, .int .i64 v, .int .i64 k, .int .i64 t, .slice la ln lc], .pointer (some ⟨nb, 0, none⟩)] w fun e w' => e = .returned (.bool (v != q)) ∧ Below w.heap.size w w' := by
  go_enter Try.func49, Try.ntmps49
  go_wp2
  all_goals
    go_ret
    exact ⟨ret_bool (by first | rfl | (simp; done) | (simp; omega) | (rw [Bool.eq_iff_iff]; simp []; done) | (rw [Bool.eq_iff_iff]; simp []; omega)), (by repeat (first | (with_reducible refine Below.setCell ?_ ?_ _) | (with_reducible refine Below.alloc ?_ ?_ _) | (with_reducible refine Below.drew ?_) | (with_reducible refine below_drewN ?_ _) | (with_reducible exact Below.refl _ _) | (focus (simp; done)) | (focus (simp; omega)) | (focus omega)))⟩
theorem keep_Expire (i v k t : Int) (la : Option Addr) (ln lc nb : Nat) (q : Int) (w : World) (hc : w.cell? ⟨nb, 0, none⟩ = some (.int .i64 q)) (hl : nb < w.heap.size) :
    Calls Try.prog 50 #[.agg #[.int .i64 i, .int .i64 v, .int .i64 k, .int .i64 t, .slice la ln lc], .pointer (some ⟨nb, 0, none⟩)] w fun e w' => e = .returned (.bool (decide (q ≤ t))) ∧ Below w.heap.size w w' := by
  go_enter Try.func50, Try.ntmps50
  go_wp2
  all_goals
    go_ret
    exact ⟨ret_bool (by first | rfl | (simp; done) | (simp; omega) | (rw [Bool.eq_iff_iff]; simp []; done) | (rw [Bool.eq_iff_iff]; simp []; omega)), (by repeat (first | (with_reducible refine Below.setCell ?_ ?_ _) | (with_reducible refine Below.alloc ?_ ?_ _) | (with_reducible refine Below.drew ?_) | (with_reducible refine below_drewN ?_ _) | (with_reducible exact Below.refl _ _) | (focus (simp; done)) | (focus (simp; omega)) | (focus omega)))⟩
theorem index_Req (i v k t : Int) (la : Option Addr) (ln lc nb : Nat) (q : Int) (w : World) (hc : w.cell? ⟨nb, 0, none⟩ = some (.int .i64 q)) (hl : nb < w.heap.size) :
    Calls Try.prog 61 #[.agg #[.int .i64 i, .int .i64 v, .int .i64 k, .int .i64 t, .slice la ln lc], .pointer (some ⟨nb, 0, none⟩)] w fun e w' => e = .returned (.bool (i == q)) ∧ Below w.heap.size w w' := by
  go_enter Try.func61, Try.ntmps61
  go_wp2
  all_goals
    go_ret
    exact ⟨ret_bool (by first | rfl | (simp; done) | (simp; omega) | (rw [Bool.eq_iff_iff]; simp []; done) | (rw [Bool.eq_iff_iff]; simp []; omega)), (by repeat (first | (with_reducible refine Below.setCell ?_ ?_ _) | (with_reducible refine Below.alloc ?_ ?_ _) | (with_reducible refine Below.drew ?_) | (with_reducible refine below_drewN ?_ _) | (with_reducible exact Below.refl _ _) | (focus (simp; done)) | (focus (simp; omega)) | (focus omega)))⟩
theorem keep_All (i v k t : Int) (la : Option Addr) (ln lc : Nat) (w : World) :
    Calls Try.prog 64 #[.agg #[.int .i64 i, .int .i64 v, .int .i64 k, .int .i64 t, .slice la ln lc]] w fun e w' => e = .returned (.bool true) ∧ Below w.heap.size w w' := by
  go_enter Try.func64, Try.ntmps64
  go_wp2
  all_goals
    go_ret
    exact ⟨rfl, (by repeat (first | (with_reducible refine Below.setCell ?_ ?_ _) | (with_reducible refine Below.alloc ?_ ?_ _) | (with_reducible refine Below.drew ?_) | (with_reducible refine below_drewN ?_ _) | (with_reducible exact Below.refl _ _) | (focus (simp; done)) | (focus (simp; omega)) | (focus omega)))⟩
theorem index_Leg (j p f t s : Int) (nb : Nat) (q : Int) (w : World) (hc : w.cell? ⟨nb, 0, none⟩ = some (.int .i64 q)) (hl : nb < w.heap.size) :
    Calls Try.prog 48 #[lgAgg j p f t s, .pointer (some ⟨nb, 0, none⟩)] w fun e w' => e = .returned (.bool (j == q)) ∧ Below w.heap.size w w' := by
  go_enter Try.func48, Try.ntmps48
  go_wp2
  all_goals
    go_ret
    exact ⟨ret_bool (by first | rfl | (simp; done) | (simp; omega) | (rw [Bool.eq_iff_iff]; simp []; done) | (rw [Bool.eq_iff_iff]; simp []; omega)), (by repeat (first | (with_reducible refine Below.setCell ?_ ?_ _) | (with_reducible refine Below.alloc ?_ ?_ _) | (with_reducible refine Below.drew ?_) | (with_reducible refine below_drewN ?_ _) | (with_reducible exact Below.refl _ _) | (focus (simp; done)) | (focus (simp; omega)) | (focus omega)))⟩
def KeptR (l : List Rk) (p : Rk → Bool) (w : World) (e : Ending) (w' : World) : Prop :=
  ∃ (n : Nat) (xa : Option Addr) (xc : Nat) (l2 : List Rq), e = .returned (.slice xa n xc) ∧ Hid (l2.map Rq.key = l.filter p) ∧ Hid (n = l2.length) ∧ RqL w' w.heap.size l2 xa xc ∧ Below w.heap.size w w'
def pCancel (q : Int) (r : Rk) : Bool := r.1 != q
def pWithout (q : Int) (r : Rk) : Bool := r.2.1 != q
def pExpire (q : Int) (r : Rk) : Bool := decide (q ≤ r.2.2.2.1)
def pAll (_ : Int) (_ : Rk) : Bool := true
/-- a request's legs, as clone wants them -/
structure LgOk (r : Rq) : Prop where
  n : r.legs.length ≤ 10000
  nil : r.a = none → r.c = 0
theorem filter_take {l : List Rq} {i : Nat} (h : i < l.length) (p : Rk → Bool) {x : Rq} (hx : l[i] = x) : ((l.take (i + 1)).map Rq.key).filter p = ((l.take i).map Rq.key).filter p ++ (if p x.key then [x.key] else []) := by
  subst hx
  rw [← List.take_append_getElem h, List.map_append, List.filter_append]
  congr 1
  simp only [List.map_cons, List.map_nil, List.filter_cons, List.filter_nil]
set_option maxHeartbeats 4000000 in
theorem kept_Cancel (a : Option Addr) (l : List Rq) (n c nb : Nat) (q : Int) (w : World) (h : Rqs w a l) (hn : n = l.length) (l9 : n ≤ 10000) (hl : ∀ r ∈ l, LgOk r) (hc : Blk w nb 3 #[.int .i64 q]) :
    Calls Try.prog 44 #[.slice a n c, .func (.func 45) #[] #[.pointer (some ⟨nb, 0, none⟩)]] w (KeptR (l.map Rq.key) (pCancel q) w) := by
  subst hn
  go_enter Try.func44, Try.ntmps44
  go_wp2
  go_loopw [5, 10] (fun s5 s10 wr => ∃ (i m : Nat) (xa : Option Addr) (xc : Nat) (l2 : List Rq), s5 = .slice xa m xc ∧ s10 = .int .i64 i ∧ i ≤ l.length ∧ m ≤ i ∧ Hid (m = l2.length) ∧ Hid (l2.map Rq.key = ((l.take i).map Rq.key).filter (pCancel q)) ∧ RqL wr w.heap.size l2 xa xc ∧ RowKit.Below w.heap.size w wr) (fun _ s _ => l.length - (intOf s).toNat)
  case atStart => exact ⟨0, 0, none, 0, [], rfl, rfl, by omega, by omega, Lib.hid rfl, Lib.hid rfl, RqL.nil _ _, (by repeat (first | (with_reducible refine Below.setCell ?_ ?_ _) | (with_reducible refine Below.alloc ?_ ?_ _) | (with_reducible refine Below.drew ?_) | (with_reducible refine below_drewN ?_ _) | (with_reducible exact Below.refl _ _) | (focus (simp; done)) | (focus (simp; omega)) | (focus omega)))⟩
  case round =>
    obtain ⟨i, m, xa, xc, l2, rfl, rfl, hi, hmi, hm, hk, il, be⟩ := hrel
    by_cases hlt : i < l.length
    · have kx : (i : Int) < (l.length : Int) := by omega
      obtain ⟨ba, oa, rfl⟩ := h.open (by omega)
      have hr := h.below be (Nat.le_refl _)
      obtain ⟨x0, x1, x2, x3, x4, xb⟩ := row_req hr.row i hlt
      have hg := hr.legs _ (List.getElem_mem hlt)
      have hgl := hl _ (List.getElem_mem hlt)
      obtain ⟨x, hx⟩ : ∃ x, l[i] = x := ⟨_, rfl⟩
      have HX := Lib.hid (filter_take hlt (pCancel q) hx)
      rw [hx] at x0 x1 x2 x3 x4 hg hgl
      clear hx hr
      obtain ⟨id, veh, cls, til, lg, la, lc⟩ := x
      obtain ⟨hg9, hgn⟩ := hgl
      simp only at x0 x1 x2 x3 x4 hg hg9 hgn
      have HGN := Lib.hid hgn
      clear hgn
      have kc := hc.below be hc.lt
      go_upto_region 5 with fail
      obtain ⟨V, hV⟩ : ∃ V, wr.heap.size = V := ⟨_, rfl⟩
      refine wp_named (fun Y => Blk Y V 45 #[.int .i64 id, .int .i64 veh, .int .i64 cls, .int .i64 til, .slice la lg.length lc] ∧ Row Y la (lgCells lg) ∧ RqL Y w.heap.size l2 xa xc ∧ RowKit.Below w.heap.size w Y ∧ Blk Y nb 3 #[.int .i64 q]) ⟨by rw [← hV]; exact Blk.new _ _ _, hg.alloc _, il.alloc _, (by repeat (first | (with_reducible refine Below.setCell ?_ ?_ _) | (with_reducible refine Below.alloc ?_ ?_ _) | (with_reducible refine Below.drew ?_) | (with_reducible refine below_drewN ?_ _) | (with_reducible exact Below.refl _ _) | (with_reducible refine Below.trans ?_ (Below.mono be ?_)) | (focus (simp; done)) | (focus (simp; omega)) | (focus omega) | (focus (have q0 := Below.size be; (try simp at q0); (try simp); omega)))), kc.alloc _⟩ ?_
      rw [hV]
      clear hV hg be x0 x1 x2 x3 x4 xb il kc
      rintro Y ⟨kV, hg, il, be, kc⟩
      obtain ⟨v0, v1, v2, v3, v4, vf, vl⟩ := kV.five
      have cc := kc.cell 0
      have cl := kc.lt
      go_upto_if 16 with ((go_at_call 45; (with_reducible refine (keep_Cancel id veh cls til la lg.length lc nb q _ cc cl).mono ?_); rintro e w2 ⟨rfl, hb2⟩))
      obtain ⟨bv, hbv⟩ : ∃ bv : Bool, (id != q) = bv := ⟨_, rfl⟩
      have HXB : Hid (((l.take (i + 1)).map Rq.key).filter (pCancel q) = l2.map Rq.key ++ (if bv then [(id, veh, cls, til, lg)] else [])) := Lib.hid (by rw [HX.out, ← hk.out, ← hbv]; rfl)
      rw [hbv]
      have il2 := il.below hb2
      have hg2 := hg.below hb2 (Nat.le_refl _)
      have kV2 := kV.below hb2 vl
      have be2 : RowKit.Below w.heap.size w w2 := (by repeat (first | (with_reducible refine Below.setCell ?_ ?_ _) | (with_reducible refine Below.alloc ?_ ?_ _) | (with_reducible refine Below.drew ?_) | (with_reducible refine below_drewN ?_ _) | (with_reducible exact Below.refl _ _) | (with_reducible refine Below.trans ?_ (Below.mono hb2 ?_)) | (with_reducible refine Below.trans ?_ (Below.mono be ?_)) | (focus (simp; done)) | (focus (simp; omega)) | (focus omega) | (focus (have q0 := Below.size hb2; (try simp at q0); have q1 := Below.size be; (try simp at q1); (try simp); omega))))
      have hs2 := be2.size
      clear hbv v0 v1 v2 v3 v4 vf cc cl hb2 il hg kc be
      obtain ⟨v0, v1, v2, v3, v4, vf, vl2⟩ := kV2.five
      cases bv with
      | false =>
        go_wp2_with fail
        go_roundw
        case rel => exact ⟨i + 1, m, xa, xc, l2, rfl, by go_num, by omega, by omega, hm, Lib.hid (by rw [HXB.out]; simp), il2, be2⟩
        case measure => simp [intOf]; omega
      | true =>
        go_wp2_with (first | (go_at_call 55; (with_reducible refine (request_clone id veh cls til la lg.length lc lg _ hg2 rfl (by omega) HGN.out).mono ?_); rintro e w3 ⟨ya, yn, yc, rfl, hyn, own, hb3⟩; ((have il3 := il2.below hb3); (have be3 : RowKit.Below w.heap.size w w3 := (by repeat (first | (with_reducible refine Below.setCell ?_ ?_ _) | (with_reducible refine Below.alloc ?_ ?_ _) | (with_reducible refine Below.drew ?_) | (with_reducible refine below_drewN ?_ _) | (with_reducible exact Below.refl _ _) | (with_reducible refine Below.trans ?_ (Below.mono hb3 ?_)) | (with_reducible refine Below.trans ?_ (Below.mono be2 ?_)) | (focus (simp; done)) | (focus (simp; omega)) | (focus omega) | (focus (have q0 := Below.size hb3; (try simp at q0); have q1 := Below.size be2; (try simp at q1); (try simp); omega))))); (have HAP := Lib.hid (show ∀ r ∈ l2, Apart r.a ya from fun r hr k ha hb => by (have h1 := (il2.legs r hr).lt' k ha); (have h2 := own.base_le k hb); omega)))) | (at_builtin; refine app1Rq rfl _ _ rfl w.heap.size xa m xc l2 rfl hm.out id veh cls til lg ya yn yc hyn.out w3.heap.size rfl (Blk.new _ _ _) (il3.alloc _) (by have := hb3.size; simp; omega) ((own.mono (by omega)).alloc _) HAP.out (by omega) ?_; intro xb xd w5 il5 g5 bl5))
        have be5 := bl5 _ (be3.alloc be3.size _)
        go_roundw
        case rel => exact ⟨i + 1, m + 1, xb, xd, _, rfl, by go_num, by omega, by omega, Lib.hid (by simp [hm.out]), Lib.hid (by rw [HXB.out, List.map_append]; rfl), il5, be5⟩
        case measure => simp [intOf]; omega
    · obtain rfl : i = l.length := by omega
      go_wp2_with fail
      go_ret
      exact ⟨m, xa, xc, l2, rfl, Lib.hid (by rw [hk.out, List.take_length]), hm, il, be⟩
set_option maxHeartbeats 4000000 in
theorem kept_Without (a : Option Addr) (l : List Rq) (n c nb : Nat) (q : Int) (w : World) (h : Rqs w a l) (hn : n = l.length) (l9 : n ≤ 10000) (hl : ∀ r ∈ l, LgOk r) (hc : Blk w nb 3 #[.int .i64 q]) :
    Calls Try.prog 44 #[.slice a n c, .func (.func 49) #[] #[.pointer (some ⟨nb, 0, none⟩)]] w (KeptR (l.map Rq.key) (pWithout q) w) := by
  subst hn
  go_enter Try.func44, Try.ntmps44
  go_wp2
  go_loopw [5, 10] (fun s5 s10 wr => ∃ (i m : Nat) (xa : Option Addr) (xc : Nat) (l2 : List Rq), s5 = .slice xa m xc ∧ s10 = .int .i64 i ∧ i ≤ l.length ∧ m ≤ i ∧ Hid (m = l2.length) ∧ Hid (l2.map Rq.key = ((l.take i).map Rq.key).filter (pWithout q)) ∧ RqL wr w.heap.size l2 xa xc ∧ RowKit.Below w.heap.size w wr) (fun _ s _ => l.length - (intOf s).toNat)
  case atStart => exact ⟨0, 0, none, 0, [], rfl, rfl, by omega, by omega, Lib.hid rfl, Lib.hid rfl, RqL.nil _ _, (by repeat (first | (with_reducible refine Below.setCell ?_ ?_ _) | (with_reducible refine Below.alloc ?_ ?_ _) | (with_reducible refine Below.drew ?_) | (with_reducible refine below_drewN ?_ _) | (with_reducible exact Below.refl _ _) | (focus (simp; done)) | (focus (simp; omega)) | (focus omega)))⟩
  case round =>
    obtain ⟨i, m, xa, xc, l2, rfl, rfl, hi, hmi, hm, hk, il, be⟩ := hrel
    by_cases hlt : i < l.length
    · have kx : (i : Int) < (l.length : Int) := by omega
      obtain ⟨ba, oa, rfl⟩ := h.open (by omega)
      have hr := h.below be (Nat.le_refl _)
      obtain ⟨x0, x1, x2, x3, x4, xb⟩ := row_req hr.row i hlt
      have hg := hr.legs _ (List.getElem_mem hlt)
      have hgl := hl _ (List.getElem_mem hlt)
      obtain ⟨x, hx⟩ : ∃ x, l[i] = x := ⟨_, rfl⟩
      have HX := Lib.hid (filter_take hlt (pWithout q) hx)
      rw [hx] at x0 x1 x2 x3 x4 hg hgl
      clear hx hr
      obtain ⟨id, veh, cls, til, lg, la, lc⟩ := x
      obtain ⟨hg9, hgn⟩ := hgl
      simp only at x0 x1 x2 x3 x4 hg hg9 hgn
      have HGN := Lib.hid hgn
      clear hgn
      have kc := hc.below be hc.lt
      go_upto_region 5 with fail
      obtain ⟨V, hV⟩ : ∃ V, wr.heap.size = V := ⟨_, rfl⟩
      refine wp_named (fun Y => Blk Y V 45 #[.int .i64 id, .int .i64 veh, .int .i64 cls, .int .i64 til, .slice la lg.length lc] ∧ Row Y la (lgCells lg) ∧ RqL Y w.heap.size l2 xa xc ∧ RowKit.Below w.heap.size w Y ∧ Blk Y nb 3 #[.int .i64 q]) ⟨by rw [← hV]; exact Blk.new _ _ _, hg.alloc _, il.alloc _, (by repeat (first | (with_reducible refine Below.setCell ?_ ?_ _) | (with_reducible refine Below.alloc ?_ ?_ _) | (with_reducible refine Below.drew ?_) | (with_reducible refine below_drewN ?_ _) | (with_reducible exact Below.refl _ _) | (with_reducible refine Below.trans ?_ (Below.mono be ?_)) | (focus (simp; done)) | (focus (simp; omega)) | (focus omega) | (focus (have q0 := Below.size be; (try simp at q0); (try simp); omega)))), kc.alloc _⟩ ?_
      rw [hV]
      clear hV hg be x0 x1 x2 x3 x4 xb il kc
      rintro Y ⟨kV, hg, il, be, kc⟩
      obtain ⟨v0, v1, v2, v3, v4, vf, vl⟩ := kV.five
      have cc := kc.cell 0
      have cl := kc.lt
      go_upto_if 16 with ((go_at_call 49; (with_reducible refine (keep_Without id veh cls til la lg.length lc nb q _ cc cl).mono ?_); rintro e w2 ⟨rfl, hb2⟩))
      obtain ⟨bv, hbv⟩ : ∃ bv : Bool, (veh != q) = bv := ⟨_, rfl⟩
      have HXB : Hid (((l.take (i + 1)).map Rq.key).filter (pWithout q) = l2.map Rq.key ++ (if bv then [(id, veh, cls, til, lg)] else [])) := Lib.hid (by rw [HX.out, ← hk.out, ← hbv]; rfl)
      rw [hbv]
      have il2 := il.below hb2
      have hg2 := hg.below hb2 (Nat.le_refl _)
      have kV2 := kV.below hb2 vl
      have be2 : RowKit.Below w.heap.size w w2 := (by repeat (first | (with_reducible refine Below.setCell ?_ ?_ _) | (with_reducible refine Below.alloc ?_ ?_ _) | (with_reducible refine Below.drew ?_) | (with_reducible refine below_drewN ?_ _) | (with_reducible exact Below.refl _ _) | (with_reducible refine Below.trans ?_ (Below.mono hb2 ?_)) | (with_reducible refine Below.trans ?_ (Below.mono be ?_)) | (focus (simp; done)) | (focus (simp; omega)) | (focus omega) | (focus (have q0 := Below.size hb2; (try simp at q0); have q1 := Below.size be; (try simp at q1); (try simp); omega))))
      have hs2 := be2.size
      clear hbv v0 v1 v2 v3 v4 vf cc cl hb2 il hg kc be
      obtain ⟨v0, v1, v2, v3, v4, vf, vl2⟩ := kV2.five
      cases bv with
      | false =>
        go_wp2_with fail
        go_roundw
        case rel => exact ⟨i + 1, m, xa, xc, l2, rfl, by go_num, by omega, by omega, hm, Lib.hid (by rw [HXB.out]; simp), il2, be2⟩
        case measure => simp [intOf]; omega
      | true =>
        go_wp2_with (first | (go_at_call 55; (with_reducible refine (request_clone id veh cls til la lg.length lc lg _ hg2 rfl (by omega) HGN.out).mono ?_); rintro e w3 ⟨ya, yn, yc, rfl, hyn, own, hb3⟩; ((have il3 := il2.below hb3); (have be3 : RowKit.Below w.heap.size w w3 := (by repeat (first | (with_reducible refine Below.setCell ?_ ?_ _) | (with_reducible refine Below.alloc ?_ ?_ _) | (with_reducible refine Below.drew ?_) | (with_reducible refine below_drewN ?_ _) | (with_reducible exact Below.refl _ _) | (with_reducible refine Below.trans ?_ (Below.mono hb3 ?_)) | (with_reducible refine Below.trans ?_ (Below.mono be2 ?_)) | (focus (simp; done)) | (focus (simp; omega)) | (focus omega) | (focus (have q0 := Below.size hb3; (try simp at q0); have q1 := Below.size be2; (try simp at q1); (try simp); omega))))); (have HAP := Lib.hid (show ∀ r ∈ l2, Apart r.a ya from fun r hr k ha hb => by (have h1 := (il2.legs r hr).lt' k ha); (have h2 := own.base_le k hb); omega)))) | (at_builtin; refine app1Rq rfl _ _ rfl w.heap.size xa m xc l2 rfl hm.out id veh cls til lg ya yn yc hyn.out w3.heap.size rfl (Blk.new _ _ _) (il3.alloc _) (by have := hb3.size; simp; omega) ((own.mono (by omega)).alloc _) HAP.out (by omega) ?_; intro xb xd w5 il5 g5 bl5))
        have be5 := bl5 _ (be3.alloc be3.size _)
        go_roundw
        case rel => exact ⟨i + 1, m + 1, xb, xd, _, rfl, by go_num, by omega, by omega, Lib.hid (by simp [hm.out]), Lib.hid (by rw [HXB.out, List.map_append]; rfl), il5, be5⟩
        case measure => simp [intOf]; omega
    · obtain rfl : i = l.length := by omega
      go_wp2_with fail
      go_ret
      exact ⟨m, xa, xc, l2, rfl, Lib.hid (by rw [hk.out, List.take_length]), hm, il, be⟩
set_option maxHeartbeats 4000000 in
theorem kept_Expire (a : Option Addr) (l : List Rq) (n c nb : Nat) (q : Int) (w : World) (h : Rqs w a l) (hn : n = l.length) (l9 : n ≤ 10000) (hl : ∀ r ∈ l, LgOk r) (hc : Blk w nb 3 #[.int .i64 q]) :
    Calls Try.prog 44 #[.slice a n c, .func (.func 50) #[] #[.pointer (some ⟨nb, 0, none⟩)]] w (KeptR (l.map Rq.key) (pExpire q) w) := by
  subst hn
  go_enter Try.func44, Try.ntmps44
  go_wp2
  go_loopw [5, 10] (fun s5 s10 wr => ∃ (i m : Nat) (xa : Option Addr) (xc : Nat) (l2 : List Rq), s5 = .slice xa m xc ∧ s10 = .int .i64 i ∧ i ≤ l.length ∧ m ≤ i ∧ Hid (m = l2.length) ∧ Hid (l2.map Rq.key = ((l.take i).map Rq.key).filter (pExpire q)) ∧ RqL wr w.heap.size l2 xa xc ∧ RowKit.Below w.heap.size w wr) (fun _ s _ => l.length - (intOf s).toNat)
  case atStart => exact ⟨0, 0, none, 0, [], rfl, rfl, by omega, by omega, Lib.hid rfl, Lib.hid rfl, RqL.nil _ _, (by repeat (first | (with_reducible refine Below.setCell ?_ ?_ _) | (with_reducible refine Below.alloc ?_ ?_ _) | (with_reducible refine Below.drew ?_) | (with_reducible refine below_drewN ?_ _) | (with_reducible exact Below.refl _ _) | (focus (simp; done)) | (focus (simp; omega)) | (focus omega)))⟩
  case round =>
    obtain ⟨i, m, xa, xc, l2, rfl, rfl, hi, hmi, hm, hk, il, be⟩ := hrel
    by_cases hlt : i < l.length
    · have kx : (i : Int) < (l.length : Int) := by omega
      obtain ⟨ba, oa, rfl⟩ := h.open (by omega)
      have hr := h.below be (Nat.le_refl _)
      obtain ⟨x0, x1, x2, x3, x4, xb⟩ := row_req hr.row i hlt
      have hg := hr.legs _ (List.getElem_mem hlt)
      have hgl := hl _ (List.getElem_mem hlt)
      obtain ⟨x, hx⟩ : ∃ x, l[i] = x := ⟨_, rfl⟩
      have HX := Lib.hid (filter_take hlt (pExpire q) hx)
      rw [hx] at x0 x1 x2 x3 x4 hg hgl
      clear hx hr
      obtain ⟨id, veh, cls, til, lg, la, lc⟩ := x
      obtain ⟨hg9, hgn⟩ := hgl
      simp only at x0 x1 x2 x3 x4 hg hg9 hgn
      have HGN := Lib.hid hgn
      clear hgn
      have kc := hc.below be hc.lt
      go_upto_region 5 with fail
      obtain ⟨V, hV⟩ : ∃ V, wr.heap.size = V := ⟨_, rfl⟩
      refine wp_named (fun Y => Blk Y V 45 #[.int .i64 id, .int .i64 veh, .int .i64 cls, .int .i64 til, .slice la lg.length lc] ∧ Row Y la (lgCells lg) ∧ RqL Y w.heap.size l2 xa xc ∧ RowKit.Below w.heap.size w Y ∧ Blk Y nb 3 #[.int .i64 q]) ⟨by rw [← hV]; exact Blk.new _ _ _, hg.alloc _, il.alloc _, (by repeat (first | (with_reducible refine Below.setCell ?_ ?_ _) | (with_reducible refine Below.alloc ?_ ?_ _) | (with_reducible refine Below.drew ?_) | (with_reducible refine below_drewN ?_ _) | (with_reducible exact Below.refl _ _) | (with_reducible refine Below.trans ?_ (Below.mono be ?_)) | (focus (simp; done)) | (focus (simp; omega)) | (focus omega) | (focus (have q0 := Below.size be; (try simp at q0); (try simp); omega)))), kc.alloc _⟩ ?_
      rw [hV]
      clear hV hg be x0 x1 x2 x3 x4 xb il kc
      rintro Y ⟨kV, hg, il, be, kc⟩
      obtain ⟨v0, v1, v2, v3, v4, vf, vl⟩ := kV.five
      have cc := kc.cell 0
      have cl := kc.lt
      go_upto_if 16 with ((go_at_call 50; (with_reducible refine (keep_Expire id veh cls til la lg.length lc nb q _ cc cl).mono ?_); rintro e w2 ⟨rfl, hb2⟩))
      obtain ⟨bv, hbv⟩ : ∃ bv : Bool, (decide (q ≤ til)) = bv := ⟨_, rfl⟩
      have HXB : Hid (((l.take (i + 1)).map Rq.key).filter (pExpire q) = l2.map Rq.key ++ (if bv then [(id, veh, cls, til, lg)] else [])) := Lib.hid (by rw [HX.out, ← hk.out, ← hbv]; rfl)
      rw [hbv]
      have il2 := il.below hb2
      have hg2 := hg.below hb2 (Nat.le_refl _)
      have kV2 := kV.below hb2 vl
      have be2 : RowKit.Below w.heap.size w w2 := (by repeat (first | (with_reducible refine Below.setCell ?_ ?_ _) | (with_reducible refine Below.alloc ?_ ?_ _) | (with_reducible refine Below.drew ?_) | (with_reducible refine below_drewN ?_ _) | (with_reducible exact Below.refl _ _) | (with_reducible refine Below.trans ?_ (Below.mono hb2 ?_)) | (with_reducible refine Below.trans ?_ (Below.mono be ?_)) | (focus (simp; done)) | (focus (simp; omega)) | (focus omega) | (focus (have q0 := Below.size hb2; (try simp at q0); have q1 := Below.size be; (try simp at q1); (try simp); omega))))
      have hs2 := be2.size
      clear hbv v0 v1 v2 v3 v4 vf cc cl hb2 il hg kc be
      obtain ⟨v0, v1, v2, v3, v4, vf, vl2⟩ := kV2.five
      cases bv with
      | false =>
        go_wp2_with fail
        go_roundw
        case rel => exact ⟨i + 1, m, xa, xc, l2, rfl, by go_num, by omega, by omega, hm, Lib.hid (by rw [HXB.out]; simp), il2, be2⟩
        case measure => simp [intOf]; omega
      | true =>
        go_wp2_with (first | (go_at_call 55; (with_reducible refine (request_clone id veh cls til la lg.length lc lg _ hg2 rfl (by omega) HGN.out).mono ?_); rintro e w3 ⟨ya, yn, yc, rfl, hyn, own, hb3⟩; ((have il3 := il2.below hb3); (have be3 : RowKit.Below w.heap.size w w3 := (by repeat (first | (with_reducible refine Below.setCell ?_ ?_ _) | (with_reducible refine Below.alloc ?_ ?_ _) | (with_reducible refine Below.drew ?_) | (with_reducible refine below_drewN ?_ _) | (with_reducible exact Below.refl _ _) | (with_reducible refine Below.trans ?_ (Below.mono hb3 ?_)) | (with_reducible refine Below.trans ?_ (Below.mono be2 ?_)) | (focus (simp; done)) | (focus (simp; omega)) | (focus omega) | (focus (have q0 := Below.size hb3; (try simp at q0); have q1 := Below.size be2; (try simp at q1); (try simp); omega))))); (have HAP := Lib.hid (show ∀ r ∈ l2, Apart r.a ya from fun r hr k ha hb => by (have h1 := (il2.legs r hr).lt' k ha); (have h2 := own.base_le k hb); omega)))) | (at_builtin; refine app1Rq rfl _ _ rfl w.heap.size xa m xc l2 rfl hm.out id veh cls til lg ya yn yc hyn.out w3.heap.size rfl (Blk.new _ _ _) (il3.alloc _) (by have := hb3.size; simp; omega) ((own.mono (by omega)).alloc _) HAP.out (by omega) ?_; intro xb xd w5 il5 g5 bl5))
        have be5 := bl5 _ (be3.alloc be3.size _)
        go_roundw
        case rel => exact ⟨i + 1, m + 1, xb, xd, _, rfl, by go_num, by omega, by omega, Lib.hid (by simp [hm.out]), Lib.hid (by rw [HXB.out, List.map_append]; rfl), il5, be5⟩
        case measure => simp [intOf]; omega
    · obtain rfl : i = l.length := by omega
      go_wp2_with fail
      go_ret
      exact ⟨m, xa, xc, l2, rfl, Lib.hid (by rw [hk.out, List.take_length]), hm, il, be⟩
set_option maxHeartbeats 4000000 in
theorem kept_All (a : Option Addr) (l : List Rq) (n c : Nat) (w : World) (h : Rqs w a l) (hn : n = l.length) (l9 : n ≤ 10000) (hl : ∀ r ∈ l, LgOk r)  :
    Calls Try.prog 44 #[.slice a n c, .func (.func 64) #[] #[]] w (KeptR (l.map Rq.key) (pAll 0) w) := by
  subst hn
  go_enter Try.func44, Try.ntmps44
  go_wp2
  go_loopw [5, 10] (fun s5 s10 wr => ∃ (i m : Nat) (xa : Option Addr) (xc : Nat) (l2 : List Rq), s5 = .slice xa m xc ∧ s10 = .int .i64 i ∧ i ≤ l.length ∧ m ≤ i ∧ Hid (m = l2.length) ∧ Hid (l2.map Rq.key = ((l.take i).map Rq.key).filter (pAll 0)) ∧ RqL wr w.heap.size l2 xa xc ∧ RowKit.Below w.heap.size w wr) (fun _ s _ => l.length - (intOf s).toNat)
  case atStart => exact ⟨0, 0, none, 0, [], rfl, rfl, by omega, by omega, Lib.hid rfl, Lib.hid rfl, RqL.nil _ _, (by repeat (first | (with_reducible refine Below.setCell ?_ ?_ _) | (with_reducible refine Below.alloc ?_ ?_ _) | (with_reducible refine Below.drew ?_) | (with_reducible refine below_drewN ?_ _) | (with_reducible exact Below.refl _ _) | (focus (simp; done)) | (focus (simp; omega)) | (focus omega)))⟩
  case round =>
    obtain ⟨i, m, xa, xc, l2, rfl, rfl, hi, hmi, hm, hk, il, be⟩ := hrel
    by_cases hlt : i < l.length
    · have kx : (i : Int) < (l.length : Int) := by omega
      obtain ⟨ba, oa, rfl⟩ := h.open (by omega)
      have hr := h.below be (Nat.le_refl _)
      obtain ⟨x0, x1, x2, x3, x4, xb⟩ := row_req hr.row i hlt
      have hg := hr.legs _ (List.getElem_mem hlt)
      have hgl := hl _ (List.getElem_mem hlt)
      obtain ⟨x, hx⟩ : ∃ x, l[i] = x := ⟨_, rfl⟩
      have HX := Lib.hid (filter_take hlt (pAll 0) hx)
      rw [hx] at x0 x1 x2 x3 x4 hg hgl
      clear hx hr
      obtain ⟨id, veh, cls, til, lg, la, lc⟩ := x
      obtain ⟨hg9, hgn⟩ := hgl
      simp only at x0 x1 x2 x3 x4 hg hg9 hgn
      have HGN := Lib.hid hgn
      clear hgn
      skip
      go_upto_region 5 with fail
      obtain ⟨V, hV⟩ : ∃ V, wr.heap.size = V := ⟨_, rfl⟩
      refine wp_named (fun Y => Blk Y V 45 #[.int .i64 id, .int .i64 veh, .int .i64 cls, .int .i64 til, .slice la lg.length lc] ∧ Row Y la (lgCells lg) ∧ RqL Y w.heap.size l2 xa xc ∧ RowKit.Below w.heap.size w Y ) ⟨by rw [← hV]; exact Blk.new _ _ _, hg.alloc _, il.alloc _, (by repeat (first | (with_reducible refine Below.setCell ?_ ?_ _) | (with_reducible refine Below.alloc ?_ ?_ _) | (with_reducible refine Below.drew ?_) | (with_reducible refine below_drewN ?_ _) | (with_reducible exact Below.refl _ _) | (with_reducible refine Below.trans ?_ (Below.mono be ?_)) | (focus (simp; done)) | (focus (simp; omega)) | (focus omega) | (focus (have q0 := Below.size be; (try simp at q0); (try simp); omega))))⟩ ?_
      rw [hV]
      clear hV hg be x0 x1 x2 x3 x4 xb il
      rintro Y ⟨kV, hg, il, be⟩
      obtain ⟨v0, v1, v2, v3, v4, vf, vl⟩ := kV.five
      skip
      skip
      go_upto_if 16 with ((go_at_call 64; (with_reducible refine (keep_All id veh cls til la lg.length lc _).mono ?_); rintro e w2 ⟨rfl, hb2⟩))
      obtain ⟨bv, hbv⟩ : ∃ bv : Bool, true = bv := ⟨_, rfl⟩
      have HXB : Hid (((l.take (i + 1)).map Rq.key).filter (pAll 0) = l2.map Rq.key ++ (if bv then [(id, veh, cls, til, lg)] else [])) := Lib.hid (by rw [HX.out, ← hk.out, ← hbv]; rfl)
      rw [hbv]
      have il2 := il.below hb2
      have hg2 := hg.below hb2 (Nat.le_refl _)
      have kV2 := kV.below hb2 vl
      have be2 : RowKit.Below w.heap.size w w2 := (by repeat (first | (with_reducible refine Below.setCell ?_ ?_ _) | (with_reducible refine Below.alloc ?_ ?_ _) | (with_reducible refine Below.drew ?_) | (with_reducible refine below_drewN ?_ _) | (with_reducible exact Below.refl _ _) | (with_reducible refine Below.trans ?_ (Below.mono hb2 ?_)) | (with_reducible refine Below.trans ?_ (Below.mono be ?_)) | (focus (simp; done)) | (focus (simp; omega)) | (focus omega) | (focus (have q0 := Below.size hb2; (try simp at q0); have q1 := Below.size be; (try simp at q1); (try simp); omega))))
      have hs2 := be2.size
      clear hbv v0 v1 v2 v3 v4 vf hb2 il hg be
      obtain ⟨v0, v1, v2, v3, v4, vf, vl2⟩ := kV2.five
      cases bv with
      | false =>
        go_wp2_with fail
        go_roundw
        case rel => exact ⟨i + 1, m, xa, xc, l2, rfl, by go_num, by omega, by omega, hm, Lib.hid (by rw [HXB.out]; simp), il2, be2⟩
        case measure => simp [intOf]; omega
      | true =>
        go_wp2_with (first | (go_at_call 55; (with_reducible refine (request_clone id veh cls til la lg.length lc lg _ hg2 rfl (by omega) HGN.out).mono ?_); rintro e w3 ⟨ya, yn, yc, rfl, hyn, own, hb3⟩; ((have il3 := il2.below hb3); (have be3 : RowKit.Below w.heap.size w w3 := (by repeat (first | (with_reducible refine Below.setCell ?_ ?_ _) | (with_reducible refine Below.alloc ?_ ?_ _) | (with_reducible refine Below.drew ?_) | (with_reducible refine below_drewN ?_ _) | (with_reducible exact Below.refl _ _) | (with_reducible refine Below.trans ?_ (Below.mono hb3 ?_)) | (with_reducible refine Below.trans ?_ (Below.mono be2 ?_)) | (focus (simp; done)) | (focus (simp; omega)) | (focus omega) | (focus (have q0 := Below.size hb3; (try simp at q0); have q1 := Below.size be2; (try simp at q1); (try simp); omega))))); (have HAP := Lib.hid (show ∀ r ∈ l2, Apart r.a ya from fun r hr k ha hb => by (have h1 := (il2.legs r hr).lt' k ha); (have h2 := own.base_le k hb); omega)))) | (at_builtin; refine app1Rq rfl _ _ rfl w.heap.size xa m xc l2 rfl hm.out id veh cls til lg ya yn yc hyn.out w3.heap.size rfl (Blk.new _ _ _) (il3.alloc _) (by have := hb3.size; simp; omega) ((own.mono (by omega)).alloc _) HAP.out (by omega) ?_; intro xb xd w5 il5 g5 bl5))
        have be5 := bl5 _ (be3.alloc be3.size _)
        go_roundw
        case rel => exact ⟨i + 1, m + 1, xb, xd, _, rfl, by go_num, by omega, by omega, Lib.hid (by simp [hm.out]), Lib.hid (by rw [HXB.out, List.map_append]; rfl), il5, be5⟩
        case measure => simp [intOf]; omega
    · obtain rfl : i = l.length := by omega
      go_wp2_with fail
      go_ret
      exact ⟨m, xa, xc, l2, rfl, Lib.hid (by rw [hk.out, List.take_length]), hm, il, be⟩
end Go.Proofs.Ytbanejpihdhbdaa
