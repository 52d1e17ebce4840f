/- layer 8: what the functions of lamp compute for phases of the deck's and valid lights -/
import Derived.Test.YtpjnajallekjoaaShapes
namespace Go.Proofs.Ytpjnajallekjoaa
open Go.RowKit Go.Sort
set_option maxRecDepth 100000

def lNeed (p : Ph) : Int := if p.ming < p.walk + p.clear_ then p.walk + p.clear_ else p.ming
theorem lNeed_bd {p : Ph} (h : PhOk p) : 1 ≤ lNeed p ∧ lNeed p ≤ 4 ∧ p.ming ≤ lNeed p ∧ p.walk + p.clear_ ≤ lNeed p := by
  have h1 := h.ming
  have h2 := h.walk
  unfold lNeed
  split <;> omega
/-- the light of the next tick -/
def lStep (p : Ph) (a t : Int) (leave : Bool) : Int × Int :=
  if a = 1 then (if leave = true ∧ lNeed p ≤ t + 1 then (2, 0) else (1, if 1073741824 ≤ t then 1073741824 else t + 1))
  else if a = 2 then (if t + 1 < p.yellow then (2, t + 1) else if p.red = 0 then (0, 0) else (3, 0))
  else if a = 3 then (if t + 1 < p.red then (3, t + 1) else (0, 0))
  else (a, t)
def lCount (p : Ph) (a t : Int) : Int :=
  if a = 1 then (if lNeed p - 1 - t < 0 then 0 else lNeed p - 1 - t) else if a = 2 then p.yellow - 1 - t else if a = 3 then p.red - 1 - t else 0
def lWalk (p : Ph) (a t : Int) : Int := if a ≠ 1 then 0 else if t < p.walk then 1 else if t < p.walk + p.clear_ then 2 else 0
/-- valid lights -/
def LiOk (p : Ph) (a t : Int) : Prop := (a = 0 ∧ t = 0) ∨ (a = 1 ∧ 0 ≤ t ∧ t ≤ 1073741824) ∨ (a = 2 ∧ 0 ≤ t ∧ t < p.yellow) ∨ (a = 3 ∧ 0 ≤ t ∧ t < p.red)
theorem lStep_ok {p : Ph} {a t : Int} (hp : PhOk p) (h : LiOk p a t) (leave : Bool) : LiOk p (lStep p a t leave).1 (lStep p a t leave).2 := by
  have h1 := hp.yellow
  have h2 := hp.red
  have h3 := lNeed_bd hp
  unfold lStep LiOk at *
  rcases h with ⟨rfl, rfl⟩ | ⟨rfl, h⟩ | ⟨rfl, h⟩ | ⟨rfl, h⟩
  · simp
  · simp only [if_true]
    split
    · simp; omega
    · simp; split <;> omega
  · simp only [show ¬ (2 : Int) = 1 by decide, if_false, if_true]
    split
    · simp; omega
    · split <;> simp <;> omega
  · simp only [show ¬ (3 : Int) = 1 by decide, show ¬ (3 : Int) = 2 by decide, if_false, if_true]
    split <;> simp <;> omega

structure PhB (r g mg xg y rd wk cl : Int) : Prop where
  ming : 1 ≤ mg ∧ mg ≤ 3
  maxg : mg ≤ xg ∧ xg ≤ 7
  yellow : 1 ≤ y ∧ y ≤ 2
  red : 0 ≤ rd ∧ rd ≤ 2
  walk : 0 ≤ wk ∧ wk ≤ 2
  clr : 0 ≤ cl ∧ cl ≤ 2
theorem PhOk.b {r g mg xg y rd wk cl : Int} (h : PhOk ⟨r, g, mg, xg, y, rd, wk, cl⟩) : PhB r g mg xg y rd wk cl :=
  ⟨h.ming, ⟨h.maxg.1, h.maxg.2.2⟩, h.yellow, h.red, by have := h.walk; simp only at this; omega, by have := h.walk; simp only at this; omega⟩

theorem ref08_Need (p : Ph) (w : World) (hp : PhOk p) : Calls Try.prog 60 #[p.agg] w fun e w' => e = .returned (.int .i64 (lNeed p)) ∧ Below w.heap.size w w' := by
  obtain ⟨r, g, mg, xg, y, rd, wk, cl⟩ := p
  obtain ⟨a1, a2, a3, a4, a5, a6⟩ := hp.b
  have e1 : wrap64 (wk + cl) = wk + cl := by rw [wrap64]; omega
  unfold Ph.agg
  go_enter Try.func60, Try.ntmps60
  go_wp2
  all_goals
    go_ret
    exact ⟨ret_int (by unfold lNeed; simp only; split <;> omega), (by repeat (first | (with_reducible refine Below.setCell ?_ ?_ _) | (with_reducible refine Below.alloc ?_ ?_ _) | (with_reducible refine Below.drew ?_) | (with_reducible refine below_drewN ?_ _) | (with_reducible exact Below.refl _ _) | (focus (simp; done)) | (focus (simp; omega)) | (focus omega)))⟩


set_option maxHeartbeats 1000000 in
theorem ref08_Count (p : Ph) (a t : Int) (w : World) (hp : PhOk p) (ht : -1000000000000 ≤ t ∧ t ≤ 1000000000000) : Calls Try.prog 41 #[p.agg, .agg #[.int .i64 a, .int .i64 t]] w fun e w' => e = .returned (.int .i64 (lCount p a t)) ∧ Below w.heap.size w w' := by
  have nb := lNeed_bd hp
  obtain ⟨nd, hnd⟩ : ∃ nd, lNeed p = nd := ⟨_, rfl⟩
  rw [hnd] at nb
  have HN : ∀ w, Calls Try.prog 60 #[p.agg] w fun e w' => e = .returned (.int .i64 nd) ∧ Below w.heap.size w w' := fun w => hnd ▸ ref08_Need p w hp
  by_cases c1 : a = 1
  · subst c1
    have H := Lib.hid (show lCount p 1 t = (if nd - 1 - t < 0 then 0 else nd - 1 - t) by unfold lCount; rw [hnd]; rfl)
    have HD := Lib.hid hnd
    clear hnd
    have HN' := Lib.hid HN
    clear HN
    obtain ⟨r, g, mg, xg, y, rd, wk, cl⟩ := p
    obtain ⟨a1, a2, a3, a4, a5, a6⟩ := hp.b
    have e1 : IntKind.i64.wrap (nd - 1) = nd - 1 := by rw [IntKind.wrap_i64]; omega
    have e2 : IntKind.i64.wrap (nd - 1 - t) = nd - 1 - t := by rw [IntKind.wrap_i64]; omega
    unfold Ph.agg at *
    go_enter Try.func41, Try.ntmps41
    go_wp2
    refine wp_named (fun W => Below w.heap.size w W ∧ Blk W w.heap.size 85 #[.int .i64 r, .int .i64 g, .int .i64 mg, .int .i64 xg, .int .i64 y, .int .i64 rd, .int .i64 wk, .int .i64 cl] ∧ Blk W (w.heap.size + 1) 90 #[.int .i64 1, .int .i64 t]) ⟨(by repeat (first | (with_reducible refine Below.setCell ?_ ?_ _) | (with_reducible refine Below.alloc ?_ ?_ _) | (with_reducible refine Below.drew ?_) | (with_reducible refine below_drewN ?_ _) | (with_reducible exact Below.refl _ _) | (focus (simp; done)) | (focus (simp; omega)) | (focus omega))), (Blk.new w _ _).alloc _, by have h := Blk.new (w.alloc (.cells #[.int .i64 r, .int .i64 g, .int .i64 mg, .int .i64 xg, .int .i64 y, .int .i64 rd, .int .i64 wk, .int .i64 cl] 85)) 90 #[.int .i64 1, .int .i64 t]; simpa using h⟩ ?_
    rintro W ⟨beW, kp, kl⟩
    have l1 := kp.lt
    have l2 := kl.lt
    obtain ⟨f0, f1, f2, f3, f4, f5, f6, f7⟩ := kp.eight
    have g1 := kl.cell 1
    have rr1 : ∀ d os o, (grow (redrawn W d) os).cell? ⟨w.heap.size, o, none⟩ = W.cell? ⟨w.heap.size, o, none⟩ := fun d os o => cells_regrown W d os _ o l1
    have rr2 : ∀ d os o, (grow (redrawn W d) os).cell? ⟨w.heap.size + 1, o, none⟩ = W.cell? ⟨w.heap.size + 1, o, none⟩ := fun d os o => cells_regrown W d os _ o l2
    (refine wp_region_quiet_below (by kernel_rfl) (by kernel_rfl) ?_; (repeat (go_big_quiet_step (first | (go_at_call 60; exact qb (HN'.out _))))); refine wpQuiet_nil ?_; intro wq hwq; have hbq := below_of_regrown hwq; clear hwq)
    go_wp2
    all_goals
      go_ret
      exact ⟨ret_int (by rw [H.out]; split <;> omega), beW.trans (hbq.mono beW.size)⟩
  clear HN hnd nb
  have d1 : (a == 1) = false := by rw [beq_eq_false_iff_ne]; exact c1
  by_cases c2 : a = 2
  · subst c2
    have H := Lib.hid (show lCount p 2 t = p.yellow - 1 - t by rfl)
    obtain ⟨r, g, mg, xg, y, rd, wk, cl⟩ := p
    obtain ⟨a1, a2, a3, a4, a5, a6⟩ := hp.b
    have e1 : wrap64 (y - 1) = y - 1 := by rw [wrap64]; omega
    have e2 : wrap64 (y - 1 - t) = y - 1 - t := by rw [wrap64]; omega
    unfold Ph.agg
    go_enter Try.func41, Try.ntmps41
    go_wp2
    go_ret
    exact ⟨ret_int (by rw [H.out]), (by repeat (first | (with_reducible refine Below.setCell ?_ ?_ _) | (with_reducible refine Below.alloc ?_ ?_ _) | (with_reducible refine Below.drew ?_) | (with_reducible refine below_drewN ?_ _) | (with_reducible exact Below.refl _ _) | (focus (simp; done)) | (focus (simp; omega)) | (focus omega)))⟩
  have d2 : (a == 2) = false := by rw [beq_eq_false_iff_ne]; exact c2
  by_cases c3 : a = 3
  · subst c3
    have H := Lib.hid (show lCount p 3 t = p.red - 1 - t by rfl)
    obtain ⟨r, g, mg, xg, y, rd, wk, cl⟩ := p
    obtain ⟨a1, a2, a3, a4, a5, a6⟩ := hp.b
    have e1 : wrap64 (rd - 1) = rd - 1 := by rw [wrap64]; omega
    have e2 : wrap64 (rd - 1 - t) = rd - 1 - t := by rw [wrap64]; omega
    unfold Ph.agg
    go_enter Try.func41, Try.ntmps41
    go_wp2
    go_ret
    exact ⟨ret_int (by rw [H.out]), (by repeat (first | (with_reducible refine Below.setCell ?_ ?_ _) | (with_reducible refine Below.alloc ?_ ?_ _) | (with_reducible refine Below.drew ?_) | (with_reducible refine below_drewN ?_ _) | (with_reducible exact Below.refl _ _) | (focus (simp; done)) | (focus (simp; omega)) | (focus omega)))⟩
  · have d3 : (a == 3) = false := by rw [beq_eq_false_iff_ne]; exact c3
    have H := Lib.hid (show lCount p a t = 0 by unfold lCount; rw [if_neg c1, if_neg c2, if_neg c3])
    clear c1 c2 c3
    obtain ⟨r, g, mg, xg, y, rd, wk, cl⟩ := p
    unfold Ph.agg
    go_enter Try.func41, Try.ntmps41
    go_wp2
    go_ret
    exact ⟨ret_int (by rw [H.out]), (by repeat (first | (with_reducible refine Below.setCell ?_ ?_ _) | (with_reducible refine Below.alloc ?_ ?_ _) | (with_reducible refine Below.drew ?_) | (with_reducible refine below_drewN ?_ _) | (with_reducible exact Below.refl _ _) | (focus (simp; done)) | (focus (simp; omega)) | (focus omega)))⟩

theorem three_at (w : World) (c1 c2 c3 : Array Value) (t1 t2 t3 : TypeId) : Below w.heap.size w (((w.alloc (.cells c1 t1)).alloc (.cells c2 t2)).alloc (.cells c3 t3)) ∧ Blk (((w.alloc (.cells c1 t1)).alloc (.cells c2 t2)).alloc (.cells c3 t3)) w.heap.size t1 c1 ∧ Blk (((w.alloc (.cells c1 t1)).alloc (.cells c2 t2)).alloc (.cells c3 t3)) (w.heap.size + 1) t2 c2 ∧ Blk (((w.alloc (.cells c1 t1)).alloc (.cells c2 t2)).alloc (.cells c3 t3)) (w.heap.size + 2) t3 c3 := by
  refine ⟨(by repeat (first | (with_reducible refine Below.setCell ?_ ?_ _) | (with_reducible refine Below.alloc ?_ ?_ _) | (with_reducible refine Below.drew ?_) | (with_reducible refine below_drewN ?_ _) | (with_reducible exact Below.refl _ _) | (focus (simp; done)) | (focus (simp; omega)) | (focus omega))), ((Blk.new w _ _).alloc _).alloc _, ?_, ?_⟩
  · have h := (Blk.new (w.alloc (.cells c1 t1)) t2 c2).alloc (.cells c3 t3); simpa using h
  · have h := Blk.new ((w.alloc (.cells c1 t1)).alloc (.cells c2 t2)) t3 c3; simpa using h
theorem three_after {w w1 : World} {c1 c2 c3 : Array Value} {t1 t2 t3 : TypeId} {B : Nat} (h : Below B (((w.alloc (.cells c1 t1)).alloc (.cells c2 t2)).alloc (.cells c3 t3)) w1) (hB : w.heap.size + 3 ≤ B := by simp) : Blk w1 w.heap.size t1 c1 ∧ Blk w1 (w.heap.size + 1) t2 c2 ∧ Blk w1 (w.heap.size + 2) t3 c3 ∧ Below w.heap.size w w1 := by
  obtain ⟨q1, q2, q3, q4⟩ := three_at w c1 c2 c3 t1 t2 t3
  exact ⟨q2.below h (by omega), q3.below h (by omega), q4.below h (by omega), q1.trans (h.mono (by omega))⟩

set_option maxHeartbeats 2000000 in
theorem ref08_Step (p : Ph) (a t : Int) (leave : Bool) (w : World) (hp : PhOk p) (hx : LiOk p a t) : Calls Try.prog 54 #[p.agg, .agg #[.int .i64 a, .int .i64 t], .bool leave] w fun e w' => e = .returned (.agg #[.int .i64 (lStep p a t leave).1, .int .i64 (lStep p a t leave).2]) ∧ Below w.heap.size w w' := by
  have nb := lNeed_bd hp
  obtain ⟨nd, hnd⟩ : ∃ nd, lNeed p = nd := ⟨_, rfl⟩
  rw [hnd] at nb
  have HN0 : ∀ w, Calls Try.prog 60 #[p.agg] w fun e w' => e = .returned (.int .i64 nd) ∧ Below w.heap.size w w' := fun w => hnd ▸ ref08_Need p w hp
  have HN := Lib.hid HN0
  clear HN0
  obtain ⟨r, g, mg, xg, y, rd, wk, cl⟩ := p
  obtain ⟨a1, a2, a3, a4, a5, a6⟩ := hp.b
  unfold LiOk at hx
  simp only at hx
  have HD := Lib.hid hnd
  clear hnd
  unfold Ph.agg at *
  rcases hx with ⟨rfl, rfl⟩ | ⟨rfl, t0, t1⟩ | ⟨rfl, t0, t1⟩ | ⟨rfl, t0, t1⟩
  · have H := Lib.hid (show lStep ⟨r, g, mg, xg, y, rd, wk, cl⟩ 0 0 leave = (0, 0) by rfl)
    go_enter Try.func54, Try.ntmps54
    go_wp2
    exact bodyPost_ret (v := .agg #[.int .i64 0, .int .i64 0]) (by simp [results, Try.results54, go_sem]) rfl ⟨by rw [H.out], (by repeat (first | (with_reducible refine Below.setCell ?_ ?_ _) | (with_reducible refine Below.alloc ?_ ?_ _) | (with_reducible refine Below.drew ?_) | (with_reducible refine below_drewN ?_ _) | (with_reducible exact Below.refl _ _) | (focus (simp; done)) | (focus (simp; omega)) | (focus omega)))⟩
  · cases leave with
    | true =>
      by_cases c1 : nd ≤ t + 1
      · have H := Lib.hid (show lStep ⟨r, g, mg, xg, y, rd, wk, cl⟩ 1 t true = (2, 0) by unfold lStep; simp only [if_true]; rw [if_pos ⟨trivial, by rw [HD.out]; exact c1⟩])
        have e1 : IntKind.i64.wrap (t + 1) = t + 1 := by rw [IntKind.wrap_i64]; omega
        have e2 : wrap64 (t + 1) = t + 1 := by rw [wrap64]; omega
        go_enter Try.func54, Try.ntmps54
        go_wp2_with (first | (go_at_call 60; (with_reducible refine (HN.out _).mono ?_); rintro e w1 ⟨rfl, hb1⟩; (obtain ⟨kp, kl, kr, b1⟩ := three_after hb1; obtain ⟨f0, f1, f2, f3, f4, f5, f6, f7⟩ := kp.eight; have g0 := kl.cell 0; have g1 := kl.cell 1; have r0 := kr.cell 0; have r1 := kr.cell 1; have rf := kr.frozen; have rl := kr.lt)))
        exact bodyPost_ret (v := .agg #[.int .i64 2, .int .i64 0]) (by simp [results, Try.results54, go_sem, r0, r1]) rfl ⟨by rw [H.out], (by repeat (first | (with_reducible refine Below.setCell ?_ ?_ _) | (with_reducible refine Below.alloc ?_ ?_ _) | (with_reducible refine Below.drew ?_) | (with_reducible refine below_drewN ?_ _) | (with_reducible exact Below.refl _ _) | (with_reducible refine Below.trans ?_ (Below.mono b1 ?_)) | (focus (simp; done)) | (focus (simp; omega)) | (focus omega) | (focus (have q0 := Below.size b1; (try simp at q0); (try simp); omega))))⟩
      · have c1 : t + 1 < nd := by omega
        have H := Lib.hid (show lStep ⟨r, g, mg, xg, y, rd, wk, cl⟩ 1 t true = (1, t + 1) by unfold lStep; simp only [if_true]; rw [if_neg (fun q => by have := q.2; rw [HD.out] at this; omega), if_neg (by omega)])
        have e1 : IntKind.i64.wrap (t + 1) = t + 1 := by rw [IntKind.wrap_i64]; omega
        have e2 : wrap64 (t + 1) = t + 1 := by rw [wrap64]; omega
        go_enter Try.func54, Try.ntmps54
        go_wp2_with (first | (go_at_call 60; (with_reducible refine (HN.out _).mono ?_); rintro e w1 ⟨rfl, hb1⟩; (obtain ⟨kp, kl, kr, b1⟩ := three_after hb1; obtain ⟨f0, f1, f2, f3, f4, f5, f6, f7⟩ := kp.eight; have g0 := kl.cell 0; have g1 := kl.cell 1; have r0 := kr.cell 0; have r1 := kr.cell 1; have rf := kr.frozen; have rl := kr.lt)))
        exact bodyPost_ret (v := .agg #[.int .i64 1, .int .i64 (t + 1)]) (by simp [results, Try.results54, go_sem, r0, r1]) rfl ⟨by rw [H.out], (by repeat (first | (with_reducible refine Below.setCell ?_ ?_ _) | (with_reducible refine Below.alloc ?_ ?_ _) | (with_reducible refine Below.drew ?_) | (with_reducible refine below_drewN ?_ _) | (with_reducible exact Below.refl _ _) | (with_reducible refine Below.trans ?_ (Below.mono b1 ?_)) | (focus (simp; done)) | (focus (simp; omega)) | (focus omega) | (focus (have q0 := Below.size b1; (try simp at q0); (try simp); omega))))⟩
    | false =>
      have e1 : IntKind.i64.wrap (t + 1) = t + 1 := by rw [IntKind.wrap_i64]; omega
      have e2 : wrap64 (t + 1) = t + 1 := by rw [wrap64]; omega
      by_cases c2 : t = 1073741824
      · subst c2
        have H := Lib.hid (show lStep ⟨r, g, mg, xg, y, rd, wk, cl⟩ 1 1073741824 false = (1, 1073741824) by unfold lStep; simp)
        go_enter Try.func54, Try.ntmps54
        go_wp2
        exact bodyPost_ret (v := .agg #[.int .i64 1, .int .i64 1073741824]) (by simp [results, Try.results54, go_sem]) rfl ⟨by rw [H.out], (by repeat (first | (with_reducible refine Below.setCell ?_ ?_ _) | (with_reducible refine Below.alloc ?_ ?_ _) | (with_reducible refine Below.drew ?_) | (with_reducible refine below_drewN ?_ _) | (with_reducible exact Below.refl _ _) | (focus (simp; done)) | (focus (simp; omega)) | (focus omega)))⟩
      · have c3 : t < 1073741824 := by omega
        have H := Lib.hid (show lStep ⟨r, g, mg, xg, y, rd, wk, cl⟩ 1 t false = (1, t + 1) by unfold lStep; simp only [if_true]; rw [if_neg (by simp), if_neg (by omega)])
        go_enter Try.func54, Try.ntmps54
        go_wp2
        exact bodyPost_ret (v := .agg #[.int .i64 1, .int .i64 (t + 1)]) (by simp [results, Try.results54, go_sem]) rfl ⟨by rw [H.out], (by repeat (first | (with_reducible refine Below.setCell ?_ ?_ _) | (with_reducible refine Below.alloc ?_ ?_ _) | (with_reducible refine Below.drew ?_) | (with_reducible refine below_drewN ?_ _) | (with_reducible exact Below.refl _ _) | (focus (simp; done)) | (focus (simp; omega)) | (focus omega)))⟩
  · have e2 : wrap64 (t + 1) = t + 1 := by rw [wrap64]; omega
    by_cases c1 : t + 1 < y
    · have H := Lib.hid (show lStep ⟨r, g, mg, xg, y, rd, wk, cl⟩ 2 t leave = (2, t + 1) by unfold lStep; simp [c1])
      go_enter Try.func54, Try.ntmps54
      go_wp2
      exact bodyPost_ret (v := .agg #[.int .i64 2, .int .i64 (t + 1)]) (by simp [results, Try.results54, go_sem]) rfl ⟨by rw [H.out], (by repeat (first | (with_reducible refine Below.setCell ?_ ?_ _) | (with_reducible refine Below.alloc ?_ ?_ _) | (with_reducible refine Below.drew ?_) | (with_reducible refine below_drewN ?_ _) | (with_reducible exact Below.refl _ _) | (focus (simp; done)) | (focus (simp; omega)) | (focus omega)))⟩
    · by_cases c2 : rd = 0
      · subst c2
        have H := Lib.hid (show lStep ⟨r, g, mg, xg, y, 0, wk, cl⟩ 2 t leave = (0, 0) by unfold lStep; simp [c1])
        go_enter Try.func54, Try.ntmps54
        go_wp2
        exact bodyPost_ret (v := .agg #[.int .i64 0, .int .i64 0]) (by simp [results, Try.results54, go_sem]) rfl ⟨by rw [H.out], (by repeat (first | (with_reducible refine Below.setCell ?_ ?_ _) | (with_reducible refine Below.alloc ?_ ?_ _) | (with_reducible refine Below.drew ?_) | (with_reducible refine below_drewN ?_ _) | (with_reducible exact Below.refl _ _) | (focus (simp; done)) | (focus (simp; omega)) | (focus omega)))⟩
      · have c3 : (rd == 0) = false := by rw [beq_eq_false_iff_ne]; exact c2
        have c4 : 0 < rd := by omega
        have H := Lib.hid (show lStep ⟨r, g, mg, xg, y, rd, wk, cl⟩ 2 t leave = (3, 0) by unfold lStep; simp [c1, c2])
        clear c2
        go_enter Try.func54, Try.ntmps54
        go_wp2
        exact bodyPost_ret (v := .agg #[.int .i64 3, .int .i64 0]) (by simp [results, Try.results54, go_sem]) rfl ⟨by rw [H.out], (by repeat (first | (with_reducible refine Below.setCell ?_ ?_ _) | (with_reducible refine Below.alloc ?_ ?_ _) | (with_reducible refine Below.drew ?_) | (with_reducible refine below_drewN ?_ _) | (with_reducible exact Below.refl _ _) | (focus (simp; done)) | (focus (simp; omega)) | (focus omega)))⟩
  · have e2 : wrap64 (t + 1) = t + 1 := by rw [wrap64]; omega
    by_cases c1 : t + 1 < rd
    · have H := Lib.hid (show lStep ⟨r, g, mg, xg, y, rd, wk, cl⟩ 3 t leave = (3, t + 1) by unfold lStep; simp [c1])
      go_enter Try.func54, Try.ntmps54
      go_wp2
      exact bodyPost_ret (v := .agg #[.int .i64 3, .int .i64 (t + 1)]) (by simp [results, Try.results54, go_sem]) rfl ⟨by rw [H.out], (by repeat (first | (with_reducible refine Below.setCell ?_ ?_ _) | (with_reducible refine Below.alloc ?_ ?_ _) | (with_reducible refine Below.drew ?_) | (with_reducible refine below_drewN ?_ _) | (with_reducible exact Below.refl _ _) | (focus (simp; done)) | (focus (simp; omega)) | (focus omega)))⟩
    · have H := Lib.hid (show lStep ⟨r, g, mg, xg, y, rd, wk, cl⟩ 3 t leave = (0, 0) by unfold lStep; simp [c1])
      go_enter Try.func54, Try.ntmps54
      go_wp2
      exact bodyPost_ret (v := .agg #[.int .i64 0, .int .i64 0]) (by simp [results, Try.results54, go_sem]) rfl ⟨by rw [H.out], (by repeat (first | (with_reducible refine Below.setCell ?_ ?_ _) | (with_reducible refine Below.alloc ?_ ?_ _) | (with_reducible refine Below.drew ?_) | (with_reducible refine below_drewN ?_ _) | (with_reducible exact Below.refl _ _) | (focus (simp; done)) | (focus (simp; omega)) | (focus omega)))⟩
end Go.Proofs.Ytpjnajallekjoaa
