/- lamp.Valid, lamp.NonRed, and the reference's -/
import Derived.Test.YtgcjnkdiggbfeaaLamp
namespace Go.Proofs.Ytgcjnkdiggbfeaa
open Go.RowKit Go.Sort
set_option maxRecDepth 100000

def lValid (p : Ph) (a t : Int) : Bool :=
  if a = 0 then t == 0 else if a = 1 then decide (0 ≤ t) && decide (t ≤ 1073741824) else if a = 2 then decide (0 ≤ t) && decide (t < p.yellow) else if a = 3 then decide (0 ≤ t) && decide (t < p.red) else false
def lNonRed (a : Int) : Bool := a == 1 || a == 2
theorem lValid_ok {p : Ph} {a t : Int} (h : LiOk p a t) : lValid p a t = true := by
  unfold lValid
  rcases h with ⟨rfl, rfl⟩ | ⟨rfl, h⟩ | ⟨rfl, h⟩ | ⟨rfl, h⟩ <;> simp_all
set_option maxHeartbeats 1000000 in
theorem lamp_Valid (p : Ph) (a t : Int) (w : World) : Calls Try.prog 15 #[p.agg, .agg #[.int .i64 a, .int .i64 t]] w fun e w' => e = .returned (.bool (lValid p a t)) ∧ Below w.heap.size w w' := by
  by_cases c0 : a = 0
  · subst c0
    have H := Lib.hid (show lValid p 0 t = (t == 0) from rfl)
    obtain ⟨r, g, mg, xg, y, rd, wk, cl⟩ := p
    unfold Ph.agg
    go_enter Try.func15, Try.ntmps15
    go_wp2
    go_ret
    exact ⟨ret_bool H.out.symm, (by repeat (first | (with_reducible refine Below.setCell ?_ ?_ _) | (with_reducible refine Below.alloc ?_ ?_ _) | (with_reducible refine Below.drew ?_) | (with_reducible refine below_drewN ?_ _) | (with_reducible exact Below.refl _ _) | (focus (simp; done)) | (focus (simp; omega)) | (focus omega)))⟩
  have d0 : (a == 0) = false := by rw [beq_eq_false_iff_ne]; exact c0
  by_cases c1 : a = 1
  · subst c1
    by_cases ht : 0 ≤ t
    · have H := Lib.hid (show lValid p 1 t = decide (t ≤ 1073741824) by unfold lValid; simp [ht])
      obtain ⟨r, g, mg, xg, y, rd, wk, cl⟩ := p
      unfold Ph.agg
      go_enter Try.func15, Try.ntmps15
      go_wp2
      go_ret
      exact ⟨ret_bool H.out.symm, (by repeat (first | (with_reducible refine Below.setCell ?_ ?_ _) | (with_reducible refine Below.alloc ?_ ?_ _) | (with_reducible refine Below.drew ?_) | (with_reducible refine below_drewN ?_ _) | (with_reducible exact Below.refl _ _) | (focus (simp; done)) | (focus (simp; omega)) | (focus omega)))⟩
    · have ht' : t < 0 := by omega
      have H := Lib.hid (show lValid p 1 t = false by unfold lValid; simp [ht])
      obtain ⟨r, g, mg, xg, y, rd, wk, cl⟩ := p
      unfold Ph.agg
      go_enter Try.func15, Try.ntmps15
      go_wp2
      go_ret
      exact ⟨ret_bool H.out.symm, (by repeat (first | (with_reducible refine Below.setCell ?_ ?_ _) | (with_reducible refine Below.alloc ?_ ?_ _) | (with_reducible refine Below.drew ?_) | (with_reducible refine below_drewN ?_ _) | (with_reducible exact Below.refl _ _) | (focus (simp; done)) | (focus (simp; omega)) | (focus omega)))⟩
  have d1 : (a == 1) = false := by rw [beq_eq_false_iff_ne]; exact c1
  by_cases c2 : a = 2
  · subst c2
    by_cases ht : 0 ≤ t
    · have H := Lib.hid (show lValid p 2 t = decide (t < p.yellow) by unfold lValid; simp [ht])
      obtain ⟨r, g, mg, xg, y, rd, wk, cl⟩ := p
      unfold Ph.agg
      go_enter Try.func15, Try.ntmps15
      go_wp2
      go_ret
      exact ⟨ret_bool H.out.symm, (by repeat (first | (with_reducible refine Below.setCell ?_ ?_ _) | (with_reducible refine Below.alloc ?_ ?_ _) | (with_reducible refine Below.drew ?_) | (with_reducible refine below_drewN ?_ _) | (with_reducible exact Below.refl _ _) | (focus (simp; done)) | (focus (simp; omega)) | (focus omega)))⟩
    · have ht' : t < 0 := by omega
      have H := Lib.hid (show lValid p 2 t = false by unfold lValid; simp [ht])
      obtain ⟨r, g, mg, xg, y, rd, wk, cl⟩ := p
      unfold Ph.agg
      go_enter Try.func15, Try.ntmps15
      go_wp2
      go_ret
      exact ⟨ret_bool H.out.symm, (by repeat (first | (with_reducible refine Below.setCell ?_ ?_ _) | (with_reducible refine Below.alloc ?_ ?_ _) | (with_reducible refine Below.drew ?_) | (with_reducible refine below_drewN ?_ _) | (with_reducible exact Below.refl _ _) | (focus (simp; done)) | (focus (simp; omega)) | (focus omega)))⟩
  have d2 : (a == 2) = false := by rw [beq_eq_false_iff_ne]; exact c2
  by_cases c3 : a = 3
  · subst c3
    by_cases ht : 0 ≤ t
    · have H := Lib.hid (show lValid p 3 t = decide (t < p.red) by unfold lValid; simp [ht])
      obtain ⟨r, g, mg, xg, y, rd, wk, cl⟩ := p
      unfold Ph.agg
      go_enter Try.func15, Try.ntmps15
      go_wp2
      go_ret
      exact ⟨ret_bool H.out.symm, (by repeat (first | (with_reducible refine Below.setCell ?_ ?_ _) | (with_reducible refine Below.alloc ?_ ?_ _) | (with_reducible refine Below.drew ?_) | (with_reducible refine below_drewN ?_ _) | (with_reducible exact Below.refl _ _) | (focus (simp; done)) | (focus (simp; omega)) | (focus omega)))⟩
    · have ht' : t < 0 := by omega
      have H := Lib.hid (show lValid p 3 t = false by unfold lValid; simp [ht])
      obtain ⟨r, g, mg, xg, y, rd, wk, cl⟩ := p
      unfold Ph.agg
      go_enter Try.func15, Try.ntmps15
      go_wp2
      go_ret
      exact ⟨ret_bool H.out.symm, (by repeat (first | (with_reducible refine Below.setCell ?_ ?_ _) | (with_reducible refine Below.alloc ?_ ?_ _) | (with_reducible refine Below.drew ?_) | (with_reducible refine below_drewN ?_ _) | (with_reducible exact Below.refl _ _) | (focus (simp; done)) | (focus (simp; omega)) | (focus omega)))⟩
  · have d3 : (a == 3) = false := by rw [beq_eq_false_iff_ne]; exact c3
    have H := Lib.hid (show lValid p a t = false by unfold lValid; rw [if_neg c0, if_neg c1, if_neg c2, if_neg c3])
    clear c0 c1 c2 c3
    obtain ⟨r, g, mg, xg, y, rd, wk, cl⟩ := p
    unfold Ph.agg
    go_enter Try.func15, Try.ntmps15
    go_wp2
    go_ret
    exact ⟨ret_bool H.out.symm, (by repeat (first | (with_reducible refine Below.setCell ?_ ?_ _) | (with_reducible refine Below.alloc ?_ ?_ _) | (with_reducible refine Below.drew ?_) | (with_reducible refine below_drewN ?_ _) | (with_reducible exact Below.refl _ _) | (focus (simp; done)) | (focus (simp; omega)) | (focus omega)))⟩
set_option maxHeartbeats 1000000 in
theorem ref08_Valid (p : Ph) (a t : Int) (w : World) : Calls Try.prog 16 #[p.agg, .agg #[.int .i64 a, .int .i64 t]] w fun e w' => e = .returned (.bool (lValid p a t)) ∧ Below w.heap.size w w' := by
  by_cases c0 : a = 0
  · subst c0
    have H := Lib.hid (show lValid p 0 t = (t == 0) from rfl)
    obtain ⟨r, g, mg, xg, y, rd, wk, cl⟩ := p
    unfold Ph.agg
    go_enter Try.func16, Try.ntmps16
    go_wp2
    go_ret
    exact ⟨ret_bool H.out.symm, (by repeat (first | (with_reducible refine Below.setCell ?_ ?_ _) | (with_reducible refine Below.alloc ?_ ?_ _) | (with_reducible refine Below.drew ?_) | (with_reducible refine below_drewN ?_ _) | (with_reducible exact Below.refl _ _) | (focus (simp; done)) | (focus (simp; omega)) | (focus omega)))⟩
  have d0 : (a == 0) = false := by rw [beq_eq_false_iff_ne]; exact c0
  by_cases c1 : a = 1
  · subst c1
    by_cases ht : 0 ≤ t
    · have H := Lib.hid (show lValid p 1 t = decide (t ≤ 1073741824) by unfold lValid; simp [ht])
      obtain ⟨r, g, mg, xg, y, rd, wk, cl⟩ := p
      unfold Ph.agg
      go_enter Try.func16, Try.ntmps16
      go_wp2
      go_ret
      exact ⟨ret_bool H.out.symm, (by repeat (first | (with_reducible refine Below.setCell ?_ ?_ _) | (with_reducible refine Below.alloc ?_ ?_ _) | (with_reducible refine Below.drew ?_) | (with_reducible refine below_drewN ?_ _) | (with_reducible exact Below.refl _ _) | (focus (simp; done)) | (focus (simp; omega)) | (focus omega)))⟩
    · have ht' : t < 0 := by omega
      have H := Lib.hid (show lValid p 1 t = false by unfold lValid; simp [ht])
      obtain ⟨r, g, mg, xg, y, rd, wk, cl⟩ := p
      unfold Ph.agg
      go_enter Try.func16, Try.ntmps16
      go_wp2
      go_ret
      exact ⟨ret_bool H.out.symm, (by repeat (first | (with_reducible refine Below.setCell ?_ ?_ _) | (with_reducible refine Below.alloc ?_ ?_ _) | (with_reducible refine Below.drew ?_) | (with_reducible refine below_drewN ?_ _) | (with_reducible exact Below.refl _ _) | (focus (simp; done)) | (focus (simp; omega)) | (focus omega)))⟩
  have d1 : (a == 1) = false := by rw [beq_eq_false_iff_ne]; exact c1
  by_cases c2 : a = 2
  · subst c2
    by_cases ht : 0 ≤ t
    · have H := Lib.hid (show lValid p 2 t = decide (t < p.yellow) by unfold lValid; simp [ht])
      obtain ⟨r, g, mg, xg, y, rd, wk, cl⟩ := p
      unfold Ph.agg
      go_enter Try.func16, Try.ntmps16
      go_wp2
      go_ret
      exact ⟨ret_bool H.out.symm, (by repeat (first | (with_reducible refine Below.setCell ?_ ?_ _) | (with_reducible refine Below.alloc ?_ ?_ _) | (with_reducible refine Below.drew ?_) | (with_reducible refine below_drewN ?_ _) | (with_reducible exact Below.refl _ _) | (focus (simp; done)) | (focus (simp; omega)) | (focus omega)))⟩
    · have ht' : t < 0 := by omega
      have H := Lib.hid (show lValid p 2 t = false by unfold lValid; simp [ht])
      obtain ⟨r, g, mg, xg, y, rd, wk, cl⟩ := p
      unfold Ph.agg
      go_enter Try.func16, Try.ntmps16
      go_wp2
      go_ret
      exact ⟨ret_bool H.out.symm, (by repeat (first | (with_reducible refine Below.setCell ?_ ?_ _) | (with_reducible refine Below.alloc ?_ ?_ _) | (with_reducible refine Below.drew ?_) | (with_reducible refine below_drewN ?_ _) | (with_reducible exact Below.refl _ _) | (focus (simp; done)) | (focus (simp; omega)) | (focus omega)))⟩
  have d2 : (a == 2) = false := by rw [beq_eq_false_iff_ne]; exact c2
  by_cases c3 : a = 3
  · subst c3
    by_cases ht : 0 ≤ t
    · have H := Lib.hid (show lValid p 3 t = decide (t < p.red) by unfold lValid; simp [ht])
      obtain ⟨r, g, mg, xg, y, rd, wk, cl⟩ := p
      unfold Ph.agg
      go_enter Try.func16, Try.ntmps16
      go_wp2
      go_ret
      exact ⟨ret_bool H.out.symm, (by repeat (first | (with_reducible refine Below.setCell ?_ ?_ _) | (with_reducible refine Below.alloc ?_ ?_ _) | (with_reducible refine Below.drew ?_) | (with_reducible refine below_drewN ?_ _) | (with_reducible exact Below.refl _ _) | (focus (simp; done)) | (focus (simp; omega)) | (focus omega)))⟩
    · have ht' : t < 0 := by omega
      have H := Lib.hid (show lValid p 3 t = false by unfold lValid; simp [ht])
      obtain ⟨r, g, mg, xg, y, rd, wk, cl⟩ := p
      unfold Ph.agg
      go_enter Try.func16, Try.ntmps16
      go_wp2
      go_ret
      exact ⟨ret_bool H.out.symm, (by repeat (first | (with_reducible refine Below.setCell ?_ ?_ _) | (with_reducible refine Below.alloc ?_ ?_ _) | (with_reducible refine Below.drew ?_) | (with_reducible refine below_drewN ?_ _) | (with_reducible exact Below.refl _ _) | (focus (simp; done)) | (focus (simp; omega)) | (focus omega)))⟩
  · have d3 : (a == 3) = false := by rw [beq_eq_false_iff_ne]; exact c3
    have H := Lib.hid (show lValid p a t = false by unfold lValid; rw [if_neg c0, if_neg c1, if_neg c2, if_neg c3])
    clear c0 c1 c2 c3
    obtain ⟨r, g, mg, xg, y, rd, wk, cl⟩ := p
    unfold Ph.agg
    go_enter Try.func16, Try.ntmps16
    go_wp2
    go_ret
    exact ⟨ret_bool H.out.symm, (by repeat (first | (with_reducible refine Below.setCell ?_ ?_ _) | (with_reducible refine Below.alloc ?_ ?_ _) | (with_reducible refine Below.drew ?_) | (with_reducible refine below_drewN ?_ _) | (with_reducible exact Below.refl _ _) | (focus (simp; done)) | (focus (simp; omega)) | (focus omega)))⟩
theorem lamp_NonRed (a t : Int) (w : World) : Calls Try.prog 17 #[.agg #[.int .i64 a, .int .i64 t]] w fun e w' => e = .returned (.bool (lNonRed a)) ∧ Below w.heap.size w w' := by
  cases h : (a == 1) with
  | true =>
    have H := Lib.hid (show lNonRed a = true by unfold lNonRed; rw [h]; rfl)
    go_enter Try.func17, Try.ntmps17
    go_wp2
    go_ret
    exact ⟨ret_bool H.out.symm, (by repeat (first | (with_reducible refine Below.setCell ?_ ?_ _) | (with_reducible refine Below.alloc ?_ ?_ _) | (with_reducible refine Below.drew ?_) | (with_reducible refine below_drewN ?_ _) | (with_reducible exact Below.refl _ _) | (focus (simp; done)) | (focus (simp; omega)) | (focus omega)))⟩
  | false =>
    have H := Lib.hid (show lNonRed a = (a == 2) by unfold lNonRed; rw [h]; rfl)
    go_enter Try.func17, Try.ntmps17
    go_wp2
    go_ret
    exact ⟨ret_bool H.out.symm, (by repeat (first | (with_reducible refine Below.setCell ?_ ?_ _) | (with_reducible refine Below.alloc ?_ ?_ _) | (with_reducible refine Below.drew ?_) | (with_reducible refine below_drewN ?_ _) | (with_reducible exact Below.refl _ _) | (focus (simp; done)) | (focus (simp; omega)) | (focus omega)))⟩
theorem ref08_NonRed (a t : Int) (w : World) : Calls Try.prog 18 #[.agg #[.int .i64 a, .int .i64 t]] w fun e w' => e = .returned (.bool (lNonRed a)) ∧ Below w.heap.size w w' := by
  cases h : (a == 1) with
  | true =>
    have H := Lib.hid (show lNonRed a = true by unfold lNonRed; rw [h]; rfl)
    go_enter Try.func18, Try.ntmps18
    go_wp2
    go_ret
    exact ⟨ret_bool H.out.symm, (by repeat (first | (with_reducible refine Below.setCell ?_ ?_ _) | (with_reducible refine Below.alloc ?_ ?_ _) | (with_reducible refine Below.drew ?_) | (with_reducible refine below_drewN ?_ _) | (with_reducible exact Below.refl _ _) | (focus (simp; done)) | (focus (simp; omega)) | (focus omega)))⟩
  | false =>
    have H := Lib.hid (show lNonRed a = (a == 2) by unfold lNonRed; rw [h]; rfl)
    go_enter Try.func18, Try.ntmps18
    go_wp2
    go_ret
    exact ⟨ret_bool H.out.symm, (by repeat (first | (with_reducible refine Below.setCell ?_ ?_ _) | (with_reducible refine Below.alloc ?_ ?_ _) | (with_reducible refine Below.drew ?_) | (with_reducible refine below_drewN ?_ _) | (with_reducible exact Below.refl _ _) | (focus (simp; done)) | (focus (simp; omega)) | (focus omega)))⟩
end Go.Proofs.Ytgcjnkdiggbfeaa
