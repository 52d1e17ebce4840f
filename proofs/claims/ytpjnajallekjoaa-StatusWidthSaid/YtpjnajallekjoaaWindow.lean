/- layer 18: what the functions of windows compute, by the program's own text and by the reference's -/
import Derived.Test.YtpjnajallekjoaaProg
import Derived.Test.YtpjnajallekjoaaLib
namespace Go.Proofs.Ytpjnajallekjoaa
open Go.RowKit

def wMark (f t s now : Int) : Int := if f ≤ now ∧ now ≤ t then (if s = -1 then now else s) else -1
def wMakeOk (j p f t now : Int) : Bool := decide ((0 ≤ j ∧ j < 4 ∧ 0 ≤ p ∧ p < 8) ∧ 0 ≤ now ∧ now ≤ 1073741824 ∧ 0 ≤ f ∧ f ≤ t ∧ t ≤ 600)
def wMakeV (j p f t now : Int) : Value :=
  if wMakeOk j p f t now = true then .tuple #[.agg #[.int .i64 j, .int .i64 p, .int .i64 (now + f), .int .i64 (now + t), .int .i64 (-1)], .int .i64 0]
  else .tuple #[.agg #[.int .i64 0, .int .i64 0, .int .i64 0, .int .i64 0, .int .i64 0], .int .i64 8]
def wValid (j p f t s : Int) : Bool := decide ((0 ≤ j ∧ j < 4 ∧ 0 ≤ p ∧ p < 8) ∧ 0 ≤ f ∧ f ≤ t ∧ t ≤ 2147483648 ∧ -1 ≤ s ∧ s ≤ 1073741824)
theorem wMakeV_yes {j p f t now : Int} (h : (0 ≤ j ∧ j < 4 ∧ 0 ≤ p ∧ p < 8) ∧ 0 ≤ now ∧ now ≤ 1073741824 ∧ 0 ≤ f ∧ f ≤ t ∧ t ≤ 600) : wMakeV j p f t now = .tuple #[.agg #[.int .i64 j, .int .i64 p, .int .i64 (now + f), .int .i64 (now + t), .int .i64 (-1)], .int .i64 0] := by
  rw [wMakeV, if_pos (by unfold wMakeOk; exact decide_eq_true h)]
theorem wMakeV_no {j p f t now : Int} (h : ¬ ((0 ≤ j ∧ j < 4 ∧ 0 ≤ p ∧ p < 8) ∧ 0 ≤ now ∧ now ≤ 1073741824 ∧ 0 ≤ f ∧ f ≤ t ∧ t ≤ 600)) : wMakeV j p f t now = .tuple #[.agg #[.int .i64 0, .int .i64 0, .int .i64 0, .int .i64 0, .int .i64 0], .int .i64 8] := by
  rw [wMakeV, if_neg (by unfold wMakeOk; rw [decide_eq_false h]; decide)]

theorem ref18_within (n lo hi : Int) (w : World) : Calls Try.prog 49 #[.int .i64 n, .int .i64 lo, .int .i64 hi] w fun e w' => e = .returned (.bool (decide (lo ≤ n) && decide (n ≤ hi))) ∧ w = w' := by
  go_enter Try.func49, Try.ntmps49
  go_wp2
  all_goals
    go_ret
    exact ⟨ret_bool (by first | rfl | (simp; done) | (simp; omega) | (rw [Bool.eq_iff_iff]; simp []; done) | (rw [Bool.eq_iff_iff]; simp []; omega)), rfl⟩
theorem window_Live (j p f t s now : Int) (w : World) : Calls Try.prog 30 #[.agg #[.int .i64 j, .int .i64 p, .int .i64 f, .int .i64 t, .int .i64 s], .int .i64 now] w fun e w' => e = .returned (.bool (decide (f ≤ now) && decide (now ≤ t))) ∧ Below w.heap.size w w' := by
  go_enter Try.func30, Try.ntmps30
  go_wp2
  all_goals
    go_ret
    exact ⟨ret_bool (by first | rfl | (simp; done) | (simp; omega) | (rw [Bool.eq_iff_iff]; simp []; done) | (rw [Bool.eq_iff_iff]; simp []; omega)), (by repeat (first | (with_reducible refine Below.setCell ?_ ?_ _) | (with_reducible refine Below.alloc ?_ ?_ _) | (with_reducible refine Below.drew ?_) | (with_reducible refine below_drewN ?_ _) | (with_reducible exact Below.refl _ _) | (focus (simp; done)) | (focus (simp; omega)) | (focus omega)))⟩
theorem ref18_Live (j p f t s now : Int) (w : World) : Calls Try.prog 33 #[.agg #[.int .i64 j, .int .i64 p, .int .i64 f, .int .i64 t, .int .i64 s], .int .i64 now] w fun e w' => e = .returned (.bool (decide (f ≤ now) && decide (now ≤ t))) ∧ Below w.heap.size w w' := by
  go_enter Try.func33, Try.ntmps33
  go_wp2_with (first | (go_at_call 49; (with_reducible refine (ref18_within _ _ _ _).mono ?_); rintro e w' ⟨rfl, rfl⟩))
  all_goals
    go_ret
    exact ⟨ret_bool (by first | rfl | (simp; done) | (simp; omega) | (rw [Bool.eq_iff_iff]; simp []; done) | (rw [Bool.eq_iff_iff]; simp []; omega)), (by repeat (first | (with_reducible refine Below.setCell ?_ ?_ _) | (with_reducible refine Below.alloc ?_ ?_ _) | (with_reducible refine Below.drew ?_) | (with_reducible refine below_drewN ?_ _) | (with_reducible exact Below.refl _ _) | (focus (simp; done)) | (focus (simp; omega)) | (focus omega)))⟩
theorem ref18_Make (j p f t now : Int) (w : World) : Calls Try.prog 47 #[.int .i64 j, .int .i64 p, .int .i64 f, .int .i64 t, .int .i64 now] w fun e w' => e = .returned (wMakeV j p f t now) ∧ Below w.heap.size w w' := by
  go_enter Try.func47, Try.ntmps47
  go_wp2_with (first | (go_at_call 49; (with_reducible refine (ref18_within _ _ _ _).mono ?_); rintro e w' ⟨rfl, rfl⟩))
  all_goals first | (refine bodyPost_ret (v := .tuple #[.agg #[.int .i64 j, .int .i64 p, .int .i64 (now + f), .int .i64 (now + t), .int .i64 (-1)], .int .i64 0]) ?_ rfl ⟨?_, ?_⟩; (focus (simp [results, Try.results47, go_sem]; done)); (focus (rw [wMakeV_yes (by omega)])); exact (by repeat (first | (with_reducible refine Below.setCell ?_ ?_ _) | (with_reducible refine Below.alloc ?_ ?_ _) | (with_reducible refine Below.drew ?_) | (with_reducible refine below_drewN ?_ _) | (with_reducible exact Below.refl _ _) | (focus (simp; done)) | (focus (simp; omega)) | (focus omega)))) | (refine bodyPost_ret (v := .tuple #[.agg #[.int .i64 0, .int .i64 0, .int .i64 0, .int .i64 0, .int .i64 0], .int .i64 8]) ?_ rfl ⟨?_, ?_⟩; (focus (simp [results, Try.results47, go_sem]; done)); (focus (rw [wMakeV_no (by omega)])); exact (by repeat (first | (with_reducible refine Below.setCell ?_ ?_ _) | (with_reducible refine Below.alloc ?_ ?_ _) | (with_reducible refine Below.drew ?_) | (with_reducible refine below_drewN ?_ _) | (with_reducible exact Below.refl _ _) | (focus (simp; done)) | (focus (simp; omega)) | (focus omega))))
theorem ref18_Mark (j p f t s now : Int) (w : World) : Calls Try.prog 48 #[.agg #[.int .i64 j, .int .i64 p, .int .i64 f, .int .i64 t, .int .i64 s], .int .i64 now] w fun e w' => e = .returned (.agg #[.int .i64 j, .int .i64 p, .int .i64 f, .int .i64 t, .int .i64 (wMark f t s now)]) ∧ Below w.heap.size w w' := by
  go_enter Try.func48, Try.ntmps48
  go_wp2_with (first | (go_at_call 33; (with_reducible refine (ref18_Live _ _ _ _ _ _ _).mono ?_); rintro e w1 ⟨rfl, hb⟩; (obtain ⟨hc, hf, hz⟩ := bcell hb)))
  all_goals first | (refine bodyPost_ret (v := .agg #[.int .i64 j, .int .i64 p, .int .i64 f, .int .i64 t, .int .i64 now]) ?_ rfl ⟨?_, ?_⟩; (focus (simp [results, Try.results48, go_sem, hc]; done)); (focus (unfold wMark; first | (simp_all; done) | (simp_all; intros; omega) | (repeat (first | rw [if_pos (by omega)] | rw [if_neg (by omega)])))); exact (by repeat (first | (with_reducible refine Below.setCell ?_ ?_ _) | (with_reducible refine Below.alloc ?_ ?_ _) | (with_reducible refine Below.drew ?_) | (with_reducible refine below_drewN ?_ _) | (with_reducible exact Below.refl _ _) | (with_reducible refine Below.trans ?_ (Below.mono hb ?_)) | (focus (simp; done)) | (focus (simp; omega)) | (focus omega) | (focus (have q0 := Below.size hb; (try simp at q0); (try simp); omega))))) | (refine bodyPost_ret (v := .agg #[.int .i64 j, .int .i64 p, .int .i64 f, .int .i64 t, .int .i64 s]) ?_ rfl ⟨?_, ?_⟩; (focus (simp [results, Try.results48, go_sem, hc]; done)); (focus (unfold wMark; first | (simp_all; done) | (simp_all; intros; omega) | (repeat (first | rw [if_pos (by omega)] | rw [if_neg (by omega)])))); exact (by repeat (first | (with_reducible refine Below.setCell ?_ ?_ _) | (with_reducible refine Below.alloc ?_ ?_ _) | (with_reducible refine Below.drew ?_) | (with_reducible refine below_drewN ?_ _) | (with_reducible exact Below.refl _ _) | (with_reducible refine Below.trans ?_ (Below.mono hb ?_)) | (focus (simp; done)) | (focus (simp; omega)) | (focus omega) | (focus (have q0 := Below.size hb; (try simp at q0); (try simp); omega))))) | (refine bodyPost_ret (v := .agg #[.int .i64 j, .int .i64 p, .int .i64 f, .int .i64 t, .int .i64 (-1)]) ?_ rfl ⟨?_, ?_⟩; (focus (simp [results, Try.results48, go_sem, hc]; done)); (focus (unfold wMark; first | (simp_all; done) | (simp_all; intros; omega) | (repeat (first | rw [if_pos (by omega)] | rw [if_neg (by omega)])))); exact (by repeat (first | (with_reducible refine Below.setCell ?_ ?_ _) | (with_reducible refine Below.alloc ?_ ?_ _) | (with_reducible refine Below.drew ?_) | (with_reducible refine below_drewN ?_ _) | (with_reducible exact Below.refl _ _) | (with_reducible refine Below.trans ?_ (Below.mono hb ?_)) | (focus (simp; done)) | (focus (simp; omega)) | (focus omega) | (focus (have q0 := Below.size hb; (try simp at q0); (try simp); omega)))))
theorem ref18_Valid (j p f t s : Int) (w : World) : Calls Try.prog 61 #[.agg #[.int .i64 j, .int .i64 p, .int .i64 f, .int .i64 t, .int .i64 s]] w fun e w' => e = .returned (.bool (wValid j p f t s)) ∧ Below w.heap.size w w' := by
  go_enter Try.func61, Try.ntmps61
  go_wp2_with (first | (go_at_call 49; (with_reducible refine (ref18_within _ _ _ _).mono ?_); rintro e w' ⟨rfl, rfl⟩))
  all_goals
    go_ret
    exact ⟨ret_bool (by first | rfl | (simp; done) | (simp; omega) | (rw [Bool.eq_iff_iff]; simp [wValid]; done) | (rw [Bool.eq_iff_iff]; simp [wValid]; omega)), (by repeat (first | (with_reducible refine Below.setCell ?_ ?_ _) | (with_reducible refine Below.alloc ?_ ?_ _) | (with_reducible refine Below.drew ?_) | (with_reducible refine below_drewN ?_ _) | (with_reducible exact Below.refl _ _) | (focus (simp; done)) | (focus (simp; omega)) | (focus omega)))⟩
end Go.Proofs.Ytpjnajallekjoaa
