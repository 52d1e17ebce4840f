/- token.sound, isFree, later, expired, free; signalbrokerref14.later -/
import Derived.Test.YtgngmmmdhhjbhaaBits
namespace Go.Proofs.Ytgngmmmdhhjbhaa
set_option linter.unusedVariables false
open Go.RowKit Go.Sort
set_option maxRecDepth 100000

@[reducible] def tkAgg (us : Bool) (a : Option Addr) (n c : Nat) (par rt cl un : Int) : Value := .agg #[.bool us, .slice a n c, .int .i64 par, .int .i64 rt, .int .i64 cl, .int .i64 un]
def sndN (n : Nat) (rt cl un : Int) : Bool := decide (n = 8) && (rV rt && (decide (0 ≤ cl) && (decide (cl ≤ 3) && (decide (0 ≤ un) && decide (un ≤ 2147483648)))))
def freN (us : Bool) (n : Nat) (par rt cl un : Int) : Bool := !us && (decide (n = 0) && (decide (par = -1) && (decide (rt = 0) && (decide (cl = 0) && decide (un = 0)))))
def latB (a b : Int) : Bool := !decide (b = 0) && (decide (a = 0) || decide (b < a))
def expB (un now : Int) : Bool := !decide (un = 0) && decide (un < now)
theorem token_later (a b : Int) (w : World) : Calls Try.prog 44 #[.int .i64 a, .int .i64 b] w fun e w' => e = .returned (.bool (latB a b)) ∧ w = w' := by
  go_enter Try.func44, Try.ntmps44
  go_wp2
  all_goals
    go_ret
    exact ⟨ret_bool (by first | rfl | (simp; done) | (simp; omega) | (rw [Bool.eq_iff_iff]; simp [latB]; done) | (rw [Bool.eq_iff_iff]; simp [latB]; omega)), rfl⟩
theorem ref14_later (a b : Int) (w : World) : Calls Try.prog 49 #[.int .i64 a, .int .i64 b] w fun e w' => e = .returned (.bool (latB a b)) ∧ w = w' := by
  go_enter Try.func49, Try.ntmps49
  go_wp2
  all_goals
    go_ret
    exact ⟨ret_bool (by first | rfl | (simp; done) | (simp; omega) | (rw [Bool.eq_iff_iff]; simp [latB]; done) | (rw [Bool.eq_iff_iff]; simp [latB]; omega)), rfl⟩
theorem token_expired (us : Bool) (a : Option Addr) (n c : Nat) (par rt cl un now : Int) (w : World) : Calls Try.prog 54 #[tkAgg us a n c par rt cl un, .int .i64 now] w fun e w' => e = .returned (.bool (expB un now)) ∧ Below w.heap.size w w' := by
  go_enter Try.func54, Try.ntmps54
  go_wp2
  all_goals
    go_ret
    exact ⟨ret_bool (by first | rfl | (simp; done) | (simp; omega) | (rw [Bool.eq_iff_iff]; simp [expB]; done) | (rw [Bool.eq_iff_iff]; simp [expB]; omega)), (by repeat (first | (with_reducible refine Below.setCell ?_ ?_ _) | (with_reducible refine Below.alloc ?_ ?_ _) | (with_reducible refine Below.drew ?_) | (with_reducible refine below_drewN ?_ _) | (with_reducible exact Below.refl _ _) | (focus (simp; done)) | (focus (simp; omega)) | (focus omega)))⟩
theorem token_free (w : World) : Calls Try.prog 51 #[] w fun e w' => e = .returned (tkAgg false none 0 0 (-1) 0 0 0) ∧ Below w.heap.size w w' := by
  go_enter Try.func51, Try.ntmps51
  go_wp2
  refine bodyPost_ret (v := tkAgg false none 0 0 (-1) 0 0 0) (by simp [results, Try.results51, go_sem]) rfl ?_
  exact ⟨rfl, (by repeat (first | (with_reducible refine Below.setCell ?_ ?_ _) | (with_reducible refine Below.alloc ?_ ?_ _) | (with_reducible refine Below.drew ?_) | (with_reducible refine below_drewN ?_ _) | (with_reducible exact Below.refl _ _) | (focus (simp; done)) | (focus (simp; omega)) | (focus omega)))⟩
theorem token_isFree (us : Bool) (a : Option Addr) (n c : Nat) (par rt cl un : Int) (w : World) : Calls Try.prog 56 #[tkAgg us a n c par rt cl un] w fun e w' => e = .returned (.bool (freN us n par rt cl un)) ∧ Below w.heap.size w w' := by
  cases us with
  | true =>
    go_enter Try.func56, Try.ntmps56
    go_wp2
    go_ret
    exact ⟨ret_bool (by simp [freN]), (by repeat (first | (with_reducible refine Below.setCell ?_ ?_ _) | (with_reducible refine Below.alloc ?_ ?_ _) | (with_reducible refine Below.drew ?_) | (with_reducible refine below_drewN ?_ _) | (with_reducible exact Below.refl _ _) | (focus (simp; done)) | (focus (simp; omega)) | (focus omega)))⟩
  | false =>
    go_enter Try.func56, Try.ntmps56
    go_wp2
    all_goals
      go_ret
      exact ⟨ret_bool (by first | rfl | (simp; done) | (simp; omega) | (rw [Bool.eq_iff_iff]; simp [freN]; done) | (rw [Bool.eq_iff_iff]; simp [freN]; omega)), (by repeat (first | (with_reducible refine Below.setCell ?_ ?_ _) | (with_reducible refine Below.alloc ?_ ?_ _) | (with_reducible refine Below.drew ?_) | (with_reducible refine below_drewN ?_ _) | (with_reducible exact Below.refl _ _) | (focus (simp; done)) | (focus (simp; omega)) | (focus omega)))⟩
theorem rights_ValidE {r : Int} {b : Bool} (h : Hid (rV r = b)) (w : World) : Calls Try.prog 62 #[.int .i64 r] w fun e w' => e = .returned (.bool b) ∧ w = w' := by
  have := rights_Valid r w
  rw [h.out] at this
  exact this
theorem token_sound (us : Bool) (a : Option Addr) (n c : Nat) (par rt cl un : Int) (w : World) : Calls Try.prog 55 #[tkAgg us a n c par rt cl un] w fun e w' => e = .returned (.bool (sndN n rt cl un)) ∧ Below w.heap.size w w' := by
  cases hr : rV rt with
  | true =>
    have HR := Lib.hid hr
    clear hr
    go_enter Try.func55, Try.ntmps55
    go_wp2_with ((go_at_call 62; (with_reducible refine (rights_ValidE HR _).mono ?_); rintro e wz ⟨rfl, rfl⟩))
    all_goals
      go_ret
      have hr := HR.out
      exact ⟨ret_bool (by first | rfl | (simp; done) | (simp; omega) | (rw [Bool.eq_iff_iff]; simp [sndN, hr]; done) | (rw [Bool.eq_iff_iff]; simp [sndN, hr]; omega)), (by repeat (first | (with_reducible refine Below.setCell ?_ ?_ _) | (with_reducible refine Below.alloc ?_ ?_ _) | (with_reducible refine Below.drew ?_) | (with_reducible refine below_drewN ?_ _) | (with_reducible exact Below.refl _ _) | (focus (simp; done)) | (focus (simp; omega)) | (focus omega)))⟩
  | false =>
    have HR := Lib.hid hr
    clear hr
    go_enter Try.func55, Try.ntmps55
    go_wp2_with ((go_at_call 62; (with_reducible refine (rights_ValidE HR _).mono ?_); rintro e wz ⟨rfl, rfl⟩))
    all_goals
      go_ret
      have hr := HR.out
      exact ⟨ret_bool (by simp [sndN, hr]), (by repeat (first | (with_reducible refine Below.setCell ?_ ?_ _) | (with_reducible refine Below.alloc ?_ ?_ _) | (with_reducible refine Below.drew ?_) | (with_reducible refine below_drewN ?_ _) | (with_reducible exact Below.refl _ _) | (focus (simp; done)) | (focus (simp; omega)) | (focus omega)))⟩
end Go.Proofs.Ytgngmmmdhhjbhaa
