/- layer 13: what the functions of rights compute, by the program's own text and by the reference's -/
import Derived.Test.YtgngmmmdhhjbhaaProg
import Derived.Test.YtgngmmmdhhjbhaaLib
namespace Go.Proofs.Ytgngmmmdhhjbhaa
open Go.RowKit

def rV (r : Int) : Bool := decide (0 ≤ r ∧ r ≤ 63)
theorem rV_yes {r : Int} (h1 : 0 ≤ r) (h2 : r ≤ 63) : rV r = true := by simp [rV, h1, h2]
theorem rV_no {r : Int} (h : ¬ (0 ≤ r ∧ r ≤ 63)) : rV r = false := by simp [rV]; omega
theorem rV_iff {r : Int} : rV r = true ↔ 0 ≤ r ∧ r ≤ 63 := by simp [rV]
def rWithin (a b : Int) : Bool := rV a && rV b && (bits .and .i64 a b == a)
def rNeed (k : Int) : Int :=
  if k = 6 ∨ k = 7 ∨ k = 8 then 1 else if k = 4 ∨ k = 5 then 2 else if k = 2 then 4 else if k = 3 then 8 else if k = 10 then 16 else if k = 11 then 32 else 0
def rPermits (r k : Int) : Bool := rV r && (bits .and .i64 r (rNeed k) == rNeed k)

theorem andNot_small (a b : Int) (ha : 0 ≤ a ∧ a ≤ 63) (hb : 0 ≤ b ∧ b ≤ 63) : (bits .andNot .i64 a b == 0) = (bits .and .i64 a b == a) := by
  have hh : ∀ x : Fin 64, ∀ y : Fin 64, (bits .andNot .i64 (x.val : Int) (y.val : Int) == 0) = (bits .and .i64 (x.val : Int) (y.val : Int) == (x.val : Int)) := by decide +kernel
  have := hh ⟨a.toNat, by omega⟩ ⟨b.toNat, by omega⟩
  simpa [Int.toNat_of_nonneg ha.1, Int.toNat_of_nonneg hb.1] using this

theorem rights_Valid (r : Int) (w : World) : Calls Try.prog 62 #[.int .i64 r] w fun e w' => e = .returned (.bool (rV r)) ∧ w = w' := by
  by_cases h1 : 0 ≤ r
  · by_cases h2 : r ≤ 63
    · have h3 := rV_yes h1 h2
      go_enter Try.func62, Try.ntmps62
      go_wp2
      go_ret
      exact ⟨ret_bool (by first | rfl | exact h3.symm), rfl⟩
    · have h3 := rV_no (r := r) (by omega)
      go_enter Try.func62, Try.ntmps62
      go_wp2
      go_ret
      exact ⟨ret_bool (by first | rfl | exact h3.symm), rfl⟩
  · have h3 := rV_no (r := r) (by omega)
    go_enter Try.func62, Try.ntmps62
    go_wp2
    go_ret
    exact ⟨ret_bool (by first | rfl | exact h3.symm), rfl⟩
theorem ref13_Valid (r : Int) (w : World) : Calls Try.prog 57 #[.int .i64 r] w fun e w' => e = .returned (.bool (rV r)) ∧ w = w' := by
  by_cases h1 : 0 ≤ r
  · by_cases h2 : r ≤ 63
    · have h3 := rV_yes h1 h2
      go_enter Try.func57, Try.ntmps57
      go_wp2
      go_ret
      exact ⟨ret_bool (by first | rfl | exact h3.symm), rfl⟩
    · have h3 := rV_no (r := r) (by omega)
      go_enter Try.func57, Try.ntmps57
      go_wp2
      go_ret
      exact ⟨ret_bool (by first | rfl | exact h3.symm), rfl⟩
  · have h3 := rV_no (r := r) (by omega)
    go_enter Try.func57, Try.ntmps57
    go_wp2
    go_ret
    exact ⟨ret_bool (by first | rfl | exact h3.symm), rfl⟩
theorem rights_Within (a b : Int) (w : World) : Calls Try.prog 43 #[.int .i64 a, .int .i64 b] w fun e w' => e = .returned (.bool (rWithin a b)) ∧ w = w' := by
  by_cases h1 : rV a = true
  · by_cases h2 : rV b = true
    · have hA := rV_iff.1 h1
      have hB := rV_iff.1 h2
      have HR := Lib.hid (show rWithin a b = (bits .andNot .i64 a b == 0) by rw [andNot_small a b hA hB, rWithin, h1, h2]; rfl)
      clear hA hB
      go_enter Try.func43, Try.ntmps43
      go_wp2_with (first | (go_at_call 62; (with_reducible refine (rights_Valid _ _).mono ?_); rintro e w' ⟨rfl, rfl⟩))
      go_ret
      exact ⟨ret_bool HR.out.symm, rfl⟩
    · have h3 : rV b = false := by simpa using h2
      have HR := Lib.hid (show rWithin a b = false by rw [rWithin, h1, h3]; rfl)
      clear h2
      go_enter Try.func43, Try.ntmps43
      go_wp2_with (first | (go_at_call 62; (with_reducible refine (rights_Valid _ _).mono ?_); rintro e w' ⟨rfl, rfl⟩))
      go_ret
      exact ⟨ret_bool HR.out.symm, rfl⟩
  · have h3 : rV a = false := by simpa using h1
    have HR := Lib.hid (show rWithin a b = false by rw [rWithin, h3]; rfl)
    clear h1
    go_enter Try.func43, Try.ntmps43
    go_wp2_with (first | (go_at_call 62; (with_reducible refine (rights_Valid _ _).mono ?_); rintro e w' ⟨rfl, rfl⟩))
    go_ret
    exact ⟨ret_bool HR.out.symm, rfl⟩
theorem ref13_Within (a b : Int) (w : World) : Calls Try.prog 30 #[.int .i64 a, .int .i64 b] w fun e w' => e = .returned (.bool (rWithin a b)) ∧ w = w' := by
  by_cases h1 : rV a = true
  · by_cases h2 : rV b = true
    · have HR := Lib.hid (show rWithin a b = (bits .and .i64 a b == a) by rw [rWithin, h1, h2]; rfl)
      go_enter Try.func30, Try.ntmps30
      go_wp2_with (first | (go_at_call 57; (with_reducible refine (ref13_Valid _ _).mono ?_); rintro e w' ⟨rfl, rfl⟩))
      go_ret
      exact ⟨ret_bool HR.out.symm, rfl⟩
    · have h3 : rV b = false := by simpa using h2
      have HR := Lib.hid (show rWithin a b = false by rw [rWithin, h1, h3]; rfl)
      clear h2
      go_enter Try.func30, Try.ntmps30
      go_wp2_with (first | (go_at_call 57; (with_reducible refine (ref13_Valid _ _).mono ?_); rintro e w' ⟨rfl, rfl⟩))
      go_ret
      exact ⟨ret_bool HR.out.symm, rfl⟩
  · have h3 : rV a = false := by simpa using h1
    have HR := Lib.hid (show rWithin a b = false by rw [rWithin, h3]; rfl)
    clear h1
    go_enter Try.func30, Try.ntmps30
    go_wp2_with (first | (go_at_call 57; (with_reducible refine (ref13_Valid _ _).mono ?_); rintro e w' ⟨rfl, rfl⟩))
    go_ret
    exact ⟨ret_bool HR.out.symm, rfl⟩
theorem rights_Needed (k : Int) (w : World) : Calls Try.prog 65 #[.int .i64 k] w fun e w' => e = .returned (.int .i64 (rNeed k)) ∧ w = w' := by
  go_enter Try.func65, Try.ntmps65
  go_wp2
  all_goals
    go_ret
    refine ⟨ret_int ?_, rfl⟩
    unfold rNeed
    simp_all
theorem rights_Permits (r k : Int) (w : World) : Calls Try.prog 59 #[.int .i64 r, .int .i64 k] w fun e w' => e = .returned (.bool (rPermits r k)) ∧ w = w' := by
  by_cases h1 : rV r = true
  · have HR := Lib.hid (show rPermits r k = (bits .and .i64 r (rNeed k) == rNeed k) by rw [rPermits, h1]; rfl)
    go_enter Try.func59, Try.ntmps59
    go_wp2_with (first | (go_at_call 62; (with_reducible refine (rights_Valid _ _).mono ?_); rintro e w' ⟨rfl, rfl⟩) | (go_at_call 65; (with_reducible refine (rights_Needed _ _).mono ?_); rintro e w' ⟨rfl, rfl⟩))
    go_ret
    exact ⟨ret_bool HR.out.symm, rfl⟩
  · have h3 : rV r = false := by simpa using h1
    have HR := Lib.hid (show rPermits r k = false by rw [rPermits, h3]; rfl)
    clear h1
    go_enter Try.func59, Try.ntmps59
    go_wp2_with (first | (go_at_call 62; (with_reducible refine (rights_Valid _ _).mono ?_); rintro e w' ⟨rfl, rfl⟩) | (go_at_call 65; (with_reducible refine (rights_Needed _ _).mono ?_); rintro e w' ⟨rfl, rfl⟩))
    go_ret
    exact ⟨ret_bool HR.out.symm, rfl⟩
theorem ref13_Needed (k : Int) (w : World) : Calls Try.prog 66 #[.int .i64 k] w fun e w' => e = .returned (.int .i64 (rNeed k)) ∧ w = w' := by
  go_enter Try.func66, Try.ntmps66
  go_wp2
  all_goals
    go_ret
    refine ⟨ret_int ?_, rfl⟩
    unfold rNeed
    simp_all
theorem ref13_Permits (r k : Int) (w : World) : Calls Try.prog 61 #[.int .i64 r, .int .i64 k] w fun e w' => e = .returned (.bool (rPermits r k)) ∧ w = w' := by
  by_cases h1 : rV r = true
  · have HR := Lib.hid (show rPermits r k = (bits .and .i64 r (rNeed k) == rNeed k) by rw [rPermits, h1]; rfl)
    go_enter Try.func61, Try.ntmps61
    go_wp2_with (first | (go_at_call 57; (with_reducible refine (ref13_Valid _ _).mono ?_); rintro e w' ⟨rfl, rfl⟩) | (go_at_call 66; (with_reducible refine (ref13_Needed _ _).mono ?_); rintro e w' ⟨rfl, rfl⟩))
    go_ret
    exact ⟨ret_bool HR.out.symm, rfl⟩
  · have h3 : rV r = false := by simpa using h1
    have HR := Lib.hid (show rPermits r k = false by rw [rPermits, h3]; rfl)
    clear h1
    go_enter Try.func61, Try.ntmps61
    go_wp2_with (first | (go_at_call 57; (with_reducible refine (ref13_Valid _ _).mono ?_); rintro e w' ⟨rfl, rfl⟩) | (go_at_call 66; (with_reducible refine (ref13_Needed _ _).mono ?_); rintro e w' ⟨rfl, rfl⟩))
    go_ret
    exact ⟨ret_bool HR.out.symm, rfl⟩
end Go.Proofs.Ytgngmmmdhhjbhaa
