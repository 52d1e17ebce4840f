import Derived.Test.YtgngmmmdhhjbhaaProg
import Derived.Test.YtgngmmmdhhjbhaaLib
namespace Go.Proofs.Ytgngmmmdhhjbhaa
open Go.RowKit

theorem mk_Short (a : Option Addr) (n cap : Nat) (w : World) (hn : n ≤ 9223372036854775807) :
    Calls Try.prog 10 #[.slice a n cap] w fun e w' => e = .returned (.bool (decide (n ≤ 600))) ∧ w = w' := by
  go_enter Try.func10, Try.ntmps10
  go_wp2
  go_ret
  exact ⟨ret_bool (by simp; omega), rfl⟩
theorem tmod_neg {v n : Int} (h1 : 1 ≤ n) (h : v.tmod n < 0) : v.tmod n + n = v % n := by
  have e := @Int.tmod_eq_emod v n
  have h2 := Int.emod_nonneg v (show n ≠ 0 by omega)
  have h3 := Int.emod_lt_of_pos v (show 0 < n by omega)
  split at e <;> omega
theorem tmod_pos {v n : Int} (h1 : 1 ≤ n) (h : ¬ v.tmod n < 0) : v.tmod n = v % n := by
  have e := @Int.tmod_eq_emod v n
  have h2 := Int.emod_nonneg v (show n ≠ 0 by omega)
  have h3 := Int.emod_lt_of_pos v (show 0 < n by omega)
  split at e <;> omega
theorem tmod_bd {v n : Int} (h1 : 1 ≤ n) : -n < v.tmod n ∧ v.tmod n < n := by
  have e := @Int.tmod_eq_emod v n
  have h2 := Int.emod_nonneg v (show n ≠ 0 by omega)
  have h3 := Int.emod_lt_of_pos v (show 0 < n by omega)
  split at e <;> omega
/-- 'Mod' for a divisor from 1 on: Lean's own remainder -/
theorem mk_Mod (v n : Int) (w : World) (h1 : 1 ≤ n) (hn : n ≤ 4611686018427387904) :
    Calls Try.prog 17 #[.int .i64 v, .int .i64 n] w fun e w' => e = .returned (.int .i64 (v % n)) ∧ w = w' := by
  have h0 : (n == 0) = false := by simp; omega
  have hb := tmod_bd (v := v) h1
  by_cases hs : v.tmod n < 0
  · go_enter Try.func17, Try.ntmps17
    go_wp2
    go_ret
    exact ⟨ret_int (tmod_neg h1 hs), rfl⟩
  · go_enter Try.func17, Try.ntmps17
    go_wp2
    go_ret
    exact ⟨ret_int (tmod_pos h1 (by omega)), rfl⟩
/-- the remainder under a name -/
theorem mk_ModE {v n r : Int} (h : v % n = r) (w : World) (h1 : 1 ≤ n) (hn : n ≤ 4611686018427387904) :
    Calls Try.prog 17 #[.int .i64 v, .int .i64 n] w fun e w' => e = .returned (.int .i64 r) ∧ w = w' := h ▸ mk_Mod v n w h1 hn
theorem modName (v n : Int) (h : 0 < n) : ∃ r, Hid (v % n = r) ∧ 0 ≤ r ∧ r < n := ⟨v % n, Lib.hid rfl, Int.emod_nonneg v (by omega), Int.emod_lt_of_pos v h⟩
/-- some remainder -/
theorem mk_ModSome (v n : Int) (w : World) (h1 : 1 ≤ n) (hn : n ≤ 4611686018427387904) :
    Calls Try.prog 17 #[.int .i64 v, .int .i64 n] w fun e w' => ∃ r, e = .returned (.int .i64 r) ∧ 0 ≤ r ∧ r < n ∧ w = w' :=
  (mk_Mod v n w h1 hn).mono fun _ _ ⟨he, hw⟩ => ⟨_, he, Int.emod_nonneg v (by omega), Int.emod_lt_of_pos v (by omega), hw⟩
end Go.Proofs.Ytgngmmmdhhjbhaa
