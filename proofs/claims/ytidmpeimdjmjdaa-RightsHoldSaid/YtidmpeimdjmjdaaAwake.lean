import Derived.Test.YtidmpeimdjmjdaaRights
import Derived.Test.YtidmpeimdjmjdaaMk
import Derived.Test.YtidmpeimdjmjdaaQuiet
namespace Go.Proofs.Ytidmpeimdjmjdaa
open Go.RowKit

theorem awake_yes (w : World) : Calls Try.prog 15 #[] w fun e w' => e = .returned (.bool true) ∧ w = w' := by
  have q1 : rPermits 2 5 = true := by decide
  have q2 : rPermits 2 8 = false := by decide
  have q3 : rPermits 0 1 = true := by decide
  have q4 : rWithin 1 3 = true := by decide
  go_enter Try.func15, Try.ntmps15
  go_wp2_with (first | (go_at_call 13; (with_reducible refine (rights_Permits _ _ _).mono ?_); rintro e w' ⟨rfl, rfl⟩) | (go_at_call 9; (with_reducible refine (rights_Within _ _ _).mono ?_); rintro e w' ⟨rfl, rfl⟩))
  go_ret
  exact ⟨ret_bool rfl, rfl⟩

def orN : Nat → Int
  | 0 => 0
  | k + 1 => bits .or .i64 (orN k) (rNeed k)
theorem need_bits (k : Nat) (h : k < 13) : (bits .and .i64 (rNeed k) (rNeed k - 1) != 0) = false ∧ 0 ≤ rNeed k ∧ rNeed k ≤ 63 := by
  have hh : ∀ j : Fin 13, (bits .and .i64 (rNeed j.val) (rNeed j.val - 1) != 0) = false ∧ 0 ≤ rNeed j.val ∧ rNeed j.val ≤ 63 := by decide +kernel
  exact hh ⟨k, h⟩

theorem rightsFree_walk (kind : Int) (w : World) : Calls Try.prog 5 #[.int .i64 kind] w fun e w' => e = .returned (.bool true) ∧ Below w.heap.size w w' := by
  go_enter Try.func5, Try.ntmps5
  go_wp2
  go_loop [3, 7] (fun a i => ∃ k : Nat, k ≤ 13 ∧ i = .int .i64 k ∧ a = .int .i64 (orN k)) (fun _ i => 13 - (intOf i).toNat)
  case atStart => exact ⟨0, by omega, rfl, rfl⟩
  case round =>
    obtain ⟨k, hk, rfl, rfl⟩ := hrel
    by_cases hlt : k < 13
    · obtain ⟨f1, f2, f3⟩ := need_bits k hlt
      go_wp2_with (first | (go_at_call 11; (with_reducible refine (rights_Needed _ _).mono ?_); rintro e w' ⟨rfl, rfl⟩))
      go_round
      case rel => exact ⟨k + 1, by omega, by go_num, rfl⟩
      case measure => simp [intOf]; omega
    · obtain rfl : k = 13 := by omega
      have q1 : orN 13 = 63 := by decide +kernel
      have hm := Int.emod_nonneg kind (show (1000 : Int) ≠ 0 by decide)
      have hm2 := Int.emod_lt_of_pos kind (show (0 : Int) < 1000 by decide)
      have q2 : rNeed (13 + kind % 1000) = 0 := by unfold rNeed; repeat (rw [if_neg (by omega)])
      have q3 : rNeed (-(13 + kind % 1000)) = 0 := by unfold rNeed; repeat (rw [if_neg (by omega)])
      have q4 : rPermits 0 (13 + kind % 1000) = true := by unfold rPermits; rw [q2]; decide
      have q5 : rPermits 64 1 = false := by decide
      go_wp2_with (first | (go_at_call 6; (with_reducible refine (mk_Mod _ _ _ (by omega) (by omega)).mono ?_); rintro e w' ⟨rfl, rfl⟩) | (go_at_call 11; (with_reducible refine (rights_Needed _ _).mono ?_); rintro e w' ⟨rfl, rfl⟩) | (go_at_call 13; (with_reducible refine (rights_Permits _ _ _).mono ?_); rintro e w' ⟨rfl, rfl⟩) | (go_at_call 15; (with_reducible refine (awake_yes _).mono ?_); rintro e w' ⟨rfl, rfl⟩))
      go_ret
      exact ⟨ret_bool rfl, Below.refl _ _⟩
end Go.Proofs.Ytidmpeimdjmjdaa
