import Derived.Test.YtidmpeimdjmjdaaAwake
namespace Go.Proofs.Ytidmpeimdjmjdaa
open Go.RowKit

theorem mod_wf (a n : Int) (h : 0 < n) : 0 ≤ a % n ∧ a % n < n := ⟨Int.emod_nonneg a (by omega), Int.emod_lt_of_pos a h⟩

theorem rightsHold_walk (a b kind : Int) (w : World) : Calls Try.prog 3 #[.int .i64 a, .int .i64 b, .int .i64 kind] w fun e w' => e = .returned (.bool true) ∧ Below w.heap.size w w' := by
  have m1 := mod_wf a 66 (by omega)
  have m2 := mod_wf b 66 (by omega)
  have m3 := mod_wf kind 25 (by omega)
  have m4 := mod_wf a 64 (by omega)
  have m5 := mod_wf b 64 (by omega)
  have m6 := mod_wf kind 13 (by omega)
  go_enter Try.func3, Try.ntmps3
  go_wp2_with (first | (go_at_call 6; (with_reducible refine (mk_Mod _ _ _ (by omega) (by omega)).mono ?_); rintro e w' ⟨rfl, rfl⟩))
  go_loopw [35] (fun i wr => ∃ k : Nat, k ≤ 3 ∧ i = .int .i64 k ∧ Below w.heap.size w wr ∧ w.heap.size < wr.heap.size ∧ ∀ j, j < 9 → ∃ n, wr.cell? ⟨w.heap.size, j, none⟩ = some (.int .i64 n)) (fun i _ => 3 - (intOf i).toNat)
  case atStart =>
    refine ⟨0, by omega, rfl, (Below.refl _ _).alloc (Nat.le_refl _) _, by simp, fun j hj => ?_⟩
    rw [World.cell?_alloc_mark]
    match j, hj with
    | 0, _ => exact ⟨_, rfl⟩
    | 1, _ => exact ⟨_, rfl⟩
    | 2, _ => exact ⟨_, rfl⟩
    | 3, _ => exact ⟨_, rfl⟩
    | 4, _ => exact ⟨_, rfl⟩
    | 5, _ => exact ⟨_, rfl⟩
    | 6, _ => exact ⟨_, rfl⟩
    | 7, _ => exact ⟨_, rfl⟩
    | 8, _ => exact ⟨_, rfl⟩
  case round =>
    obtain ⟨k, hk, rfl, hbel, hsz, hc⟩ := hrel
    clear m1 m2 m3 m4 m5 m6
    by_cases hlt : k < 3
    · obtain ⟨p, hp⟩ := hc (k * 3) (by omega)
      obtain ⟨q, hq⟩ := hc (k * 3 + 1) (by omega)
      obtain ⟨r, hr⟩ := hc (k * 3 + 2) (by omega)
      have HC := Lib.hid hc
      clear hc
      go_wp2
      go_quiet (first | (go_at_call 7; exact qs (rights_Valid _ _)) | (go_at_call 8; exact qs (ref13_Valid _ _)) | (go_at_call 9; exact qs (rights_Within _ _ _)) | (go_at_call 10; exact qs (ref13_Within _ _ _)) | (go_at_call 11; exact qs (rights_Needed _ _)) | (go_at_call 12; exact qs (ref13_Needed _ _)) | (go_at_call 13; exact qs (rights_Permits _ _ _)) | (go_at_call 14; exact qs (ref13_Permits _ _ _)))
      go_wp2
      go_roundw
      case rel =>
        refine ⟨k + 1, by omega, by go_num, below_drewN (hbel.alloc hbel.size _) _, by simp; omega, fun j hj => ?_⟩
        obtain ⟨n, hn⟩ := HC.out j hj
        exact ⟨n, by rw [← hn]; exact World.cell?_alloc_lt wr _ _ hsz⟩
      case measure => simp [intOf]; omega
    · go_wp2_with (first | (go_at_call 15; (with_reducible refine (awake_yes _).mono ?_); rintro e w' ⟨rfl, rfl⟩))
      go_ret
      exact ⟨ret_bool rfl, hbel⟩
end Go.Proofs.Ytidmpeimdjmjdaa
