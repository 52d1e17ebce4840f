/- message.shapeOf, message.groupsOf, message.ForServer; the reference's 'of' and ForServer -/
import Derived.Test.YthkoijgobigdnaaProg
import Derived.Test.YthkoijgobigdnaaMsgLaw
import Derived.Test.YthkoijgobigdnaaQuiet
namespace Go.Proofs.Ythkoijgobigdnaa
open Go.RowKit Go.Sort
set_option maxRecDepth 20000

theorem kinds22 {k : Int} (h1 : 1 ≤ k) (h2 : k ≤ 22) : k = 1 ∨ k = 2 ∨ k = 3 ∨ k = 4 ∨ k = 5 ∨ k = 6 ∨ k = 7 ∨ k = 8 ∨ k = 9 ∨ k = 10 ∨ k = 11 ∨ k = 12 ∨ k = 13 ∨ k = 14 ∨ k = 15 ∨ k = 16 ∨ k = 17 ∨ k = 18 ∨ k = 19 ∨ k = 20 ∨ k = 21 ∨ k = 22 := by omega
set_option maxHeartbeats 4000000 in
theorem msg_shapeOf (k : Int) (w : World) (h1 : 1 ≤ k) (h2 : k ≤ 22) : Calls Try.prog 31 #[.int .i64 k] w fun e w' => e = .returned (.tuple #[(shpOf k).agg, .bool true]) ∧ Below w.heap.size w w' := by
  rcases kinds22 h1 h2 with rfl | rfl | rfl | rfl | rfl | rfl | rfl | rfl | rfl | rfl | rfl | rfl | rfl | rfl | rfl | rfl | rfl | rfl | rfl | rfl | rfl | rfl
  all_goals
    go_enter Try.func31, Try.ntmps31
    go_wp2
    refine bodyPost_ret ?_ rfl ⟨rfl, (by repeat (first | (with_reducible refine Below.setCell ?_ ?_ _) | (with_reducible refine Below.alloc ?_ ?_ _) | (with_reducible refine Below.drew ?_) | (with_reducible refine below_drewN ?_ _) | (with_reducible exact Below.refl _ _) | (focus (simp; done)) | (focus (simp; omega)) | (focus omega)))⟩
    simp [results, Try.results31, go_sem, shpOf, Shp.agg, fixN]
theorem no_kind {k : Int} (h : k < 1 ∨ 22 < k) : ∀ j : Int, 1 ≤ j → j ≤ 22 → (k == j) = false := fun j h1 h2 => by rw [beq_eq_false_iff_ne]; omega
set_option maxHeartbeats 1000000 in
theorem msg_shapeOf_no (k : Int) (w : World) (h : k < 1 ∨ 22 < k) : Calls Try.prog 31 #[.int .i64 k] w fun e w' => e = .returned (.tuple #[.agg #[.int .i64 0, .int .i64 0, .int .i64 0, .int .i64 0, .int .i64 0, .int .i64 0], .bool false]) ∧ Below w.heap.size w w' := by
  have hh := no_kind h
  have d1 := hh 1 (by omega) (by omega)
  have d2 := hh 2 (by omega) (by omega)
  have d3 := hh 3 (by omega) (by omega)
  have d4 := hh 4 (by omega) (by omega)
  have d5 := hh 5 (by omega) (by omega)
  have d6 := hh 6 (by omega) (by omega)
  have d7 := hh 7 (by omega) (by omega)
  have d8 := hh 8 (by omega) (by omega)
  have d9 := hh 9 (by omega) (by omega)
  have d10 := hh 10 (by omega) (by omega)
  have d11 := hh 11 (by omega) (by omega)
  have d12 := hh 12 (by omega) (by omega)
  have d13 := hh 13 (by omega) (by omega)
  have d14 := hh 14 (by omega) (by omega)
  have d15 := hh 15 (by omega) (by omega)
  have d16 := hh 16 (by omega) (by omega)
  have d17 := hh 17 (by omega) (by omega)
  have d18 := hh 18 (by omega) (by omega)
  have d19 := hh 19 (by omega) (by omega)
  have d20 := hh 20 (by omega) (by omega)
  have d21 := hh 21 (by omega) (by omega)
  have d22 := hh 22 (by omega) (by omega)
  clear hh h
  go_enter Try.func31, Try.ntmps31
  go_wp2
  refine bodyPost_ret ?_ rfl ⟨rfl, (by repeat (first | (with_reducible refine Below.setCell ?_ ?_ _) | (with_reducible refine Below.alloc ?_ ?_ _) | (with_reducible refine Below.drew ?_) | (with_reducible refine below_drewN ?_ _) | (with_reducible exact Below.refl _ _) | (focus (simp; done)) | (focus (simp; omega)) | (focus omega)))⟩
  simp [results, Try.results31, go_sem]
set_option maxHeartbeats 4000000 in
theorem ref05_of (k : Int) (w : World) (h1 : 1 ≤ k) (h2 : k ≤ 22) : Calls Try.prog 34 #[.int .i64 k] w fun e w' => e = .returned (shpOf k).ragg ∧ Below w.heap.size w w' := by
  rcases kinds22 h1 h2 with rfl | rfl | rfl | rfl | rfl | rfl | rfl | rfl | rfl | rfl | rfl | rfl | rfl | rfl | rfl | rfl | rfl | rfl | rfl | rfl | rfl | rfl
  all_goals
    go_enter Try.func34, Try.ntmps34
    go_wp2
    refine bodyPost_ret ?_ rfl ⟨rfl, (by repeat (first | (with_reducible refine Below.setCell ?_ ?_ _) | (with_reducible refine Below.alloc ?_ ?_ _) | (with_reducible refine Below.drew ?_) | (with_reducible refine below_drewN ?_ _) | (with_reducible exact Below.refl _ _) | (focus (simp; done)) | (focus (simp; omega)) | (focus omega)))⟩
    simp [results, Try.results34, go_sem, shpOf, Shp.ragg, fixN]
def forSrv (k : Int) : Bool := decide (1 ≤ k) && decide (k ≤ 12)
theorem msg_ForServer (k : Int) (w : World) : Calls Try.prog 21 #[.int .i64 k] w fun e w' => e = .returned (.bool (forSrv k)) ∧ w = w' := by
  by_cases h : 1 ≤ k
  · have H := Lib.hid (show forSrv k = decide (k ≤ 12) by unfold forSrv; simp [h])
    go_enter Try.func21, Try.ntmps21
    go_wp2
    go_ret
    exact ⟨ret_bool H.out.symm, rfl⟩
  · have H := Lib.hid (show forSrv k = false by unfold forSrv; simp [h])
    have h' : k < 1 := by omega
    go_enter Try.func21, Try.ntmps21
    go_wp2
    go_ret
    exact ⟨ret_bool H.out.symm, rfl⟩
theorem ref05_ForServer (k : Int) (w : World) : Calls Try.prog 26 #[.int .i64 k] w fun e w' => e = .returned (.bool (forSrv k)) ∧ w = w' := by
  by_cases h : 1 ≤ k
  · have H := Lib.hid (show forSrv k = decide (k ≤ 12) by unfold forSrv; simp [h])
    go_enter Try.func26, Try.ntmps26
    go_wp2
    go_ret
    exact ⟨ret_bool H.out.symm, rfl⟩
  · have H := Lib.hid (show forSrv k = false by unfold forSrv; simp [h])
    have h' : k < 1 := by omega
    go_enter Try.func26, Try.ntmps26
    go_wp2
    go_ret
    exact ⟨ret_bool H.out.symm, rfl⟩

end Go.Proofs.Ythkoijgobigdnaa
