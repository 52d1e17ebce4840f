/- message.shapeOf, message.groupsOf, message.ForServer; the reference's 'of' and ForServer -/
import Derived.Test.YtpjnajallekjoaaProg
import Derived.Test.YtpjnajallekjoaaMsgLaw
import Derived.Test.YtpjnajallekjoaaQuiet
namespace Go.Proofs.Ytpjnajallekjoaa
open Go.RowKit Go.Sort
set_option maxRecDepth 20000

theorem kinds22 {k : Int} (h1 : 1 ≤ k) (h2 : k ≤ 22) : k = 1 ∨ k = 2 ∨ k = 3 ∨ k = 4 ∨ k = 5 ∨ k = 6 ∨ k = 7 ∨ k = 8 ∨ k = 9 ∨ k = 10 ∨ k = 11 ∨ k = 12 ∨ k = 13 ∨ k = 14 ∨ k = 15 ∨ k = 16 ∨ k = 17 ∨ k = 18 ∨ k = 19 ∨ k = 20 ∨ k = 21 ∨ k = 22 := by omega
theorem no_kind {k : Int} (h : k < 1 ∨ 22 < k) : ∀ j : Int, 1 ≤ j → j ≤ 22 → (k == j) = false := fun j h1 h2 => by rw [beq_eq_false_iff_ne]; omega
set_option maxHeartbeats 4000000 in
theorem ref05_of (k : Int) (w : World) (h1 : 1 ≤ k) (h2 : k ≤ 22) : Calls Try.prog 34 #[.int .i64 k] w fun e w' => e = .returned (shpOf k).ragg ∧ Below w.heap.size w w' := by
  rcases kinds22 h1 h2 with rfl | rfl | rfl | rfl | rfl | rfl | rfl | rfl | rfl | rfl | rfl | rfl | rfl | rfl | rfl | rfl | rfl | rfl | rfl | rfl | rfl | rfl
  all_goals
    go_enter Try.func34, Try.ntmps34
    go_wp2
    refine bodyPost_ret ?_ rfl ⟨rfl, (by repeat (first | (with_reducible refine Below.setCell ?_ ?_ _) | (with_reducible refine Below.alloc ?_ ?_ _) | (with_reducible refine Below.drew ?_) | (with_reducible refine below_drewN ?_ _) | (with_reducible exact Below.refl _ _) | (focus (simp; done)) | (focus (simp; omega)) | (focus omega)))⟩
    simp [results, Try.results34, go_sem, shpOf, Shp.ragg, fixN]
def forSrv (k : Int) : Bool := decide (1 ≤ k) && decide (k ≤ 12)
theorem ref05_ForServer (k : Int) (w : World) : Calls Try.prog 35 #[.int .i64 k] w fun e w' => e = .returned (.bool (forSrv k)) ∧ w = w' := by
  by_cases h : 1 ≤ k
  · have H := Lib.hid (show forSrv k = decide (k ≤ 12) by unfold forSrv; simp [h])
    go_enter Try.func35, Try.ntmps35
    go_wp2
    go_ret
    exact ⟨ret_bool H.out.symm, rfl⟩
  · have H := Lib.hid (show forSrv k = false by unfold forSrv; simp [h])
    have h' : k < 1 := by omega
    go_enter Try.func35, Try.ntmps35
    go_wp2
    go_ret
    exact ⟨ret_bool H.out.symm, rfl⟩

end Go.Proofs.Ytpjnajallekjoaa
