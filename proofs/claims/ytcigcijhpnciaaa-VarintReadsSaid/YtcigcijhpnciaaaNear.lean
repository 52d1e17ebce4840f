import Derived.Test.YtcigcijhpnciaaaVarint
import Derived.Test.YtcigcijhpnciaaaMk
import Derived.Deep.RegionWith
import Derived.Deep.DrawnRows
namespace Go.Proofs.Ytcigcijhpnciaaa
open Go.RowKit
set_option maxRecDepth 20000
attribute [local go_sem ↓] Go.wp_at_zero Go.wp_at_succ

theorem mod_wf (a n : Int) (h : 0 < n) : 0 ≤ a % n ∧ a % n < n := ⟨Int.emod_nonneg a (by omega), Int.emod_lt_of_pos a h⟩

set_option maxHeartbeats 8000000 in
theorem near_any (n : Int) (w : World) :
    Calls Try.prog 7 #[.int .i64 n] w fun e w' => ∃ v : Int, e = .returned (.int .i64 v) ∧ -2 ≤ v ∧ v ≤ 34359738370 ∧ Below w.heap.size w w' := by
  have m1 := mod_wf n 7 (by omega)
  have m2 := mod_wf (IntKind.i64.wrap (n.tdiv 7)) 5 (by omega)
  have HM2 := Lib.hid m2
  clear m2
  have hcase : n % 7 = 0 ∨ n % 7 = 1 ∨ n % 7 = 2 ∨ n % 7 = 3 ∨ n % 7 = 4 ∨ n % 7 = 5 ∨ n % 7 = 6 := by omega
  clear m1
  rcases hcase with h | h | h | h | h | h | h
  all_goals
    go_enter Try.func7, Try.ntmps7
    go_wp2
    go_region_with (first | (go_at_call 8; (with_reducible refine (mk_Mod _ _ _ (by omega) (by omega)).mono ?_); rintro e w' ⟨rfl, rfl⟩))
    all_goals
      go_wp2
      go_ret
      have m2 := HM2.out
      refine ⟨_, rfl, ?_, ?_, ?_⟩
      · generalize IntKind.i64.wrap (n.tdiv 7) % 5 = M at m2 ⊢
        simp only [IntKind.wrap_i64]
        omega
      · generalize IntKind.i64.wrap (n.tdiv 7) % 5 = M at m2 ⊢
        simp only [IntKind.wrap_i64]
        omega
      · exact (by repeat (first | (with_reducible refine Below.setCell ?_ ?_ _) | (with_reducible refine Below.alloc ?_ ?_ _) | (with_reducible refine Below.drew ?_) | (with_reducible refine below_drewN ?_ _) | (with_reducible exact Below.refl _ _) | (focus (simp; done)) | (focus (simp; omega)) | (focus omega)))
end Go.Proofs.Ytcigcijhpnciaaa
