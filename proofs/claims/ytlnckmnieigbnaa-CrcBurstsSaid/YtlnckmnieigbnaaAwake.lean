import Derived.Test.YtlnckmnieigbnaaCrc
import Derived.Test.YtlnckmnieigbnaaMk
import Derived.Lib.SlBytesConst
namespace Go.Proofs.Ytlnckmnieigbnaa
open Go.RowKit

theorem sum_known : crcUpd 0 [49, 50, 51, 52, 53, 54, 55, 56, 57] = 3421780262 := by decide +kernel

theorem awake_yes (w : World) : Calls Try.prog 9 #[] w fun e w' => e = .returned (.bool true) ∧ Below w.heap.size w w' := by
  have hb : Byt (w.alloc (.cells #[.int .u8 49, .int .u8 50, .int .u8 51, .int .u8 52, .int .u8 53, .int .u8 54, .int .u8 55, .int .u8 56, .int .u8 57] 5 (9, 10))) (some ⟨w.heap.size, 0, none⟩) [49, 50, 51, 52, 53, 54, 55, 56, 57] := byt_new rfl
  have kc := fun (w : World) (C : Array Value) (n c : Nat) => Lib.run_convert_bytes_const (P := Try.prog) w 22 5 C n c Try.underlying22 Try.underlying5
  go_enter Try.func9, Try.ntmps9
  go_wp2_with (go_at_call 10; refine (crc_Sum _ _ 9 9 _ hb rfl (by simp)).mono ?_; rintro e w' ⟨rfl, rfl⟩; rw [sum_known])
  go_ret
  exact ⟨rfl, (Below.refl _ _).alloc (Nat.le_refl _) _⟩
end Go.Proofs.Ytlnckmnieigbnaa
