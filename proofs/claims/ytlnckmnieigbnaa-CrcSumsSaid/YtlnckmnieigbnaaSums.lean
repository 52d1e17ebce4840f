import Derived.Test.YtlnckmnieigbnaaAwake
namespace Go.Proofs.Ytlnckmnieigbnaa
open Go.RowKit

theorem crcSums_walk (a0 : Option Addr) (c0 : Nat) (l0 : List UInt8) (a1 : Option Addr) (c1 : Nat) (l1 : List UInt8) (s : Int) (w : World) (h0 : Byt w a0 l0) (h1 : Byt w a1 l1)
    (n0 : l0.length ≤ 9223372036854775807) (n1 : l1.length ≤ 9223372036854775807) :
    Calls Try.prog 3 #[.slice a0 l0.length c0, .slice a1 l1.length c1, .int .u32 s] w fun e w' => e = .returned (.bool true) ∧ Below w.heap.size w w' := by
  by_cases s0 : l0.length ≤ 600
  · by_cases s1 : l1.length ≤ 600
    · go_enter Try.func3, Try.ntmps3
      go_wp2_with (first | (go_at_call 8; (with_reducible refine (mk_Short _ _ _ _ (by assumption)).mono ?_); rintro e w' ⟨rfl, rfl⟩) | (go_at_call 10; (with_reducible refine (crc_Sum _ l0 _ _ _ h0 rfl n0).mono ?_); rintro e w' ⟨rfl, rfl⟩) | (go_at_call 10; (with_reducible refine (crc_Sum none [] 0 0 _ (Byt.nil _ _) rfl (by simp)).mono ?_); rintro e w' ⟨rfl, rfl⟩) | (go_at_call 11; (with_reducible refine (ref_crc_Sum _ l0 _ _ _ h0 rfl n0).mono ?_); rintro e w' ⟨rfl, rfl⟩) | (go_at_call 12; (with_reducible refine (crc_Update _ _ l1 _ _ h1 n1).mono ?_); rintro e w' ⟨rfl, rfl⟩) | (go_at_call 13; (with_reducible refine (ref_crc_Update _ _ l1 _ _ h1 n1).mono ?_); rintro e w' ⟨rfl, rfl⟩) | (go_at_call 9; (with_reducible refine (awake_yes _).mono ?_); rintro e w' ⟨rfl, hb⟩))
      go_ret
      exact ⟨rfl, hb⟩
    · go_enter Try.func3, Try.ntmps3
      go_wp2_with (first | (go_at_call 8; (with_reducible refine (mk_Short _ _ _ _ (by assumption)).mono ?_); rintro e w' ⟨rfl, rfl⟩) | (go_at_call 9; (with_reducible refine (awake_yes _).mono ?_); rintro e w' ⟨rfl, hb⟩))
      go_ret
      exact ⟨rfl, hb⟩
  · go_enter Try.func3, Try.ntmps3
    go_wp2_with (first | (go_at_call 8; (with_reducible refine (mk_Short _ _ _ _ (by assumption)).mono ?_); rintro e w' ⟨rfl, rfl⟩) | (go_at_call 9; (with_reducible refine (awake_yes _).mono ?_); rintro e w' ⟨rfl, hb⟩))
    go_ret
    exact ⟨rfl, hb⟩
end Go.Proofs.Ytlnckmnieigbnaa
