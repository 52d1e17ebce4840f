import Derived.Test.YtlnckmnieigbnaaAwake
import Derived.Test.YtlnckmnieigbnaaCrcLaw
import Derived.Test.YtlnckmnieigbnaaApp
namespace Go.Proofs.Ytlnckmnieigbnaa
open Go.RowKit

theorem join_eq (l m : List UInt8) : (crcUpd 0 (l ++ m) == crcUpd (crcUpd 0 l) m) = true := by
  rw [crcUpd_0, crcUpd_0, crcUpd_v, cUpd_append]; simp
theorem nil_eq (l : List UInt8) : (crcUpd (crcUpd 0 l) [] == crcUpd 0 l) = true := by
  rw [crcUpd_0, crcUpd_v, cUpd_nil]; simp

theorem crcJoins_walk (a0 : Option Addr) (c0 : Nat) (l0 : List UInt8) (a1 : Option Addr) (c1 : Nat) (l1 : List UInt8) (w : World) (h0 : Byt w a0 l0) (h1 : Byt w a1 l1)
    (n0 : l0.length ≤ 9223372036854775807) (n1 : l1.length ≤ 9223372036854775807) :
    Calls Try.prog 4 #[.slice a0 l0.length c0, .slice a1 l1.length c1] w fun e w' => e = .returned (.bool true) ∧ Below w.heap.size w w' := by
  by_cases s0 : l0.length ≤ 600
  · by_cases s1 : l1.length ≤ 600
    · have q1 := join_eq l0 l1
      have q2 := nil_eq l0
      go_enter Try.func4, Try.ntmps4
      go_wp2_with (first | (go_at_call 8; (with_reducible refine (mk_Short _ _ _ _ (by assumption)).mono ?_); rintro e w' ⟨rfl, rfl⟩) | (at_builtin; refine appB rfl _ _ rfl w.heap.size none 0 0 [] rfl a0 _ _ l0 rfl (Own.nil _ _ _ _) h0 rfl l0.length (by omega) (by omega) (Nat.le_refl _) ?_; intro b1 cap1 w1 own1 g1 bl1; have be1 := bl1 w (Below.refl _ _)) | (at_builtin; refine appB rfl _ _ rfl w.heap.size _ _ _ _ rfl a1 _ _ l1 rfl own1 (h1.below be1 (Nat.le_refl _)) rfl (l0.length + l1.length) (by omega) (by omega) be1.size ?_; intro b2 cap2 w2 own2 g2 bl2; have be2 := bl2 w be1) | (go_at_call 10; (with_reducible refine (crc_Sum _ (l0 ++ l1) _ _ _ own2.byt (by simp) (by simp; omega)).mono ?_); rintro e w' ⟨rfl, rfl⟩) | (go_at_call 10; (with_reducible refine (crc_Sum _ l0 _ _ _ (h0.below be2 (Nat.le_refl _)) rfl (by omega)).mono ?_); rintro e w' ⟨rfl, rfl⟩) | (go_at_call 12; (with_reducible refine (crc_Update _ a1 l1 _ c1 _ (h1.below be2 (Nat.le_refl _)) rfl (by omega)).mono ?_); rintro e w' ⟨rfl, rfl⟩) | (go_at_call 12; (with_reducible refine (crc_Update _ none [] 0 0 _ (Byt.nil _ _) rfl (by simp)).mono ?_); rintro e w' ⟨rfl, rfl⟩) | (go_at_call 9; (with_reducible refine (awake_yes _).mono ?_); rintro e w' ⟨rfl, hb⟩))
      go_ret
      exact ⟨rfl, be2.trans (hb.mono be2.size)⟩
    · go_enter Try.func4, Try.ntmps4
      go_wp2_with (first | (go_at_call 8; (with_reducible refine (mk_Short _ _ _ _ (by assumption)).mono ?_); rintro e w' ⟨rfl, rfl⟩) | (go_at_call 9; (with_reducible refine (awake_yes _).mono ?_); rintro e w' ⟨rfl, hb⟩))
      go_ret
      exact ⟨rfl, hb⟩
  · go_enter Try.func4, Try.ntmps4
    go_wp2_with (first | (go_at_call 8; (with_reducible refine (mk_Short _ _ _ _ (by assumption)).mono ?_); rintro e w' ⟨rfl, rfl⟩) | (go_at_call 9; (with_reducible refine (awake_yes _).mono ?_); rintro e w' ⟨rfl, hb⟩))
    go_ret
    exact ⟨rfl, hb⟩
end Go.Proofs.Ytlnckmnieigbnaa
