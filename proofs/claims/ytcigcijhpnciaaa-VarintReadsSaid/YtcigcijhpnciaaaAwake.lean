import Derived.Test.YtcigcijhpnciaaaVarint
import Derived.Test.YtcigcijhpnciaaaStr
import Derived.Test.YtcigcijhpnciaaaMk
namespace Go.Proofs.Ytcigcijhpnciaaa
open Go.RowKit
set_option maxRecDepth 20000

theorem varint_Encode_yes (n : Int) (c : List UInt8) (w : World) (h1 : 0 ≤ n) (h2 : n ≤ 4294967295) (hc : vEnc n.toNat = c) : Calls Try.prog 9 #[.int .i64 n] w fun e w' => ∃ a cap, e = .returned (.tuple #[.slice a c.length cap, .int .i64 0]) ∧ Own w' w.heap.size 5 1 a c.length cap (c.map encB) ∧ Below w.heap.size w w' := by
  refine (varint_Encode n w).mono fun e w' h => ?_
  subst hc
  rcases h with ⟨_, _, a, L, cap, he, rfl, ho, hb⟩ | ⟨h, _⟩
  · exact ⟨a, cap, he, ho, hb⟩
  · omega
theorem varint_Encode_no (n : Int) (w : World) (h : ¬ (0 ≤ n ∧ n ≤ 4294967295)) : Calls Try.prog 9 #[.int .i64 n] w fun e w' => e = .returned (.tuple #[.slice none 0 0, .int .i64 8]) ∧ Below w.heap.size w w' := by
  refine (varint_Encode n w).mono fun e w' h' => ?_
  rcases h' with ⟨h1, h2, _⟩ | ⟨_, he, hb⟩
  · omega
  · exact ⟨he, hb⟩
theorem ref02_Encode_yes (n : Int) (c : List UInt8) (w : World) (h1 : 0 ≤ n) (h2 : n ≤ 4294967295) (hc : vEnc n.toNat = c) : Calls Try.prog 10 #[.int .i64 n] w fun e w' => ∃ a cap, e = .returned (.tuple #[.slice a c.length cap, .int .i64 0]) ∧ Own w' w.heap.size 5 1 a c.length cap (c.map encB) ∧ Below w.heap.size w w' := by
  refine (ref02_Encode n w).mono fun e w' h => ?_
  subst hc
  rcases h with ⟨_, _, a, L, cap, he, rfl, ho, hb⟩ | ⟨h, _⟩
  · exact ⟨a, cap, he, ho, hb⟩
  · omega
theorem ref02_Encode_no (n : Int) (w : World) (h : ¬ (0 ≤ n ∧ n ≤ 4294967295)) : Calls Try.prog 10 #[.int .i64 n] w fun e w' => e = .returned (.tuple #[.slice none 0 0, .int .i64 8]) ∧ Below w.heap.size w w' := by
  refine (ref02_Encode n w).mono fun e w' h' => ?_
  rcases h' with ⟨h1, h2, _⟩ | ⟨_, he, hb⟩
  · omega
  · exact ⟨he, hb⟩

theorem awake_yes (w : World) : Calls Try.prog 13 #[] w fun e w' => e = .returned (.bool true) ∧ Below w.heap.size w w' := by
  have e300 : vEnc (300 : Int).toNat = [172, 2] := by rw [show (300 : Int).toNat = 300 from rfl, vEnc_ge (by omega), vEnc_lt (by omega)]; rfl
  have q2 : decV [128, 0] = .tuple #[.int .i64 0, .int .i64 0, .int .i64 6] := decV_none (by decide +kernel)
  have q3 : vSize 127 = 1 := by rw [vSize, if_pos (by omega), show (127 : Int).toNat = 127 from rfl, vEnc_lt (by omega)]; rfl
  have hbd : ∀ w : World, Byt (w.alloc (.cells #[.int .u8 128, .int .u8 0] 5)) (some ⟨w.heap.size, 0, none⟩) [128, 0] := fun w => byt_new rfl
  have HE := Lib.hid e300
  clear e300
  go_enter Try.func13, Try.ntmps13
  go_wp2_with (first | (go_at_call 9; (with_reducible refine (varint_Encode_yes 300 [172, 2] _ (by omega) (by omega) HE.out).mono ?_); rintro e w1 ⟨a, cap, rfl, own, hb⟩) | (go_at_call 16; (with_reducible refine (varint_Decode _ [128, 0] 2 _ _ (hbd _) (by decide) (by decide)).mono ?_); rintro e w2 ⟨rfl, rfl⟩; (rw [q2]; have kc := conv_str (cap := cap) (own.byt.alloc (.cells #[.int .u8 128, .int .u8 0] 5)) (n := 2) rfl)) | (go_at_call 11; (with_reducible refine (varint_Size _ _).mono ?_); rintro e w' ⟨rfl, rfl⟩))

  go_ret
  exact ⟨ret_bool rfl, (by repeat (first | (with_reducible refine Below.setCell ?_ ?_ _) | (with_reducible refine Below.alloc ?_ ?_ _) | (with_reducible refine Below.drew ?_) | (with_reducible refine below_drewN ?_ _) | (with_reducible exact Below.refl _ _) | (with_reducible refine Below.trans ?_ (Below.mono hb ?_)) | (focus (simp; done)) | (focus (simp; omega)) | (focus omega) | (focus (have q0 := Below.size hb; (try simp at q0); (try simp); omega))))⟩
end Go.Proofs.Ytcigcijhpnciaaa
