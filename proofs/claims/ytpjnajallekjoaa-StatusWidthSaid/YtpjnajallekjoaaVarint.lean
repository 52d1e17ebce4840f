/- layer 2: what the functions of varint compute, by the program's text and by the reference's -/
import Derived.Test.YtpjnajallekjoaaProg
import Derived.Test.YtpjnajallekjoaaVarintLaw
import Derived.Test.YtpjnajallekjoaaApp
namespace Go.Proofs.Ytpjnajallekjoaa
open Go.RowKit
set_option maxRecDepth 20000

theorem ref02_Size (n : Int) (w : World) : Calls Try.prog 62 #[.int .i64 n] w fun e w' => e = .returned (.int .i64 (vSize n)) ∧ w = w' := by
  by_cases h : 0 ≤ n ∧ n ≤ 4294967295
  · obtain ⟨h1, h2⟩ := h
    have HV := Lib.hid (show vSize n = ((vEnc n.toNat).length : Int) by rw [vSize, if_pos ⟨h1, h2⟩])
    have H5 := vEnc_len5 (n := n.toNat) (by omega)
    go_enter Try.func62, Try.ntmps62
    go_wp2
    go_loop [0, 3] (fun m s => ∃ k j : Nat, (k : Int) ≤ 4294967295 ∧ m = .int .i64 k ∧ s = .int .i64 j ∧ j + (vEnc k).length = 1 + (vEnc n.toNat).length) (fun m _ => (intOf m).toNat)
    case atStart => exact ⟨n.toNat, 1, by omega, by rw [Int.toNat_of_nonneg h1], rfl, rfl⟩
    case round =>
      obtain ⟨k, j, hk, rfl, rfl, hj⟩ := hrel
      have hp := vEnc_pos k
      by_cases hlt : 128 ≤ k
      · have hs : (vEnc k).length = (vEnc (k / 128)).length + 1 := by rw [vEnc_ge hlt]; rfl
        have hjl : j ≤ 5 := by omega
        have HJ := Lib.hid hj
        have HS := Lib.hid hs
        clear hj hs hp H5
        go_wp2
        go_round
        case rel => exact ⟨k / 128, j + 1, by omega, by go_num, by go_num, by have := HJ.out; have := HS.out; omega⟩
        case measure => simp [intOf]; omega
      · have he : (vEnc k).length = 1 := by rw [vEnc_lt (by omega)]; rfl
        have HE : Hid (j = (vEnc n.toNat).length) := by show j = _; omega
        clear hj he hp H5
        go_wp2
        go_ret
        exact ⟨ret_int (by rw [HV.out, HE.out]), rfl⟩
  · have HV := Lib.hid (show vSize n = 0 by rw [vSize, if_neg h])
    by_cases h1 : n < 0
    all_goals
      go_enter Try.func62, Try.ntmps62
      go_wp2
      go_ret
      exact ⟨ret_int (by rw [HV.out]), rfl⟩
theorem enc_byte (k : Nat) : bits .or .u8 ((k : Int) % 128) 128 = ((UInt8.ofNat (k % 128 + 128)).toNat : Int) := by
  have hh : ∀ j : Fin 128, bits .or .u8 (j.val : Int) 128 = ((UInt8.ofNat (j.val + 128)).toNat : Int) := by decide +kernel
  have := hh ⟨k % 128, by omega⟩
  simpa using this
theorem last_byte (k : Nat) (h : k < 128) : (k : Int) = ((UInt8.ofNat k).toNat : Int) := by simp; omega
/-- what Encode hands back: the code in memory of its own, or nothing and ErrRange -/
def EncR (n : Int) (w : World) (e : Ending) (w' : World) : Prop :=
  (0 ≤ n ∧ n ≤ 4294967295 ∧ ∃ a L cap, e = .returned (.tuple #[.slice a L cap, .int .i64 0]) ∧ L = (vEnc n.toNat).length ∧ Own w' w.heap.size 5 1 a L cap ((vEnc n.toNat).map encB) ∧ Below w.heap.size w w') ∨
  (¬ (0 ≤ n ∧ n ≤ 4294967295) ∧ e = .returned (.tuple #[.slice none 0 0, .int .i64 8]) ∧ Below w.heap.size w w')

theorem vSize_no {n : Int} (h : ¬ (0 ≤ n ∧ n ≤ 4294967295)) : vSize n = 0 := by rw [vSize, if_neg h]
theorem vSize_yes {n : Int} (h1 : 0 ≤ n) (h2 : n ≤ 4294967295) : vSize n = ((vEnc n.toNat).length : Int) := by rw [vSize, if_pos ⟨h1, h2⟩]
theorem ref_byte (k : Nat) : ((k : Int) % 128 + 128) % 256 = ((UInt8.ofNat (k % 128 + 128)).toNat : Int) := by simp
theorem ref_byte' (k : Nat) : (k : Int) % 128 + 128 = ((UInt8.ofNat (k % 128 + 128)).toNat : Int) := by simp; omega
theorem ref02_Encode (n : Int) (w : World) : Calls Try.prog 50 #[.int .i64 n] w (EncR n w) := by
  by_cases h : 0 ≤ n ∧ n ≤ 4294967295
  · obtain ⟨h1, h2⟩ := h
    have H5 := vEnc_len5 (n := n.toNat) (by omega)
    have hz : (vSize n == 0) = false := by rw [vSize_yes h1 h2, beq_eq_false_iff_ne]; have := vEnc_pos n.toNat; omega
    go_enter Try.func50, Try.ntmps50
    go_wp2_with (first | (go_at_call 62; (with_reducible refine (ref02_Size _ _).mono ?_); rintro e w' ⟨rfl, rfl⟩))
    go_loopw [0, 4] (fun m v wr => ∃ (k : Nat) (l : List UInt8) (b : Option Addr) (N cap : Nat), (k : Int) ≤ 4294967295 ∧ m = .int .i64 k ∧ v = .slice b N cap ∧ Own wr w.heap.size 5 1 b N cap (l.map encB) ∧ Below w.heap.size w wr ∧ N = l.length ∧ l ++ vEnc k = vEnc n.toNat) (fun m _ _ => (intOf m).toNat)
    case atStart => exact ⟨n.toNat, [], none, 0, 0, by omega, by rw [Int.toNat_of_nonneg h1], rfl, Own.nil _ _ _ _, (by repeat (first | (with_reducible refine Below.setCell ?_ ?_ _) | (with_reducible refine Below.alloc ?_ ?_ _) | (with_reducible refine Below.drew ?_) | (with_reducible refine below_drewN ?_ _) | (with_reducible exact Below.refl _ _) | (focus (simp; done)) | (focus (simp; omega)) | (focus omega))), rfl, rfl⟩
    case round =>
      obtain ⟨k, l, b, N, cap, hk, rfl, rfl, own, hbel, hN, hl⟩ := hrel
      have hlen : l.length + (vEnc k).length ≤ 5 := by rw [← hl, List.length_append] at H5; exact H5
      have hN5 : N ≤ 5 := by omega
      have HL := Lib.hid hl
      have HN := Lib.hid hN
      clear hl hlen hN
      by_cases hlt : 128 ≤ k
      · go_wp2_with (first | (at_builtin; refine app1B rfl _ _ rfl w.heap.size _ _ cap l rfl (UInt8.ofNat (k % 128 + 128)) _ rfl own (by first | exact ref_byte k | exact ref_byte' k) (N + 1) rfl (by omega) hbel.size ?_; intro b' cap' w1 own' g1 bl1))
        go_roundw
        case rel => exact ⟨k / 128, l ++ [UInt8.ofNat (k % 128 + 128)], b', N + 1, cap', by omega, by go_num, rfl, own', bl1 w hbel, by simp [HN.out], by rw [List.append_assoc, ← HL.out, vEnc_ge hlt]; rfl⟩
        case measure => simp [intOf]; omega
      · go_wp2_with (first | (at_builtin; refine app1B rfl _ _ rfl w.heap.size _ _ cap l rfl (UInt8.ofNat k) _ rfl own (last_byte k (by omega)) (N + 1) rfl (by omega) hbel.size ?_; intro b' cap' w1 own' g1 bl1))
        go_ret2
        have hfin : l ++ [UInt8.ofNat k] = vEnc n.toNat := by rw [← HL.out, vEnc_lt (by omega)]
        rw [hfin] at own'
        exact .inl ⟨h1, h2, b', N + 1, cap', rfl, by rw [← hfin]; simp [HN.out], own', bl1 w hbel⟩
  · have hz := vSize_no h
    go_enter Try.func50, Try.ntmps50
    go_wp2_with (first | (go_at_call 62; (with_reducible refine (ref02_Size _ _).mono ?_); rintro e w' ⟨rfl, rfl⟩))
    go_ret2
    exact .inr ⟨h, rfl, (by repeat (first | (with_reducible refine Below.setCell ?_ ?_ _) | (with_reducible refine Below.alloc ?_ ?_ _) | (with_reducible refine Below.drew ?_) | (with_reducible refine below_drewN ?_ _) | (with_reducible exact Below.refl _ _) | (focus (simp; done)) | (focus (simp; omega)) | (focus omega)))⟩

theorem and127 (x : UInt8) : bits .and .u8 (x.toNat : Int) 127 = ((x.toNat % 128 : Nat) : Int) := by
  have := x.toNat_lt
  rw [show (127 : Int) = ((127 : Nat) : Int) from rfl, u8_and_nat _ _ (by omega) (by omega)]
  exact congrArg _ (Nat.and_two_pow_sub_one_eq_mod x.toNat 7)
theorem or_add (acc m k : Nat) (h : acc < 128 ^ k) (hb : acc + m * 128 ^ k < 9223372036854775808) : bits .or .i64 (acc : Int) ((m * 128 ^ k : Nat) : Int) = ((acc + m * 128 ^ k : Nat) : Int) := by
  rw [i64_or _ _ (by omega) (by omega)]
  have e : (128 : Nat) ^ k = 2 ^ (7 * k) := by rw [Nat.pow_mul]
  rw [e] at h ⊢
  congr 1
  rw [Nat.mul_comm m, Nat.or_comm, Nat.add_comm]
  exact (Nat.two_pow_add_eq_or_of_lt h m).symm
theorem digit_lt {acc k x : Nat} (h : acc < 128 ^ k) : acc + x % 128 * 128 ^ k < 128 ^ (k + 1) := by
  rw [Nat.pow_succ]
  have : x % 128 * 128 ^ k ≤ 127 * 128 ^ k := Nat.mul_le_mul_right _ (by omega)
  omega
theorem pow_le4 {k : Nat} (h : k ≤ 4) : 128 ^ (k + 1) ≤ 34359738368 := by
  calc 128 ^ (k + 1) ≤ 128 ^ 5 := Nat.pow_le_pow_right (by omega) (by omega)
    _ = 34359738368 := by decide
/-- the arithmetic of a round, in the walk's spelling -/
theorem dec_round {acc k : Nat} (x : UInt8) (h : acc < 128 ^ k) (hk : k ≤ 4) : ∃ M A : Nat, ((x.toNat : Int) % 128 * 2 ^ (7 * k) = (M : Int)) ∧ (M : Int) ≤ 34359738368 ∧ bits .or .i64 (acc : Int) (M : Int) = (A : Int) ∧ Hid (A = acc + x.toNat % 128 * 128 ^ k) ∧ Hid (A < 128 ^ (k + 1)) := by
  have h1 := digit_lt (x := x.toNat) h
  have h2 := pow_le4 hk
  refine ⟨x.toNat % 128 * 128 ^ k, acc + x.toNat % 128 * 128 ^ k, ?_, by omega, or_add _ _ _ h (by omega), rfl, h1⟩
  have e : (2 : Int) ^ (7 * k) = ((128 ^ k : Nat) : Int) := by
    rw [Int.pow_mul]; simp
  rw [e]; simp

/-- what Decode hands back -/
def decV (l : List UInt8) : Value := match vDec l with
  | some (v, k) => .tuple #[.int .i64 v, .int .i64 k, .int .i64 0]
  | none => .tuple #[.int .i64 0, .int .i64 0, .int .i64 6]
theorem decV_some {l : List UInt8} {v k : Nat} (h : vDec l = some (v, k)) : decV l = .tuple #[.int .i64 v, .int .i64 k, .int .i64 0] := by rw [decV, h]
theorem decV_none {l : List UInt8} (h : vDec l = none) : decV l = .tuple #[.int .i64 0, .int .i64 0, .int .i64 6] := by rw [decV, h]

end Go.Proofs.Ytpjnajallekjoaa
