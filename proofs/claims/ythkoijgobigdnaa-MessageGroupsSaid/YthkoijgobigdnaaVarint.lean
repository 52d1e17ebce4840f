/- layer 2: what the functions of varint compute, by the program's text and by the reference's -/
import Derived.Test.YthkoijgobigdnaaProg
import Derived.Test.YthkoijgobigdnaaVarintLaw
import Derived.Test.YthkoijgobigdnaaApp
namespace Go.Proofs.Ythkoijgobigdnaa
open Go.RowKit
set_option maxRecDepth 20000

theorem ref02_Size (n : Int) (w : World) : Calls Try.prog 46 #[.int .i64 n] w fun e w' => e = .returned (.int .i64 (vSize n)) ∧ w = w' := by
  by_cases h : 0 ≤ n ∧ n ≤ 4294967295
  · obtain ⟨h1, h2⟩ := h
    have HV := Lib.hid (show vSize n = ((vEnc n.toNat).length : Int) by rw [vSize, if_pos ⟨h1, h2⟩])
    have H5 := vEnc_len5 (n := n.toNat) (by omega)
    go_enter Try.func46, Try.ntmps46
    go_wp2
    go_loop [0, 3] (fun m s => ∃ k j : Nat, (k : Int) ≤ 4294967295 ∧ m = .int .i64 k ∧ s = .int .i64 j ∧ j + (vEnc k).length = 1 + (vEnc n.toNat).length) (fun m _ => (intOf m).toNat)
    case atStart => exact ⟨n.toNat, 1, by omega, by rw [Int.toNat_of_nonneg h1], rfl, rfl⟩
    case round =>
      obtain ⟨k, j, hk, rfl, rfl, hj⟩ := hrel
      have hp := vEnc_pos k
      by_cases hlt : 128 ≤ k
      · have hs : (vEnc k).length = (vEnc (k / 128)).length + 1 := by rw [vEnc_ge hlt]; rfl
        have hjl : j ≤ 5 := by omega
        have HJ := Lib.hid hj
        have HS := Lib.hid hs
        clear hj hs hp H5
        go_wp2
        go_round
        case rel => exact ⟨k / 128, j + 1, by omega, by go_num, by go_num, by have := HJ.out; have := HS.out; omega⟩
        case measure => simp [intOf]; omega
      · have he : (vEnc k).length = 1 := by rw [vEnc_lt (by omega)]; rfl
        have HE : Hid (j = (vEnc n.toNat).length) := by show j = _; omega
        clear hj he hp H5
        go_wp2
        go_ret
        exact ⟨ret_int (by rw [HV.out, HE.out]), rfl⟩
  · have HV := Lib.hid (show vSize n = 0 by rw [vSize, if_neg h])
    by_cases h1 : n < 0
    all_goals
      go_enter Try.func46, Try.ntmps46
      go_wp2
      go_ret
      exact ⟨ret_int (by rw [HV.out]), rfl⟩
theorem enc_byte (k : Nat) : bits .or .u8 ((k : Int) % 128) 128 = ((UInt8.ofNat (k % 128 + 128)).toNat : Int) := by
  have hh : ∀ j : Fin 128, bits .or .u8 (j.val : Int) 128 = ((UInt8.ofNat (j.val + 128)).toNat : Int) := by decide +kernel
  have := hh ⟨k % 128, by omega⟩
  simpa using this
theorem last_byte (k : Nat) (h : k < 128) : (k : Int) = ((UInt8.ofNat k).toNat : Int) := by simp; omega
/-- what Encode hands back: the code in memory of its own, or nothing and ErrRange -/
def EncR (n : Int) (w : World) (e : Ending) (w' : World) : Prop :=
  (0 ≤ n ∧ n ≤ 4294967295 ∧ ∃ a L cap, e = .returned (.tuple #[.slice a L cap, .int .i64 0]) ∧ L = (vEnc n.toNat).length ∧ Own w' w.heap.size 5 1 a L cap ((vEnc n.toNat).map encB) ∧ Below w.heap.size w w') ∨
  (¬ (0 ≤ n ∧ n ≤ 4294967295) ∧ e = .returned (.tuple #[.slice none 0 0, .int .i64 8]) ∧ Below w.heap.size w w')

theorem varint_Encode (n : Int) (w : World) : Calls Try.prog 37 #[.int .i64 n] w (EncR n w) := by
  by_cases h : 0 ≤ n ∧ n ≤ 4294967295
  · obtain ⟨h1, h2⟩ := h
    have H5 := vEnc_len5 (n := n.toNat) (by omega)
    have hmk : ∀ w : World, (Instr.makeSlice 22 (.int .i64 0) (.int .i64 5)).run Try.prog w = .ok (.slice (some ⟨w.heap.size, 0, none⟩) 0 5) (w.alloc (.cells #[.int .u8 0, .int .u8 0, .int .u8 0, .int .u8 0, .int .u8 0] 5)) := fun _ => by kernel_rfl
    go_enter Try.func37, Try.ntmps37
    go_wp2
    go_loopw [0, 4] (fun m v wr => ∃ (k : Nat) (l : List UInt8) (b : Option Addr) (N cap : Nat), (k : Int) ≤ 4294967295 ∧ m = .int .i64 k ∧ v = .slice b N cap ∧ Own wr w.heap.size 5 1 b N cap (l.map encB) ∧ Below w.heap.size w wr ∧ N = l.length ∧ l ++ vEnc k = vEnc n.toNat) (fun m _ _ => (intOf m).toNat)
    case atStart => exact ⟨n.toNat, [], _, 0, 5, by omega, by rw [Int.toNat_of_nonneg h1], rfl, own_made w _ _ 1 5 rfl (by decide), (by repeat (first | (with_reducible refine Below.setCell ?_ ?_ _) | (with_reducible refine Below.alloc ?_ ?_ _) | (with_reducible refine Below.drew ?_) | (with_reducible refine below_drewN ?_ _) | (with_reducible exact Below.refl _ _) | (focus (simp; done)) | (focus (simp; omega)) | (focus omega))), rfl, rfl⟩
    case round =>
      obtain ⟨k, l, b, N, cap, hk, rfl, rfl, own, hbel, hN, hl⟩ := hrel
      have hlen : l.length + (vEnc k).length ≤ 5 := by rw [← hl, List.length_append] at H5; exact H5
      have hN5 : N ≤ 5 := by omega
      have HL := Lib.hid hl
      have HN := Lib.hid hN
      clear hl hlen hN
      by_cases hlt : 128 ≤ k
      · have ha : bits .and .i64 (k : Int) 127 = ((k % 128 : Nat) : Int) := by
          rw [show (127 : Int) = ((127 : Nat) : Int) from rfl, i64_and k 127 (by omega) (by omega)]
          exact congrArg _ (Nat.and_two_pow_sub_one_eq_mod k 7)
        go_wp2_with (first | (at_builtin; refine app1B rfl _ _ rfl w.heap.size _ _ cap l rfl (UInt8.ofNat (k % 128 + 128)) _ rfl own (enc_byte k) (N + 1) rfl (by omega) hbel.size ?_; intro b' cap' w1 own' g1 bl1))
        go_roundw
        case rel => exact ⟨k / 128, l ++ [UInt8.ofNat (k % 128 + 128)], b', N + 1, cap', by omega, by go_num, rfl, own', bl1 w hbel, by simp [HN.out], by rw [List.append_assoc, ← HL.out, vEnc_ge hlt]; rfl⟩
        case measure => simp [intOf]; omega
      · go_wp2_with (first | (at_builtin; refine app1B rfl _ _ rfl w.heap.size _ _ cap l rfl (UInt8.ofNat k) _ rfl own (last_byte k (by omega)) (N + 1) rfl (by omega) hbel.size ?_; intro b' cap' w1 own' g1 bl1))
        go_ret2
        have hfin : l ++ [UInt8.ofNat k] = vEnc n.toNat := by rw [← HL.out, vEnc_lt (by omega)]
        rw [hfin] at own'
        exact .inl ⟨h1, h2, b', N + 1, cap', rfl, by rw [← hfin]; simp [HN.out], own', bl1 w hbel⟩
  · by_cases h1 : n < 0
    all_goals
      go_enter Try.func37, Try.ntmps37
      go_wp2
      go_ret2
      exact .inr ⟨h, rfl, (by repeat (first | (with_reducible refine Below.setCell ?_ ?_ _) | (with_reducible refine Below.alloc ?_ ?_ _) | (with_reducible refine Below.drew ?_) | (with_reducible refine below_drewN ?_ _) | (with_reducible exact Below.refl _ _) | (focus (simp; done)) | (focus (simp; omega)) | (focus omega)))⟩
theorem vSize_no {n : Int} (h : ¬ (0 ≤ n ∧ n ≤ 4294967295)) : vSize n = 0 := by rw [vSize, if_neg h]
theorem vSize_yes {n : Int} (h1 : 0 ≤ n) (h2 : n ≤ 4294967295) : vSize n = ((vEnc n.toNat).length : Int) := by rw [vSize, if_pos ⟨h1, h2⟩]
theorem ref_byte (k : Nat) : ((k : Int) % 128 + 128) % 256 = ((UInt8.ofNat (k % 128 + 128)).toNat : Int) := by simp
theorem ref_byte' (k : Nat) : (k : Int) % 128 + 128 = ((UInt8.ofNat (k % 128 + 128)).toNat : Int) := by simp; omega
theorem ref02_Encode (n : Int) (w : World) : Calls Try.prog 40 #[.int .i64 n] w (EncR n w) := by
  by_cases h : 0 ≤ n ∧ n ≤ 4294967295
  · obtain ⟨h1, h2⟩ := h
    have H5 := vEnc_len5 (n := n.toNat) (by omega)
    have hz : (vSize n == 0) = false := by rw [vSize_yes h1 h2, beq_eq_false_iff_ne]; have := vEnc_pos n.toNat; omega
    go_enter Try.func40, Try.ntmps40
    go_wp2_with (first | (go_at_call 46; (with_reducible refine (ref02_Size _ _).mono ?_); rintro e w' ⟨rfl, rfl⟩))
    go_loopw [0, 4] (fun m v wr => ∃ (k : Nat) (l : List UInt8) (b : Option Addr) (N cap : Nat), (k : Int) ≤ 4294967295 ∧ m = .int .i64 k ∧ v = .slice b N cap ∧ Own wr w.heap.size 5 1 b N cap (l.map encB) ∧ Below w.heap.size w wr ∧ N = l.length ∧ l ++ vEnc k = vEnc n.toNat) (fun m _ _ => (intOf m).toNat)
    case atStart => exact ⟨n.toNat, [], none, 0, 0, by omega, by rw [Int.toNat_of_nonneg h1], rfl, Own.nil _ _ _ _, (by repeat (first | (with_reducible refine Below.setCell ?_ ?_ _) | (with_reducible refine Below.alloc ?_ ?_ _) | (with_reducible refine Below.drew ?_) | (with_reducible refine below_drewN ?_ _) | (with_reducible exact Below.refl _ _) | (focus (simp; done)) | (focus (simp; omega)) | (focus omega))), rfl, rfl⟩
    case round =>
      obtain ⟨k, l, b, N, cap, hk, rfl, rfl, own, hbel, hN, hl⟩ := hrel
      have hlen : l.length + (vEnc k).length ≤ 5 := by rw [← hl, List.length_append] at H5; exact H5
      have hN5 : N ≤ 5 := by omega
      have HL := Lib.hid hl
      have HN := Lib.hid hN
      clear hl hlen hN
      by_cases hlt : 128 ≤ k
      · go_wp2_with (first | (at_builtin; refine app1B rfl _ _ rfl w.heap.size _ _ cap l rfl (UInt8.ofNat (k % 128 + 128)) _ rfl own (by first | exact ref_byte k | exact ref_byte' k) (N + 1) rfl (by omega) hbel.size ?_; intro b' cap' w1 own' g1 bl1))
        go_roundw
        case rel => exact ⟨k / 128, l ++ [UInt8.ofNat (k % 128 + 128)], b', N + 1, cap', by omega, by go_num, rfl, own', bl1 w hbel, by simp [HN.out], by rw [List.append_assoc, ← HL.out, vEnc_ge hlt]; rfl⟩
        case measure => simp [intOf]; omega
      · go_wp2_with (first | (at_builtin; refine app1B rfl _ _ rfl w.heap.size _ _ cap l rfl (UInt8.ofNat k) _ rfl own (last_byte k (by omega)) (N + 1) rfl (by omega) hbel.size ?_; intro b' cap' w1 own' g1 bl1))
        go_ret2
        have hfin : l ++ [UInt8.ofNat k] = vEnc n.toNat := by rw [← HL.out, vEnc_lt (by omega)]
        rw [hfin] at own'
        exact .inl ⟨h1, h2, b', N + 1, cap', rfl, by rw [← hfin]; simp [HN.out], own', bl1 w hbel⟩
  · have hz := vSize_no h
    go_enter Try.func40, Try.ntmps40
    go_wp2_with (first | (go_at_call 46; (with_reducible refine (ref02_Size _ _).mono ?_); rintro e w' ⟨rfl, rfl⟩))
    go_ret2
    exact .inr ⟨h, rfl, (by repeat (first | (with_reducible refine Below.setCell ?_ ?_ _) | (with_reducible refine Below.alloc ?_ ?_ _) | (with_reducible refine Below.drew ?_) | (with_reducible refine below_drewN ?_ _) | (with_reducible exact Below.refl _ _) | (focus (simp; done)) | (focus (simp; omega)) | (focus omega)))⟩

theorem and127 (x : UInt8) : bits .and .u8 (x.toNat : Int) 127 = ((x.toNat % 128 : Nat) : Int) := by
  have := x.toNat_lt
  rw [show (127 : Int) = ((127 : Nat) : Int) from rfl, u8_and_nat _ _ (by omega) (by omega)]
  exact congrArg _ (Nat.and_two_pow_sub_one_eq_mod x.toNat 7)
theorem or_add (acc m k : Nat) (h : acc < 128 ^ k) (hb : acc + m * 128 ^ k < 9223372036854775808) : bits .or .i64 (acc : Int) ((m * 128 ^ k : Nat) : Int) = ((acc + m * 128 ^ k : Nat) : Int) := by
  rw [i64_or _ _ (by omega) (by omega)]
  have e : (128 : Nat) ^ k = 2 ^ (7 * k) := by rw [Nat.pow_mul]
  rw [e] at h ⊢
  congr 1
  rw [Nat.mul_comm m, Nat.or_comm, Nat.add_comm]
  exact (Nat.two_pow_add_eq_or_of_lt h m).symm
theorem digit_lt {acc k x : Nat} (h : acc < 128 ^ k) : acc + x % 128 * 128 ^ k < 128 ^ (k + 1) := by
  rw [Nat.pow_succ]
  have : x % 128 * 128 ^ k ≤ 127 * 128 ^ k := Nat.mul_le_mul_right _ (by omega)
  omega
theorem pow_le4 {k : Nat} (h : k ≤ 4) : 128 ^ (k + 1) ≤ 34359738368 := by
  calc 128 ^ (k + 1) ≤ 128 ^ 5 := Nat.pow_le_pow_right (by omega) (by omega)
    _ = 34359738368 := by decide
/-- the arithmetic of a round, in the walk's spelling -/
theorem dec_round {acc k : Nat} (x : UInt8) (h : acc < 128 ^ k) (hk : k ≤ 4) : ∃ M A : Nat, ((x.toNat : Int) % 128 * 2 ^ (7 * k) = (M : Int)) ∧ (M : Int) ≤ 34359738368 ∧ bits .or .i64 (acc : Int) (M : Int) = (A : Int) ∧ Hid (A = acc + x.toNat % 128 * 128 ^ k) ∧ Hid (A < 128 ^ (k + 1)) := by
  have h1 := digit_lt (x := x.toNat) h
  have h2 := pow_le4 hk
  refine ⟨x.toNat % 128 * 128 ^ k, acc + x.toNat % 128 * 128 ^ k, ?_, by omega, or_add _ _ _ h (by omega), rfl, h1⟩
  have e : (2 : Int) ^ (7 * k) = ((128 ^ k : Nat) : Int) := by
    rw [Int.pow_mul]; simp
  rw [e]; simp

/-- what Decode hands back -/
def decV (l : List UInt8) : Value := match vDec l with
  | some (v, k) => .tuple #[.int .i64 v, .int .i64 k, .int .i64 0]
  | none => .tuple #[.int .i64 0, .int .i64 0, .int .i64 6]
theorem decV_some {l : List UInt8} {v k : Nat} (h : vDec l = some (v, k)) : decV l = .tuple #[.int .i64 v, .int .i64 k, .int .i64 0] := by rw [decV, h]
theorem decV_none {l : List UInt8} (h : vDec l = none) : decV l = .tuple #[.int .i64 0, .int .i64 0, .int .i64 6] := by rw [decV, h]

theorem varint_Decode (a : Option Addr) (l : List UInt8) (n cap : Nat) (w : World) (hb : Byt w a l) (hn : n = l.length) (hl : l.length ≤ 9223372036854775807) :
    Calls Try.prog 41 #[.slice a n cap] w fun e w' => e = .returned (decV l) ∧ w = w' := by
  subst hn
  go_enter Try.func41, Try.ntmps41
  go_wp2
  go_loop [5, 10] (fun s i => ∃ k acc : Nat, k ≤ l.length ∧ k ≤ 5 ∧ i = .int .i64 k ∧ s = .int .i64 acc ∧ acc < 128 ^ k ∧ vGo (l.drop k) k acc = vDec l) (fun _ i => 6 - (intOf i).toNat)
  case atStart => exact ⟨0, 0, by omega, by omega, rfl, rfl, by simp, rfl⟩
  case round =>
    obtain ⟨k, acc, hk, hk5, rfl, rfl, hacc, hv⟩ := hrel
    have HV := Lib.hid hv
    have HA := Lib.hid hacc
    clear hv hacc
    by_cases hlt : k < l.length
    · rcases hb.open with rfl | ⟨b, off, rfl, hbl, hc⟩
      · simp at hlt
      have hc0 := hc k hlt
      clear hc
      obtain ⟨x, hx⟩ : ∃ x : UInt8, l[k] = x := ⟨_, rfl⟩
      rw [hx] at hc0
      have HD := Lib.hid (show l.drop k = x :: l.drop (k + 1) by rw [← hx]; exact List.drop_eq_getElem_cons hlt)
      clear hx
      have hx1 : (x.toNat : Int) < 256 := by have := x.toNat_lt; omega
      by_cases h5 : k = 5
      · have h5' : ((k : Int) == 5) = true := by rw [beq_iff_eq]; omega
        have HF := Lib.hid (decV_none (l := l) (by rw [← HV.out, h5, vGo_five]))
        clear h5
        go_wp2
        refine bodyPost_ret (v := .tuple #[.int .i64 0, .int .i64 0, .int .i64 6]) (by simp [results, Try.results41, go_sem]) rfl ⟨by rw [HF.out], rfl⟩
      · have h5' : ((k : Int) == 5) = false := by rw [beq_eq_false_iff_ne]; omega
        have hk4 : k ≤ 4 := by omega
        obtain ⟨M, A, fm, hM, fo, HA1, HA2⟩ := dec_round x HA.out hk4
        have fa := and127 x
        by_cases c1 : 128 ≤ (x.toNat : Int)
        · go_wp2
          go_round
          case rel => exact ⟨k + 1, A, by omega, by omega, by go_num, rfl, HA2.out, by rw [← HV.out, HD.out, vGo_step h5 (by omega), ← HA1.out]⟩
          case measure => simp [intOf]; omega
        · have hxm : x.toNat % 128 = x.toNat := by omega
          by_cases c2 : 4294967295 < (A : Int)
          · have HF := Lib.hid (decV_none (l := l) (by rw [← HV.out, HD.out, vGo_bad (by omega) (.inl (by have := HA1.out; rw [hxm] at this; omega))]))
            clear hxm
            go_wp2
            refine bodyPost_ret (v := .tuple #[.int .i64 0, .int .i64 0, .int .i64 6]) (by simp [results, Try.results41, go_sem]) rfl ⟨by rw [HF.out], rfl⟩
          · by_cases c3 : 0 < k
            · by_cases c4 : x.toNat = 0
              · have c4' : ((x.toNat : Int) == 0) = true := by rw [beq_iff_eq]; omega
                have HF := Lib.hid (decV_none (l := l) (by rw [← HV.out, HD.out, vGo_bad (by omega) (.inr ⟨c3, c4⟩)]))
                clear hxm c4
                go_wp2
                refine bodyPost_ret (v := .tuple #[.int .i64 0, .int .i64 0, .int .i64 6]) (by simp [results, Try.results41, go_sem]) rfl ⟨by rw [HF.out], rfl⟩
              · have c4' : ((x.toNat : Int) == 0) = false := by rw [beq_eq_false_iff_ne]; omega
                have HF := Lib.hid (decV_some (l := l) (v := A) (k := k + 1) (by rw [← HV.out, HD.out, HA1.out, hxm, vGo_end h5 (by omega) (by have := HA1.out; rw [hxm] at this; omega)]))
                clear hxm c4
                go_wp2
                refine bodyPost_ret (v := .tuple #[.int .i64 A, .int .i64 (k + 1), .int .i64 0]) (by simp [results, Try.results41, go_sem]) rfl ⟨by rw [HF.out]; rfl, rfl⟩
            · have HF := Lib.hid (decV_some (l := l) (v := A) (k := k + 1) (by rw [← HV.out, HD.out, HA1.out, hxm, vGo_end h5 (by omega) (by have := HA1.out; rw [hxm] at this; omega)]))
              clear hxm
              go_wp2
              refine bodyPost_ret (v := .tuple #[.int .i64 A, .int .i64 (k + 1), .int .i64 0]) (by simp [results, Try.results41, go_sem]) rfl ⟨by rw [HF.out]; rfl, rfl⟩
    · have HF := Lib.hid (decV_none (l := l) (by rw [← HV.out, List.drop_eq_nil_of_le (by omega), vGo]))
      go_wp2
      refine bodyPost_ret (v := .tuple #[.int .i64 0, .int .i64 0, .int .i64 6]) (by simp [results, Try.results41, go_sem]) rfl ⟨by rw [HF.out], rfl⟩
theorem ref_round {acc k P : Nat} (x : UInt8) (hP : P = 128 ^ k) (h : acc < 128 ^ k) (hk : k ≤ 4) : ∃ M : Nat, ((x.toNat : Int) % 128 * (P : Int) = (M : Int)) ∧ (acc : Int) + M ≤ 34359738368 ∧ Hid (acc + M = acc + x.toNat % 128 * 128 ^ k) ∧ Hid (acc + M < 128 ^ (k + 1)) := by
  have h1 := digit_lt (x := x.toNat) h
  have h2 := pow_le4 hk
  subst hP
  exact ⟨x.toNat % 128 * 128 ^ k, by simp, by omega, rfl, h1⟩
theorem ref_size_good {acc k : Nat} {x : UInt8} (h : acc < 128 ^ k) (hx : x.toNat < 128) (hb : ¬ (4294967295 < acc + x.toNat * 128 ^ k ∨ (0 < k ∧ x.toNat = 0))) : vSize ((acc + x.toNat * 128 ^ k : Nat) : Int) = (k : Int) + 1 := by
  rw [vSize_yes (by omega) (by omega), Int.toNat_natCast, vEnc_size k acc x.toNat h hx (by omega)]
  rfl
theorem ref_size_bad {acc k : Nat} {x : UInt8} (h : acc < 128 ^ k) (hb : 4294967295 < acc + x.toNat * 128 ^ k ∨ (0 < k ∧ x.toNat = 0)) : vSize ((acc + x.toNat * 128 ^ k : Nat) : Int) ≠ (k : Int) + 1 := by
  by_cases h1 : 4294967295 < acc + x.toNat * 128 ^ k
  · rw [vSize_no (by omega)]; omega
  · obtain ⟨h2, h3⟩ := hb.resolve_left h1
    rw [vSize_yes (by omega) (by omega), Int.toNat_natCast, h3]
    have := vEnc_short k acc h2 h
    simp
    omega
theorem ref02_Decode (a : Option Addr) (l : List UInt8) (n cap : Nat) (w : World) (hb : Byt w a l) (hn : n = l.length) (hl : l.length ≤ 9223372036854775807) :
    Calls Try.prog 42 #[.slice a n cap] w fun e w' => e = .returned (decV l) ∧ w = w' := by
  subst hn
  go_enter Try.func42, Try.ntmps42
  go_wp2
  go_loop [5, 6, 7] (fun s q i => ∃ k acc P : Nat, k ≤ l.length ∧ k ≤ 5 ∧ i = .int .i64 k ∧ s = .int .i64 acc ∧ q = .int .i64 P ∧ P = 128 ^ k ∧ (P : Int) ≤ 34359738368 ∧ acc < 128 ^ k ∧ vGo (l.drop k) k acc = vDec l) (fun _ _ i => 6 - (intOf i).toNat)
  case atStart => exact ⟨0, 0, 1, by omega, by omega, rfl, rfl, rfl, rfl, by omega, by simp, rfl⟩
  case round =>
    obtain ⟨k, acc, P, hk, hk5, rfl, rfl, rfl, hP, hPb, hacc, hv⟩ := hrel
    have HV := Lib.hid hv
    have HA := Lib.hid hacc
    have HP := Lib.hid hP
    clear hv hacc hP
    by_cases hlt : k < l.length
    · by_cases h5 : k < 5
      · rcases hb.open with rfl | ⟨b, off, rfl, hbl, hc⟩
        · simp at hlt
        have hc0 := hc k hlt
        clear hc
        obtain ⟨x, hx⟩ : ∃ x : UInt8, l[k] = x := ⟨_, rfl⟩
        rw [hx] at hc0
        have HD := Lib.hid (show l.drop k = x :: l.drop (k + 1) by rw [← hx]; exact List.drop_eq_getElem_cons hlt)
        clear hx
        have hx1 : (x.toNat : Int) < 256 := by have := x.toNat_lt; omega
        obtain ⟨M, fm, hM, HA1, HA2⟩ := ref_round x HP.out HA.out (by omega)
        have hPb2 : (P : Int) ≤ 268435456 := by
          have : 128 ^ k ≤ 128 ^ 4 := Nat.pow_le_pow_right (by omega) (by omega)
          rw [← HP.out] at this
          simp at this
          omega
        clear hPb
        by_cases c1 : 128 ≤ (x.toNat : Int)
        · go_wp2_with (first | (go_at_call 46; (with_reducible refine (ref02_Size _ _).mono ?_); rintro e w' ⟨rfl, rfl⟩))
          go_round
          case rel => exact ⟨k + 1, acc + M, P * 128, by omega, by omega, by go_num, by go_num, by go_num, by rw [HP.out, Nat.pow_succ], by omega, HA2.out, by rw [← HV.out, HD.out, vGo_step (by omega) (by omega), ← HA1.out]⟩
          case measure => simp [intOf]; omega
        · have hxm : x.toNat % 128 = x.toNat := by omega
          have hA1 := HA1.out
          rw [hxm] at hA1
          have hcast : (acc : Int) + M = ((acc + x.toNat * 128 ^ k : Nat) : Int) := by rw [← hA1]; simp
          by_cases c2 : 4294967295 < acc + x.toNat * 128 ^ k ∨ (0 < k ∧ x.toNat = 0)
          · have HF := Lib.hid (decV_none (l := l) (by rw [← HV.out, HD.out, vGo_bad (by omega) c2]))
            have hs : (vSize ((acc : Int) + M) != (k : Int) + 1) = true := by rw [hcast, bne_iff_ne]; exact ref_size_bad HA.out c2
            clear hxm hA1 hcast c2
            go_wp2_with (first | (go_at_call 46; (with_reducible refine (ref02_Size _ _).mono ?_); rintro e w' ⟨rfl, rfl⟩))
            refine bodyPost_ret (v := .tuple #[.int .i64 0, .int .i64 0, .int .i64 6]) (by simp [results, Try.results42, go_sem]) rfl ⟨by rw [HF.out], rfl⟩
          · have HF := Lib.hid (decV_some (l := l) (v := acc + M) (k := k + 1) (by rw [← HV.out, HD.out, vGo_end (by omega) (by omega) c2, hA1]))
            have hs : (vSize ((acc : Int) + M) != (k : Int) + 1) = false := by rw [hcast, ref_size_good HA.out (by omega) c2]; simp
            clear hxm hA1 hcast c2
            go_wp2_with (first | (go_at_call 46; (with_reducible refine (ref02_Size _ _).mono ?_); rintro e w' ⟨rfl, rfl⟩))
            refine bodyPost_ret (v := .tuple #[.int .i64 (acc + M), .int .i64 (k + 1), .int .i64 0]) (by simp [results, Try.results42, go_sem]) rfl ⟨by rw [HF.out]; simp, rfl⟩
      · have HF := Lib.hid (decV_none (l := l) (by rw [← HV.out, show k = 5 by omega, vGo_five]))
        go_wp2
        refine bodyPost_ret (v := .tuple #[.int .i64 0, .int .i64 0, .int .i64 6]) (by simp [results, Try.results42, go_sem]) rfl ⟨by rw [HF.out], rfl⟩
    · have HF := Lib.hid (decV_none (l := l) (by rw [← HV.out, List.drop_eq_nil_of_le (by omega), vGo]))
      go_wp2
      refine bodyPost_ret (v := .tuple #[.int .i64 0, .int .i64 0, .int .i64 6]) (by simp [results, Try.results42, go_sem]) rfl ⟨by rw [HF.out], rfl⟩
end Go.Proofs.Ythkoijgobigdnaa
