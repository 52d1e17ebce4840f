import Derived.Test.YtlfccoakodnbaaaProg
import Derived.Test.YtlfccoakodnbaaaLib
namespace Go.Proofs.Ytlfccoakodnbaaa
open Go.RowKit

/-- one bit of the register's way -/
def crcBit (r : Int) : Int := if (bits .and .u32 r 1 == 1) = true then bits .xor .u32 (r / 2) 3988292384 else r / 2
def crcBits : Nat → Int → Int
  | 0, r => r
  | k + 1, r => crcBits k (crcBit r)
def crcLoop : Int → List UInt8 → Int
  | r, [] => r
  | r, x :: l => crcLoop (crcBits 8 (bits .xor .u32 r x.toNat)) l
def crcUpd (s : Int) (l : List UInt8) : Int := bits .xor .u32 4294967295 (crcLoop (bits .xor .u32 4294967295 s) l)

theorem crcBits_yes {j : Nat} {r : Int} (hj : j < 8) (h : (bits .and .u32 r 1 == 1) = true) : crcBits (8 - (j + 1)) (bits .xor .u32 (r / 2) 3988292384) = crcBits (8 - j) r := by
  rw [show 8 - j = 8 - (j + 1) + 1 by omega, crcBits, crcBit, if_pos h]
theorem crcBits_no {j : Nat} {r : Int} (hj : j < 8) (h : (bits .and .u32 r 1 == 1) = false) : crcBits (8 - (j + 1)) (r / 2) = crcBits (8 - j) r := by
  rw [show 8 - j = 8 - (j + 1) + 1 by omega, crcBits, crcBit, if_neg (by simp [h])]

theorem crc_Update (s : Int) (a : Option Addr) (l : List UInt8) (n cap : Nat) (w : World) (hb : Byt w a l) (hn : n = l.length) (hl : l.length ≤ 9223372036854775807) :
    Calls Try.prog 49 #[.int .u32 s, .slice a n cap] w fun e w' => e = .returned (.int .u32 (crcUpd s l)) ∧ w = w' := by
  subst hn
  go_enter Try.func49, Try.ntmps49
  go_wp2
  go_loop [5, 13] (fun r i => ∃ (k : Nat) (x : Int), k ≤ l.length ∧ i = .int .i64 k ∧ r = .int .u32 x ∧ crcLoop x (l.drop k) = crcLoop (bits .xor .u32 4294967295 s) l) (fun _ i => l.length - (intOf i).toNat)
  case atStart => exact ⟨0, _, Nat.zero_le _, rfl, rfl, rfl⟩
  case round =>
    obtain ⟨k, x, hk, rfl, rfl, hx⟩ := hrel
    have HX := Lib.hid hx; clear hx
    by_cases hlt : k < l.length
    · rcases hb.open with rfl | ⟨b, off, rfl, hbl, hc⟩
      · simp at hlt
      have hc0 := hc k hlt
      have HD := Lib.hid (List.drop_eq_getElem_cons hlt); clear hc
      have hu : (l[k].toNat : Int) < 256 := by have := l[k].toNat_lt; omega
      go_wp2
      clear hu hc0
      go_loop [5, 21] (fun r i => ∃ (j : Nat) (y : Int), j ≤ 8 ∧ i = .int .i64 j ∧ r = .int .u32 y ∧ crcBits (8 - j) y = crcBits 8 (bits .xor .u32 x l[k].toNat)) (fun _ i => 8 - (intOf i).toNat)
      case atStart => exact ⟨0, _, Nat.zero_le _, rfl, rfl, rfl⟩
      case round =>
        obtain ⟨j, y, hj, rfl, rfl, hy⟩ := hrel
        have HY := Lib.hid hy; clear hy
        by_cases hj8 : j < 8
        · go_wp2
          · go_round
            case rel => exact ⟨j + 1, _, by omega, by go_num, rfl, (crcBits_yes hj8 (by assumption)).trans HY.out⟩
            case measure => simp [intOf]; omega
          · go_round
            case rel => exact ⟨j + 1, _, by omega, by go_num, rfl, (crcBits_no hj8 (by assumption)).trans HY.out⟩
            case measure => simp [intOf]; omega
        · go_wp2
          go_round
          case rel => exact ⟨k + 1, _, by omega, by go_num, rfl, by
            rw [← HX.out, HD.out, crcLoop, ← HY.out, show 8 - j = 0 by omega, crcBits]⟩
          case measure => simp [intOf]; omega
    · go_wp2
      go_ret
      exact ⟨ret_int (by rw [crcUpd, ← HX.out, List.drop_eq_nil_of_le (by omega), crcLoop]), rfl⟩

theorem crc_Sum (a : Option Addr) (l : List UInt8) (n cap : Nat) (w : World) (hb : Byt w a l) (hn : n = l.length) (hl : l.length ≤ 9223372036854775807) :
    Calls Try.prog 47 #[.slice a n cap] w fun e w' => e = .returned (.int .u32 (crcUpd 0 l)) ∧ w = w' := by
  subst hn
  go_enter Try.func47, Try.ntmps47
  go_wp2_with (go_at_call 49; refine (crc_Update 0 a l _ cap _ hb rfl hl).mono ?_; rintro e w' ⟨rfl, rfl⟩)
  go_ret
  exact ⟨rfl, rfl⟩
theorem ref_crc_Update (s : Int) (a : Option Addr) (l : List UInt8) (n cap : Nat) (w : World) (hb : Byt w a l) (hn : n = l.length) (hl : l.length ≤ 9223372036854775807) :
    Calls Try.prog 42 #[.int .u32 s, .slice a n cap] w fun e w' => e = .returned (.int .u32 (crcUpd s l)) ∧ w = w' := by
  subst hn
  go_enter Try.func42, Try.ntmps42
  go_wp2
  go_loop [5, 13] (fun r i => ∃ (k : Nat) (x : Int), k ≤ l.length ∧ i = .int .i64 k ∧ r = .int .u32 x ∧ crcLoop x (l.drop k) = crcLoop (bits .xor .u32 4294967295 s) l) (fun _ i => l.length - (intOf i).toNat)
  case atStart => exact ⟨0, _, Nat.zero_le _, rfl, rfl, rfl⟩
  case round =>
    obtain ⟨k, x, hk, rfl, rfl, hx⟩ := hrel
    have HX := Lib.hid hx; clear hx
    by_cases hlt : k < l.length
    · rcases hb.open with rfl | ⟨b, off, rfl, hbl, hc⟩
      · simp at hlt
      have hc0 := hc k hlt
      have HD := Lib.hid (List.drop_eq_getElem_cons hlt); clear hc
      have hu : (l[k].toNat : Int) < 256 := by have := l[k].toNat_lt; omega
      go_wp2
      clear hu hc0
      go_loop [5, 21] (fun r i => ∃ (j : Nat) (y : Int), j ≤ 8 ∧ i = .int .i64 j ∧ r = .int .u32 y ∧ crcBits (8 - j) y = crcBits 8 (bits .xor .u32 x l[k].toNat)) (fun _ i => 8 - (intOf i).toNat)
      case atStart => exact ⟨0, _, Nat.zero_le _, rfl, rfl, rfl⟩
      case round =>
        obtain ⟨j, y, hj, rfl, rfl, hy⟩ := hrel
        have HY := Lib.hid hy; clear hy
        by_cases hj8 : j < 8
        · go_wp2
          · go_round
            case rel => exact ⟨j + 1, _, by omega, by go_num, rfl, (crcBits_yes hj8 (by assumption)).trans HY.out⟩
            case measure => simp [intOf]; omega
          · go_round
            case rel => exact ⟨j + 1, _, by omega, by go_num, rfl, (crcBits_no hj8 (by assumption)).trans HY.out⟩
            case measure => simp [intOf]; omega
        · go_wp2
          go_round
          case rel => exact ⟨k + 1, _, by omega, by go_num, rfl, by
            rw [← HX.out, HD.out, crcLoop, ← HY.out, show 8 - j = 0 by omega, crcBits]⟩
          case measure => simp [intOf]; omega
    · go_wp2
      go_ret
      exact ⟨ret_int (by rw [crcUpd, ← HX.out, List.drop_eq_nil_of_le (by omega), crcLoop]), rfl⟩

theorem ref_crc_Sum (a : Option Addr) (l : List UInt8) (n cap : Nat) (w : World) (hb : Byt w a l) (hn : n = l.length) (hl : l.length ≤ 9223372036854775807) :
    Calls Try.prog 37 #[.slice a n cap] w fun e w' => e = .returned (.int .u32 (crcUpd 0 l)) ∧ w = w' := by
  subst hn
  go_enter Try.func37, Try.ntmps37
  go_wp2_with (go_at_call 42; refine (ref_crc_Update 0 a l _ cap _ hb rfl hl).mono ?_; rintro e w' ⟨rfl, rfl⟩)
  go_ret
  exact ⟨rfl, rfl⟩
end Go.Proofs.Ytlfccoakodnbaaa
