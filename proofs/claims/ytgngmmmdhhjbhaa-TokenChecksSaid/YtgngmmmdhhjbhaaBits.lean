/- token.Below, signalbrokerref14.Below -/
import Derived.Test.YtgngmmmdhhjbhaaBelow
namespace Go.Proofs.Ytgngmmmdhhjbhaa
set_option linter.unusedVariables false
open Go.RowKit Go.Sort Go.Shelf
set_option maxRecDepth 100000

theorem ofInt_i64 (a : Nat) (ha : a < 9223372036854775808) : (BitVec.ofInt 64 (a : Int)).toNat = a := by
  rw [BitVec.ofInt_natCast, BitVec.toNat_ofNat]; exact Nat.mod_eq_of_lt (by omega)
theorem pow_8 {i : Nat} (h : i < 8) : 2 ^ i ≤ 128 := Nat.pow_le_pow_right (n := 2) (by decide) (show i ≤ 7 by omega)
theorem wrap_bit {i : Nat} (h : i < 8) : wrap64 ((2 : Int) ^ i) = ((2 ^ i : Nat) : Int) := by
  have h1 := pow_8 h
  have h2 : ((2 : Int) ^ i) = ((2 ^ i : Nat) : Int) := by simp
  rw [h2]
  obtain ⟨p, hp⟩ : ∃ p : Nat, 2 ^ i = p := ⟨_, rfl⟩
  rw [hp] at h1 ⊢
  unfold wrap64
  omega
theorem or_bit {S i : Nat} (h : S < 2 ^ i) (hi : i < 8) : bits .or .i64 (S : Int) ((2 ^ i : Nat) : Int) = ((S + 2 ^ i : Nat) : Int) := by
  have h1 := pow_8 hi
  have e : S ||| 2 ^ i = S + 2 ^ i := by
    have := Nat.two_pow_add_eq_or_of_lt h 1
    rw [Nat.mul_one] at this
    rw [Nat.or_comm, ← this, Nat.add_comm]
  show IntKind.i64.wrap ((BitVec.ofInt 64 (S : Int) ||| BitVec.ofInt 64 ((2 ^ i : Nat) : Int)).toNat : Int) = _
  rw [BitVec.toNat_or, ofInt_i64 S (by omega), ofInt_i64 _ (by omega), e, IntKind.wrap_i64]
  omega
theorem pow_half (i : Nat) : 2 ^ (i + 1) = 2 ^ i + 2 ^ i := by rw [Nat.pow_succ]; omega
theorem token_Below (a : Option Addr) (l : List Tk) (n c : Nat) (slot : Int) (w : World) (h : Tks w a l) (hn : n = l.length) (h8 : l.length ≤ 8) :
    Calls Try.prog 31 #[.slice a n c, .int .i64 slot] w fun e w' => e = .returned (.int .i64 (bsum (fun s => dscK (l.map Tk.key) 8 s slot) l.length)) ∧ Below w.heap.size w w' := by
  subst hn
  go_enter Try.func31, Try.ntmps31
  go_wp2_with fail
  go_loopw [5, 9] (fun s5 s9 wr => ∃ (i S : Nat), s5 = .int .i64 S ∧ s9 = .int .i64 i ∧ i ≤ l.length ∧ Hid (S = bsum (fun s => dscK (l.map Tk.key) 8 s slot) i) ∧ S < 2 ^ i ∧ RowKit.Below w.heap.size w wr) (fun _ s _ => l.length - (intOf s).toNat)
  case atStart => exact ⟨0, 0, rfl, rfl, by omega, Lib.hid rfl, by simp, (by repeat (first | (with_reducible refine Below.setCell ?_ ?_ _) | (with_reducible refine Below.alloc ?_ ?_ _) | (with_reducible refine Below.drew ?_) | (with_reducible refine below_drewN ?_ _) | (with_reducible exact Below.refl _ _) | (focus (simp; done)) | (focus (simp; omega)) | (focus omega)))⟩
  case round =>
    obtain ⟨i, S, rfl, rfl, hi, hS, hlt, be⟩ := hrel
    by_cases hil : i < l.length
    · have kx : (i : Int) < (l.length : Int) := by omega
      have ht := h.below be (Nat.le_refl _)
      have hpw := pow_half i
      have hHS : Hid (∀ b, dscK (l.map Tk.key) 8 i slot = b → bsum (fun s => dscK (l.map Tk.key) 8 s slot) (i + 1) = S + (if b = true then 2 ^ i else 0)) := Lib.hid fun b e => by rw [bsum, ← hS.out, e]
      have hp8 := pow_8 (i := i) (by omega)
      have hsh := wrap_bit (i := i) (by omega)
      have hor := or_bit hlt (by omega)
      obtain ⟨b, hb'⟩ : ∃ b, dscK (l.map Tk.key) 8 i slot = b := ⟨_, rfl⟩
      have HBB := Lib.hid hb'
      have hHS2 := Lib.hid (hHS.out b hb')
      clear hHS hb'
      go_upto_if 15 with ((go_at_call 50; (with_reducible refine (token_descends a l l.length c i slot _ ht rfl).mono ?_); rintro e w2 ⟨rfl, hb⟩; (rw [HBB.out])))
      have hbe := hb.size
      cases b with
      | false =>
        go_wp2_with fail
        go_roundw
        case rel => exact ⟨i + 1, S, rfl, by go_num, by omega, Lib.hid (by rw [hHS2.out]; simp), by omega, (by repeat (first | (with_reducible refine Below.setCell ?_ ?_ _) | (with_reducible refine Below.alloc ?_ ?_ _) | (with_reducible refine Below.drew ?_) | (with_reducible refine below_drewN ?_ _) | (with_reducible exact Below.refl _ _) | (with_reducible refine Below.trans ?_ (Below.mono hb ?_)) | (with_reducible refine Below.trans ?_ (Below.mono be ?_)) | (focus (simp; done)) | (focus (simp; omega)) | (focus omega) | (focus (have q0 := Below.size hb; (try simp at q0); have q1 := Below.size be; (try simp at q1); (try simp); omega))))⟩
        case measure => simp [intOf]; omega
      | true =>
        have hHS3 : Hid (S + 2 ^ i = bsum (fun s => dscK (l.map Tk.key) 8 s slot) (i + 1)) := Lib.hid (by rw [hHS2.out]; simp)
        obtain ⟨p, hp⟩ : ∃ p : Nat, 2 ^ i = p := ⟨_, rfl⟩
        rw [hp] at hHS3 hpw hlt hp8 hsh hor
        have HP := Lib.hid hp
        clear hp
        go_wp2_with fail
        go_roundw
        case rel => exact ⟨i + 1, S + p, rfl, by go_num, by omega, hHS3, by have := HP.out; omega, (by repeat (first | (with_reducible refine Below.setCell ?_ ?_ _) | (with_reducible refine Below.alloc ?_ ?_ _) | (with_reducible refine Below.drew ?_) | (with_reducible refine below_drewN ?_ _) | (with_reducible exact Below.refl _ _) | (with_reducible refine Below.trans ?_ (Below.mono hb ?_)) | (with_reducible refine Below.trans ?_ (Below.mono be ?_)) | (focus (simp; done)) | (focus (simp; omega)) | (focus omega) | (focus (have q0 := Below.size hb; (try simp at q0); have q1 := Below.size be; (try simp at q1); (try simp); omega))))⟩
        case measure => simp [intOf]; omega
    · obtain rfl : i = l.length := by omega
      go_wp2_with fail
      go_ret
      exact ⟨by rw [hS.out]; rfl, be⟩

theorem ref14_Below (a : Option Addr) (l : List Tk) (n c : Nat) (slot : Int) (w : World) (h : Tks w a l) (hn : n = l.length) (h8 : l.length ≤ 8) :
    Calls Try.prog 36 #[.slice a n c, .int .i64 slot] w fun e w' => e = .returned (.int .i64 (bsum (fun s => dscK (l.map Tk.key) (l.length + 1) s slot) l.length)) ∧ Below w.heap.size w w' := by
  subst hn
  go_enter Try.func36, Try.ntmps36
  go_wp2_with fail
  go_loopw [5, 9] (fun s5 s9 wr => ∃ (i S : Nat), s5 = .int .i64 S ∧ s9 = .int .i64 i ∧ i ≤ l.length ∧ Hid (S = bsum (fun s => dscK (l.map Tk.key) (l.length + 1) s slot) i) ∧ S < 2 ^ i ∧ RowKit.Below w.heap.size w wr) (fun _ s _ => l.length - (intOf s).toNat)
  case atStart => exact ⟨0, 0, rfl, rfl, by omega, Lib.hid rfl, by simp, (by repeat (first | (with_reducible refine Below.setCell ?_ ?_ _) | (with_reducible refine Below.alloc ?_ ?_ _) | (with_reducible refine Below.drew ?_) | (with_reducible refine below_drewN ?_ _) | (with_reducible exact Below.refl _ _) | (focus (simp; done)) | (focus (simp; omega)) | (focus omega)))⟩
  case round =>
    obtain ⟨i, S, rfl, rfl, hi, hS, hlt, be⟩ := hrel
    by_cases hil : i < l.length
    · have kx : (i : Int) < (l.length : Int) := by omega
      have ht := h.below be (Nat.le_refl _)
      have hpw := pow_half i
      have hHS : Hid (∀ b, dscK (l.map Tk.key) (l.length + 1) i slot = b → bsum (fun s => dscK (l.map Tk.key) (l.length + 1) s slot) (i + 1) = S + (if b = true then 2 ^ i else 0)) := Lib.hid fun b e => by rw [bsum, ← hS.out, e]
      have hp8 := pow_8 (i := i) (by omega)
      have hsh := wrap_bit (i := i) (by omega)
      have hor := or_bit hlt (by omega)
      obtain ⟨b, hb'⟩ : ∃ b, dscK (l.map Tk.key) (l.length + 1) i slot = b := ⟨_, rfl⟩
      have HBB := Lib.hid hb'
      have hHS2 := Lib.hid (hHS.out b hb')
      clear hHS hb'
      go_upto_if 15 with ((go_at_call 60; (with_reducible refine (ref14_leads a l l.length c i slot _ ht rfl (by omega)).mono ?_); rintro e w2 ⟨rfl, rfl⟩; (rw [HBB.out])))
      cases b with
      | false =>
        go_wp2_with fail
        go_roundw
        case rel => exact ⟨i + 1, S, rfl, by go_num, by omega, Lib.hid (by rw [hHS2.out]; simp), by omega, be⟩
        case measure => simp [intOf]; omega
      | true =>
        have hHS3 : Hid (S + 2 ^ i = bsum (fun s => dscK (l.map Tk.key) (l.length + 1) s slot) (i + 1)) := Lib.hid (by rw [hHS2.out]; simp)
        obtain ⟨p, hp⟩ : ∃ p : Nat, 2 ^ i = p := ⟨_, rfl⟩
        rw [hp] at hHS3 hpw hlt hp8 hsh hor
        have HP := Lib.hid hp
        clear hp
        go_wp2_with fail
        go_roundw
        case rel => exact ⟨i + 1, S + p, by simp, by go_num, by omega, hHS3, by have := HP.out; omega, be⟩
        case measure => simp [intOf]; omega
    · obtain rfl : i = l.length := by omega
      go_wp2_with fail
      go_ret
      exact ⟨by rw [hS.out]; rfl, be⟩
end Go.Proofs.Ytgngmmmdhhjbhaa
