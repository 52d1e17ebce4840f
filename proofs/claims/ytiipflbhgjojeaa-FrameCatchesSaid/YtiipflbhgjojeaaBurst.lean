/- any change within 32 consecutive bits changes the check sum (plain) -/
import Derived.Test.YtiipflbhgjojeaaCrcLaw
import Derived.Test.YtiipflbhgjojeaaApp
namespace Go.Proofs.Ytiipflbhgjojeaa
open Go.RowKit

/-! any change within 32 consecutive bits -/
theorem one_shift (i : Nat) (h : i < 32) : cBits i (1#32 <<< i) = 1#32 := by
  have hh : ∀ j : Fin 32, cBits j.val (1#32 <<< j.val) = 1#32 := by decide +kernel
  exact hh ⟨i, h⟩
theorem cBit_inj0 (r : BitVec 32) (h : cBit r = 0#32) : r = 0#32 := by
  unfold cBit at h
  by_cases hb : r.getLsbD 0 = true
  · rw [if_pos hb] at h
    have h31 := congrArg (fun v => v.getLsbD 31) h
    simp only [BitVec.getLsbD_xor, BitVec.getLsbD_ushiftRight] at h31
    rw [BitVec.getLsbD_of_ge r (1 + 31) (by omega)] at h31
    simp [poly] at h31
  · rw [if_neg hb] at h
    have h0 : r.toNat / 2 = 0 := by
      have := congrArg BitVec.toNat h
      simpa [BitVec.toNat_ushiftRight, Nat.shiftRight_eq_div_pow] using this
    rw [lsb_nat] at hb
    simp at hb
    apply BitVec.eq_of_toNat_eq
    simp
    omega
theorem cBits_inj0 (k : Nat) (r : BitVec 32) (h : cBits k r = 0#32) : r = 0#32 := by
  induction k generalizing r with
  | zero => exact h
  | succ k ih => exact cBit_inj0 r (ih _ h)
theorem cLoop_xor (a b : BitVec 32) (l : List UInt8) : cLoop (a ^^^ b) l = cLoop a l ^^^ cBits (8 * l.length) b := by
  induction l generalizing a b with
  | nil => rfl
  | cons x l ih =>
    simp only [cLoop]
    have e : a ^^^ b ^^^ byteV x = (a ^^^ byteV x) ^^^ b := by ac_rfl
    rw [e, cBits_xor, ih, ← cBits_add]
    congr 2
    simp
    omega
theorem byteV_one (j : Nat) (h : j < 8) : byteV (UInt8.ofNat (2 ^ j)) = 1#32 <<< j := by
  have hh : ∀ j : Fin 8, byteV (UInt8.ofNat (2 ^ j.val)) = 1#32 <<< j.val := by decide
  exact hh ⟨j, h⟩
theorem byte_shift (j : Nat) (h : j < 8) : cBits 8 (1#32 <<< j) = cBits (8 - j) 1#32 := by
  have hh : ∀ j : Fin 8, cBits 8 (1#32 <<< j.val) = cBits (8 - j.val) 1#32 := by decide +kernel
  exact hh ⟨j, h⟩
theorem flip_one (r : BitVec 32) (l : List UInt8) (p : Nat) (hp : p < 8 * l.length) (x : UInt8) (hx : l[p / 8]'(by omega) = x) :
    cLoop r (l.set (p / 8) (x ^^^ UInt8.ofNat (2 ^ (p % 8)))) = cLoop r l ^^^ cBits (8 * l.length - p) 1#32 := by
  have hq : p / 8 < l.length := by omega
  have e1 : l = l.take (p / 8) ++ x :: l.drop (p / 8 + 1) := by
    rw [← hx, List.getElem_cons_drop, List.take_append_drop]
  have e2 : l.set (p / 8) (x ^^^ UInt8.ofNat (2 ^ (p % 8))) = l.take (p / 8) ++ (x ^^^ UInt8.ofNat (2 ^ (p % 8))) :: l.drop (p / 8 + 1) := by
    rw [List.set_eq_take_append_cons_drop, if_pos hq]
  have e3 : cLoop r l = cLoop r (l.take (p / 8) ++ x :: l.drop (p / 8 + 1)) := by rw [← e1]
  rw [e2, e3, cLoop_append, cLoop_append]
  simp only [cLoop]
  rw [byteV_xor, ← BitVec.xor_assoc, cBits_xor, cLoop_xor, byteV_one _ (by omega)]
  congr 1
  rw [byte_shift _ (by omega), ← cBits_add, List.length_drop]
  congr 1
  omega

/-- behind j bits of the change: what the row has become, which bits have been turned, whether any -/
def Burst (l0 : List UInt8) (A j : Nat) (L : List UInt8) (M : BitVec 32) (c : Bool) : Prop :=
  c = decide (M ≠ 0#32) ∧ M.toNat < 2 ^ j ∧ ∀ r, cLoop r L = cLoop r l0 ^^^ cBits (8 * l0.length - A) M
theorem Burst.start (l0 : List UInt8) (A : Nat) : Burst l0 A 0 l0 0#32 false := ⟨rfl, by decide, fun r => by rw [cBits_zero, BitVec.xor_zero]⟩

theorem Burst.skip {l0 : List UInt8} {A j : Nat} {L : List UInt8} {M : BitVec 32} {c : Bool} (h : Burst l0 A j L M c) : Burst l0 A (j + 1) L M c :=
  ⟨h.1, by have := h.2.1; rw [Nat.pow_succ]; omega, h.2.2⟩
theorem Burst.step {l0 : List UInt8} {A j : Nat} {L : List UInt8} {M : BitVec 32} {c : Bool} {x : UInt8} (h : Burst l0 A j L M c) (hj : j < 32) (hL : L.length = l0.length) (hlt : (A : Int) + j < 8 * l0.length)
    (hx : L.getD ((A + j) / 8) 0 = x) : Burst l0 A (j + 1) (L.set ((A + j) / 8) (x ^^^ UInt8.ofNat (2 ^ ((A + j) % 8)))) (M ^^^ 1#32 <<< j) true := by
  obtain ⟨h1, h2, h3⟩ := h
  have hq : (A + j) / 8 < L.length := by omega
  have hM : M.getLsbD j = false := by rw [BitVec.getLsbD]; exact Nat.testBit_lt_two_pow h2
  have hone : (1#32 <<< j).toNat = 2 ^ j := by
    rw [BitVec.toNat_shiftLeft, Nat.shiftLeft_eq, show (1#32).toNat = 1 from rfl, Nat.one_mul]
    exact Nat.mod_eq_of_lt (Nat.pow_lt_pow_right (by omega) hj)
  refine ⟨?_, ?_, fun r => ?_⟩
  · have : M ^^^ 1#32 <<< j ≠ 0#32 := by
      intro h0
      have := congrArg (fun v => v.getLsbD j) h0
      simp only [BitVec.getLsbD_xor, hM] at this
      have h4 : (1#32 <<< j).getLsbD j = true := by rw [BitVec.getLsbD, hone, Nat.testBit_two_pow_self]
      rw [h4] at this
      simp at this
    simp [this]
  · rw [BitVec.toNat_xor, hone]
    exact Nat.xor_lt_two_pow (by rw [Nat.pow_succ]; omega) (by rw [Nat.pow_succ]; have := Nat.two_pow_pos j; omega)
  · rw [flip_one r L (A + j) (by omega) x (by rw [← hx]; simp [hq]), h3 r, cBits_xor, BitVec.xor_assoc, hL]
    congr 2
    rw [show 8 * l0.length - A = j + (8 * l0.length - (A + j)) by omega, cBits_add, one_shift j hj]

theorem flip_val (x : UInt8) (n : Nat) (h : n < 8) : Value.int IntKind.u8 (bits BinOp.xor IntKind.u8 (x.toNat : Int) (2 ^ n % 256)) = encB (x ^^^ UInt8.ofNat (2 ^ n)) := by
  have e : (2 : Int) ^ n % 256 = (((UInt8.ofNat (2 ^ n)).toNat : Nat) : Int) := by
    have hh : ∀ j : Fin 8, (2 : Int) ^ j.val % 256 = (((UInt8.ofNat (2 ^ j.val)).toNat : Nat) : Int) := by decide
    exact hh ⟨n, h⟩
  have h1 := x.toNat_lt
  have h2 := (UInt8.ofNat (2 ^ n)).toNat_lt
  rw [e, bx8 _ _ (by omega) (by omega), ← UInt8.toNat_xor]
  rfl
theorem Burst.law {l0 : List UInt8} {A j : Nat} {L : List UInt8} {M : BitVec 32} {c : Bool} (h : Burst l0 A j L M c) : (crcUpd 0 l0 != crcUpd 0 L) = c := by
  obtain ⟨h1, _, h3⟩ := h
  rw [h1, crcUpd_0, crcUpd_0]
  have e : cUpd 0#32 L = cUpd 0#32 l0 ^^^ cBits (8 * l0.length - A) M := by
    unfold cUpd
    rw [h3]
    ext i hi
    simp only [BitVec.getElem_not, BitVec.getElem_xor]
    cases (cLoop (~~~0#32) l0)[i] <;> cases (cBits (8 * l0.length - A) M)[i] <;> rfl
  have hh : (cUpd 0#32 l0 = cUpd 0#32 L) ↔ M = 0#32 := by
    rw [e]
    constructor
    · intro h
      have h4 : cUpd 0#32 l0 ^^^ (cUpd 0#32 l0 ^^^ cBits (8 * l0.length - A) M) = 0#32 := by rw [← h, BitVec.xor_self]
      rw [← BitVec.xor_assoc, BitVec.xor_self, BitVec.zero_xor] at h4
      exact cBits_inj0 _ _ h4
    · rintro rfl
      rw [cBits_zero, BitVec.xor_zero]
  rw [Bool.eq_iff_iff]
  simp only [bne_iff_ne, ne_eq, decide_eq_true_eq]
  rw [← hh]
  constructor
  · intro h h5; exact h (by rw [h5])
  · intro h h5; exact h (BitVec.eq_of_toNat_eq (by omega))

end Go.Proofs.Ytiipflbhgjojeaa
