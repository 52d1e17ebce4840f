import Derived.Test.YtlnckmnieigbnaaCrc
namespace Go.Proofs.Ytlnckmnieigbnaa
open Go.RowKit

/-! The register as 32 bits. -/
def poly : BitVec 32 := 3988292384#32
def cBit (r : BitVec 32) : BitVec 32 := (r >>> 1) ^^^ (if r.getLsbD 0 then poly else 0#32)
def cBits : Nat → BitVec 32 → BitVec 32
  | 0, r => r
  | k + 1, r => cBits k (cBit r)
def byteV (x : UInt8) : BitVec 32 := x.toBitVec.setWidth 32
def cLoop : BitVec 32 → List UInt8 → BitVec 32
  | r, [] => r
  | r, x :: l => cLoop (cBits 8 (r ^^^ byteV x)) l
def cUpd (s : BitVec 32) (l : List UInt8) : BitVec 32 := ~~~ (cLoop (~~~ s) l)

theorem ofInt_nat (a : BitVec 32) : BitVec.ofInt 32 (a.toNat : Int) = a := by rw [BitVec.ofInt_natCast, BitVec.ofNat_toNat, BitVec.setWidth_eq]
theorem bx (a b : BitVec 32) : bits .xor .u32 (a.toNat : Int) (b.toNat : Int) = ((a ^^^ b).toNat : Int) := by
  show IntKind.u32.wrap ((BitVec.ofInt 32 (a.toNat : Int) ^^^ BitVec.ofInt 32 (b.toNat : Int)).toNat : Int) = _
  rw [ofInt_nat, ofInt_nat, IntKind.wrap_u32]
  have := (a ^^^ b).isLt
  omega
theorem band (a b : BitVec 32) : bits .and .u32 (a.toNat : Int) (b.toNat : Int) = ((a &&& b).toNat : Int) := by
  show IntKind.u32.wrap ((BitVec.ofInt 32 (a.toNat : Int) &&& BitVec.ofInt 32 (b.toNat : Int)).toNat : Int) = _
  rw [ofInt_nat, ofInt_nat, IntKind.wrap_u32]
  have := (a &&& b).isLt
  omega
theorem shr1 (a : BitVec 32) : ((a.toNat : Int) / (2 : Int)) = ((a >>> 1).toNat : Int) := by
  rw [BitVec.toNat_ushiftRight, Nat.shiftRight_eq_div_pow]; omega
theorem lsb_nat (a : BitVec 32) : a.getLsbD 0 = decide (a.toNat % 2 = 1) := by
  rw [BitVec.getLsbD, Nat.testBit_zero]
theorem and_one (a : BitVec 32) : (bits .and .u32 (a.toNat : Int) 1 == 1) = a.getLsbD 0 := by
  have h := band a 1#32
  rw [show ((1#32).toNat : Int) = 1 from rfl] at h
  rw [h, lsb_nat]
  have e : (a &&& 1#32).toNat = a.toNat % 2 := by rw [BitVec.toNat_and]; exact Nat.and_one_is_mod _
  rw [e, Bool.eq_iff_iff]
  simp
  omega
theorem crcBit_v (a : BitVec 32) : crcBit (a.toNat : Int) = ((cBit a).toNat : Int) := by
  unfold crcBit cBit
  rw [and_one, shr1]
  cases a.getLsbD 0 with
  | true =>
    have := bx (a >>> 1) poly
    rw [if_pos rfl, if_pos rfl, ← this]
    rfl
  | false => simp
theorem crcBits_v (k : Nat) (a : BitVec 32) : crcBits k (a.toNat : Int) = ((cBits k a).toNat : Int) := by
  induction k generalizing a with
  | zero => rfl
  | succ k ih => rw [crcBits, crcBit_v, ih, cBits]
theorem byteV_nat (x : UInt8) : (byteV x).toNat = x.toNat := by
  unfold byteV
  rw [BitVec.toNat_setWidth]
  have := x.toNat_lt
  show x.toNat % _ = _
  omega
theorem crcLoop_v (r : BitVec 32) (l : List UInt8) : crcLoop (r.toNat : Int) l = ((cLoop r l).toNat : Int) := by
  induction l generalizing r with
  | nil => rfl
  | cons x l ih => rw [crcLoop, ← byteV_nat, bx, crcBits_v, ih, cLoop]
theorem bnot (a : BitVec 32) : bits .xor .u32 4294967295 (a.toNat : Int) = ((~~~ a).toNat : Int) := by
  have h := bx 4294967295#32 a
  rw [show ((4294967295#32).toNat : Int) = 4294967295 from rfl] at h
  rw [h, show (4294967295#32 : BitVec 32) = BitVec.allOnes 32 from rfl, BitVec.allOnes_xor]
theorem crcUpd_v (s : BitVec 32) (l : List UInt8) : crcUpd (s.toNat : Int) l = ((cUpd s l).toNat : Int) := by
  rw [crcUpd, bnot, crcLoop_v, bnot, cUpd]
theorem crcUpd_0 (l : List UInt8) : crcUpd 0 l = ((cUpd 0#32 l).toNat : Int) := crcUpd_v 0#32 l
theorem of_u32 {s : Int} (h : 0 ≤ s ∧ s ≤ 4294967295) : ∃ v : BitVec 32, s = (v.toNat : Int) := by
  refine ⟨BitVec.ofNat 32 s.toNat, ?_⟩
  rw [BitVec.toNat_ofNat]
  omega

theorem cLoop_append (r : BitVec 32) (l m : List UInt8) : cLoop r (l ++ m) = cLoop (cLoop r l) m := by
  induction l generalizing r with
  | nil => rfl
  | cons x l ih => simp only [List.cons_append, cLoop, ih]
theorem cUpd_append (s : BitVec 32) (l m : List UInt8) : cUpd s (l ++ m) = cUpd (cUpd s l) m := by
  simp [cUpd, cLoop_append]
theorem cUpd_nil (s : BitVec 32) : cUpd s [] = s := by simp [cUpd, cLoop]

/-! Linearity -/
theorem cBit_xor (a b : BitVec 32) : cBit (a ^^^ b) = cBit a ^^^ cBit b := by
  unfold cBit
  rw [BitVec.ushiftRight_xor_distrib, BitVec.getLsbD_xor]
  cases a.getLsbD 0 <;> cases b.getLsbD 0 <;> simp only [Bool.xor_true, Bool.xor_false, Bool.not_true, Bool.not_false, if_true, if_false, Bool.false_eq_true]
  · ac_rfl
  · simp; ac_rfl
  · simp; ac_rfl
  · have e : (a >>> 1 ^^^ poly ^^^ (b >>> 1 ^^^ poly)) = (a >>> 1 ^^^ b >>> 1) ^^^ (poly ^^^ poly) := by ac_rfl
    rw [e, BitVec.xor_self]
theorem cBits_xor (k : Nat) (a b : BitVec 32) : cBits k (a ^^^ b) = cBits k a ^^^ cBits k b := by
  induction k generalizing a b with
  | zero => rfl
  | succ k ih => rw [cBits, cBit_xor, ih, cBits, cBits]
theorem cBit_zero : cBit 0#32 = 0#32 := by decide
theorem cBits_zero (k : Nat) : cBits k 0#32 = 0#32 := by
  induction k with
  | zero => rfl
  | succ k ih => rw [cBits, cBit_zero, ih]
theorem cBits_add (j k : Nat) (a : BitVec 32) : cBits (j + k) a = cBits k (cBits j a) := by
  induction j generalizing a with
  | zero => simp [cBits]
  | succ j ih => rw [show j + 1 + k = (j + k) + 1 by omega, cBits, ih, cBits]
theorem byteV_xor (x y : UInt8) : byteV (x ^^^ y) = byteV x ^^^ byteV y := by
  unfold byteV
  rw [UInt8.toBitVec_xor, BitVec.setWidth_xor]
end Go.Proofs.Ytlnckmnieigbnaa
