import Derived.Test.YtlfccoakodnbaaaCrc
namespace Go.Proofs.Ytlfccoakodnbaaa
open Go.RowKit

/-! The register as 32 bits. -/
def poly : BitVec 32 := 3988292384#32
def cBit (r : BitVec 32) : BitVec 32 := (r >>> 1) ^^^ (if r.getLsbD 0 then poly else 0#32)
def cBits : Nat → BitVec 32 → BitVec 32
  | 0, r => r
  | k + 1, r => cBits k (cBit r)
def byteV (x : UInt8) : BitVec 32 := x.toBitVec.setWidth 32
def cLoop : BitVec 32 → List UInt8 → BitVec 32
  | r, [] => r
  | r, x :: l => cLoop (cBits 8 (r ^^^ byteV x)) l
def cUpd (s : BitVec 32) (l : List UInt8) : BitVec 32 := ~~~ (cLoop (~~~ s) l)

theorem ofInt_nat (a : BitVec 32) : BitVec.ofInt 32 (a.toNat : Int) = a := by rw [BitVec.ofInt_natCast, BitVec.ofNat_toNat, BitVec.setWidth_eq]
theorem bx (a b : BitVec 32) : bits .xor .u32 (a.toNat : Int) (b.toNat : Int) = ((a ^^^ b).toNat : Int) := by
  show IntKind.u32.wrap ((BitVec.ofInt 32 (a.toNat : Int) ^^^ BitVec.ofInt 32 (b.toNat : Int)).toNat : Int) = _
  rw [ofInt_nat, ofInt_nat, IntKind.wrap_u32]
  have := (a ^^^ b).isLt
  omega
theorem band (a b : BitVec 32) : bits .and .u32 (a.toNat : Int) (b.toNat : Int) = ((a &&& b).toNat : Int) := by
  show IntKind.u32.wrap ((BitVec.ofInt 32 (a.toNat : Int) &&& BitVec.ofInt 32 (b.toNat : Int)).toNat : Int) = _
  rw [ofInt_nat, ofInt_nat, IntKind.wrap_u32]
  have := (a &&& b).isLt
  omega
theorem shr1 (a : BitVec 32) : ((a.toNat : Int) / (2 : Int)) = ((a >>> 1).toNat : Int) := by
  rw [BitVec.toNat_ushiftRight, Nat.shiftRight_eq_div_pow]; omega
theorem lsb_nat (a : BitVec 32) : a.getLsbD 0 = decide (a.toNat % 2 = 1) := by
  rw [BitVec.getLsbD, Nat.testBit_zero]
theorem and_one (a : BitVec 32) : (bits .and .u32 (a.toNat : Int) 1 == 1) = a.getLsbD 0 := by
  have h := band a 1#32
  rw [show ((1#32).toNat : Int) = 1 from rfl] at h
  rw [h, lsb_nat]
  have e : (a &&& 1#32).toNat = a.toNat % 2 := by rw [BitVec.toNat_and]; exact Nat.and_one_is_mod _
  rw [e, Bool.eq_iff_iff]
  simp
  omega
theorem crcBit_v (a : BitVec 32) : crcBit (a.toNat : Int) = ((cBit a).toNat : Int) := by
  unfold crcBit cBit
  rw [and_one, shr1]
  cases a.getLsbD 0 with
  | true =>
    have := bx (a >>> 1) poly
    rw [if_pos rfl, if_pos rfl, ← this]
    rfl
  | false => simp
theorem crcBits_v (k : Nat) (a : BitVec 32) : crcBits k (a.toNat : Int) = ((cBits k a).toNat : Int) := by
  induction k generalizing a with
  | zero => rfl
  | succ k ih => rw [crcBits, crcBit_v, ih, cBits]
theorem byteV_nat (x : UInt8) : (byteV x).toNat = x.toNat := by
  unfold byteV
  rw [BitVec.toNat_setWidth]
  have := x.toNat_lt
  show x.toNat % _ = _
  omega
theorem crcLoop_v (r : BitVec 32) (l : List UInt8) : crcLoop (r.toNat : Int) l = ((cLoop r l).toNat : Int) := by
  induction l generalizing r with
  | nil => rfl
  | cons x l ih => rw [crcLoop, ← byteV_nat, bx, crcBits_v, ih, cLoop]
theorem bnot (a : BitVec 32) : bits .xor .u32 4294967295 (a.toNat : Int) = ((~~~ a).toNat : Int) := by
  have h := bx 4294967295#32 a
  rw [show ((4294967295#32).toNat : Int) = 4294967295 from rfl] at h
  rw [h, show (4294967295#32 : BitVec 32) = BitVec.allOnes 32 from rfl, BitVec.allOnes_xor]
theorem crcUpd_v (s : BitVec 32) (l : List UInt8) : crcUpd (s.toNat : Int) l = ((cUpd s l).toNat : Int) := by
  rw [crcUpd, bnot, crcLoop_v, bnot, cUpd]
theorem crcUpd_0 (l : List UInt8) : crcUpd 0 l = ((cUpd 0#32 l).toNat : Int) := crcUpd_v 0#32 l
theorem of_u32 {s : Int} (h : 0 ≤ s ∧ s ≤ 4294967295) : ∃ v : BitVec 32, s = (v.toNat : Int) := by
  refine ⟨BitVec.ofNat 32 s.toNat, ?_⟩
  rw [BitVec.toNat_ofNat]
  omega

theorem cLoop_append (r : BitVec 32) (l m : List UInt8) : cLoop r (l ++ m) = cLoop (cLoop r l) m := by
  induction l generalizing r with
  | nil => rfl
  | cons x l ih => simp only [List.cons_append, cLoop, ih]
theorem cUpd_append (s : BitVec 32) (l m : List UInt8) : cUpd s (l ++ m) = cUpd (cUpd s l) m := by
  simp [cUpd, cLoop_append]
theorem cUpd_nil (s : BitVec 32) : cUpd s [] = s := by simp [cUpd, cLoop]

/-! Linearity -/
theorem cBit_xor (a b : BitVec 32) : cBit (a ^^^ b) = cBit a ^^^ cBit b := by
  unfold cBit
  rw [BitVec.ushiftRight_xor_distrib, BitVec.getLsbD_xor]
  cases a.getLsbD 0 <;> cases b.getLsbD 0 <;> simp only [Bool.xor_true, Bool.xor_false, Bool.not_true, Bool.not_false, if_true, if_false, Bool.false_eq_true]
  · ac_rfl
  · simp; ac_rfl
  · simp; ac_rfl
  · have e : (a >>> 1 ^^^ poly ^^^ (b >>> 1 ^^^ poly)) = (a >>> 1 ^^^ b >>> 1) ^^^ (poly ^^^ poly) := by ac_rfl
    rw [e, BitVec.xor_self]
theorem cBits_xor (k : Nat) (a b : BitVec 32) : cBits k (a ^^^ b) = cBits k a ^^^ cBits k b := by
  induction k generalizing a b with
  | zero => rfl
  | succ k ih => rw [cBits, cBit_xor, ih, cBits, cBits]
theorem cBit_zero : cBit 0#32 = 0#32 := by decide
theorem cBits_zero (k : Nat) : cBits k 0#32 = 0#32 := by
  induction k with
  | zero => rfl
  | succ k ih => rw [cBits, cBit_zero, ih]
theorem cBits_add (j k : Nat) (a : BitVec 32) : cBits (j + k) a = cBits k (cBits j a) := by
  induction j generalizing a with
  | zero => simp [cBits]
  | succ j ih => rw [show j + 1 + k = (j + k) + 1 by omega, cBits, ih, cBits]
theorem byteV_xor (x y : UInt8) : byteV (x ^^^ y) = byteV x ^^^ byteV y := by
  unfold byteV
  rw [UInt8.toBitVec_xor, BitVec.setWidth_xor]

/-! The table of single bytes -/
theorem cBits_low (k : Nat) (z : BitVec 32) (h : ∀ i, i < k → z.getLsbD i = false) : cBits k z = z >>> k := by
  induction k generalizing z with
  | zero => simp [cBits]
  | succ k ih =>
    have h0 : cBit z = z >>> 1 := by unfold cBit; rw [h 0 (by omega)]; simp
    rw [cBits, h0, ih]
    · rw [← BitVec.shiftRight_add, Nat.add_comm]
    · intro i hi
      rw [BitVec.getLsbD_ushiftRight]
      exact h (1 + i) (by omega)
theorem tab_step (r : BitVec 32) (x : BitVec 32) : cBits 8 (r ^^^ x) = (r >>> 8) ^^^ cBits 8 ((r &&& 255#32) ^^^ x) := by
  have e : r = (r &&& 4294967040#32) ^^^ (r &&& 255#32) := by
    have h1 : (r &&& 4294967040#32) ^^^ (r &&& 255#32) = r &&& (4294967040#32 ^^^ 255#32) := by
      ext i hi
      simp only [BitVec.getElem_xor, BitVec.getElem_and]
      cases r[i] <;> simp
    rw [h1, show (4294967040#32 ^^^ 255#32 : BitVec 32) = BitVec.allOnes 32 by decide, BitVec.and_allOnes]
  have hlow : cBits 8 (r &&& 4294967040#32) = r >>> 8 := by
    rw [cBits_low]
    · ext i hi
      simp only [BitVec.getElem_ushiftRight, BitVec.getLsbD_and]
      by_cases h24 : i < 24
      · have : (4294967040#32 : BitVec 32).getLsbD (8 + i) = true := by
          have hh : ∀ j : Fin 24, (4294967040#32 : BitVec 32).getLsbD (8 + j.val) = true := by decide
          exact hh ⟨i, h24⟩
        rw [this, Bool.and_true]
      · have : r.getLsbD (8 + i) = false := BitVec.getLsbD_of_ge _ _ (by omega)
        rw [this, Bool.false_and]
    · intro i hi
      rw [BitVec.getLsbD_and]
      have hh : ∀ j : Fin 8, (4294967040#32 : BitVec 32).getLsbD j.val = false := by decide
      rw [hh ⟨i, hi⟩, Bool.and_false]
  have h3 : cBits 8 (r ^^^ x) = cBits 8 ((r &&& 4294967040#32) ^^^ ((r &&& 255#32) ^^^ x)) := by
    rw [← BitVec.xor_assoc, ← e]
  rw [h3, cBits_xor, hlow]
theorem bx8 (a b : Nat) (ha : a < 256) (hb : b < 256) : bits .xor .u8 (a : Int) (b : Int) = ((a ^^^ b : Nat) : Int) := u8_xor_nat a b ha hb
theorem tab_start (r : BitVec 32) (x : UInt8) : bits .xor .u8 ((r.toNat : Int) % 256) (x.toNat : Int) % 4294967296 = (((r &&& 255#32) ^^^ byteV x).toNat : Int) := by
  have hx := x.toNat_lt
  have e : ((r.toNat : Int) % 256) = ((r.toNat % 256 : Nat) : Int) := by omega
  rw [e, bx8 _ _ (by omega) (by omega), BitVec.toNat_xor, byteV_nat, BitVec.toNat_and]
  have e2 : r.toNat &&& (255#32).toNat = r.toNat % 256 := Nat.and_two_pow_sub_one_eq_mod r.toNat 8
  rw [e2]
  have h3 : r.toNat % 256 ^^^ x.toNat < 2 ^ 8 := Nat.xor_lt_two_pow (by omega) (by omega)
  omega
theorem tab_bit (u : BitVec 32) : bits .xor .u32 ((u.toNat : Int) / 2) ((3988292384 * bits .and .u32 (u.toNat : Int) 1) % 4294967296) = ((cBit u).toNat : Int) := by
  have h := band u 1#32
  rw [show ((1#32).toNat : Int) = 1 from rfl] at h
  rw [h, shr1]
  have e : (u &&& 1#32).toNat = u.toNat % 2 := by rw [BitVec.toNat_and]; exact Nat.and_one_is_mod _
  rw [e]
  unfold cBit
  rw [lsb_nat, ← bx]
  congr 1
  by_cases h1 : u.toNat % 2 = 1
  · simp [h1, poly]
  · have h0 : u.toNat % 2 = 0 := by omega
    simp [h0]
theorem cUpd_cons (s : BitVec 32) (x : UInt8) (l : List UInt8) : cUpd s (x :: l) = cUpd (~~~ (cBits 8 (~~~ s ^^^ byteV x))) l := by
  simp [cUpd, cLoop]
theorem tab_end (y : BitVec 32) (x : UInt8) : bits .xor .u32 4294967295 (bits .xor .u32 (((~~~ y).toNat : Int) / 256) ((cBits 8 ((~~~ y &&& 255#32) ^^^ byteV x)).toNat : Int)) = ((~~~ (cBits 8 (~~~ y ^^^ byteV x))).toNat : Int) := by
  have e : (((~~~ y).toNat : Int) / (256 : Int)) = (((~~~ y) >>> 8).toNat : Int) := by
    rw [BitVec.toNat_ushiftRight, Nat.shiftRight_eq_div_pow]; omega
  rw [e, bx, ← tab_step, bnot]
theorem tab_fin {y z u : BitVec 32} {x : UInt8} (hz : ~~~ y = z) (hu : cBits 8 ((z &&& 255#32) ^^^ byteV x) = u) :
    bits .xor .u32 4294967295 (bits .xor .u32 ((z.toNat : Int) / 256) (u.toNat : Int)) = ((~~~ (cBits 8 (~~~ y ^^^ byteV x))).toNat : Int) := by
  subst hz hu
  exact tab_end y x
end Go.Proofs.Ytlfccoakodnbaaa
