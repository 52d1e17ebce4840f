import Derived.Test.YtlnckmnieigbnaaAwake
import Derived.Test.YtlnckmnieigbnaaCrcLaw
import Derived.Test.YtlnckmnieigbnaaApp
namespace Go.Proofs.Ytlnckmnieigbnaa
open Go.RowKit

/-! any change within 32 consecutive bits -/
theorem one_shift (i : Nat) (h : i < 32) : cBits i (1#32 <<< i) = 1#32 := by
  have hh : ∀ j : Fin 32, cBits j.val (1#32 <<< j.val) = 1#32 := by decide +kernel
  exact hh ⟨i, h⟩
theorem cBit_inj0 (r : BitVec 32) (h : cBit r = 0#32) : r = 0#32 := by
  unfold cBit at h
  by_cases hb : r.getLsbD 0 = true
  · rw [if_pos hb] at h
    have h31 := congrArg (fun v => v.getLsbD 31) h
    simp only [BitVec.getLsbD_xor, BitVec.getLsbD_ushiftRight] at h31
    rw [BitVec.getLsbD_of_ge r (1 + 31) (by omega)] at h31
    simp [poly] at h31
  · rw [if_neg hb] at h
    have h0 : r.toNat / 2 = 0 := by
      have := congrArg BitVec.toNat h
      simpa [BitVec.toNat_ushiftRight, Nat.shiftRight_eq_div_pow] using this
    rw [lsb_nat] at hb
    simp at hb
    apply BitVec.eq_of_toNat_eq
    simp
    omega
theorem cBits_inj0 (k : Nat) (r : BitVec 32) (h : cBits k r = 0#32) : r = 0#32 := by
  induction k generalizing r with
  | zero => exact h
  | succ k ih => exact cBit_inj0 r (ih _ h)
theorem cLoop_xor (a b : BitVec 32) (l : List UInt8) : cLoop (a ^^^ b) l = cLoop a l ^^^ cBits (8 * l.length) b := by
  induction l generalizing a b with
  | nil => rfl
  | cons x l ih =>
    simp only [cLoop]
    have e : a ^^^ b ^^^ byteV x = (a ^^^ byteV x) ^^^ b := by ac_rfl
    rw [e, cBits_xor, ih, ← cBits_add]
    congr 2
    simp
    omega
theorem byteV_one (j : Nat) (h : j < 8) : byteV (UInt8.ofNat (2 ^ j)) = 1#32 <<< j := by
  have hh : ∀ j : Fin 8, byteV (UInt8.ofNat (2 ^ j.val)) = 1#32 <<< j.val := by decide
  exact hh ⟨j, h⟩
theorem byte_shift (j : Nat) (h : j < 8) : cBits 8 (1#32 <<< j) = cBits (8 - j) 1#32 := by
  have hh : ∀ j : Fin 8, cBits 8 (1#32 <<< j.val) = cBits (8 - j.val) 1#32 := by decide +kernel
  exact hh ⟨j, h⟩
theorem flip_one (r : BitVec 32) (l : List UInt8) (p : Nat) (hp : p < 8 * l.length) (x : UInt8) (hx : l[p / 8]'(by omega) = x) :
    cLoop r (l.set (p / 8) (x ^^^ UInt8.ofNat (2 ^ (p % 8)))) = cLoop r l ^^^ cBits (8 * l.length - p) 1#32 := by
  have hq : p / 8 < l.length := by omega
  have e1 : l = l.take (p / 8) ++ x :: l.drop (p / 8 + 1) := by
    rw [← hx, List.getElem_cons_drop, List.take_append_drop]
  have e2 : l.set (p / 8) (x ^^^ UInt8.ofNat (2 ^ (p % 8))) = l.take (p / 8) ++ (x ^^^ UInt8.ofNat (2 ^ (p % 8))) :: l.drop (p / 8 + 1) := by
    rw [List.set_eq_take_append_cons_drop, if_pos hq]
  have e3 : cLoop r l = cLoop r (l.take (p / 8) ++ x :: l.drop (p / 8 + 1)) := by rw [← e1]
  rw [e2, e3, cLoop_append, cLoop_append]
  simp only [cLoop]
  rw [byteV_xor, ← BitVec.xor_assoc, cBits_xor, cLoop_xor, byteV_one _ (by omega)]
  congr 1
  rw [byte_shift _ (by omega), ← cBits_add, List.length_drop]
  congr 1
  omega

/-- behind j bits of the change: what the row has become, which bits have been turned, whether any -/
def Burst (l0 : List UInt8) (A j : Nat) (L : List UInt8) (M : BitVec 32) (c : Bool) : Prop :=
  c = decide (M ≠ 0#32) ∧ M.toNat < 2 ^ j ∧ ∀ r, cLoop r L = cLoop r l0 ^^^ cBits (8 * l0.length - A) M
theorem Burst.start (l0 : List UInt8) (A : Nat) : Burst l0 A 0 l0 0#32 false := ⟨rfl, by decide, fun r => by rw [cBits_zero, BitVec.xor_zero]⟩

theorem Burst.skip {l0 : List UInt8} {A j : Nat} {L : List UInt8} {M : BitVec 32} {c : Bool} (h : Burst l0 A j L M c) : Burst l0 A (j + 1) L M c :=
  ⟨h.1, by have := h.2.1; rw [Nat.pow_succ]; omega, h.2.2⟩
theorem Burst.step {l0 : List UInt8} {A j : Nat} {L : List UInt8} {M : BitVec 32} {c : Bool} {x : UInt8} (h : Burst l0 A j L M c) (hj : j < 32) (hL : L.length = l0.length) (hlt : (A : Int) + j < 8 * l0.length)
    (hx : L.getD ((A + j) / 8) 0 = x) : Burst l0 A (j + 1) (L.set ((A + j) / 8) (x ^^^ UInt8.ofNat (2 ^ ((A + j) % 8)))) (M ^^^ 1#32 <<< j) true := by
  obtain ⟨h1, h2, h3⟩ := h
  have hq : (A + j) / 8 < L.length := by omega
  have hM : M.getLsbD j = false := by rw [BitVec.getLsbD]; exact Nat.testBit_lt_two_pow h2
  have hone : (1#32 <<< j).toNat = 2 ^ j := by
    rw [BitVec.toNat_shiftLeft, Nat.shiftLeft_eq, show (1#32).toNat = 1 from rfl, Nat.one_mul]
    exact Nat.mod_eq_of_lt (Nat.pow_lt_pow_right (by omega) hj)
  refine ⟨?_, ?_, fun r => ?_⟩
  · have : M ^^^ 1#32 <<< j ≠ 0#32 := by
      intro h0
      have := congrArg (fun v => v.getLsbD j) h0
      simp only [BitVec.getLsbD_xor, hM] at this
      have h4 : (1#32 <<< j).getLsbD j = true := by rw [BitVec.getLsbD, hone, Nat.testBit_two_pow_self]
      rw [h4] at this
      simp at this
    simp [this]
  · rw [BitVec.toNat_xor, hone]
    exact Nat.xor_lt_two_pow (by rw [Nat.pow_succ]; omega) (by rw [Nat.pow_succ]; have := Nat.two_pow_pos j; omega)
  · rw [flip_one r L (A + j) (by omega) x (by rw [← hx]; simp [hq]), h3 r, cBits_xor, BitVec.xor_assoc, hL]
    congr 2
    rw [show 8 * l0.length - A = j + (8 * l0.length - (A + j)) by omega, cBits_add, one_shift j hj]

theorem flip_val (x : UInt8) (n : Nat) (h : n < 8) : Value.int IntKind.u8 (bits BinOp.xor IntKind.u8 (x.toNat : Int) (2 ^ n % 256)) = encB (x ^^^ UInt8.ofNat (2 ^ n)) := by
  have e : (2 : Int) ^ n % 256 = (((UInt8.ofNat (2 ^ n)).toNat : Nat) : Int) := by
    have hh : ∀ j : Fin 8, (2 : Int) ^ j.val % 256 = (((UInt8.ofNat (2 ^ j.val)).toNat : Nat) : Int) := by decide
    exact hh ⟨n, h⟩
  have h1 := x.toNat_lt
  have h2 := (UInt8.ofNat (2 ^ n)).toNat_lt
  rw [e, bx8 _ _ (by omega) (by omega), ← UInt8.toNat_xor]
  rfl
theorem Burst.law {l0 : List UInt8} {A j : Nat} {L : List UInt8} {M : BitVec 32} {c : Bool} (h : Burst l0 A j L M c) : (crcUpd 0 l0 != crcUpd 0 L) = c := by
  obtain ⟨h1, _, h3⟩ := h
  rw [h1, crcUpd_0, crcUpd_0]
  have e : cUpd 0#32 L = cUpd 0#32 l0 ^^^ cBits (8 * l0.length - A) M := by
    unfold cUpd
    rw [h3]
    ext i hi
    simp only [BitVec.getElem_not, BitVec.getElem_xor]
    cases (cLoop (~~~0#32) l0)[i] <;> cases (cBits (8 * l0.length - A) M)[i] <;> rfl
  have hh : (cUpd 0#32 l0 = cUpd 0#32 L) ↔ M = 0#32 := by
    rw [e]
    constructor
    · intro h
      have h4 : cUpd 0#32 l0 ^^^ (cUpd 0#32 l0 ^^^ cBits (8 * l0.length - A) M) = 0#32 := by rw [← h, BitVec.xor_self]
      rw [← BitVec.xor_assoc, BitVec.xor_self, BitVec.zero_xor] at h4
      exact cBits_inj0 _ _ h4
    · rintro rfl
      rw [cBits_zero, BitVec.xor_zero]
  rw [Bool.eq_iff_iff]
  simp only [bne_iff_ne, ne_eq, decide_eq_true_eq]
  rw [← hh]
  constructor
  · intro h h5; exact h (by rw [h5])
  · intro h h5; exact h (BitVec.eq_of_toNat_eq (by omega))

theorem crcBursts_walk (a0 : Option Addr) (c0 : Nat) (l0 : List UInt8) (at_ : Int) (change : Int) (w : World) (h0 : Byt w a0 l0)
    (n0 : l0.length ≤ 9223372036854775807) (_hat : -9223372036854775808 ≤ at_ ∧ at_ ≤ 9223372036854775807) (_hch : 0 ≤ change ∧ change ≤ 4294967295) :
    Calls Try.prog 5 #[.slice a0 l0.length c0, .int .i64 at_, .int .u32 change] w fun e w' => e = .returned (.bool true) ∧ Below w.heap.size w w' := by
  by_cases s0 : l0.length ≤ 600
  · by_cases s1 : l0.length = 0
    · have z1 : ((l0.length : Int) == 0) = true := by rw [beq_iff_eq]; omega
      clear s1
      go_enter Try.func5, Try.ntmps5
      go_wp2_with (first | (go_at_call 8; (with_reducible refine (mk_Short _ _ _ _ (by assumption)).mono ?_); rintro e w' ⟨rfl, rfl⟩) | (go_at_call 9; (with_reducible refine (awake_yes _).mono ?_); rintro e w' ⟨rfl, hb⟩))
      go_ret
      exact ⟨rfl, hb⟩
    · by_cases s2 : change = 0
      · have z1 : ((l0.length : Int) == 0) = false := by rw [beq_eq_false_iff_ne]; omega
        subst s2
        clear s1
        go_enter Try.func5, Try.ntmps5
        go_wp2_with (first | (go_at_call 8; (with_reducible refine (mk_Short _ _ _ _ (by assumption)).mono ?_); rintro e w' ⟨rfl, rfl⟩) | (go_at_call 9; (with_reducible refine (awake_yes _).mono ?_); rintro e w' ⟨rfl, hb⟩))
        go_ret
        exact ⟨rfl, hb⟩
      · have z1 : ((l0.length : Int) == 0) = false := by rw [beq_eq_false_iff_ne]; omega
        have z2 : (change == 0) = false := by simpa using s2
        have hl1 : 1 ≤ l0.length := by omega
        clear s1 s2
        go_enter Try.func5, Try.ntmps5
        go_wp2_with (first | (go_at_call 8; (with_reducible refine (mk_Short _ _ _ _ (by assumption)).mono ?_); rintro e w' ⟨rfl, rfl⟩) | (at_builtin; refine appB rfl _ _ rfl w.heap.size none 0 0 [] rfl a0 _ _ l0 rfl (Own.nil _ _ _ _) h0 rfl l0.length (by omega) (by omega) (Nat.le_refl _) ?_; intro b1 cap1 w1 own1 g1 bl1; have be1 := bl1 w (Below.refl _ _)) | (go_at_call 14; (with_reducible refine (mk_Mod _ _ _ (by omega) (by omega)).mono ?_); rintro e w' ⟨rfl, rfl⟩))
        obtain ⟨A, hA, hA2⟩ : ∃ A : Nat, at_ % (8 * (l0.length : Int)) = (A : Int) ∧ A < 8 * l0.length :=
          ⟨(at_ % (8 * (l0.length : Int))).toNat, by have := Int.emod_nonneg at_ (show 8 * (l0.length : Int) ≠ 0 by omega); omega, by have := Int.emod_lt_of_pos at_ (show 0 < 8 * (l0.length : Int) by omega); omega⟩
        rw [hA]
        clear hA
        obtain ⟨g, rfl, hg1, hg2⟩ := own1.open_ hl1
        go_loopw [8, 30] (fun ch i wr => ∃ (j : Nat) (L : List UInt8) (M : BitVec 32) (c : Bool), j ≤ 32 ∧ i = .int .i64 j ∧ ch = .bool c ∧ L.length = l0.length ∧ Below w.heap.size w wr ∧ Own wr w.heap.size 5 1 (some ⟨g, 0, none⟩) l0.length cap1 (L.map encB) ∧ Burst l0 A j L M c)
          (fun _ i _ => 32 - (intOf i).toNat)
        case atStart => exact ⟨0, l0, 0#32, false, by omega, rfl, rfl, rfl, be1, own1, Burst.start l0 A⟩
        case round =>
          obtain ⟨j, L, M, c, hj, rfl, rfl, hL, hbel, own, hB⟩ := hrel
          have HL := Lib.hid hL
          have HB := Lib.hid hB
          clear hB hL
          by_cases hj2 : j < 32
          · obtain ⟨x, hx⟩ : ∃ x : UInt8, L.getD ((A + j) / 8) 0 = x := ⟨_, rfl⟩
            have hcell : (A : Int) + j < 8 * l0.length → wr.cell? ⟨g, (A + j) / 8, none⟩ = some (.int .u8 (x.toNat : Int)) := fun h => by
              have hq : (A + j) / 8 < L.length := by rw [HL.out]; omega
              rw [own.cell _ (by simpa using hq), ← hx]
              simp [encB, hq]
            have hfr := own.frozen ((A + j) / 8)
            have HX := Lib.hid hx; clear hx
            go_wp2
            · have hlt : (A : Int) + j < 8 * l0.length := by assumption
              go_roundw
              case rel =>
                refine ⟨j + 1, _, M ^^^ 1#32 <<< j, true, by omega, by go_num, rfl, ?_, hbel.setCell hg1 _, own.setB _ (x ^^^ UInt8.ofNat (2 ^ ((A + j) % 8))) _ ?_, HB.out.step hj2 HL.out hlt HX.out⟩
                · rw [List.length_set]; exact HL.out
                · exact flip_val x _ (Nat.mod_lt _ (by omega))
              case measure => simp [intOf]; omega
            · go_roundw
              case rel => exact ⟨j + 1, L, M, c, by omega, by go_num, rfl, HL.out, hbel, own, HB.out.skip⟩
              case measure => simp [intOf]; omega
            · go_roundw
              case rel => exact ⟨j + 1, L, M, c, by omega, by go_num, rfl, HL.out, hbel, own, HB.out.skip⟩
              case measure => simp [intOf]; omega
          · have hq := HB.out.law
            have bL : Byt wr (some ⟨g, 0, none⟩) L := own.byt
            have h0' := h0.below hbel (Nat.le_refl _)
            have s0' : L.length ≤ 600 ∧ l0.length ≤ L.length ∧ L.length ≤ l0.length := by rw [HL.out]; omega
            go_wp2_with (first | (go_at_call 10; (with_reducible refine (crc_Sum _ l0 _ _ _ h0' rfl (by omega)).mono ?_); rintro e w' ⟨rfl, rfl⟩) | (go_at_call 10; (with_reducible refine (crc_Sum _ L _ _ _ bL (by omega) (by omega)).mono ?_); rintro e w' ⟨rfl, rfl⟩) | (go_at_call 9; (with_reducible refine (awake_yes _).mono ?_); rintro e w' ⟨rfl, hb⟩))
            go_ret
            exact ⟨rfl, hbel.trans (hb.mono hbel.size)⟩
  · go_enter Try.func5, Try.ntmps5
    go_wp2_with (first | (go_at_call 8; (with_reducible refine (mk_Short _ _ _ _ (by assumption)).mono ?_); rintro e w' ⟨rfl, rfl⟩) | (go_at_call 9; (with_reducible refine (awake_yes _).mono ?_); rintro e w' ⟨rfl, hb⟩))
    go_ret
    exact ⟨rfl, hb⟩
end Go.Proofs.Ytlnckmnieigbnaa
