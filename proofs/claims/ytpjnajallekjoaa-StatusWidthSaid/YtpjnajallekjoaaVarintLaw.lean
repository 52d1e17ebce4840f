/- layer 2, plain: codes of numbers, what is read from bytes. No program in sight. -/
import Derived.Test.YtpjnajallekjoaaLib
namespace Go.Proofs.Ytpjnajallekjoaa

def vEnc (n : Nat) : List UInt8 := if h : n < 128 then [UInt8.ofNat n] else UInt8.ofNat (n % 128 + 128) :: vEnc (n / 128)
termination_by n
decreasing_by omega
theorem vEnc_lt {n : Nat} (h : n < 128) : vEnc n = [UInt8.ofNat n] := by rw [vEnc, dif_pos h]
theorem vEnc_ge {n : Nat} (h : 128 ≤ n) : vEnc n = UInt8.ofNat (n % 128 + 128) :: vEnc (n / 128) := by rw [vEnc, dif_neg (by omega)]
theorem vEnc_pos (n : Nat) : 1 ≤ (vEnc n).length := by
  by_cases h : n < 128
  · rw [vEnc_lt h]; simp
  · rw [vEnc_ge (by omega)]; simp
theorem vEnc_len (k : Nat) : ∀ n, n < 128 ^ (k + 1) → (vEnc n).length ≤ k + 1 := by
  induction k with
  | zero => intro n h; rw [vEnc_lt (by simpa using h)]; simp
  | succ k ih =>
    intro n h
    by_cases h1 : n < 128
    · rw [vEnc_lt h1]; simp
    · rw [vEnc_ge (by omega)]
      have := ih (n / 128) (by rw [Nat.div_lt_iff_lt_mul (by omega)]; rw [← Nat.pow_succ]; exact h)
      simp; omega
theorem vEnc_len5 {n : Nat} (h : n ≤ 4294967295) : (vEnc n).length ≤ 5 := vEnc_len 4 n (by omega)
/-- how long the code is -/
def vSize (n : Int) : Int := if 0 ≤ n ∧ n ≤ 4294967295 then ((vEnc n.toNat).length : Int) else 0
/-- reading on, at the byte number i, what has been read so far being acc -/
def vGo : List UInt8 → Nat → Nat → Option (Nat × Nat)
  | [], _, _ => none
  | x :: l, i, acc => if i = 5 then none else if 128 ≤ x.toNat then vGo l (i + 1) (acc + x.toNat % 128 * 128 ^ i)
    else if 4294967295 < acc + x.toNat * 128 ^ i ∨ (0 < i ∧ x.toNat = 0) then none else some (acc + x.toNat * 128 ^ i, i + 1)
def vDec (l : List UInt8) : Option (Nat × Nat) := vGo l 0 0

theorem vGo_step {x : UInt8} {l : List UInt8} {i acc : Nat} (hi : i ≠ 5) (hx : 128 ≤ x.toNat) : vGo (x :: l) i acc = vGo l (i + 1) (acc + x.toNat % 128 * 128 ^ i) := by
  rw [vGo, if_neg hi, if_pos hx]
theorem vGo_five {l : List UInt8} {acc : Nat} : vGo l 5 acc = none := by
  cases l with
  | nil => rfl
  | cons x l => rw [vGo, if_pos rfl]
theorem vGo_bad {x : UInt8} {l : List UInt8} {i acc : Nat} (hx : x.toNat < 128) (h : 4294967295 < acc + x.toNat * 128 ^ i ∨ (0 < i ∧ x.toNat = 0)) : vGo (x :: l) i acc = none := by
  rw [vGo]
  by_cases hi : i = 5
  · rw [if_pos hi]
  · rw [if_neg hi, if_neg (by omega), if_pos h]
theorem vGo_end {x : UInt8} {l : List UInt8} {i acc : Nat} (hi : i ≠ 5) (hx : x.toNat < 128) (h : ¬ (4294967295 < acc + x.toNat * 128 ^ i ∨ (0 < i ∧ x.toNat = 0))) : vGo (x :: l) i acc = some (acc + x.toNat * 128 ^ i, i + 1) := by
  rw [vGo, if_neg hi, if_neg (by omega), if_neg h]

/-- the size of a number whose last digit is x -/
theorem vEnc_size (i : Nat) : ∀ acc x, acc < 128 ^ i → x < 128 → (i = 0 ∨ x ≠ 0) → (vEnc (acc + x * 128 ^ i)).length = i + 1 := by
  induction i with
  | zero => intro acc x h1 h2 _; rw [vEnc_lt (by simp at h1 ⊢; omega)]; simp
  | succ i ih =>
    intro acc x h1 h2 h3
    have hx : x ≠ 0 := by rcases h3 with h | h; omega; exact h
    have hp : 0 < 128 ^ i := Nat.pow_pos (by omega)
    have h128 : 128 ≤ acc + x * 128 ^ (i + 1) := by
      rw [Nat.pow_succ]
      have : 1 * (128 ^ i * 128) ≤ x * (128 ^ i * 128) := Nat.mul_le_mul_right _ (by omega)
      omega
    have hd : (acc + x * 128 ^ (i + 1)) / 128 = acc / 128 + x * 128 ^ i := by
      rw [Nat.pow_succ, ← Nat.mul_assoc, Nat.add_mul_div_right _ _ (by omega)]
    rw [vEnc_ge h128, List.length_cons, hd, ih (acc / 128) x (by rw [Nat.div_lt_iff_lt_mul (by omega), ← Nat.pow_succ]; exact h1) h2 (.inr hx)]
theorem vEnc_short (i : Nat) (acc : Nat) (hi : 0 < i) (h : acc < 128 ^ i) : (vEnc acc).length ≤ i := by
  obtain ⟨k, rfl⟩ : ∃ k, i = k + 1 := ⟨i - 1, by omega⟩
  exact vEnc_len k acc h

/-- a number is read back, whatever follows -/
theorem vGo_enc (m : List UInt8) : ∀ n i acc, acc < 128 ^ i → acc + n * 128 ^ i ≤ 4294967295 → (0 < i → n ≠ 0) → vGo (vEnc n ++ m) i acc = some (acc + n * 128 ^ i, i + (vEnc n).length) := by
  intro n
  induction n using Nat.strongRecOn with
  | ind n ih =>
    intro i acc h1 h2 h3
    have hp : 0 < 128 ^ i := Nat.pow_pos (by omega)
    have hi : i ≠ 5 := by
      rintro rfl
      have : 1 * 128 ^ 5 ≤ n * 128 ^ 5 := Nat.mul_le_mul_right _ (by have := h3 (by omega); omega)
      omega
    by_cases h : n < 128
    · rw [vEnc_lt h]
      have hn : (UInt8.ofNat n).toNat = n := by simp; omega
      rw [List.singleton_append, vGo_end hi (by rw [hn]; exact h) (by rw [hn]; omega), hn]
      simp
    · rw [vEnc_ge (by omega)]
      have hn : (UInt8.ofNat (n % 128 + 128)).toNat = n % 128 + 128 := by simp; omega
      rw [List.cons_append, vGo_step hi (by rw [hn]; omega), hn]
      have e1 : (n % 128 + 128) % 128 = n % 128 := by omega
      have e2 : acc + n % 128 * 128 ^ i + n / 128 * 128 ^ (i + 1) = acc + n * 128 ^ i := by
        rw [Nat.pow_succ, Nat.mul_comm (128 ^ i) 128, ← Nat.mul_assoc, Nat.add_assoc, ← Nat.add_mul]
        congr 2
        omega
      rw [e1, ih (n / 128) (by omega) (i + 1) _ ?_ (by rw [e2]; exact h2) (by omega), e2]
      · simp; omega
      · rw [Nat.pow_succ]
        have : n % 128 * 128 ^ i ≤ 127 * 128 ^ i := Nat.mul_le_mul_right _ (by omega)
        omega
theorem vDec_enc {n : Nat} (h : n ≤ 4294967295) (m : List UInt8) : vDec (vEnc n ++ m) = some (n, (vEnc n).length) := by
  have := vGo_enc m n 0 0 (by simp) (by simpa using h) (by omega)
  simpa [vDec] using this
/-- what is read is the code of what was read -/
theorem vGo_only : ∀ l i acc v k, acc < 128 ^ i → vGo l i acc = some (v, k) → ∃ n j, v = acc + n * 128 ^ i ∧ k = i + j ∧ (0 < i → n ≠ 0) ∧ v ≤ 4294967295 ∧ j ≤ l.length ∧ l.take j = vEnc n := by
  intro l
  induction l with
  | nil => intro i acc v k _ h; simp [vGo] at h
  | cons x l ih =>
    intro i acc v k h1 h
    have hp : 0 < 128 ^ i := Nat.pow_pos (by omega)
    by_cases hi : i = 5
    · subst hi; rw [vGo_five] at h; cases h
    by_cases hx : 128 ≤ x.toNat
    · rw [vGo_step hi hx] at h
      have hlt : acc + x.toNat % 128 * 128 ^ i < 128 ^ (i + 1) := by
        rw [Nat.pow_succ]
        have : x.toNat % 128 * 128 ^ i ≤ 127 * 128 ^ i := Nat.mul_le_mul_right _ (by omega)
        omega
      obtain ⟨n, j, e1, e2, e3, e4, e5, e6⟩ := ih (i + 1) _ v k hlt h
      have hn : n ≠ 0 := e3 (by omega)
      have hxl := x.toNat_lt
      refine ⟨x.toNat % 128 + n * 128, j + 1, ?_, by omega, by omega, e4, by simpa using e5, ?_⟩
      · rw [e1, Nat.pow_succ, Nat.add_mul, Nat.mul_comm (128 ^ i) 128, ← Nat.mul_assoc, Nat.add_assoc]
      · rw [vEnc_ge (by omega), List.take_succ_cons, e6]
        have a1 : (x.toNat % 128 + n * 128) % 128 = x.toNat % 128 := by omega
        have a2 : (x.toNat % 128 + n * 128) / 128 = n := by omega
        rw [a1, a2]
        congr 1
        apply UInt8.toNat_inj.1
        simp
        omega
    · by_cases hb : 4294967295 < acc + x.toNat * 128 ^ i ∨ (0 < i ∧ x.toNat = 0)
      · rw [vGo_bad (by omega) hb] at h; cases h
      · rw [vGo_end hi (by omega) hb] at h
        injection h with h
        injection h with h2 h3
        refine ⟨x.toNat, 1, h2.symm, h3.symm, by omega, by omega, by simp, ?_⟩
        rw [vEnc_lt (by omega)]
        simp
theorem vDec_only {l : List UInt8} {v k : Nat} (h : vDec l = some (v, k)) : v ≤ 4294967295 ∧ k ≤ l.length ∧ l.take k = vEnc v ∧ k = (vEnc v).length := by
  obtain ⟨n, j, e1, e2, _, e4, e5, e6⟩ := vGo_only l 0 0 v k (by simp) h
  simp at e1 e2
  subst e1 e2
  refine ⟨e4, e5, e6, ?_⟩
  rw [← e6]; simp; omega
/-- longer codes are those of greater numbers -/
theorem vEnc_mono : ∀ n m, n ≤ m → (vEnc n).length ≤ (vEnc m).length := by
  intro n
  induction n using Nat.strongRecOn with
  | ind n ih =>
    intro m h
    by_cases h1 : n < 128
    · rw [vEnc_lt h1]; exact vEnc_pos m
    · rw [vEnc_ge (by omega), vEnc_ge (show 128 ≤ m by omega)]
      simp only [List.length_cons]
      have := ih (n / 128) (by omega) (m / 128) (by omega)
      omega
/-- no code is the beginning of another -/
theorem vEnc_prefix {n m : Nat} (hn : n ≤ 4294967295) (hm : m ≤ 4294967295) (h : (vEnc m).take (vEnc n).length = vEnc n) : n = m := by
  have h1 := vDec_enc hm []
  have h2 : vEnc m ++ [] = vEnc n ++ (vEnc m).drop (vEnc n).length := by
    rw [List.append_nil]
    have := List.take_append_drop (vEnc n).length (vEnc m)
    rw [h] at this
    exact this.symm
  rw [h2, vDec_enc hn] at h1
  injection h1 with h1
  injection h1
end Go.Proofs.Ytpjnajallekjoaa
