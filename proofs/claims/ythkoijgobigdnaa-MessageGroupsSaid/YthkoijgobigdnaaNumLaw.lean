/- numbers read one after the other, in plain Lean -/
import Derived.Test.YthkoijgobigdnaaVarintLaw
namespace Go.Proofs.Ythkoijgobigdnaa

/-- n numbers from the beginning of b, and what stands behind them -/
def rdN : Nat → List UInt8 → Option (List Int × List UInt8)
  | 0, b => some ([], b)
  | n + 1, b => match vDec b with
    | none => none
    | some (v, k) => match rdN n (b.drop k) with
      | none => none
      | some (l, r) => some ((v : Int) :: l, r)
theorem rdN_none {n : Nat} {b : List UInt8} (h : vDec b = none) : rdN (n + 1) b = none := by rw [rdN, h]
theorem rdN_some {n : Nat} {b : List UInt8} {v k : Nat} (h : vDec b = some (v, k)) : rdN (n + 1) b = (rdN n (b.drop k)).map fun p => ((v : Int) :: p.1, p.2) := by
  rw [rdN, h]
  simp only
  cases rdN n (b.drop k) with
  | none => rfl
  | some p => obtain ⟨l, r⟩ := p; rfl
def encL (l : List Int) : List UInt8 := (l.map fun n => vEnc n.toNat).flatten
/-- what was read is the code of the numbers that were read -/
theorem rdN_only : ∀ (n : Nat) (b r : List UInt8) (l : List Int), rdN n b = some (l, r) → l.length = n ∧ b = encL l ++ r ∧ ∀ x ∈ l, 0 ≤ x ∧ x ≤ 4294967295 := by
  intro n
  induction n with
  | zero => intro b r l h; rw [rdN] at h; injection h with h; injection h with h1 h2; subst h1 h2; exact ⟨rfl, rfl, by simp⟩
  | succ n ih =>
    intro b r l h
    cases hv : vDec b with
    | none => rw [rdN_none hv] at h; cases h
    | some p =>
      obtain ⟨v, k⟩ := p
      rw [rdN_some hv] at h
      cases hr : rdN n (b.drop k) with
      | none => rw [hr] at h; cases h
      | some q =>
        obtain ⟨l', r'⟩ := q
        rw [hr] at h
        injection h with h
        injection h with h1 h2
        subst h1 h2
        obtain ⟨e1, e2, e3⟩ := ih _ _ _ hr
        obtain ⟨g1, g2, g3, g4⟩ := vDec_only hv
        refine ⟨by simp [e1], ?_, ?_⟩
        · have : b = b.take k ++ b.drop k := (List.take_append_drop k b).symm
          rw [this, g3, e2]
          simp [encL]
        · intro x hx
          rcases List.mem_cons.1 hx with rfl | hx
          · omega
          · exact e3 x hx
theorem rdN_enc : ∀ (l : List Int) (r : List UInt8), (∀ x ∈ l, 0 ≤ x ∧ x ≤ 4294967295) → rdN l.length (encL l ++ r) = some (l, r) := by
  intro l
  induction l with
  | nil => intro r _; rfl
  | cons x l ih =>
    intro r h
    have hx := h x (by simp)
    have e : encL (x :: l) ++ r = vEnc x.toNat ++ (encL l ++ r) := by simp [encL]
    rw [e, List.length_cons, rdN_some (vDec_enc (by omega) _)]
    rw [List.drop_left, ih r (fun y hy => h y (List.mem_cons_of_mem _ hy))]
    simp only [Option.map_some]
    congr 2
    congr 1
    omega
end Go.Proofs.Ythkoijgobigdnaa
