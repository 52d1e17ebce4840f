/- signalbrokerref14.leads; the sets of slots below a slot -/
import Derived.Test.YtgngmmmdhhjbhaaDesc
namespace Go.Proofs.Ytgngmmmdhhjbhaa
set_option linter.unusedVariables false
open Go.RowKit Go.Sort Go.Shelf
set_option maxRecDepth 100000

theorem ref14_leads (a : Option Addr) (l : List Tk) (n c : Nat) (s top : Int) (w : World) (h : Tks w a l) (hn : n = l.length) (l9 : n ≤ 1000000) :
    Calls Try.prog 60 #[.slice a n c, .int .i64 s, .int .i64 top] w fun e w' => e = .returned (.bool (dscK (l.map Tk.key) (l.length + 1) s top)) ∧ w = w' := by
  subst hn
  go_enter Try.func60, Try.ntmps60
  go_wp2_with fail
  go_loopw [1, 7] (fun s1 s7 wr => ∃ (i : Nat) (fr : Int) (pre : List Int), s1 = .int .i64 fr ∧ s7 = .int .i64 i ∧ i ≤ l.length + 1 ∧ Hid (ancK (l.map Tk.key) (l.length + 1) s = pre ++ ancK (l.map Tk.key) (l.length + 1 - i) fr) ∧ Hid (top ∉ pre) ∧ w = wr) (fun _ s _ => l.length + 1 - (intOf s).toNat)
  case atStart => exact ⟨0, s, [], rfl, rfl, by omega, Lib.hid rfl, Lib.hid (by simp), rfl⟩
  case round =>
    obtain ⟨i, fr, pre, rfl, rfl, hi, hp, htop, rfl⟩ := hrel
    by_cases hil : i ≤ l.length
    · have hd : decide (i ≤ l.length) = true := decide_eq_true hil
      have hii : (i : Int) ≤ (l.length : Int) := by omega
      cases hu : tU (l.map Tk.key) fr with
      | true =>
        obtain ⟨j, rfl, hj⟩ := tU_in hu
        have HN : Hid (ancK (l.map Tk.key) (l.length + 1) s = pre ++ (j : Int) :: ancK (l.map Tk.key) (l.length - i) (tP (l.map Tk.key) j)) := Lib.hid (by rw [hp.out, show l.length + 1 - i = (l.length - i) + 1 by omega, ancK_yes hu])
        have HPJ := Lib.hid (tP_at hj)
        have jx : (j : Int) < (l.length : Int) := by omega
        have hus : l[j].us = true := by rw [← tU_at hj]; exact hu
        obtain ⟨ba, oa, rfl⟩ := h.open (by omega)
        obtain ⟨x0, -, x2, -, -, -, xl⟩ := row_tok h.row j hj
        rw [hus] at x0
        clear hu hus
        by_cases ht : (j : Int) = top
        · have HD : Hid (dscK (l.map Tk.key) (l.length + 1) s top = true) := Lib.hid (by unfold dscK; rw [HN.out]; simp [ht])
          subst ht
          go_wp2_with fail
          go_ret
          rw [HD.out]
          exact ⟨rfl, rfl⟩
        · have HT : Hid (top ∉ pre ++ [(j : Int)]) := Lib.hid (by simp only [List.mem_append, List.mem_singleton, not_or]; exact ⟨htop.out, fun e => ht e.symm⟩)
          have ht2 : ((j : Int) == top) = false := by rw [beq_eq_false_iff_ne]; exact ht
          clear ht
          go_wp2_with fail
          go_roundw
          case rel => exact ⟨i + 1, l[j].par, pre ++ [(j : Int)], rfl, by go_num, by omega, Lib.hid (by rw [HN.out, HPJ.out, List.append_assoc, show l.length + 1 - (i + 1) = l.length - i by omega]; rfl), HT, (by first | rfl | trivial)⟩
          case measure => simp [intOf]; omega
      | false =>
        have HD : Hid (dscK (l.map Tk.key) (l.length + 1) s top = false) := Lib.hid (by
          unfold dscK
          rw [hp.out, show l.length + 1 - i = (l.length - i) + 1 by omega, ancK_no hu, List.append_nil]
          simpa using htop.out)
        rcases Int.lt_or_le fr 0 with h0 | h0
        · go_wp2_with fail
          go_ret
          rw [HD.out]
          exact ⟨rfl, rfl⟩
        · rcases Int.lt_or_le fr l.length with h1 | h1
          · obtain ⟨j, rfl⟩ : ∃ j : Nat, fr = j := ⟨fr.toNat, by omega⟩
            have hj : j < l.length := by omega
            obtain ⟨ba, oa, rfl⟩ := h.open (by omega)
            obtain ⟨x0, -, x2, -, -, -, xl⟩ := row_tok h.row j hj
            have hus : l[j].us = false := by rw [← tU_at hj]; exact hu
            rw [hus] at x0
            clear hu hus
            go_wp2_with fail
            go_ret
            rw [HD.out]
            exact ⟨rfl, rfl⟩
          · have h1' : ¬ fr < (l.length : Int) := by omega
            clear hu
            go_wp2_with fail
            go_ret
            rw [HD.out]
            exact ⟨rfl, rfl⟩
    · obtain rfl : i = l.length + 1 := by omega
      have hd : decide (l.length + 1 ≤ l.length) = false := decide_eq_false (by omega)
      have HD : Hid (dscK (l.map Tk.key) (l.length + 1) s top = false) := Lib.hid (by
        unfold dscK
        rw [hp.out, Nat.sub_self, ancK, List.append_nil]
        simpa using htop.out)
      go_wp2_with fail
      go_ret
      rw [HD.out]
      exact ⟨rfl, rfl⟩
/-- among n + 1 numbers below n two are the same -/
theorem pigeon : ∀ (n : Nat) (f : Nat → Nat), (∀ i, i ≤ n → f i < n) → ∃ i j, i < j ∧ j ≤ n ∧ f i = f j
  | 0, f, h => absurd (h 0 (Nat.le_refl _)) (Nat.not_lt_zero _)
  | n + 1, f, h => by
    by_cases hx : ∃ i, i ≤ n ∧ f i = f (n + 1)
    · obtain ⟨i, hi, e⟩ := hx
      exact ⟨i, n + 1, by omega, Nat.le_refl _, e⟩
    · have hx' : ∀ i, i ≤ n → f i ≠ f (n + 1) := fun i hi e => hx ⟨i, hi, e⟩
      have hl := h (n + 1) (Nat.le_refl _)
      obtain ⟨i, j, hij, hj, e⟩ := pigeon n (fun i => if f i = n then f (n + 1) else f i) fun i hi => by
        have h1 := h i (by omega)
        have h2 := hx' i hi
        split <;> omega
      refine ⟨i, j, hij, by omega, ?_⟩
      have h1 := hx' i (by omega)
      have h2 := hx' j hj
      split at e <;> split at e <;> omega
def itP (k : List TkK) : Nat → Int → Int
  | 0, s => s
  | n + 1, s => itP k n (tP k s)
theorem itP_succ (k : List TkK) : ∀ n s, itP k (n + 1) s = tP k (itP k n s)
  | 0, s => rfl
  | n + 1, s => by rw [itP, itP_succ k n, itP]
theorem itP_add (k : List TkK) : ∀ m n s, itP k (m + n) s = itP k n (itP k m s)
  | m, 0, s => by simp [itP]
  | m, n + 1, s => by rw [← Nat.add_assoc, itP_succ, itP_add k m n, ← itP_succ]
theorem anc_mem (k : List TkK) : ∀ (n : Nat) (s x : Int), x ∈ ancK k n s ↔ ∃ i, i < n ∧ x = itP k i s ∧ ∀ j, j ≤ i → tU k (itP k j s) = true
  | 0, s, x => by simp [ancK]
  | n + 1, s, x => by
    unfold ancK
    by_cases hu : tU k s = true
    · rw [if_pos hu, List.mem_cons, anc_mem k n]
      constructor
      · rintro (rfl | ⟨i, hi, e, h⟩)
        · exact ⟨0, by omega, rfl, fun j hj => by obtain rfl : j = 0 := (by omega); exact hu⟩
        · refine ⟨i + 1, by omega, e, fun j hj => ?_⟩
          cases j with
          | zero => exact hu
          | succ j => exact h j (by omega)
      · rintro ⟨i, hi, e, h⟩
        cases i with
        | zero => exact .inl e
        | succ i => exact .inr ⟨i, by omega, e, fun j hj => h (j + 1) (by omega)⟩
    · rw [if_neg hu]
      constructor
      · intro h; simp at h
      · rintro ⟨i, hi, e, h⟩
        exact absurd (h 0 (by omega)) hu
theorem tU_lt {k : List TkK} {s : Int} (h : tU k s = true) : 0 ≤ s ∧ s.toNat < k.length := by
  unfold tU at h
  simp only [Bool.and_eq_true, decide_eq_true_eq] at h
  refine ⟨h.1, ?_⟩
  rcases Nat.lt_or_ge s.toNat k.length with q | q
  · exact q
  · rw [List.getElem?_eq_none q] at h; cases h.2
/-- more steps than slots lead to nothing new -/
theorem dsc_more (k : List TkK) (s t : Int) : dscK k (k.length + 1) s t = dscK k k.length s t := by
  have key : t ∈ ancK k (k.length + 1) s ↔ t ∈ ancK k k.length s := by
    rw [anc_mem, anc_mem]
    constructor
    · rintro ⟨i, hi, e, h⟩
      by_cases hlt : i < k.length
      · exact ⟨i, hlt, e, h⟩
      · obtain rfl : i = k.length := by omega
        obtain ⟨p, q, hpq, hq, epq⟩ := pigeon k.length (fun j => (itP k j s).toNat) fun j hj => (tU_lt (h j hj)).2
        have ee : itP k p s = itP k q s := by
          have h1 := (tU_lt (h p (by omega))).1
          have h2 := (tU_lt (h q hq)).1
          omega
        refine ⟨p + (k.length - q), by omega, ?_, fun j hj => h j (by omega)⟩
        rw [e, itP_add, ee, ← itP_add]
        congr 1
        omega
    · rintro ⟨i, hi, e, h⟩
      exact ⟨i, by omega, e, h⟩
  unfold dscK
  rw [Bool.eq_iff_iff, List.contains_iff_mem, List.contains_iff_mem]
  exact key
/-- the set of the slots at which f holds, as bits -/
def bsum (f : Int → Bool) : Nat → Nat
  | 0 => 0
  | n + 1 => bsum f n + (if f n = true then 2 ^ n else 0)
theorem bsum_lt (f : Int → Bool) : ∀ n, bsum f n < 2 ^ n
  | 0 => by simp [bsum]
  | n + 1 => by
    have := bsum_lt f n
    rw [bsum, Nat.pow_succ]
    split <;> omega
theorem bsum_ext {f g : Int → Bool} (h : ∀ s, f s = g s) : ∀ n, bsum f n = bsum g n
  | 0 => rfl
  | n + 1 => by rw [bsum, bsum, bsum_ext h n, h]
end Go.Proofs.Ytgngmmmdhhjbhaa
