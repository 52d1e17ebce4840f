/- plain law of TokenSlots: what a derived token of no rights meets -/
import Derived.Test.YtgngmmmdhhjbhaaTkRExp
import Derived.Test.YtgngmmmdhhjbhaaKills
namespace Go.Proofs.Ytgngmmmdhhjbhaa
set_option linter.unusedVariables false
open Go.RowKit Go.Sort
set_option maxRecDepth 100000

theorem within_zero {b : Int} (h : rV b = true) : rWithin 0 b = true := by
  have hh : ∀ y : Fin 64, rWithin 0 (y.val : Int) = true := by decide +kernel
  have hb := rV_iff.1 h
  have := hh ⟨b.toNat, by omega⟩
  simpa [Int.toNat_of_nonneg hb.1] using this
section
variable {k : List TkK} {i p : Nat} {t : TkK}
theorem put_tU (hi : i < k.length) (hfi : k[i].us = false) {s : Int} (q : tU k s = true) : tU (k.set i t) s = true ∧ tP (k.set i t) s = tP k s := by
  obtain ⟨j, rfl, hj⟩ := tU_nat q
  have hji : j ≠ i := fun e => by subst e; rw [tU_get hj, hfi] at q; cases q
  have hj' : j < (k.set i t).length := by rw [List.length_set]; exact hj
  rw [tU_get hj', tP_get hj', List.getElem_set_ne (by omega), ← tU_get hj, ← tP_get hj]
  exact ⟨q, rfl⟩
theorem put_tUn {s : Int} (q : tU k s = false) (e : s ≠ i) : tU (k.set i t) s = false := by
  cases q2 : tU (k.set i t) s with
  | false => rfl
  | true =>
    obtain ⟨j, rfl, hj'⟩ := tU_nat q2
    have hj : j < k.length := by have := hj'; rw [List.length_set] at this; exact this
    rw [tU_get hj', List.getElem_set_ne (fun e2 => e (by rw [e2])), ← tU_get hj, q] at q2
    cases q2
theorem put_anc (h : valK k = true) (hi : i < k.length) (hfi : k[i].us = false) (n : Nat) (s : Int) (q : tU k s = true) : ancK (k.set i t) n s = ancK k n s :=
  anc_congr n s (fun x hx => put_tU hi hfi (ancK_used hx)) (fun q2 => by rw [q] at q2; cases q2) (fun x hx ⟨y, hy, e⟩ => by
    refine put_tUn hx fun e2 => ?_
    rcases val_par h (ancK_used hy) with ⟨-, e3⟩ | ⟨-, e3⟩
    · rw [e3] at e; omega
    · rw [e, hx] at e3; cases e3)
theorem put_dsc (h : valK k = true) (hi : i < k.length) (hfi : k[i].us = false) (hp : p < k.length) (hpu : k[p].us = true) (ht : t.us = true) (hpar : t.par = p) (s : Int) : dscK (k.set i t) 8 s p = (dscK k 8 s p || decide (s = i)) := by
  have hi' : i < (k.set i t).length := by rw [List.length_set]; exact hi
  have hpU : tU k p = true := by rw [tU_get hp]; exact hpu
  cases q : tU k s with
  | true =>
    have e : decide (s = i) = false := by
      rw [decide_eq_false_iff_not]
      intro e
      rw [e, tU_get hi, hfi] at q
      cases q
    rw [e, Bool.or_false]
    unfold dscK
    rw [put_anc h hi hfi 8 s q]
  | false =>
    have e0 : dscK k 8 s p = false := by
      unfold dscK
      rw [ancK_no (n := 7) q]
      rfl
    rw [e0, Bool.false_or]
    by_cases e : s = i
    · subst e
      rw [decide_eq_true rfl, dsc_iff]
      have hu : tU (k.set i t) i = true := by rw [tU_get hi', List.getElem_set_self]; exact ht
      have hp2 := put_tU (t := t) hi hfi hpU
      rw [ancK_yes (n := 7) hu, tP_get hi', List.getElem_set_self, hpar, ancK_yes (n := 6) hp2.1]
      simp
    · rw [decide_eq_false e]
      unfold dscK
      rw [ancK_no (n := 7) (put_tUn q e)]
      rfl
end
theorem bsum_one (i : Nat) : ∀ n, bsum (fun s => decide (s = (i : Int))) n = if i < n then 2 ^ i else 0
  | 0 => rfl
  | n + 1 => by
    rw [bsum, bsum_one i n]
    by_cases e : i = n
    · subst e
      simp
    · have e2 : ¬ (decide ((n : Int) = (i : Int)) = true) := by simp; omega
      rw [if_neg e2, Nat.add_zero]
      by_cases hlt : i < n
      · rw [if_pos hlt, if_pos (by omega)]
      · rw [if_neg hlt, if_neg (by omega)]
/-- the set below the parent, behind a derive -/
theorem put_bsum {k : List TkK} {i p : Nat} {t : TkK} (h : valK k = true) (hi : i < k.length) (hfi : k[i].us = false) (hp : p < k.length) (hpu : k[p].us = true) (ht : t.us = true) (hpar : t.par = p) :
    bits .or .i64 ((bsum (fun a => dscK k 8 a p) 8 : Nat) : Int) ((2 ^ i : Nat) : Int) = ((bsum (fun a => dscK (k.set i t) 8 a p) 8 : Nat) : Int) := by
  have h8 := (valK_iff.1 h).1
  have e : bsum (fun a => dscK (k.set i t) 8 a p) 8 = bsum (fun a => dscK k 8 a p || decide (a = (i : Int))) 8 := bsum_ext (fun s => put_dsc h hi hfi hp hpu ht hpar s) 8
  have h1 := bsum_one i 8
  rw [if_pos (by omega)] at h1
  rw [or_i64 (bsum_lt _ 8) (by have := pow_8 (i := i) (by omega); omega), e, ← or_bsum, h1]
/-- how a derive of no rights falls -/
theorem der0_err {k : List TkK} {p : Nat} {L now er s : Int} {sec : List UInt8} {y : List TkK} (h : derM k p 0 0 L sec now = (er, s, y)) (hv : valK k = true) (h8 : sec.length = 8) (n0 : 0 ≤ now) (n1 : now ≤ 1073741824) (hL0 : 0 ≤ L) (hL : L ≤ 600) (hp : p < k.length) (he : er ≠ 0) :
    (k[p].us = false ∧ er = 12) ∨ (k[p].us = true ∧ latB (untM L now) k[p].un = true ∧ er = 8) ∨ (k[p].us = true ∧ latB (untM L now) k[p].un = false ∧ (∀ j (hj : j < k.length), k[j].us = true) ∧ er = 10) := by
  cases hu : k[p].us with
  | false =>
    rw [derM_12 ⟨hv, h8, n0, n1⟩ (by rw [tU_get hp]; exact hu)] at h
    injection h with h _
    exact .inl ⟨rfl, h.symm⟩
  | true =>
    have hs := (val_used hv hp hu).1
    simp only [sndB, sndN, Bool.and_eq_true, decide_eq_true_eq] at hs
    have h3 : rWithin 0 (gK k p).rt = true ∧ (0 : Int) ≤ 0 ∧ 0 ≤ (gK k p).cl ∧ 0 ≤ L ∧ L ≤ 600 := by
      rw [gK_get hp]
      exact ⟨within_zero hs.2.1, Int.le_refl _, hs.2.2.1, hL0, hL⟩
    have hU : tU k p = true := by rw [tU_get hp]; exact hu
    cases hl : latB (untM L now) k[p].un with
    | true =>
      rw [derM_8b ⟨hv, h8, n0, n1⟩ hU h3 (by rw [gK_get hp]; exact hl)] at h
      injection h with h _
      exact .inr (.inl ⟨rfl, rfl, h.symm⟩)
    | false =>
      rw [derM_rest ⟨hv, h8, n0, n1⟩ hU h3 (by rw [gK_get hp]; exact hl)] at h
      cases hf : k.findIdx? (fun t => !t.us) with
      | some i => rw [hf] at h; injection h with h _; exact absurd h.symm he
      | none =>
        rw [hf] at h
        injection h with h _
        refine .inr (.inr ⟨rfl, rfl, fun j hj => ?_, h.symm⟩)
        have := List.findIdx?_eq_none_iff.1 hf k[j] (List.getElem_mem hj)
        simpa using this
/-- a derived token passes -/
theorem der0_chk {k : List TkK} {p : Nat} {L now s : Int} {sec : List UInt8} {y : List TkK} (h : derM k p 0 0 L sec now = (0, s, y)) (n0 : 0 ≤ now) (hp : p < k.length) :
    ∃ i : Nat, s = i ∧ i < 8 ∧ k.length = 8 ∧ (∃ hi : i < k.length, k[i].us = false) ∧ (∀ j (hj : j < k.length), j < i → k[j].us = true) ∧ y.length = 8 ∧ (∃ hi : i < y.length, y[i].par = p) ∧ chkM y 1 (tkB 1 i sec) 1 now = ((i : Int), 0)
      ∧ bits .or .i64 ((bsum (fun a => dscK k 8 a p) 8 : Nat) : Int) ((2 ^ i : Nat) : Int) = ((bsum (fun a => dscK y 8 a p) 8 : Nat) : Int) := by
  obtain ⟨hv, hvy, hU, i, rfl, hi, hfi, hlo, rfl⟩ := der_val h rfl
  have h8 := (valK_iff.1 hv).1
  have hpu : k[p].us = true := by rw [← tU_get hp]; exact hU
  have hi' : i < (k.set i ⟨true, sec, p, 0, 0, untM L now⟩).length := by rw [List.length_set]; exact hi
  have hs := (val_used hvy hi' (by rw [List.getElem_set_self])).1
  rw [List.getElem_set_self] at hs
  simp only [sndB, sndN, Bool.and_eq_true, decide_eq_true_eq] at hs
  refine ⟨i, rfl, by omega, h8, ⟨hi, hfi⟩, hlo, by rw [List.length_set]; exact h8, ⟨hi', by rw [List.getElem_set_self]⟩, ?_, put_bsum hv hi hfi hp hpu rfl rfl⟩
  have hby : ((UInt8.ofNat (((i : Nat) : Int) % 256).toNat).toNat : Int) = i := by rw [tkB_byte (by omega)]
  have e : chkM (k.set i ⟨true, sec, p, 0, 0, untM L now⟩) 1 (tkB 1 i sec) 1 now = (((UInt8.ofNat (((i : Nat) : Int) % 256).toNat).toNat : Int), 0) := by
    unfold tkB
    refine chk_ok hs.1 (by decide) ?_ ?_ ?_ ?_
    · rw [hby, tU_get hi', List.getElem_set_self]
    · rw [hby, gK_get hi', List.getElem_set_self]; simp
    · rw [hby, gK_get hi', List.getElem_set_self]
      unfold untM
      by_cases hq : 0 < L
      · rw [if_pos hq]
        have : ¬ now + L < now := by omega
        simp [expB, this]
      · rw [if_neg hq]
        simp [expB]
    · rw [hby, gK_get hi', List.getElem_set_self]; exact (by decide : rPermits 0 1 = true)
  rw [e, hby]
end Go.Proofs.Ytgngmmmdhhjbhaa
