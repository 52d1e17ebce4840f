/- plain laws about lists of requests -/
import Derived.Test.YtbanejpihdhbdaaRef19m
namespace Go.Proofs.Ytbanejpihdhbdaa
set_option linter.unusedVariables false
open Go.RowKit Go.Sort
set_option maxRecDepth 100000

theorem pw_of_inc : ∀ (l : List Rk), (∀ i (h : i + 1 < l.length), l[i].1 < l[i + 1].1) → l.Pairwise (fun a b => a.1 < b.1)
  | [], _ => .nil
  | [a], _ => by simp
  | a :: b :: l, h => by
    have ih := pw_of_inc (b :: l) (fun i hi => h (i + 1) (by simpa using hi))
    refine List.pairwise_cons.2 ⟨fun c hc => ?_, ih⟩
    have hab := h 0 (by simp)
    rcases List.mem_cons.1 hc with rfl | hc
    · exact hab
    · exact Int.lt_trans hab ((List.pairwise_cons.1 ih).1 c hc)
theorem inc_of_pw {l : List Rk} (h : l.Pairwise (fun a b => a.1 < b.1)) : ∀ i (h : i + 1 < l.length), l[i].1 < l[i + 1].1 :=
  fun i hi => List.pairwise_iff_getElem.1 h i (i + 1) (by omega) hi (by omega)
theorem RqsOk.mem {l : List Rk} {q : Int} (h : RqsOk l q) : ∀ r ∈ l, RkOk r := fun r hr => by
  obtain ⟨k, hk, rfl⟩ := List.mem_iff_getElem.1 hr
  exact h.ok k hk
theorem RqsOk.of {l : List Rk} {q : Int} (h : ∀ r ∈ l, RkOk r) (p : l.Pairwise (fun a b => a.1 < b.1)) (n : (l.length : Int) ≤ q ∧ l.length ≤ 4) : RqsOk l q :=
  ⟨fun i hi => h _ (List.getElem_mem hi), inc_of_pw p, n⟩
theorem RqsOk.nil {q : Int} (h : 0 ≤ q) : RqsOk [] q := .of (by simp) .nil (by simpa using h)
theorem insM_len (l : List Rk) (r : Rk) : (insM l r).length = l.length + 1 := by simp [insM]; omega
theorem insM_mem {l : List Rk} {r x : Rk} : x ∈ insM l r ↔ x = r ∨ x ∈ l := by
  unfold insM
  constructor
  · intro h
    rcases List.mem_append.1 h with h | h
    · rcases List.mem_append.1 h with h | h
      · exact .inr (List.mem_of_mem_take h)
      · exact .inl (List.mem_singleton.1 h)
    · exact .inr (List.mem_of_mem_drop h)
  · rintro (rfl | h)
    · simp
    · rw [← List.take_append_drop (l.findIdx fun y => !decide (y.1 < r.1)) l] at h
      rcases List.mem_append.1 h with h | h
      · simp [h]
      · simp [h]
theorem insM_pw {l : List Rk} {r : Rk} (p : l.Pairwise (fun a b => a.1 < b.1)) (hf : ∀ x ∈ l, x.1 ≠ r.1) : (insM l r).Pairwise (fun a b => a.1 < b.1) := by
  unfold insM
  generalize hi : (l.findIdx fun y => !decide (y.1 < r.1)) = i
  have h1 : ∀ x ∈ l.take i, x.1 < r.1 := fun x hx => by
    obtain ⟨k, hk, rfl⟩ := List.mem_iff_getElem.1 hx
    have hk2 : k < i := by simp at hk; omega
    have := List.not_of_lt_findIdx (p := fun y => !decide (y.1 < r.1)) (xs := l) (i := k) (by omega)
    simpa using this
  have h2 : ∀ x ∈ l.drop i, r.1 < x.1 := fun x hx => by
    have hil : i < l.length := by
      rcases Nat.lt_or_ge i l.length with h | h
      · exact h
      · rw [List.drop_of_length_le h] at hx; cases hx
    have hat : ¬ l[i].1 < r.1 := by
      have := List.findIdx_getElem (p := fun y => !decide (y.1 < r.1)) (xs := l) (w := by omega)
      simp only [hi] at this
      simpa using this
    have hne := hf _ (List.getElem_mem hil)
    have hgt : r.1 < l[i].1 := by omega
    rw [List.drop_eq_getElem_cons hil] at hx
    rcases List.mem_cons.1 hx with rfl | hx
    · exact hgt
    · obtain ⟨k, hk, rfl⟩ := List.mem_iff_getElem.1 hx
      have := List.pairwise_iff_getElem.1 p i (i + 1 + k) hil (by simp at hk; omega) (by omega)
      simp only [List.getElem_drop]
      omega
  refine List.pairwise_append.2 ⟨List.pairwise_append.2 ⟨p.sublist (List.take_sublist _ _), by simp, ?_⟩, p.sublist (List.drop_sublist _ _), ?_⟩
  · intro a ha b hb
    rw [List.mem_singleton.1 hb]
    exact h1 a ha
  · intro a ha b hb
    have hb2 := h2 b hb
    rcases List.mem_append.1 ha with ha | ha
    · have := h1 a ha; omega
    · rw [List.mem_singleton.1 ha]; exact hb2
theorem insM_ok {l : List Rk} {q : Int} {r : Rk} (h : RqsOk l q) (hr : RkOk r) (hf : (findM l r.1).isSome = false) (hq : ¬ (q ≤ (l.length : Int) ∨ 4 ≤ l.length)) : RqsOk (insM l r) q := by
  have hf2 := findM_none.1 hf
  refine .of (fun x hx => ?_) (insM_pw (pw_of_inc _ h.inc) hf2) (by rw [insM_len]; omega)
  rcases insM_mem.1 hx with rfl | hx
  · exact hr
  · exact h.mem x hx
theorem subM_ok {l : List Rk} {q id vid vcls life : Int} {x : List Lg} {now : Int} {l2 : List Rk} (h : subM l q id vid vcls life x now = (0, l2)) : RqsOk l2 q ∧ RqsOk l q ∧ l2 = insM l (id, vid, vcls, now + life, x) ∧ (findM l id).isSome = false := by
  unfold subM at h
  split at h
  · injection h with h; cases h
  split at h
  · injection h with h; cases h
  split at h
  · injection h with h; cases h
  split at h
  · injection h with h; cases h
  rename_i h1 h2 h3 h4
  injection h with _ h
  have h1 := Classical.not_not.1 h1
  have h2 := Classical.not_not.1 h2
  have h3 : (findM l id).isSome = false := by simpa using h3
  refine ⟨?_, h1.1, h.symm, h3⟩
  rw [← h]
  exact insM_ok h1.1 ⟨h2.1, h1.2.1, h1.2.2.1, (⟨by omega, by omega⟩ : 0 ≤ now + life ∧ now + life ≤ 2147483648), h2.2.2⟩ h3 h4
theorem LegsOk.mark {l : List Lg} (h : LegsOk l) {now : Int} (h0 : 0 ≤ now) (h1 : now ≤ 1073741824) : LegsOk (l.map (Lg.mark now)) := by
  refine ⟨fun i hi => ?_, fun i j hj hi => ?_, by simpa using h.n⟩
  · have := h.v i (by simpa using hi)
    simp only [lgV, wValid, decide_eq_true_eq, List.getElem_map, Lg.mark, wMark] at this ⊢
    split
    · split <;> omega
    · omega
  · have := h.d i j hj (by simpa using hi)
    simpa [Lg.mark] using this
theorem markM_ok {l : List Rk} {q : Int} (h : RqsOk l q) {now : Int} (h0 : 0 ≤ now) (h1 : now ≤ 1073741824) : RqsOk (markM l now) q := by
  refine ⟨fun i hi => ?_, fun i hi => ?_, by simpa [markM] using h.n⟩
  · have := h.ok i (by simpa [markM] using hi)
    simp only [markM, List.getElem_map]
    exact ⟨this.1, this.2.1, this.2.2.1, this.2.2.2.1, this.2.2.2.2.mark h0 h1⟩
  · have := h.inc i (by simpa [markM] using hi)
    simpa [markM] using this
end Go.Proofs.Ytbanejpihdhbdaa
