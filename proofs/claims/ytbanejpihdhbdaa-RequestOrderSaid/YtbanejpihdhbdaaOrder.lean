/- what RequestOrder leans on: lists that grow by insertion depend on the ids' set alone. No program in sight. -/
import Derived.Test.YtbanejpihdhbdaaAwake19
namespace Go.Proofs.Ytbanejpihdhbdaa
set_option linter.unusedVariables false
open Go.RowKit Go.Sort

theorem pw_eq : ∀ (x y : List Rk), x.Pairwise (fun a b => a.1 < b.1) → y.Pairwise (fun a b => a.1 < b.1) → (∀ r, r ∈ x ↔ r ∈ y) → x = y
  | [], [], _, _, _ => rfl
  | [], b :: y, _, _, h => by have := (h b).2 (by simp); simp at this
  | a :: x, [], _, _, h => by have := (h a).1 (by simp); simp at this
  | a :: x, b :: y, hx, hy, h => by
    rw [List.pairwise_cons] at hx hy
    have e : a = b := by
      rcases List.mem_cons.1 ((h a).1 (by simp)) with e | h1
      · exact e
      · rcases List.mem_cons.1 ((h b).2 (by simp)) with e | h2
        · exact e.symm
        · have := hy.1 a h1
          have := hx.1 b h2
          omega
    subst e
    rw [pw_eq x y hx.2 hy.2 fun r => ⟨fun hr => ?_, fun hr => ?_⟩]
    · rcases List.mem_cons.1 ((h r).1 (List.mem_cons_of_mem _ hr)) with e | h1
      · have := hx.1 r hr
        rw [e] at this; omega
      · exact h1
    · rcases List.mem_cons.1 ((h r).2 (List.mem_cons_of_mem _ hr)) with e | h1
      · have := hy.1 r hr
        rw [e] at this; omega
      · exact h1
def oLg : List Lg := [⟨1, 1, 2, 9, -1⟩]
def oR (k : Int) : Rk := (k, k, 0, 6, oLg)
theorem oLg_ok : LegsOk oLg := LegsOk.one (by decide)
structure Built (l : List Int) (x : List Rk) : Prop where
  ok : RqsOk x 4
  mem : ∀ r, r ∈ x ↔ ∃ k ∈ l, r = oR k
  len : x.length = l.length
theorem Built.nil : Built [] [] := ⟨.nil (by decide), by simp, rfl⟩
theorem Built.free {l : List Int} {x : List Rk} (h : Built l x) {k : Int} (hk : k ∉ l) : (findM x k).isSome = false := findM_none.2 fun r hr e => by
  obtain ⟨q, hq, rfl⟩ := (h.mem r).1 hr
  exact hk (e ▸ hq)
theorem Built.sub {l : List Int} {x : List Rk} (h : Built l x) {k v : Int} (hk : k ∉ l) (k0 : 0 ≤ k) (k1 : k ≤ 1000) (v0 : 0 ≤ v) (v1 : v ≤ 1000) (hl : l.length < 4) : subM x 4 k v 0 5 oLg 1 = (0, insM x (k, v, 0, 6, oLg)) := by
  rw [subM_more ⟨h.ok, ⟨v0, by omega⟩, by decide, by decide⟩ ⟨⟨k0, by omega⟩, by decide, oLg_ok⟩, if_neg (by rw [h.free hk]; decide), if_neg (by have := h.len; omega)]
  rfl
theorem Built.full {l : List Int} {x : List Rk} (h : Built l x) {k v : Int} (hk : k ∉ l) (k0 : 0 ≤ k) (k1 : k ≤ 1000) (v0 : 0 ≤ v) (v1 : v ≤ 1000) (hl : ¬ l.length < 4) : subM x 4 k v 0 5 oLg 1 = (14, []) := by
  rw [subM_more ⟨h.ok, ⟨v0, by omega⟩, by decide, by decide⟩ ⟨⟨k0, by omega⟩, by decide, oLg_ok⟩, if_neg (by rw [h.free hk]; decide), if_pos (by have := h.len; omega)]
theorem Built.snoc {l : List Int} {x : List Rk} (h : Built l x) {k : Int} (hk : k ∉ l) (k0 : 0 ≤ k) (k1 : k ≤ 1000) (hl : l.length < 4) : Built (l ++ [k]) (insM x (oR k)) := by
  refine ⟨(subM_ok (h.sub hk k0 k1 k0 k1 hl)).1, fun r => ?_, by rw [insM_len, h.len]; simp⟩
  rw [insM_mem, h.mem]
  constructor
  · rintro (rfl | ⟨q, hq, rfl⟩)
    · exact ⟨k, by simp, rfl⟩
    · exact ⟨q, by simp [hq], rfl⟩
  · rintro ⟨q, hq, rfl⟩
    rcases List.mem_append.1 hq with hq | hq
    · exact .inr ⟨q, hq, rfl⟩
    · rw [List.mem_singleton.1 hq]; exact .inl rfl
theorem Built.eq {l m : List Int} {x y : List Rk} (h : Built l x) (g : Built m y) (e : ∀ k, k ∈ l ↔ k ∈ m) : x = y :=
  pw_eq x y (pw_of_inc x h.ok.inc) (pw_of_inc y g.ok.inc) fun r => by
    rw [h.mem, g.mem]
    exact ⟨fun ⟨k, hk, hr⟩ => ⟨k, (e k).1 hk, hr⟩, fun ⟨k, hk, hr⟩ => ⟨k, (e k).2 hk, hr⟩⟩
/-- a submit is undone by its cancelling -/
theorem Built.undo {l : List Int} {x : List Rk} (h : Built l x) {k v : Int} (hk : k ∉ l) (k0 : 0 ≤ k) (k1 : k ≤ 1000) (v0 : 0 ≤ v) (v1 : v ≤ 1000) (hl : l.length < 4) : cancM (insM x (k, v, 0, 6, oLg)) k = (0, x) := by
  have hs := subM_ok (h.sub hk k0 k1 v0 v1 hl)
  have hne : ∀ r ∈ x, r.1 ≠ k := fun r hr e => by
    obtain ⟨q, hq, rfl⟩ := (h.mem r).1 hr
    exact hk (e ▸ hq)
  rw [cancM_0 hs.1]
  · congr 1
    unfold insM
    rw [List.filter_append, List.filter_append, List.filter_cons_of_neg (by simp [pCancel]), List.filter_nil, List.append_nil, ← List.filter_append, List.take_append_drop]
    exact List.filter_eq_self.2 fun r hr => by simpa [pCancel] using hne r hr
  · cases hf : (findM (insM x (k, v, 0, 6, oLg)) k).isSome with
    | true => rfl
    | false => exact absurd rfl (findM_none.1 hf (k, v, 0, 6, oLg) (insM_mem.2 (.inl rfl)))
/-- the ids from the t-th on, around -/
def rot (l : List Int) (t i : Nat) : List Int := (List.range i).map fun k => l.getD ((k + t) % l.length) 0
theorem mod_add {k t n : Nat} (hk : k < n) (ht : t < n) : (k + t) % n = if k + t < n then k + t else k + t - n := by
  split
  · exact Nat.mod_eq_of_lt (by assumption)
  · rw [Nat.mod_eq_sub_mod (by omega), Nat.mod_eq_of_lt (by omega)]
theorem rot_succ (l : List Int) (t i : Nat) : rot l t (i + 1) = rot l t i ++ [l.getD ((i + t) % l.length) 0] := by simp [rot, List.range_succ]
theorem rot_len (l : List Int) (t i : Nat) : (rot l t i).length = i := by simp [rot]
theorem rot_new {l : List Int} (hn : l.Nodup) {t i : Nat} (ht : t < l.length) (hi : i < l.length) : l.getD ((i + t) % l.length) 0 ∉ rot l t i := by
  intro h
  simp only [rot, List.mem_map, List.mem_range] at h
  obtain ⟨k, hk, e⟩ := h
  have h1 := Nat.mod_lt (k + t) (show 0 < l.length by omega)
  have h2 := Nat.mod_lt (i + t) (show 0 < l.length by omega)
  rw [List.getD_eq_getElem?_getD, List.getD_eq_getElem?_getD, List.getElem?_eq_getElem h1, List.getElem?_eq_getElem h2] at e
  have e1 : l[(k + t) % l.length] = l[(i + t) % l.length] := e
  have e2 : (k + t) % l.length = (i + t) % l.length := by
    rcases Nat.lt_trichotomy ((k + t) % l.length) ((i + t) % l.length) with h | h | h
    · exact absurd e1 (List.pairwise_iff_getElem.1 hn _ _ h1 h2 h)
    · exact h
    · exact absurd e1.symm (List.pairwise_iff_getElem.1 hn _ _ h2 h1 h)
  rw [mod_add (by omega) ht, mod_add hi ht] at e2
  split at e2 <;> split at e2 <;> omega
theorem rot_all {l : List Int} {t : Nat} (ht : t < l.length) (k : Int) : k ∈ l ↔ k ∈ rot l t l.length := by
  constructor
  · intro h
    obtain ⟨p, hp, rfl⟩ := List.mem_iff_getElem.1 h
    simp only [rot, List.mem_map, List.mem_range]
    by_cases hpt : t ≤ p
    · refine ⟨p - t, by omega, ?_⟩
      rw [show p - t + t = p by omega, Nat.mod_eq_of_lt hp]
      simp [hp]
    · refine ⟨p + l.length - t, by omega, ?_⟩
      rw [show p + l.length - t + t = p + l.length by omega, Nat.add_mod_right, Nat.mod_eq_of_lt hp]
      simp [hp]
  · intro h
    simp only [rot, List.mem_map, List.mem_range] at h
    obtain ⟨q, hq, rfl⟩ := h
    have h1 := Nat.mod_lt (q + t) (show 0 < l.length by omega)
    rw [List.getD_eq_getElem?_getD, List.getElem?_eq_getElem h1]
    exact List.getElem_mem h1
end Go.Proofs.Ytbanejpihdhbdaa
