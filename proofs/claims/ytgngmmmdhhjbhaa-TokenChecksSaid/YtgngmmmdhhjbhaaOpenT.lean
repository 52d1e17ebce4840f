/- What comes in: slots of tokens -/
import Derived.Test.YtgngmmmdhhjbhaaOpen
import Derived.Test.YtgngmmmdhhjbhaaOpenS
import Derived.Test.YtgngmmmdhhjbhaaTkBent
namespace Go.Proofs.Ytgngmmmdhhjbhaa
open Go.RowKit Go.ChangeShapes Go.WideShapes
set_option linter.unusedVariables false

section
variable {α : Type} {enc : α → List Value} {s : Nat} (hlen : ∀ x, (enc x).length = s)
include hlen
theorem flat_len : ∀ l : List α, (l.flatMap enc).length = l.length * s
  | [] => by simp
  | x :: l => by
    rw [List.flatMap_cons, List.length_append, flat_len l, hlen, List.length_cons, Nat.succ_mul]
    omega
theorem flat_get : ∀ (l : List α) (i : Nat) (h : i < l.length) (k : Nat) (_ : k < s), (l.flatMap enc)[i * s + k]? = (enc l[i])[k]?
  | x :: l, 0, _, k, hk => by
    rw [List.flatMap_cons, Nat.zero_mul, Nat.zero_add, List.getElem?_append_left (by rw [hlen]; exact hk)]
    rfl
  | x :: l, i + 1, h, k, hk => by
    have := flat_get l i (by simpa using h) k hk
    rw [List.flatMap_cons, List.getElem?_append_right (by rw [hlen, Nat.succ_mul]; omega), hlen]
    simp only [List.getElem_cons_succ]
    rw [← this]
    congr 1
    rw [Nat.succ_mul]; omega
/-- a row, element by element -/
theorem row_of_cells {w : World} {x : Addr} {l : List α} (hs : 0 < s) (h : ∀ i (hi : i < l.length), w.cells? 0 (x.add (i * s)) s = some (enc l[i])) : Row w (some x) (l.flatMap enc) := by
  cases hl : l with
  | nil => exact .inl rfl
  | cons y m =>
    rw [← hl]
    have h0 : 0 < l.length := by rw [hl]; simp
    obtain ⟨b, off, sp⟩ := x
    have c0 := (World.cells?_some (h 0 h0)).2.2 0 hs
    have c0' : w.cell? ((⟨b, off, sp⟩ : Addr).add (0 * s) |>.add 0) = some ((enc l[0])[0]'(by rw [hlen]; exact hs)) := by
      rw [c0, List.getElem?_eq_getElem]
    have hsp : sp = none := by simpa [Addr.add] using World.cell?_spot c0'
    subst hsp
    have hadd : ∀ o i, (⟨b, o, none⟩ : Addr).add i = ⟨b, o + i, none⟩ := fun o i => by unfold Addr.add; split <;> simp_all
    rw [hadd, hadd] at c0'
    refine .inr ⟨b, off, rfl, World.block_lt_of_cell? w _ c0', fun j hj => ?_⟩
    rw [flat_len hlen] at hj
    have hi : j / s < l.length := (Nat.div_lt_iff_lt_mul hs).2 hj
    have hk : j % s < s := Nat.mod_lt _ hs
    have e : j / s * s + j % s = j := by rw [Nat.mul_comm]; exact Nat.div_add_mod j s
    have q := (World.cells?_some (h (j / s) hi)).2.2 (j % s) hk
    have g := flat_get hlen l (j / s) hi (j % s) hk
    rw [e] at g
    rw [hadd, hadd, show off + j / s * s + j % s = off + j by omega, ← g, List.getElem?_eq_getElem (by rw [flat_len hlen]; exact hj)] at q
    exact q
end
theorem list_of {α : Type} {n : Nat} {P : Nat → α → Prop} (h : ∀ i, i < n → ∃ x, P i x) : ∃ l : List α, l.length = n ∧ ∀ i (hi : i < l.length), P i l[i] := by
  induction n with
  | zero => exact ⟨[], rfl, fun i hi => by simp at hi⟩
  | succ n ih =>
    obtain ⟨l, hl, hp⟩ := ih fun i hi => h i (by omega)
    obtain ⟨x, hx⟩ := h n (by omega)
    refine ⟨l ++ [x], by simp [hl], fun i hi => ?_⟩
    by_cases e : i < l.length
    · rw [List.getElem_append_left e]; exact hp i e
    · obtain rfl : i = l.length := by simp at hi; omega
      rw [List.getElem_append_right (by omega)]
      simpa [hl] using hx
section
variable {P : Program} {w : World} {t e : TypeId}
/-- a slice of elements of which each is made of cells of one form -/
theorem Reads.rows {α : Type} (enc : α → List Value) (s : Nat) (Q : α → Prop) (hlen : ∀ x, (enc x).length = s) (hs : 0 < s) (ht : P.underlying t = some (.slice e)) (hc : P.cellsOf e = s) (hel : ∀ cs, Reads P w e cs → ∃ x, cs = enc x ∧ Q x) {a : Option Addr} {n c : Nat} (h : Reads P w t [.slice a n c]) :
    ∃ l : List α, l.length = n ∧ Row w a (l.flatMap enc) ∧ (∀ x ∈ l, Q x) ∧ (a = none → c = 0) ∧ n ≤ c ∧ n ≤ 9223372036854775807 := by
  rcases h.slice ht with ⟨rfl, rfl, rfl⟩ | ⟨x, rfl, h1, h2, h3⟩
  · exact ⟨[], rfl, .inl rfl, by simp, fun _ => rfl, Nat.le_refl _, by omega⟩
  · obtain ⟨l, hl, hp⟩ := list_of (n := n) (P := fun i y => w.cells? 0 (x.add (i * s)) s = some (enc y) ∧ Q y) fun i hi => by
      obtain ⟨cs, q1, q2⟩ := h3 i (by omega)
      obtain ⟨y, rfl, hq⟩ := hel cs q2
      rw [hc] at q1
      exact ⟨y, q1, hq⟩
    refine ⟨l, hl, row_of_cells hlen hs fun i hi => (hp i hi).1, fun y hy => ?_, (fun q => by cases q), h1, by unfold maxLen at h2; omega⟩
    obtain ⟨i, hi, rfl⟩ := List.mem_iff_getElem.1 hy
    exact (hp i hi).2
end
theorem list6 {α : Type} {l : List α} (h : l.length = 6) : ∃ a b c d e f, l = [a, b, c, d, e, f] := match l, h with | [a, b, c, d, e, f], _ => ⟨a, b, c, d, e, f, rfl⟩
theorem read_tok {w : World} {cs : List Value} (h : Reads Try.prog w 52 cs) : ∃ x : Tk, cs = x.cells ∧ (Byt w x.a x.sec ∧ (x.a = none → x.sec.length = 0 ∧ x.c = 0)) := by
  have hl : cs.length = 6 := (h.len Try.underlying52).trans (by kernel_rfl)
  obtain ⟨c0, c1, c2, c3, c4, c5, rfl⟩ := list6 hl
  have z0 : Try.prog.cellsOf 4 = 1 := by kernel_rfl
  have z1 : Try.prog.cellsOf 3 = 1 := by kernel_rfl
  have z2 : Try.prog.cellsOf 24 = 1 := by kernel_rfl
  have r0 : Reads Try.prog w 4 (([c0, c1, c2, c3, c4, c5].drop 0).take (Try.prog.cellsOf 4)) := h.field Try.underlying52 0 _ rfl
  have r1 : Reads Try.prog w 24 (([c0, c1, c2, c3, c4, c5].drop 1).take (Try.prog.cellsOf 24)) := h.field Try.underlying52 1 _ rfl
  have r2 : Reads Try.prog w 3 (([c0, c1, c2, c3, c4, c5].drop 2).take (Try.prog.cellsOf 3)) := h.field Try.underlying52 2 _ rfl
  have r3 : Reads Try.prog w 3 (([c0, c1, c2, c3, c4, c5].drop 3).take (Try.prog.cellsOf 3)) := h.field Try.underlying52 3 _ rfl
  have r4 : Reads Try.prog w 3 (([c0, c1, c2, c3, c4, c5].drop 4).take (Try.prog.cellsOf 3)) := h.field Try.underlying52 4 _ rfl
  have r5 : Reads Try.prog w 3 (([c0, c1, c2, c3, c4, c5].drop 5).take (Try.prog.cellsOf 3)) := h.field Try.underlying52 5 _ rfl
  rw [z1] at r2 r3 r4 r5
  rw [z0] at r0
  rw [z2] at r1
  simp only [List.drop_succ_cons, List.drop_zero, List.take_succ_cons, List.take_zero] at r0 r1 r2 r3 r4 r5
  obtain ⟨b, e0⟩ := r0.bool Try.underlying4
  obtain ⟨a, n, c, e1⟩ := r1.slice_form Try.underlying24
  obtain ⟨p, e2, -⟩ := r2.int Try.underlying3
  obtain ⟨k, e3, -⟩ := r3.int Try.underlying3
  obtain ⟨t, e4, -⟩ := r4.int Try.underlying3
  obtain ⟨u, e5, -⟩ := r5.int Try.underlying3
  rw [e1] at r1
  obtain ⟨zs, q1⟩ := r1.isRow Try.underlying24 Try.underlying5 (by kernel_rfl)
  have hnn := isRow_none q1
  obtain ⟨l, rfl, g1, y1⟩ := isRow_byt q1
  injection e0 with e0 _
  injection e1 with e1 _
  injection e2 with e2 _
  injection e3 with e3 _
  injection e4 with e4 _
  injection e5 with e5 _
  exact ⟨⟨b, l, p, k, t, u, a, c⟩, by rw [e0, e1, e2, e3, e4, e5]; rfl, y1, hnn⟩
/-- slots that came in -/
structure RawT (w : World) (a : Option Addr) (l : List Tk) (c : Nat) : Prop where
  tks : Tks w a l
  nil : a = none → c = 0
  sec : ∀ t ∈ l, t.a = none → t.sec.length = 0 ∧ t.c = 0
  n : l.length ≤ 9223372036854775807
theorem Rd.tokens {w : World} {v : Value} (h : Rd Try.prog w 22 v) : ∃ (a : Option Addr) (l : List Tk) (c : Nat), v = .slice a l.length c ∧ RawT w a l c := by
  obtain ⟨a, n, c, rfl, hr⟩ := h.slice Try.underlying22
  obtain ⟨l, rfl, h2, h3, h4, h5, h6⟩ := hr.rows Tk.cells 6 _ (fun _ => rfl) (by decide) Try.underlying22 (by kernel_rfl) fun cs h => read_tok h
  exact ⟨a, l, c, rfl, ⟨h2, fun r hr => (h3 r hr).1⟩, h4, fun r hr => (h3 r hr).2, h6⟩
theorem Rd.bytsN {w : World} {v : Value} (h : Rd Try.prog w 24 v) : ∃ (a : Option Addr) (l : List UInt8) (c : Nat), v = .slice a l.length c ∧ Byt w a l ∧ l.length ≤ 9223372036854775807 ∧ l.length ≤ c ∧ (a = none → l.length = 0 ∧ c = 0) := by
  obtain ⟨a, n, c, zs, rfl, hz⟩ := h.isRow Try.underlying24 Try.underlying5 (by kernel_rfl)
  have hnn := isRow_none hz
  have hcap := isRow_cap hz
  obtain ⟨l, rfl, h1, h2⟩ := isRow_byt hz
  exact ⟨a, l, c, rfl, h2, h1, hcap, hnn⟩
end Go.Proofs.Ytgngmmmdhhjbhaa
