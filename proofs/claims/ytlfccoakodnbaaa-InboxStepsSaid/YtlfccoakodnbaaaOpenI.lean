/- What comes in: a session. -/
import Derived.Test.YtlfccoakodnbaaaOpenS
namespace Go.Proofs.Ytlfccoakodnbaaa
open Go.RowKit Go.ChangeShapes Go.WideShapes
set_option linter.unusedVariables false

theorem Rd.session {P : Program} {w : World} {v : Value} {t tb : TypeId} {f0 f1 f2 g0 g1 : Field} (ht : P.underlying t = some (.struct #[f0, f1, f2])) (hm : P.cellsOf t = 4)
    (h0 : P.underlying f0.type = some .bool) (hc0 : P.cellsOf f0.type = 1) (ho0 : f0.offset = 0)
    (h1 : P.underlying f1.type = some .bool) (hc1 : P.cellsOf f1.type = 1) (ho1 : f1.offset = 1)
    (h2 : P.underlying f2.type = some (.struct #[g0, g1])) (hc2 : P.cellsOf f2.type = 2) (ho2 : f2.offset = 2)
    (h3 : P.underlying g0.type = some (.slice tb)) (hb : P.underlying tb = some (.int .u8)) (hcb : P.cellsOf tb = 1) (hc3 : P.cellsOf g0.type = 1) (ho3 : g0.offset = 0)
    (h4 : P.underlying g1.type = some .bool) (hc4 : P.cellsOf g1.type = 1) (ho4 : g1.offset = 1) (h : Rd P w t v) :
    ∃ (o d : Bool) (a : Option Addr) (l : List UInt8) (c : Nat) (g : Bool), v = .agg #[.bool o, .bool d, .slice a l.length c, .bool g] ∧ Byt w a l ∧ l.length ≤ 9223372036854775807 ∧ l.length ≤ c ∧ (a = none → l.length = 0 ∧ c = 0) := by
  obtain ⟨cs, rfl, hr⟩ := h.struct ht
  have hl : cs.toList.length = 4 := (hr.len ht).trans hm
  obtain ⟨c0, c1, c2, c3, hcs⟩ := list4 hl
  have r0 := hr.field ht 0 f0 rfl
  have r1 := hr.field ht 1 f1 rfl
  have r2 := hr.field ht 2 f2 rfl
  rw [hcs, ho0, hc0] at r0
  rw [hcs, ho1, hc1] at r1
  rw [hcs, ho2, hc2] at r2
  simp only [List.drop_succ_cons, List.drop_zero, List.take_succ_cons, List.take_zero] at r0 r1 r2
  obtain ⟨o, e0⟩ := r0.bool h0
  obtain ⟨d, e1⟩ := r1.bool h1
  have s0 := r2.field h2 0 g0 rfl
  have s1 := r2.field h2 1 g1 rfl
  rw [ho3, hc3] at s0
  rw [ho4, hc4] at s1
  simp only [List.drop_succ_cons, List.drop_zero, List.take_succ_cons, List.take_zero] at s0 s1
  obtain ⟨a1, n1, k1, e2⟩ := s0.slice_form h3
  obtain ⟨g, e3⟩ := s1.bool h4
  rw [e2] at s0
  obtain ⟨z1, q1⟩ := s0.isRow h3 hb hcb
  have hcap := isRow_cap q1
  have hnn := isRow_none q1
  obtain ⟨l1, rfl, g1', y1⟩ := isRow_byt q1
  injection e0 with e0 _
  injection e1 with e1 _
  injection e2 with e2 _
  injection e3 with e3 _
  refine ⟨o, d, a1, l1, k1, g, ?_, y1, g1', hcap, hnn⟩
  congr 1
  rw [← Array.toList_inj, hcs, e0, e1, e2, e3]
end Go.Proofs.Ytlfccoakodnbaaa
