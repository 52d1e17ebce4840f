/- What comes in: a stream. No program in sight. -/
import Derived.Test.YtgngmmmdhhjbhaaOpen
namespace Go.Proofs.Ytgngmmmdhhjbhaa
open Go.RowKit Go.ChangeShapes Go.WideShapes
set_option linter.unusedVariables false

theorem Reads.slice_form {P : Program} {w : World} {t e : TypeId} {cs : List Value} (ht : P.underlying t = some (.slice e)) (h : Reads P w t cs) : ∃ a n c, cs = [.slice a n c] := by
  obtain ⟨H, enc, fuel, x, h⟩ := h
  cases fuel with
  | zero => simp [DataW.trod] at h
  | succ m =>
    unfold DataW.trod at h
    rw [ht] at h
    split at h
    all_goals first | exact ⟨_, _, _, rfl⟩ | (exfalso; simp_all; done) | (exfalso; contradiction)
theorem isRow_none {k : IntKind} {w : World} {a : Option Addr} {len cap : Nat} {zs : List Int} (h : IsRow k w a len cap zs) : a = none → len = 0 ∧ cap = 0 := by
  rcases h with ⟨_, h1, h2, _⟩ | ⟨x, rfl, _⟩
  · exact fun _ => ⟨h1, h2⟩
  · intro q; cases q
/-- a struct of bytes and a Bool -/
theorem Rd.stream {P : Program} {w : World} {v : Value} {t tb : TypeId} {f0 f1 : Field} (ht : P.underlying t = some (.struct #[f0, f1])) (hm : P.cellsOf t = 2)
    (h0 : P.underlying f0.type = some (.slice tb)) (hb : P.underlying tb = some (.int .u8)) (hcb : P.cellsOf tb = 1) (hc0 : P.cellsOf f0.type = 1) (ho0 : f0.offset = 0)
    (h1 : P.underlying f1.type = some .bool) (hc1 : P.cellsOf f1.type = 1) (ho1 : f1.offset = 1) (h : Rd P w t v) :
    ∃ (a : Option Addr) (l : List UInt8) (c : Nat) (g : Bool), v = .agg #[.slice a l.length c, .bool g] ∧ Byt w a l ∧ l.length ≤ 9223372036854775807 ∧ l.length ≤ c ∧ (a = none → l.length = 0 ∧ c = 0) := by
  obtain ⟨cs, rfl, hr⟩ := h.struct ht
  have hl : cs.toList.length = 2 := (hr.len ht).trans hm
  obtain ⟨c0, c1, hcs⟩ := list2 hl
  have r0 := hr.field ht 0 f0 rfl
  have r1 := hr.field ht 1 f1 rfl
  rw [hcs, ho0, hc0] at r0
  rw [hcs, ho1, hc1] at r1
  simp only [List.drop_succ_cons, List.drop_zero, List.take_succ_cons, List.take_zero] at r0 r1
  obtain ⟨a1, n1, k1, e0⟩ := r0.slice_form h0
  obtain ⟨g, e1⟩ := r1.bool h1
  rw [e0] at r0
  obtain ⟨z1, q1⟩ := r0.isRow h0 hb hcb
  have hcap := isRow_cap q1
  have hnn := isRow_none q1
  obtain ⟨l1, rfl, g1, y1⟩ := isRow_byt q1
  injection e0 with e0 _
  injection e1 with e1 _
  refine ⟨a1, l1, k1, g, ?_, y1, g1, hcap, hnn⟩
  congr 1
  rw [← Array.toList_inj, hcs, e0, e1]
end Go.Proofs.Ytgngmmmdhhjbhaa
