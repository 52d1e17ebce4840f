/- What comes in: a value that reads as data, opened by its type's shape. No program in sight. -/
import Derived.Test.YtgngmmmdhhjbhaaLib
import Derived.ProofKit
import Derived.OpenShut
import Derived.ChangeArms
import Derived.WideShapes
import Derived.ChangeSlices
namespace Go.Proofs.Ytgngmmmdhhjbhaa
open Go.RowKit Go.ChangeShapes Go.WideShapes

/-- the cells read at the type -/
def Reads (P : Program) (w : World) (t : TypeId) (cs : List Value) : Prop :=
  ∃ (H : Type) (enc : TypeId × Value → H) (fuel : Nat) (x : DataW H × List MemPlace), DataW.trod enc P w 0 (fun _ => true) true fuel t cs = some x
/-- a value of the type that reads -/
def Rd (P : Program) (w : World) (t : TypeId) (v : Value) : Prop := (∃ r b0, Value.okWide P w r b0 t v) ∧ Reads P w t v.cells.toList

section
variable {P : Program} {w : World} {t : TypeId}
theorem Reads.int {k : IntKind} {cs : List Value} (ht : P.underlying t = some (.int k)) (h : Reads P w t cs) : ∃ n, cs = [.int k n] ∧ (Lit.int k n).wf = true := by
  obtain ⟨H, enc, fuel, x, h⟩ := h
  obtain ⟨n, h1, _, h2⟩ := DataW.trod_int ht h
  exact ⟨n, h1, h2⟩
theorem Reads.bool {cs : List Value} (ht : P.underlying t = some .bool) (h : Reads P w t cs) : ∃ b, cs = [.bool b] := by
  obtain ⟨H, enc, fuel, x, h⟩ := h
  obtain ⟨n, h1, _⟩ := DataW.trod_bool ht h
  exact ⟨n, h1⟩
/-- each field of a struct reads -/
theorem Reads.field {fs : Array Field} {cs : List Value} (ht : P.underlying t = some (.struct fs)) (h : Reads P w t cs) (i : Nat) (f : Field) (hf : fs[i]? = some f) : Reads P w f.type ((cs.drop f.offset).take (P.cellsOf f.type)) := by
  obtain ⟨H, enc, fuel, x, h⟩ := h
  obtain ⟨xs, n, _, _, _, hlen, hr⟩ := DataW.trod_struct ht h
  have hi : i < xs.length := by rw [hlen]; exact (Array.getElem?_eq_some_iff.1 hf).1
  exact ⟨H, enc, n, xs[i], by rw [hr i f hf]; simp [hi]⟩
theorem Reads.len {fs : Array Field} {cs : List Value} (ht : P.underlying t = some (.struct fs)) (h : Reads P w t cs) : cs.length = P.cellsOf t := by
  obtain ⟨H, enc, fuel, x, h⟩ := h
  obtain ⟨xs, n, _, _, hl, _⟩ := DataW.trod_struct ht h
  exact hl

/-- a slice: nil, or a row of elements each of which reads (those behind its length too) -/
theorem Reads.slice {e : TypeId} {a : Option Addr} {n c : Nat} (ht : P.underlying t = some (.slice e)) (h : Reads P w t [.slice a n c]) :
    (a = none ∧ n = 0 ∧ c = 0) ∨ ∃ x, a = some x ∧ n ≤ c ∧ c ≤ maxLen ∧ ∀ i, i < c → ∃ cs, w.cells? 0 (x.add (i * P.cellsOf e)) (P.cellsOf e) = some cs ∧ Reads P w e cs := by
  obtain ⟨H, enc, fuel, x, h⟩ := h
  cases fuel with
  | zero => simp [DataW.trod] at h
  | succ m =>
    unfold DataW.trod at h
    rw [ht] at h
    cases a with
    | none =>
      cases n <;> cases c <;> simp at h
      exact .inl ⟨rfl, rfl, rfl⟩
    | some ad =>
      refine .inr ⟨ad, rfl, ?_⟩
      simp only at h
      split at h
      · rename_i hc
        refine ⟨hc.2.1, hc.2.2, ?_⟩
        simp only [Option.bind_eq_some_iff, if_true] at h
        obtain ⟨es, hes, h⟩ := h
        simp only [Option.map_eq_some_iff] at h
        obtain ⟨rs, hrs, _⟩ := h
        have key : ∀ (l : List Nat) (g : Nat → Option (DataW H × List MemPlace)) (ys : List (DataW H × List MemPlace)), l.mapM g = some ys → ∀ i ∈ l, ∃ y, g i = some y := by
          intro l g
          induction l with
          | nil => intro ys _ i hi; cases hi
          | cons a l ih =>
            intro ys hy i hi
            simp only [List.mapM_cons, Option.bind_eq_bind, Option.bind_eq_some_iff] at hy
            obtain ⟨y, hy1, ys', hy2, _⟩ := hy
            rcases List.mem_cons.1 hi with rfl | hi
            · exact ⟨y, hy1⟩
            · exact ih ys' hy2 i hi
        intro i hi
        have hone : ∃ y, (w.cells? 0 (ad.add (i * P.cellsOf e)) (P.cellsOf e)).bind (DataW.trod enc P w 0 (fun _ => true) true m e) = some y := by
          by_cases hin : i < n
          · exact key _ _ _ hes i (List.mem_range.2 hin)
          · obtain ⟨y, hy⟩ := key _ _ _ hrs (i - n) (List.mem_range.2 (by omega))
            rw [show n + (i - n) = i by omega] at hy
            exact ⟨y, hy⟩
        obtain ⟨y, hy⟩ := hone
        rw [Option.bind_eq_some_iff] at hy
        obtain ⟨cs, h1, h2⟩ := hy
        exact ⟨cs, h1, H, enc, m, y, h2⟩
      · simp at h

/-- a struct's fields, ints all, a cell each -/
def intFieldsB (k : TypeId) (fs : Array Field) : Bool := (List.range fs.size).all fun i => match fs[i]? with | some f => f.type == k && f.offset == i | none => false
theorem ints_of_each : ∀ (cs : List Value), (∀ c ∈ cs, ∃ z, c = .int .i64 z ∧ (Lit.int .i64 z).wf = true) → ∃ zs : List Int, zs.length = cs.length ∧ cs = zs.map (Value.int .i64) ∧ ∀ z ∈ zs, (Lit.int .i64 z).wf = true
  | [], _ => ⟨[], rfl, rfl, fun _ h => by cases h⟩
  | c :: cs, h => by
    obtain ⟨z, hz, hw⟩ := h c (by simp)
    obtain ⟨zs, a, b, d⟩ := ints_of_each cs fun x hx => h x (by simp [hx])
    refine ⟨z :: zs, by simp [a], by rw [hz, b]; simp, fun y hy => ?_⟩
    rcases List.mem_cons.1 hy with e | hy
    · rw [e]; exact hw
    · exact d y hy
theorem Reads.ints {fs : Array Field} {k : TypeId} {m : Nat} {cs : List Value} (ht : P.underlying t = some (.struct fs)) (hk : P.underlying k = some (.int .i64)) (h1 : P.cellsOf k = 1) (hB : intFieldsB k fs = true) (hs : fs.size = m) (hm : P.cellsOf t = m)
    (h : Reads P w t cs) : ∃ zs : List Int, zs.length = m ∧ cs = zs.map (Value.int .i64) ∧ ∀ z ∈ zs, (Lit.int .i64 z).wf = true := by
  have hl : cs.length = m := (h.len ht).trans hm
  have hc : ∀ c ∈ cs, ∃ z, c = .int .i64 z ∧ (Lit.int .i64 z).wf = true := fun c hc => by
    obtain ⟨i, hi, rfl⟩ := List.mem_iff_getElem.1 hc
    have hi' : i < fs.size := by omega
    have hb := List.all_eq_true.1 hB i (List.mem_range.2 hi')
    rw [Array.getElem?_eq_getElem hi'] at hb
    simp only [Bool.and_eq_true, beq_iff_eq] at hb
    have hr := h.field ht i _ (Array.getElem?_eq_getElem hi')
    rw [hb.1, hb.2, h1] at hr
    obtain ⟨z, hz, hw⟩ := hr.int hk
    rw [List.drop_eq_getElem_cons hi] at hz
    simp only [List.take_succ_cons, List.take_zero, List.cons.injEq, and_true] at hz
    exact ⟨z, hz, hw⟩
  obtain ⟨zs, a, b, d⟩ := ints_of_each cs hc
  exact ⟨zs, a.trans hl, b, d⟩

theorem Rd.slice {e : TypeId} {v : Value} (ht : P.underlying t = some (.slice e)) (h : Rd P w t v) : ∃ a n c, v = .slice a n c ∧ Reads P w t [.slice a n c] := by
  obtain ⟨⟨r, b0, hw⟩, hr⟩ := h
  obtain ⟨a, n, c, rfl⟩ := okWide_slice ht hw
  exact ⟨a, n, c, rfl, by simpa [Value.cells] using hr⟩
theorem Rd.struct {fs : Array Field} {v : Value} (ht : P.underlying t = some (.struct fs)) (h : Rd P w t v) : ∃ cs, v = .agg cs ∧ Reads P w t cs.toList := by
  obtain ⟨⟨r, b0, hw⟩, hr⟩ := h
  obtain ⟨cs, rfl, _⟩ := okWide_struct ht hw
  exact ⟨cs, rfl, by simpa [Value.cells] using hr⟩
theorem Rd.structInts {fs : Array Field} {k : TypeId} {m : Nat} {v : Value} (ht : P.underlying t = some (.struct fs)) (hk : P.underlying k = some (.int .i64)) (h1 : P.cellsOf k = 1) (hB : intFieldsB k fs = true) (hs : fs.size = m) (hm : P.cellsOf t = m)
    (h : Rd P w t v) : ∃ zs : List Int, zs.length = m ∧ v = .agg (zs.map (Value.int .i64)).toArray ∧ ∀ z ∈ zs, (Lit.int .i64 z).wf = true := by
  obtain ⟨cs, rfl, hr⟩ := h.struct ht
  obtain ⟨zs, a, b, c⟩ := hr.ints ht hk h1 hB hs hm
  exact ⟨zs, a, by rw [← b], c⟩
theorem Rd.bool {v : Value} (ht : P.underlying t = some .bool) (h : Rd P w t v) : ∃ b, v = .bool b := by
  obtain ⟨⟨r, b0, hw⟩, _⟩ := h
  exact okWide_bool ht hw
theorem Reads.isRow {e : TypeId} {k : IntKind} {a : Option Addr} {n c : Nat} (ht : P.underlying t = some (.slice e)) (he : P.underlying e = some (.int k)) (hc : P.cellsOf e = 1) (h : Reads P w t [.slice a n c]) : ∃ zs, IsRow k w a n c zs := by
  obtain ⟨H, enc, fuel, x, h⟩ := h
  rcases open_ints ht he hc h with ⟨h1, _⟩ | ⟨ad, len, cap, zs, h1, _, hl, hm, hz, _, hcell, hw⟩
  · simp at h1
    obtain ⟨rfl, rfl, rfl⟩ := h1
    exact ⟨[], .inl ⟨rfl, rfl, rfl, rfl⟩⟩
  · simp at h1
    obtain ⟨rfl, rfl, rfl⟩ := h1
    exact ⟨zs, .inr ⟨ad, rfl, hl, hm, by simpa using hz, hcell, hw⟩⟩
theorem Rd.isRow {e : TypeId} {k : IntKind} {v : Value} (ht : P.underlying t = some (.slice e)) (he : P.underlying e = some (.int k)) (hc : P.cellsOf e = 1) (h : Rd P w t v) : ∃ a n c zs, v = .slice a n c ∧ IsRow k w a n c zs := by
  obtain ⟨a, n, c, rfl, hr⟩ := h.slice ht
  obtain ⟨zs, hz⟩ := hr.isRow ht he hc
  exact ⟨a, n, c, zs, rfl, hz⟩
/-- a slice of ints that came in -/
theorem Rd.ints_ {e : TypeId} {v : Value} (ht : P.underlying t = some (.slice e)) (he : P.underlying e = some (.int .i64)) (hc : P.cellsOf e = 1) (h : Rd P w t v) :
    ∃ (a : Option Addr) (l : List Int) (c : Nat), v = .slice a l.length c ∧ Ints w a l ∧ l.length ≤ 9223372036854775807 ∧ l.length ≤ c ∧ ∀ n ∈ l, -9223372036854775808 ≤ n ∧ n ≤ 9223372036854775807 := by
  obtain ⟨a, n, c, zs, rfl, hz⟩ := h.isRow ht he hc
  obtain ⟨l, rfl, h1, h2, h3⟩ := isRow_ints hz
  exact ⟨a, l, c, rfl, h2, h1, isRow_cap hz, h3⟩
/-- a slice of bytes that came in -/
theorem Rd.byts_ {e : TypeId} {v : Value} (ht : P.underlying t = some (.slice e)) (he : P.underlying e = some (.int .u8)) (hc : P.cellsOf e = 1) (h : Rd P w t v) :
    ∃ (a : Option Addr) (l : List UInt8) (c : Nat), v = .slice a l.length c ∧ Byt w a l ∧ l.length ≤ 9223372036854775807 ∧ l.length ≤ c := by
  obtain ⟨a, n, c, zs, rfl, hz⟩ := h.isRow ht he hc
  obtain ⟨l, rfl, h1, h2⟩ := isRow_byt hz
  exact ⟨a, l, c, rfl, h2, h1, isRow_cap hz⟩
theorem list2 {α : Type} {l : List α} (h : l.length = 2) : ∃ a b, l = [a, b] := match l, h with | [a, b], _ => ⟨a, b, rfl⟩
theorem list3 {α : Type} {l : List α} (h : l.length = 3) : ∃ a b c, l = [a, b, c] := match l, h with | [a, b, c], _ => ⟨a, b, c, rfl⟩
theorem list4 {α : Type} {l : List α} (h : l.length = 4) : ∃ a b c d, l = [a, b, c, d] := match l, h with | [a, b, c, d], _ => ⟨a, b, c, d, rfl⟩
theorem list5 {α : Type} {l : List α} (h : l.length = 5) : ∃ a b c d e, l = [a, b, c, d, e] := match l, h with | [a, b, c, d, e], _ => ⟨a, b, c, d, e, rfl⟩
end
end Go.Proofs.Ytgngmmmdhhjbhaa
