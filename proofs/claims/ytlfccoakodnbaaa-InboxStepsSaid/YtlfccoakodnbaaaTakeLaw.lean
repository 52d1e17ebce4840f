/- taking items, in plain Lean -/
import Derived.Test.YtlfccoakodnbaaaFrameLaw
namespace Go.Proofs.Ytlfccoakodnbaaa
set_option linter.unusedVariables false

abbrev Key := Int × Int × List UInt8
def PR.key (r : PR) : Key := (r.code, r.kind, r.pay)
/-- how far a stream has been taken from -/
structure TS where
  used : Nat
  garb : Bool
  keys : List Key
def tStep (st : TS) (r : PR) : TS :=
  if r.code = 2 then ⟨st.used + r.size, true, if st.garb then st.keys else st.keys ++ [r.key]⟩
  else ⟨st.used + r.size, decide (r.code = 7 ∨ r.code = 4), st.keys ++ [r.key]⟩
theorem tStep_used (st : TS) (r : PR) : (tStep st r).used = st.used + r.size := by unfold tStep; split <;> rfl
theorem tStep_keys (st : TS) (r : PR) : (tStep st r).keys = st.keys ∨ (tStep st r).keys = st.keys ++ [r.key] := by
  unfold tStep
  split
  · cases st.garb
    · exact .inr rfl
    · exact .inl rfl
  · exact .inr rfl
def tGo (lim : Nat) (l : List UInt8) (st : TS) : Prop := st.keys.length < lim ∧ (fParse (l.drop st.used)).ok = true
instance (lim : Nat) (l : List UInt8) (st : TS) : Decidable (tGo lim l st) := by unfold tGo; exact inferInstance
/-- at most lim items are taken -/
def tRun (lim : Nat) (l : List UInt8) (st : TS) : TS :=
  if h : tGo lim l st then tRun lim l (tStep st (fParse (l.drop st.used))) else st
termination_by l.length - st.used
decreasing_by
  rw [tStep_used]
  have h1 := fParse_size h.2
  rw [List.length_drop] at h1
  omega
theorem tRun_go {lim : Nat} {l : List UInt8} {st : TS} (h : tGo lim l st) : tRun lim l st = tRun lim l (tStep st (fParse (l.drop st.used))) := by rw [tRun, dif_pos h]
theorem tRun_stop {lim : Nat} {l : List UInt8} {st : TS} (h : ¬ tGo lim l st) : tRun lim l st = st := by rw [tRun, dif_neg h]
end Go.Proofs.Ytlfccoakodnbaaa
