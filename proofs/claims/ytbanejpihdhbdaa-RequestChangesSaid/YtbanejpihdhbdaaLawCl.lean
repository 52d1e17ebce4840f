/- signalbrokerlaw19.RequestClaims -/
import Derived.Test.YtbanejpihdhbdaaRqClaims
import Derived.Test.YtbanejpihdhbdaaAwake19
namespace Go.Proofs.Ytbanejpihdhbdaa
set_option linter.unusedVariables false
open Go.RowKit Go.Sort
set_option maxRecDepth 100000

/-- the live legs at the junction j, as claims -/
def lvOf (ag j id cls : Int) (lg : List Lg) : List Lg := (lg.filter fun g => decide (g.ju = j) && !decide (g.si = -1)).map fun g => ⟨ag, id, g.ph, cls, g.si⟩
section
variable {ag j id cls : Int}
theorem lvOf_cons_no {g : Lg} {t : List Lg} (h : ¬ (g.ju = j ∧ g.si ≠ -1)) : lvOf ag j id cls (g :: t) = lvOf ag j id cls t := by
  unfold lvOf
  rw [List.filter_cons_of_neg (by simpa using h)]
theorem lvOf_cons_yes {g : Lg} {t : List Lg} (h : g.ju = j) (h2 : g.si ≠ -1) : lvOf ag j id cls (g :: t) = ⟨ag, id, g.ph, cls, g.si⟩ :: lvOf ag j id cls t := by
  unfold lvOf
  rw [List.filter_cons_of_pos (by simpa using ⟨h, h2⟩)]
  rfl
theorem lvOf_append (x y : List Lg) : lvOf ag j id cls (x ++ y) = lvOf ag j id cls x ++ lvOf ag j id cls y := by simp [lvOf]
theorem lvOf_none {t : List Lg} (h : ∀ x ∈ t, x.ju ≠ j) : lvOf ag j id cls t = [] := by
  unfold lvOf
  rw [List.filter_eq_nil_iff.2 (fun x hx => by simp [h x hx])]
  rfl
theorem lv_find : ∀ (lg : List Lg), lg.Pairwise (fun a b => a.ju ≠ b.ju) → (match lg.find? fun g => decide (g.ju = j) with
    | none => []
    | some g => if g.si = -1 then [] else [(⟨ag, id, g.ph, cls, g.si⟩ : Lg)]) = lvOf ag j id cls lg
  | [], _ => rfl
  | g :: t, h => by
    rw [List.pairwise_cons] at h
    by_cases e : g.ju = j
    · rw [List.find?_cons_of_pos (by simpa using e)]
      have hn := lvOf_none (ag := ag) (id := id) (cls := cls) (t := t) (j := j) (fun x hx q => h.1 x hx (e.trans q.symm))
      by_cases s : g.si = -1
      · rw [lvOf_cons_no (fun q => q.2 s), hn]
        simp only
        rw [if_pos s]
      · rw [lvOf_cons_yes e s, hn]
        simp only
        rw [if_neg s]
    · rw [List.find?_cons_of_neg (by simpa using e), lvOf_cons_no (fun q => e q.1)]
      exact lv_find t h.2
end
theorem LegsOk.pw {l : List Lg} (h : LegsOk l) : l.Pairwise (fun a b => a.ju ≠ b.ju) :=
  List.pairwise_iff_getElem.2 fun i j hi hj hij => h.d j i hij hj
theorem clOf_lv {ag j : Int} {r : Rk} (h : LegsOk r.2.2.2.2) : clOf ag j r = lvOf ag j r.1 r.2.2.1 r.2.2.2.2 := by
  unfold clOf
  exact lv_find _ h.pw
theorem clM_split {ag j : Int} {l : List Rq} {i : Nat} (h : i < l.length) : clM ag j (l.map Rq.key) = clM ag j ((l.take i).map Rq.key) ++ (clOf ag j l[i].key ++ clM ag j ((l.drop (i + 1)).map Rq.key)) := by
  have e : l = l.take i ++ (l[i] :: l.drop (i + 1)) := by rw [← List.drop_eq_getElem_cons h, List.take_append_drop]
  have e2 : l.map Rq.key = (l.take i).map Rq.key ++ (l[i].key :: (l.drop (i + 1)).map Rq.key) := (congrArg (List.map Rq.key) e).trans (by rw [List.map_append, List.map_cons])
  rw [e2]
  simp only [clM, List.flatMap_append, List.flatMap_cons]
/-- the claim that stands where leg x of request i is counted -/
theorem cl_at {ag j : Int} {l : List Rq} {i : Nat} (h : i < l.length) (ok : LegsOk l[i].legs) {x : Nat} (hx : x < l[i].legs.length) (hj : l[i].legs[x].ju = j) (hs : l[i].legs[x].si ≠ -1) {k : Nat}
    (hk : k = (clM ag j ((l.take i).map Rq.key)).length + (lvOf ag j l[i].id l[i].cls (l[i].legs.take x)).length) :
    ∃ h : k < (clM ag j (l.map Rq.key)).length, (clM ag j (l.map Rq.key))[k] = ⟨ag, l[i].id, l[i].legs[x].ph, l[i].cls, l[i].legs[x].si⟩ := by
  have e : clM ag j (l.map Rq.key) = (clM ag j ((l.take i).map Rq.key) ++ lvOf ag j l[i].id l[i].cls (l[i].legs.take x)) ++ (⟨ag, l[i].id, l[i].legs[x].ph, l[i].cls, l[i].legs[x].si⟩ :: (lvOf ag j l[i].id l[i].cls (l[i].legs.drop (x + 1)) ++ clM ag j ((l.drop (i + 1)).map Rq.key))) := by
    rw [clM_split h, clOf_lv (show LegsOk (Rq.key l[i]).2.2.2.2 from ok)]
    show _ ++ (lvOf ag j l[i].id l[i].cls l[i].legs ++ _) = _
    have e2 : l[i].legs = l[i].legs.take x ++ (l[i].legs[x] :: l[i].legs.drop (x + 1)) := by rw [← List.drop_eq_getElem_cons hx, List.take_append_drop]
    conv => lhs; rw [e2]
    rw [lvOf_append, lvOf_cons_yes hj hs]
    simp
  have hl : (clM ag j ((l.take i).map Rq.key) ++ lvOf ag j l[i].id l[i].cls (l[i].legs.take x)).length = k := by rw [List.length_append, hk]
  refine ⟨by rw [e, List.length_append, hl]; simp, ?_⟩
  have : (clM ag j (l.map Rq.key))[k]? = some ⟨ag, l[i].id, l[i].legs[x].ph, l[i].cls, l[i].legs[x].si⟩ := by
    rw [e, List.getElem?_append_right (by rw [hl]; exact Nat.le_refl _), hl, Nat.sub_self]
    rfl
  exact (List.getElem?_eq_some_iff.1 this).2
end Go.Proofs.Ytbanejpihdhbdaa
