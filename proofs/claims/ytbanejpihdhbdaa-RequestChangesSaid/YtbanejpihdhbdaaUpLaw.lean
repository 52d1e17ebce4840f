/- new windows for the legs of a request: what it is; windows in memory; one number of a leg written over -/
import Derived.Test.YtbanejpihdhbdaaRqOps
import Derived.Test.YtbanejpihdhbdaaRef19m
namespace Go.Proofs.Ytbanejpihdhbdaa
set_option linter.unusedVariables false
open Go.RowKit Go.Sort
set_option maxRecDepth 100000

abbrev Wn := Int × Int
def wnCells (l : List Wn) : List Value := l.flatMap fun p => [.int .i64 p.1, .int .i64 p.2]
theorem wnCells_len : ∀ l : List Wn, (wnCells l).length = l.length * 2
  | [] => rfl
  | v :: l => by
    have := wnCells_len l
    simp only [wnCells, List.flatMap_cons, List.length_append, List.length_cons] at this ⊢
    rw [this]
    simp
    omega
theorem wnCells_append (l m : List Wn) : wnCells (l ++ m) = wnCells l ++ wnCells m := by simp [wnCells]
theorem wnCells_get : ∀ (l : List Wn) (i : Nat) (h : i < l.length), (wnCells l)[2 * i]? = some (.int .i64 l[i].1) ∧ (wnCells l)[2 * i + 1]? = some (.int .i64 l[i].2)
  | p :: l, 0, _ => by simp [wnCells]
  | p :: l, i + 1, h => by
    have := wnCells_get l i (by simpa using h)
    simp only [wnCells, List.flatMap_cons, show 2 * (i + 1) = 2 * i + 1 + 1 by omega, List.cons_append, List.nil_append, List.getElem?_cons_succ, List.getElem_cons_succ] at this ⊢
    exact this
theorem row_wn {w : World} {a : Option Addr} {l : List Wn} (h : Row w a (wnCells l)) (x : Nat) (hx : x < l.length) :
    ∃ g off, a = some ⟨g, off, none⟩ ∧ w.cell? ⟨g, off + x * 2, none⟩ = some (.int .i64 l[x].1) ∧ w.cell? ⟨g, off + x * 2 + 1, none⟩ = some (.int .i64 l[x].2) ∧ g < w.heap.size := by
  have hl := wnCells_len l
  rcases h with h | ⟨b, off, e, hlt, hc⟩
  · rw [h] at hl; simp at hl; omega
  · obtain ⟨q1, q2⟩ := wnCells_get l x hx
    refine ⟨b, off, e, ?_, ?_, hlt⟩
    · have z : 2 * x < (wnCells l).length := by omega
      have := hc (2 * x) z
      rw [show off + x * 2 = off + 2 * x by omega, this]
      rw [List.getElem?_eq_getElem z] at q1
      exact q1
    · have z : 2 * x + 1 < (wnCells l).length := by omega
      have := hc (2 * x + 1) z
      rw [show off + x * 2 + 1 = off + (2 * x + 1) by omega, this]
      rw [List.getElem?_eq_getElem z] at q2
      exact q2
def upOne (now : Int) (g : Lg) (p : Wn) : Lg := ⟨g.ju, g.ph, now + p.1, now + p.2, g.si⟩
def upTo (now : Int) (ws : List Wn) (lg : List Lg) : Nat → List Lg
  | 0 => lg
  | k + 1 => (upTo now ws lg k).set k (upOne now (lg.getD k ⟨0, 0, 0, 0, 0⟩) (ws.getD k (0, 0)))
theorem upTo_len (now : Int) (ws : List Wn) (lg : List Lg) : ∀ k, (upTo now ws lg k).length = lg.length
  | 0 => rfl
  | k + 1 => by rw [upTo, List.length_set, upTo_len]
theorem upTo_get (now : Int) (ws : List Wn) (lg : List Lg) : ∀ k j (_ : k ≤ j) (h : j < lg.length), (upTo now ws lg k)[j]'(by rw [upTo_len]; exact h) = lg[j]
  | 0, j, _, h => rfl
  | k + 1, j, hkj, h => by
    simp only [upTo]
    rw [List.getElem_set_ne (by omega)]
    exact upTo_get now ws lg k j (by omega) h
theorem upTo_set {now : Int} {ws : List Wn} {lg : List Lg} {k : Nat} (h : k < lg.length) (h2 : k < ws.length) : (upTo now ws lg k).set k (upOne now lg[k] ws[k]) = upTo now ws lg (k + 1) := by
  simp [upTo, List.getD, h, h2]
def wnOk (now : Int) (g : Lg) (p : Wn) : Bool := wMakeOk g.ju g.ph p.1 p.2 now
def upBad (now : Int) (ws : List Wn) (lg : List Lg) : Prop := ∃ k, ∃ (h1 : k < lg.length) (h2 : k < ws.length), wnOk now lg[k] ws[k] = false
def tickOk (now : Int) : Prop := 0 ≤ now ∧ now ≤ 1073741824
open Classical in
noncomputable def updM (l : List Rk) (id : Int) (ws : List Wn) (now : Int) : Int × List Rk :=
  if ¬ (RqsOk l 4 ∧ tickOk now) then (1, []) else match l.findIdx? (fun r => r.1 == id) with
  | none => (12, [])
  | some i => match l[i]? with
    | none => (12, [])
    | some r => if ws.length ≠ r.2.2.2.2.length ∨ upBad now ws r.2.2.2.2 then (8, []) else (0, l.set i (r.1, r.2.1, r.2.2.1, r.2.2.2.1, upTo now ws r.2.2.2.2 r.2.2.2.2.length))
theorem updM_1 {l : List Rk} {id : Int} {ws : List Wn} {now : Int} (h : ¬ (RqsOk l 4 ∧ tickOk now)) : updM l id ws now = (1, []) := by unfold updM; rw [if_pos h]
theorem updM_12 {l : List Rq} {id : Int} {ws : List Wn} {now : Int} (h : RqsOk (l.map Rq.key) 4 ∧ tickOk now) (hno : ∀ k, k < l.length → ¬ ∃ h : k < l.length, l[k].id = id) : updM (l.map Rq.key) id ws now = (12, []) := by
  unfold updM
  rw [if_neg (not_not_intro h)]
  have e : (l.map Rq.key).findIdx? (fun r => r.1 == id) = none := by
    rw [List.findIdx?_eq_none_iff]
    intro r hr
    obtain ⟨x, hx, rfl⟩ := List.mem_map.1 hr
    obtain ⟨k, hk, rfl⟩ := List.mem_iff_getElem.1 hx
    simpa [Rq.key] using fun e => hno k hk ⟨hk, e⟩
  rw [e]
section
variable {l : List Rq} {id : Int} {ws : List Wn} {now : Int} {i : Nat} (h : RqsOk (l.map Rq.key) 4 ∧ tickOk now) (hi : i < l.length) (hid : l[i].id = id) (ho : ∀ k, k < i → ¬ ∃ h : k < l.length, l[k].id = id)
include h hid ho
theorem updM_at : updM (l.map Rq.key) id ws now = open Classical in if ws.length ≠ l[i].legs.length ∨ upBad now ws l[i].legs then (8, []) else (0, (l.map Rq.key).set i (l[i].id, l[i].veh, l[i].cls, l[i].til, upTo now ws l[i].legs l[i].legs.length)) := by
  unfold updM
  rw [if_neg (not_not_intro h)]
  have e : (l.map Rq.key).findIdx? (fun r => r.1 == id) = some i := by
    rw [List.findIdx?_eq_some_iff_getElem]
    refine ⟨by simpa using hi, by simpa [Rq.key] using hid, fun j hj => ?_⟩
    simp only [List.getElem_map, Rq.key]
    have := ho j hj
    simpa using fun e => this ⟨by omega, e⟩
  have e2 : (l.map Rq.key)[i]? = some l[i].key := by simp [hi]
  rw [e]
  simp only [e2]
  rfl
theorem updM_len (hl : ws.length ≠ l[i].legs.length) : updM (l.map Rq.key) id ws now = (8, []) := by rw [updM_at h hi hid ho, if_pos (.inl hl)]
theorem updM_bad {k : Nat} (h1 : k < l[i].legs.length) (h2 : k < ws.length) (hb : wnOk now l[i].legs[k] ws[k] = false) : updM (l.map Rq.key) id ws now = (8, []) := by rw [updM_at h hi hid ho, if_pos (.inr ⟨k, h1, h2, hb⟩)]
theorem updM_0 (hl : ws.length = l[i].legs.length) (hb : ∀ k (h1 : k < l[i].legs.length) (h2 : k < ws.length), wnOk now l[i].legs[k] ws[k] = true) : updM (l.map Rq.key) id ws now = (0, (l.map Rq.key).set i (l[i].id, l[i].veh, l[i].cls, l[i].til, upTo now ws l[i].legs l[i].legs.length)) := by
  rw [updM_at h hi hid ho, if_neg]
  rintro (q | ⟨k, h1, h2, q⟩)
  · exact q hl
  · rw [hb k h1 h2] at q; cases q
theorem updM_all (x : Rq) (hx : l[i] = x) : (ws.length ≠ x.legs.length → updM (l.map Rq.key) id ws now = (8, [])) ∧ (∀ k (h1 : k < x.legs.length) (h2 : k < ws.length), wnOk now x.legs[k] ws[k] = false → updM (l.map Rq.key) id ws now = (8, [])) ∧ (ws.length = x.legs.length → (∀ k (h1 : k < x.legs.length) (h2 : k < ws.length), wnOk now x.legs[k] ws[k] = true) → updM (l.map Rq.key) id ws now = (0, (l.map Rq.key).set i (x.id, x.veh, x.cls, x.til, upTo now ws x.legs x.legs.length))) := by
  subst hx
  exact ⟨updM_len h hi hid ho, fun k => updM_bad h hi hid ho, updM_0 h hi hid ho⟩
end
/-- what Make answers, its numbers under names -/
theorem wMakeV_parts (j p f t now : Int) : ∃ mj mp mf mt ms er : Int, Hid (wMakeV j p f t now = .tuple #[.agg #[.int .i64 mj, .int .i64 mp, .int .i64 mf, .int .i64 mt, .int .i64 ms], .int .i64 er]) ∧ Hid (wMakeOk j p f t now = true → er = 0 ∧ mj = j ∧ mp = p ∧ mf = now + f ∧ mt = now + t) ∧ Hid (wMakeOk j p f t now = false → er = 8) := by
  cases h : wMakeOk j p f t now with
  | true => exact ⟨j, p, now + f, now + t, -1, 0, Lib.hid (by rw [wMakeV, if_pos h]), Lib.hid (fun _ => ⟨rfl, rfl, rfl, rfl, rfl⟩), Lib.hid (fun q => by cases q)⟩
  | false => exact ⟨0, 0, 0, 0, 0, 8, Lib.hid (by rw [wMakeV, if_neg (by rw [h]; decide)]), Lib.hid (fun q => by cases q), Lib.hid fun _ => rfl⟩
theorem window_MakeE {j p f t now : Int} {v : Value} (h : wMakeV j p f t now = v) (w : World) : Calls Try.prog 54 #[.int .i64 j, .int .i64 p, .int .i64 f, .int .i64 t, .int .i64 now] w fun e w' => e = .returned v ∧ Below w.heap.size w w' := by
  have := window_Make j p f t now w
  rw [h] at this
  exact this
theorem ref18_MakeE {j p f t now : Int} {v : Value} (h : wMakeV j p f t now = v) (w : World) : Calls Try.prog 35 #[.int .i64 j, .int .i64 p, .int .i64 f, .int .i64 t, .int .i64 now] w fun e w' => e = .returned v ∧ Below w.heap.size w w' := by
  have := ref18_Make j p f t now w
  rw [h] at this
  exact this
theorem lgCells_set1 : ∀ (l : List Lg) (j : Nat) (h : j < l.length) (y : Lg) (c : Nat) (v : Value) (_ : c < 5) (_ : y.cells = l[j].cells.set c v), lgCells (l.set j y) = (lgCells l).set (j * 5 + c) v
  | p :: l, 0, _, y, c, v, hc, e => by
    simp only [lgCells, List.set_cons_zero, List.flatMap_cons, List.getElem_cons_zero] at e ⊢
    rw [e, Nat.zero_mul, Nat.zero_add, List.set_append_left _ _ (by simp [Lg.cells]; omega)]
  | p :: l, j + 1, h, y, c, v, hc, e => by
    have := lgCells_set1 l j (by simpa using h) y c v hc (by simpa using e)
    simp only [lgCells, List.flatMap_cons, List.set_cons_succ] at this ⊢
    rw [this, List.set_append_right _ _ (by simp [Lg.cells]; omega)]
    congr 2
    simp [Lg.cells]
    omega
/-- one number of a leg is written over -/
theorem RqL.setOne {W : World} {B : Nat} {l : List Rq} {xa : Option Addr} {xc : Nat} (h : RqL W B l xa xc) {i : Nat} (hi : i < l.length) {g : Nat} (hg : l[i].a = some ⟨g, 0, none⟩) {j : Nat} (hj : j < l[i].legs.length) (y : Lg) (c : Nat) (v : Value) (hc : c < 5) (e : y.cells = l[i].legs[j].cells.set c v) :
    RqL (W.setCell ⟨g, j * 5 + c, none⟩ v) B (l.set i { l[i] with legs := l[i].legs.set j y }) xa xc := by
  have far : ∀ {e : TypeId} {n cap : Nat} {b : Option Addr} {xs : List Value}, Own W B e 5 b n cap xs → b.map (·.block) ≠ some g → Own (W.setCell ⟨g, j * 5 + c, none⟩ v) B e 5 b n cap xs := fun o q => o.far (p := ⟨g, _, none⟩) q _
  have hgb : (l[i].a).map (·.block) = some g := by rw [hg]; rfl
  refine ⟨?_, ?_, ?_⟩
  · rw [rqCells_same hi (by simp [Rq.cells]), List.length_set]
    exact far h.own fun e => h.own.apart3 (h.legs _ (List.getElem_mem hi)) (by decide) g e hgb
  · intro r hr
    obtain ⟨k, hk, rfl⟩ := List.mem_iff_getElem.1 hr
    rw [List.length_set] at hk
    by_cases q : k = i
    · subst q
      rw [List.getElem_set_self]
      simp only [List.length_set]
      have o := h.legs _ (List.getElem_mem hi)
      rw [hg] at o ⊢
      rw [lgCells_set1 _ _ hj y c v hc e]
      exact o.set _ _
    · rw [List.getElem_set_ne (by omega)]
      refine far (h.legs _ (List.getElem_mem hk)) fun q => ?_
      rename_i q0
      rcases Nat.lt_or_gt_of_ne q0 with e | e
      · exact h.ap k i hi e g q hgb
      · exact h.ap i k hk e g hgb q
  · intro a b hb hab
    rw [List.length_set] at hb
    have e : ∀ k (hk : k < l.length), ((l.set i { l[i] with legs := l[i].legs.set j y })[k]'(by simpa using hk)).a = l[k].a := fun k hk => by
      by_cases e : k = i
      · subst e; rw [List.getElem_set_self]
      · rw [List.getElem_set_ne (by omega)]
    rw [e a (by omega), e b hb]
    exact h.ap a b hb hab
/-- the legs of request i are others -/
def atLegs (l : List Rq) (i : Nat) (x : List Lg) : List Rq := match l[i]? with
  | none => l
  | some r => l.set i { r with legs := x }
end Go.Proofs.Ytbanejpihdhbdaa
