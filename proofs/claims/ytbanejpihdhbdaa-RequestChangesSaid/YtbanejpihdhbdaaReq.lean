/- requests and their legs in memory -/
import Derived.Test.YtbanejpihdhbdaaBuf
import Derived.Test.YtbanejpihdhbdaaDeck
import Derived.Deep.DeepCutAuto
import Derived.Outline
namespace Go.Proofs.Ytbanejpihdhbdaa
set_option linter.unusedVariables false
open Go.RowKit Go.Sort
set_option maxRecDepth 100000

structure Lg where
  ju : Int
  ph : Int
  fr : Int
  to_ : Int
  si : Int
@[reducible] def lgAgg (j p f t s : Int) : Value := .agg #[.int .i64 j, .int .i64 p, .int .i64 f, .int .i64 t, .int .i64 s]
def Lg.cells (l : Lg) : List Value := [.int .i64 l.ju, .int .i64 l.ph, .int .i64 l.fr, .int .i64 l.to_, .int .i64 l.si]
def lgCells (l : List Lg) : List Value := l.flatMap Lg.cells
theorem lgCells_len : ∀ l : List Lg, (lgCells l).length = l.length * 5
  | [] => rfl
  | v :: l => by
    have := lgCells_len l
    simp only [lgCells, List.flatMap_cons, List.length_append, List.length_cons] at this ⊢
    rw [this]
    simp [Lg.cells]
    omega
theorem lgCells_append (l m : List Lg) : lgCells (l ++ m) = lgCells l ++ lgCells m := by simp [lgCells]
theorem lgCells_one (l : List Lg) : ∀ u ∈ lgCells l, u.oneCell' = true := by
  intro u hu
  simp only [lgCells, List.mem_flatMap] at hu
  obtain ⟨y, _, hy⟩ := hu
  simp only [Lg.cells, List.mem_cons, List.not_mem_nil, or_false] at hy
  rcases hy with rfl | rfl | rfl | rfl | rfl <;> rfl
theorem lgCells_get : ∀ (l : List Lg) (i : Nat) (h : i < l.length) (j : Nat) (_ : j < 5), (lgCells l)[5 * i + j]? = (l[i]).cells[j]?
  | p :: l, 0, _, j, hj => by
    simp only [lgCells, List.flatMap_cons]
    rw [Nat.mul_zero, Nat.zero_add, List.getElem?_append_left (by simp [Lg.cells]; omega)]
    rfl
  | p :: l, i + 1, h, j, hj => by
    have := lgCells_get l i (by simpa using h) j hj
    simp only [lgCells, List.flatMap_cons] at this ⊢
    rw [List.getElem?_append_right (by simp [Lg.cells]; omega)]
    simp only [List.getElem_cons_succ]
    rw [← this]
    congr 1
    simp [Lg.cells]
    omega
theorem row_leg {w : World} {g off : Nat} {l : List Lg} (h : Row w (some ⟨g, off, none⟩) (lgCells l)) (x : Nat) (hx : x < l.length) :
    w.cell? ⟨g, off + x * 5, none⟩ = some (.int .i64 l[x].ju) ∧ w.cell? ⟨g, off + x * 5 + 1, none⟩ = some (.int .i64 l[x].ph) ∧ w.cell? ⟨g, off + x * 5 + 2, none⟩ = some (.int .i64 l[x].fr) ∧ w.cell? ⟨g, off + x * 5 + 3, none⟩ = some (.int .i64 l[x].to_) ∧ w.cell? ⟨g, off + x * 5 + 4, none⟩ = some (.int .i64 l[x].si) ∧ g < w.heap.size := by
  have hl := lgCells_len l
  rcases h with h | ⟨b, off', e, hlt, hc⟩
  · rw [h] at hl; simp at hl; omega
  · injection e with e
    injection e with e1 e2 _
    subst e1 e2
    have key : ∀ j, j < 5 → ∀ v, (l[x].cells)[j]? = some v → w.cell? ⟨g, off + x * 5 + j, none⟩ = some v := fun j hj v hv => by
      have q0 : 5 * x + j < (lgCells l).length := by omega
      have := hc (5 * x + j) q0
      rw [show off + x * 5 + j = off + (5 * x + j) by omega, this]
      have q := lgCells_get l x hx j hj
      rw [hv, List.getElem?_eq_getElem q0] at q
      exact q
    exact ⟨key 0 (by omega) _ rfl, key 1 (by omega) _ rfl, key 2 (by omega) _ rfl, key 3 (by omega) _ rfl, key 4 (by omega) _ rfl, hlt⟩
theorem Row.open_lg {w : World} {a : Option Addr} {l : List Lg} (h : Row w a (lgCells l)) (hl : 0 < l.length) : ∃ b off, a = some ⟨b, off, none⟩ := by
  rcases h with h0 | ⟨b, off, e, _⟩
  · have := lgCells_len l; rw [h0] at this; simp at this; omega
  · exact ⟨b, off, e⟩
/-- a request: its numbers, its legs, and where they lie -/
structure Rq where
  id : Int
  veh : Int
  cls : Int
  til : Int
  legs : List Lg
  a : Option Addr
  c : Nat
abbrev Rk := Int × Int × Int × Int × List Lg
def Rq.key (r : Rq) : Rk := (r.id, r.veh, r.cls, r.til, r.legs)
def Rq.cells (r : Rq) : List Value := [.int .i64 r.id, .int .i64 r.veh, .int .i64 r.cls, .int .i64 r.til, .slice r.a r.legs.length r.c]
def rqCells (l : List Rq) : List Value := l.flatMap Rq.cells
theorem rqCells_len : ∀ l : List Rq, (rqCells l).length = l.length * 5
  | [] => rfl
  | v :: l => by
    have := rqCells_len l
    simp only [rqCells, List.flatMap_cons, List.length_append, List.length_cons] at this ⊢
    rw [this]
    simp [Rq.cells]
    omega
theorem rqCells_append (l m : List Rq) : rqCells (l ++ m) = rqCells l ++ rqCells m := by simp [rqCells]
theorem rqCells_one (l : List Rq) : ∀ u ∈ rqCells l, u.oneCell' = true := by
  intro u hu
  simp only [rqCells, List.mem_flatMap] at hu
  obtain ⟨y, _, hy⟩ := hu
  simp only [Rq.cells, List.mem_cons, List.not_mem_nil, or_false] at hy
  rcases hy with rfl | rfl | rfl | rfl | rfl <;> rfl
theorem rqCells_get : ∀ (l : List Rq) (i : Nat) (h : i < l.length) (j : Nat) (_ : j < 5), (rqCells l)[5 * i + j]? = (l[i]).cells[j]?
  | p :: l, 0, _, j, hj => by
    simp only [rqCells, List.flatMap_cons]
    rw [Nat.mul_zero, Nat.zero_add, List.getElem?_append_left (by simp [Rq.cells]; omega)]
    rfl
  | p :: l, i + 1, h, j, hj => by
    have := rqCells_get l i (by simpa using h) j hj
    simp only [rqCells, List.flatMap_cons] at this ⊢
    rw [List.getElem?_append_right (by simp [Rq.cells]; omega)]
    simp only [List.getElem_cons_succ]
    rw [← this]
    congr 1
    simp [Rq.cells]
    omega
theorem row_req {w : World} {g off : Nat} {l : List Rq} (h : Row w (some ⟨g, off, none⟩) (rqCells l)) (x : Nat) (hx : x < l.length) :
    w.cell? ⟨g, off + x * 5, none⟩ = some (.int .i64 l[x].id) ∧ w.cell? ⟨g, off + x * 5 + 1, none⟩ = some (.int .i64 l[x].veh) ∧ w.cell? ⟨g, off + x * 5 + 2, none⟩ = some (.int .i64 l[x].cls) ∧ w.cell? ⟨g, off + x * 5 + 3, none⟩ = some (.int .i64 l[x].til) ∧ w.cell? ⟨g, off + x * 5 + 4, none⟩ = some (.slice l[x].a l[x].legs.length l[x].c) ∧ g < w.heap.size := by
  have hl := rqCells_len l
  rcases h with h | ⟨b, off', e, hlt, hc⟩
  · rw [h] at hl; simp at hl; omega
  · injection e with e
    injection e with e1 e2 _
    subst e1 e2
    have key : ∀ j, j < 5 → ∀ v, (l[x].cells)[j]? = some v → w.cell? ⟨g, off + x * 5 + j, none⟩ = some v := fun j hj v hv => by
      have q0 : 5 * x + j < (rqCells l).length := by omega
      have := hc (5 * x + j) q0
      rw [show off + x * 5 + j = off + (5 * x + j) by omega, this]
      have q := rqCells_get l x hx j hj
      rw [hv, List.getElem?_eq_getElem q0] at q
      exact q
    exact ⟨key 0 (by omega) _ rfl, key 1 (by omega) _ rfl, key 2 (by omega) _ rfl, key 3 (by omega) _ rfl, key 4 (by omega) _ rfl, hlt⟩
theorem Row.open_rq {w : World} {a : Option Addr} {l : List Rq} (h : Row w a (rqCells l)) (hl : 0 < l.length) : ∃ b off, a = some ⟨b, off, none⟩ := by
  rcases h with h0 | ⟨b, off, e, _⟩
  · have := rqCells_len l; rw [h0] at this; simp at this; omega
  · exact ⟨b, off, e⟩
/-- requests that can be read -/
structure Rqs (w : World) (a : Option Addr) (l : List Rq) : Prop where
  row : Row w a (rqCells l)
  legs : ∀ r ∈ l, Row w r.a (lgCells r.legs)
/-- a list of requests that the call makes -/
structure RqL (W : World) (B : Nat) (l : List Rq) (xa : Option Addr) (xc : Nat) : Prop where
  own : Own W B 45 5 xa l.length xc (rqCells l)
  legs : ∀ r ∈ l, Own W B 25 5 r.a r.legs.length r.c (lgCells r.legs)
  ap : ∀ i j (hj : j < l.length) (hi : i < j), Apart l[i].a l[j].a
section
variable {w w' W W' : World} {B : Nat} {a : Option Addr} {l : List Rq} {xa : Option Addr} {xc : Nat}
theorem Rqs.below (h : Rqs w a l) (hb : Below B w w') (hB : w.heap.size ≤ B) : Rqs w' a l := ⟨h.row.below hb hB, fun r hr => (h.legs r hr).below hb hB⟩
theorem Rqs.alloc (h : Rqs w a l) (o : Obj) : Rqs (w.alloc o) a l := ⟨h.row.alloc o, fun r hr => (h.legs r hr).alloc o⟩
theorem Rqs.nil (w : World) (a : Option Addr) : Rqs w a [] := ⟨.inl rfl, by simp⟩
theorem Rqs.open (h : Rqs w a l) (hl : 0 < l.length) : ∃ b off, a = some ⟨b, off, none⟩ := h.row.open_rq hl
theorem RqL.keep (h : RqL W B l xa xc) (hb : ∀ b, b < W.heap.size → W'.heap[b]? = W.heap[b]?) : RqL W' B l xa xc :=
  ⟨h.own.keep fun b _ _ hl => hb b hl, fun v hv => (h.legs v hv).keep fun b _ _ hl => hb b hl, h.ap⟩
theorem RqL.below (h : RqL W B l xa xc) (hb : Below W.heap.size W W') : RqL W' B l xa xc := h.keep fun b hl => hb.block b hl
theorem RqL.alloc (h : RqL W B l xa xc) (o : Obj) : RqL (W.alloc o) B l xa xc := h.keep fun b hl => Below.heap_alloc _ _ b hl
theorem RqL.rqs (h : RqL W B l xa xc) : Rqs W xa l := ⟨h.own.row, fun r hr => (h.legs r hr).row⟩
theorem RqL.nil (W : World) (B : Nat) : RqL W B [] none 0 := ⟨Own.nil _ _ _ _, by simp, fun i j hj => by simp at hj⟩
theorem RqL.mono (h : RqL W B l xa xc) {B' : Nat} (hB : B' ≤ B) : RqL W B' l xa xc := ⟨h.own.mono hB, fun r hr => (h.legs r hr).mono hB, h.ap⟩
end
theorem Own.apart3 {w : World} {base base2 : Nat} {e e' : TypeId} {size size' n n' cap cap' : Nat} {a b : Option Addr} {xs ys : List Value} (h : Own w base e size a n cap xs) (h' : Own w base2 e' size' b n' cap' ys) (hne : e ≠ e') : Apart a b := by
  intro k ha hb
  rcases h.2 with ⟨hv, _⟩ | ⟨g', c, cur, hv, _, hh, _⟩
  · injection hv with ha' _ _
    rw [ha'] at ha
    cases ha
  · injection hv with ha' _ _
    rw [ha'] at ha
    injection ha with ha
    simp only at ha
    subst ha
    rcases h'.2 with ⟨hv', _⟩ | ⟨g2, c2, cur2, hv', _, hh2, _⟩
    · injection hv' with hb' _ _
      rw [hb'] at hb
      cases hb
    · injection hv' with hb' _ _
      rw [hb'] at hb
      injection hb with hb
      simp only at hb
      subst hb
      rw [hh] at hh2
      injection hh2 with hh2
      injection hh2 with _ ht
      exact hne ht
theorem RqL.push {W W' : World} {B : Nat} {l : List Rq} {xa xb : Option Addr} {xc xd N : Nat} (h : RqL W B l xa xc) {x : Rq} (hN : N = l.length + 1) (own : Own W' B 45 5 xb N xd (rqCells l ++ x.cells)) (gr : Grew B W W' xa xb) (hp : Own W B 25 5 x.a x.legs.length x.c (lgCells x.legs)) (hap : ∀ r ∈ l, Apart r.a x.a) : RqL W' B (l ++ [x]) xb xd := by
  subst hN
  have pw : ∀ y ∈ l ++ [x], Own W B 25 5 y.a y.legs.length y.c (lgCells y.legs) := fun y hy => by
    rcases List.mem_append.1 hy with hy | hy
    · exact h.legs y hy
    · rw [List.mem_singleton.1 hy]; exact hp
  have e : rqCells (l ++ [x]) = rqCells l ++ x.cells := by simp [rqCells]
  refine ⟨by rw [e, List.length_append]; exact own, fun y hy => (pw y hy).grew gr (h.own.apart3 (pw y hy) (by decide)), fun i j hj hi => ?_⟩
  simp at hj
  by_cases hjl : j < l.length
  · rw [List.getElem_append_left (by omega), List.getElem_append_left hjl]
    exact h.ap i j hjl hi
  · have : j = l.length := by omega
    subst this
    rw [List.getElem_append_left (by omega)]
    simpa using hap _ (List.getElem_mem hi)
theorem info_leg : (Try.prog.info? 25).map (fun i => (i.zero, i.size, i.bytes)) = some (some (.agg #[.int .i64 0, .int .i64 0, .int .i64 0, .int .i64 0, .int .i64 0]), 5, 40) := by kernel_rfl
theorem info_req : (Try.prog.info? 45).map (fun i => (i.zero, i.size, i.bytes)) = some (some (.agg #[.int .i64 0, .int .i64 0, .int .i64 0, .int .i64 0, .slice none 0 0]), 5, 56) := by kernel_rfl
/-- append(nil, l...) of legs -/
theorem wp_appLg0 {ops : Array Oper} {rest : List Oper} {o : Oper} {a : Act} {Q : Exit → Act → World → Prop} {w : World} (hgd : o.guard = none) (s x : Operand) (ho : o.op = .call { callee := .builtin .append, args := #[s, x], argTypes := #[26, 26] })
    (A : Option Addr) (m c : Nat) (l : List Lg) (hs : a.eval s = .slice none 0 0) (hx : a.eval x = .slice A m c) (hr : Row w A (lgCells l)) (hm : m = l.length) (hbig : m ≤ 1000000)
    (h : ∀ b' cap' w', Own w' w.heap.size 25 5 b' m cap' (lgCells l) → Below w.heap.size w w' → wpList Try.prog ops Q rest (a.put o.dst (.slice b' m cap')) w') : wpList Try.prog ops Q (o :: rest) a w := by
  obtain ⟨i0, hi, hz0, hz1, hz2⟩ := info_parts info_leg
  refine wp_append_row _ hgd s x _ ho w.heap.size _ i0 _ 5 40 Try.underlying26 hi hz0 hz1 hz2 rfl (by decide) none 0 0 _ hs A m c hx (Own.nil _ _ _ _) (lgCells l) (by rw [lgCells_len, hm]) hr (lgCells_one l) (by simp only [maxLen]; omega) (by omega) (Nat.le_refl _) ?_
  intro b' cap' w' own' g
  rw [Nat.zero_add] at own' ⊢
  exact h b' cap' w' (by simpa using own') (Grew.step (Own.nil w w.heap.size 25 5) g w (Below.refl _ _))
/-- append of one leg that has just been laid -/
theorem app1Lg {ops : Array Oper} {rest : List Oper} {o : Oper} {a : Act} {Q : Exit → Act → World → Prop} {w : World} (hgd : o.guard = none) (s x : Operand) (ho : o.op = .call { callee := .builtin .append, args := #[s, x], argTypes := #[26, 26] })
    (B : Nat) (xa : Option Addr) (n xc : Nat) (l : List Lg) (hs : a.eval s = .slice xa n xc) (hn : n = l.length) (j p f t s5 : Int) (X : Nat) (hx : a.eval x = .slice (some ⟨X, 0, none⟩) 1 1) (hX : Blk w X 25 #[.int .i64 j, .int .i64 p, .int .i64 f, .int .i64 t, .int .i64 s5])
    (own : Own w B 25 5 xa n xc (lgCells l)) (hB : B ≤ w.heap.size) (hbig : n ≤ 1000000)
    (h : ∀ xb xd w', Own w' B 25 5 xb (n + 1) xd (lgCells (l ++ [⟨j, p, f, t, s5⟩])) → Grew B w w' xa xb → (∀ W, Below B W w → Below B W w') → wpList Try.prog ops Q rest (a.put o.dst (.slice xb (n + 1) xd)) w') : wpList Try.prog ops Q (o :: rest) a w := by
  obtain ⟨i0, hi, hz0, hz1, hz2⟩ := info_parts info_leg
  have hr : Row w (some ⟨X, 0, none⟩) (Lg.cells ⟨j, p, f, t, s5⟩) := .inr ⟨X, 0, rfl, hX.lt, fun i hi => by
    rw [Nat.zero_add, hX.cell]
    have : i = 0 ∨ i = 1 ∨ i = 2 ∨ i = 3 ∨ i = 4 := by simp [Lg.cells] at hi; omega
    rcases this with rfl | rfl | rfl | rfl | rfl <;> rfl⟩
  refine wp_append_row _ hgd s x _ ho B _ i0 _ 5 40 Try.underlying26 hi hz0 hz1 hz2 rfl (by decide) xa n xc _ hs (some ⟨X, 0, none⟩) 1 1 hx own (Lg.cells ⟨j, p, f, t, s5⟩) rfl hr (by simp [Lg.cells, Value.oneCell']) (by simp only [maxLen]; omega) (by omega) hB ?_
  intro xb xd w' own' gr
  exact h xb xd w' (by rw [lgCells_append]; simpa [lgCells] using own') gr (Grew.step own gr)
/-- append of one request that has just been laid -/
theorem app1Rq {ops : Array Oper} {rest : List Oper} {o : Oper} {a : Act} {Q : Exit → Act → World → Prop} {w : World} (hgd : o.guard = none) (s x : Operand) (ho : o.op = .call { callee := .builtin .append, args := #[s, x], argTypes := #[27, 27] })
    (B : Nat) (xa : Option Addr) (n xc : Nat) (l : List Rq) (hs : a.eval s = .slice xa n xc) (hn : n = l.length) (i v k t : Int) (lg : List Lg) (la : Option Addr) (ln lc : Nat) (hln : ln = lg.length) (X : Nat) (hx : a.eval x = .slice (some ⟨X, 0, none⟩) 1 1) (hX : Blk w X 45 #[.int .i64 i, .int .i64 v, .int .i64 k, .int .i64 t, .slice la ln lc])
    (il : RqL w B l xa xc) (hB : B ≤ w.heap.size) (hp : Own w B 25 5 la ln lc (lgCells lg)) (hap : ∀ r ∈ l, Apart r.a la) (hbig : n ≤ 1000000)
    (h : ∀ xb xd w', RqL w' B (l ++ [⟨i, v, k, t, lg, la, lc⟩]) xb xd → Grew B w w' xa xb → (∀ W, Below B W w → Below B W w') → wpList Try.prog ops Q rest (a.put o.dst (.slice xb (n + 1) xd)) w') : wpList Try.prog ops Q (o :: rest) a w := by
  subst hn hln
  obtain ⟨i0, hi, hz0, hz1, hz2⟩ := info_parts info_req
  have hr : Row w (some ⟨X, 0, none⟩) (Rq.cells ⟨i, v, k, t, lg, la, lc⟩) := .inr ⟨X, 0, rfl, hX.lt, fun i hi => by
    rw [Nat.zero_add, hX.cell]
    have : i = 0 ∨ i = 1 ∨ i = 2 ∨ i = 3 ∨ i = 4 := by simp [Rq.cells] at hi; omega
    rcases this with rfl | rfl | rfl | rfl | rfl <;> rfl⟩
  refine wp_append_row _ hgd s x _ ho B _ i0 _ 5 56 Try.underlying27 hi hz0 hz1 hz2 rfl (by decide) xa l.length xc _ hs (some ⟨X, 0, none⟩) 1 1 hx il.own (Rq.cells ⟨i, v, k, t, lg, la, lc⟩) rfl hr (by simp [Rq.cells, Value.oneCell']) (by simp only [maxLen]; omega) (by omega) hB ?_
  intro xb xd w' own' gr
  exact h xb xd w' (il.push (x := ⟨i, v, k, t, lg, la, lc⟩) rfl own' gr hp hap) gr (Grew.step il.own gr)
end Go.Proofs.Ytbanejpihdhbdaa
