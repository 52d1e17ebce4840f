/- tokens in memory -/
import Derived.Test.YtgngmmmdhhjbhaaBuf
import Derived.Test.YtgngmmmdhhjbhaaDeck
import Derived.Deep.DeepCutAuto
import Derived.Outline
namespace Go.Proofs.Ytgngmmmdhhjbhaa
set_option linter.unusedVariables false
open Go.RowKit Go.Sort
set_option maxRecDepth 100000

/-- a token: its numbers, its secret, and where it lies -/
structure Tk where
  us : Bool
  sec : List UInt8
  par : Int
  rt : Int
  cl : Int
  un : Int
  a : Option Addr
  c : Nat
structure TkK where
  us : Bool
  sec : List UInt8
  par : Int
  rt : Int
  cl : Int
  un : Int
deriving DecidableEq
def Tk.key (t : Tk) : TkK := ⟨t.us, t.sec, t.par, t.rt, t.cl, t.un⟩
def Tk.cells (t : Tk) : List Value := [.bool t.us, .slice t.a t.sec.length t.c, .int .i64 t.par, .int .i64 t.rt, .int .i64 t.cl, .int .i64 t.un]
def tkCells (l : List Tk) : List Value := l.flatMap Tk.cells
theorem tkCells_len : ∀ l : List Tk, (tkCells l).length = l.length * 6
  | [] => rfl
  | v :: l => by
    have := tkCells_len l
    simp only [tkCells, List.flatMap_cons, List.length_append, List.length_cons] at this ⊢
    rw [this]
    simp [Tk.cells]
    omega
theorem tkCells_append (l m : List Tk) : tkCells (l ++ m) = tkCells l ++ tkCells m := by simp [tkCells]
theorem tkCells_one (l : List Tk) : ∀ u ∈ tkCells l, u.oneCell' = true := by
  intro u hu
  simp only [tkCells, List.mem_flatMap] at hu
  obtain ⟨y, _, hy⟩ := hu
  simp only [Tk.cells, List.mem_cons, List.not_mem_nil, or_false] at hy
  rcases hy with rfl | rfl | rfl | rfl | rfl | rfl <;> rfl
theorem tkCells_get : ∀ (l : List Tk) (i : Nat) (h : i < l.length) (j : Nat) (_ : j < 6), (tkCells l)[6 * i + j]? = (l[i]).cells[j]?
  | p :: l, 0, _, j, hj => by
    simp only [tkCells, List.flatMap_cons]
    rw [Nat.mul_zero, Nat.zero_add, List.getElem?_append_left (by simp [Tk.cells]; omega)]
    rfl
  | p :: l, i + 1, h, j, hj => by
    have := tkCells_get l i (by simpa using h) j hj
    simp only [tkCells, List.flatMap_cons] at this ⊢
    rw [List.getElem?_append_right (by simp [Tk.cells]; omega)]
    simp only [List.getElem_cons_succ]
    rw [← this]
    congr 1
    simp [Tk.cells]
    omega
theorem row_tok {w : World} {g off : Nat} {l : List Tk} (h : Row w (some ⟨g, off, none⟩) (tkCells l)) (x : Nat) (hx : x < l.length) :
    w.cell? ⟨g, off + x * 6, none⟩ = some (.bool l[x].us) ∧ w.cell? ⟨g, off + x * 6 + 1, none⟩ = some (.slice l[x].a l[x].sec.length l[x].c) ∧ w.cell? ⟨g, off + x * 6 + 2, none⟩ = some (.int .i64 l[x].par) ∧ w.cell? ⟨g, off + x * 6 + 3, none⟩ = some (.int .i64 l[x].rt) ∧ w.cell? ⟨g, off + x * 6 + 4, none⟩ = some (.int .i64 l[x].cl) ∧ w.cell? ⟨g, off + x * 6 + 5, none⟩ = some (.int .i64 l[x].un) ∧ g < w.heap.size := by
  have hl := tkCells_len l
  rcases h with h | ⟨b, off', e, hlt, hc⟩
  · rw [h] at hl; simp at hl; omega
  · injection e with e
    injection e with e1 e2 _
    subst e1 e2
    have key : ∀ j, j < 6 → ∀ v, (l[x].cells)[j]? = some v → w.cell? ⟨g, off + x * 6 + j, none⟩ = some v := fun j hj v hv => by
      have q0 : 6 * x + j < (tkCells l).length := by omega
      have := hc (6 * x + j) q0
      rw [show off + x * 6 + j = off + (6 * x + j) by omega, this]
      have q := tkCells_get l x hx j hj
      rw [hv, List.getElem?_eq_getElem q0] at q
      exact q
    exact ⟨key 0 (by omega) _ rfl, key 1 (by omega) _ rfl, key 2 (by omega) _ rfl, key 3 (by omega) _ rfl, key 4 (by omega) _ rfl, key 5 (by omega) _ rfl, hlt⟩
theorem Row.open_tk {w : World} {a : Option Addr} {l : List Tk} (h : Row w a (tkCells l)) (hl : 0 < l.length) : ∃ b off, a = some ⟨b, off, none⟩ := by
  rcases h with h0 | ⟨b, off, e, _⟩
  · have := tkCells_len l; rw [h0] at this; simp at this; omega
  · exact ⟨b, off, e⟩
/-- tokens that can be read -/
structure Tks (w : World) (a : Option Addr) (l : List Tk) : Prop where
  row : Row w a (tkCells l)
  sec : ∀ t ∈ l, Byt w t.a t.sec
/-- a list of tokens that the call makes -/
structure TkL (W : World) (B : Nat) (l : List Tk) (xa : Option Addr) (xc : Nat) : Prop where
  own : Own W B 52 6 xa l.length xc (tkCells l)
  sec : ∀ t ∈ l, Own W B 5 1 t.a t.sec.length t.c (t.sec.map encB)
section
variable {w w' W W' : World} {B : Nat} {a : Option Addr} {l : List Tk} {xa : Option Addr} {xc : Nat}
theorem Tks.below (h : Tks w a l) (hb : Below B w w') (hB : w.heap.size ≤ B) : Tks w' a l := ⟨h.row.below hb hB, fun r hr => (h.sec r hr).below hb hB⟩
theorem Tks.alloc (h : Tks w a l) (o : Obj) : Tks (w.alloc o) a l := ⟨h.row.alloc o, fun r hr => Row.alloc (h.sec r hr) o⟩
theorem Tks.nil (w : World) (a : Option Addr) : Tks w a [] := ⟨.inl rfl, by simp⟩
theorem Tks.open (h : Tks w a l) (hl : 0 < l.length) : ∃ b off, a = some ⟨b, off, none⟩ := h.row.open_tk hl
theorem TkL.keep (h : TkL W B l xa xc) (hb : ∀ b, b < W.heap.size → W'.heap[b]? = W.heap[b]?) : TkL W' B l xa xc :=
  ⟨h.own.keep fun b _ _ hl => hb b hl, fun v hv => (h.sec v hv).keep fun b _ _ hl => hb b hl⟩
theorem TkL.below (h : TkL W B l xa xc) (hb : Below W.heap.size W W') : TkL W' B l xa xc := h.keep fun b hl => hb.block b hl
theorem TkL.alloc (h : TkL W B l xa xc) (o : Obj) : TkL (W.alloc o) B l xa xc := h.keep fun b hl => Below.heap_alloc _ _ b hl
theorem TkL.tks (h : TkL W B l xa xc) : Tks W xa l := ⟨h.own.row, fun r hr => (h.sec r hr).row⟩
theorem TkL.nil (W : World) (B : Nat) : TkL W B [] none 0 := ⟨Own.nil _ _ _ _, by simp⟩
theorem TkL.mono (h : TkL W B l xa xc) {B' : Nat} (hB : B' ≤ B) : TkL W B' l xa xc := ⟨h.own.mono hB, fun r hr => (h.sec r hr).mono hB⟩
end
theorem Own.apart3 {w : World} {base base2 : Nat} {e e' : TypeId} {size size' n n' cap cap' : Nat} {a b : Option Addr} {xs ys : List Value} (h : Own w base e size a n cap xs) (h' : Own w base2 e' size' b n' cap' ys) (hne : e ≠ e') : Apart a b := by
  intro k ha hb
  rcases h.2 with ⟨hv, _⟩ | ⟨g', c, cur, hv, _, hh, _⟩
  · injection hv with ha' _ _
    rw [ha'] at ha
    cases ha
  · injection hv with ha' _ _
    rw [ha'] at ha
    injection ha with ha
    simp only at ha
    subst ha
    rcases h'.2 with ⟨hv', _⟩ | ⟨g2, c2, cur2, hv', _, hh2, _⟩
    · injection hv' with hb' _ _
      rw [hb'] at hb
      cases hb
    · injection hv' with hb' _ _
      rw [hb'] at hb
      injection hb with hb
      simp only at hb
      subst hb
      rw [hh] at hh2
      injection hh2 with hh2
      injection hh2 with _ ht
      exact hne ht
theorem TkL.push {W W' : World} {B : Nat} {l : List Tk} {xa xb : Option Addr} {xc xd N : Nat} (h : TkL W B l xa xc) {x : Tk} (hN : N = l.length + 1) (own : Own W' B 52 6 xb N xd (tkCells l ++ x.cells)) (gr : Grew B W W' xa xb) (hp : Own W B 5 1 x.a x.sec.length x.c (x.sec.map encB)) : TkL W' B (l ++ [x]) xb xd := by
  subst hN
  have e : tkCells (l ++ [x]) = tkCells l ++ x.cells := by simp [tkCells]
  refine ⟨by rw [e, List.length_append]; exact own, fun y hy => ?_⟩
  have pw : Own W B 5 1 y.a y.sec.length y.c (y.sec.map encB) := by
    rcases List.mem_append.1 hy with hy | hy
    · exact h.sec y hy
    · rw [List.mem_singleton.1 hy]; exact hp
  exact pw.grew gr (h.own.apart3 pw (by decide))
theorem info_tok : (Try.prog.info? 52).map (fun i => (i.zero, i.size, i.bytes)) = some (some (.agg #[.bool false, .slice none 0 0, .int .i64 0, .int .i64 0, .int .i64 0, .int .i64 0]), 6, 64) := by kernel_rfl
/-- append of one token that has just been laid -/
theorem app1Tk {ops : Array Oper} {rest : List Oper} {o : Oper} {a : Act} {Q : Exit → Act → World → Prop} {w : World} (hgd : o.guard = none) (s x : Operand) (ho : o.op = .call { callee := .builtin .append, args := #[s, x], argTypes := #[22, 22] })
    (B : Nat) (xa : Option Addr) (n xc : Nat) (l : List Tk) (hs : a.eval s = .slice xa n xc) (hn : n = l.length) (t : Tk) (X : Nat) (hx : a.eval x = .slice (some ⟨X, 0, none⟩) 1 1) (hX : Blk w X 52 t.cells.toArray)
    (il : TkL w B l xa xc) (hB : B ≤ w.heap.size) (hp : Own w B 5 1 t.a t.sec.length t.c (t.sec.map encB)) (hbig : n ≤ 1000000)
    (h : ∀ xb xd w', TkL w' B (l ++ [t]) xb xd → Grew B w w' xa xb → (∀ W, Below B W w → Below B W w') → wpList Try.prog ops Q rest (a.put o.dst (.slice xb (n + 1) xd)) w') : wpList Try.prog ops Q (o :: rest) a w := by
  subst hn
  obtain ⟨i0, hi, hz0, hz1, hz2⟩ := info_parts info_tok
  have hr : Row w (some ⟨X, 0, none⟩) t.cells := .inr ⟨X, 0, rfl, hX.lt, fun i hi => by
    rw [Nat.zero_add, hX.cell]
    simp⟩
  refine wp_append_row _ hgd s x _ ho B _ i0 _ 6 64 Try.underlying22 hi hz0 hz1 hz2 rfl (by decide) xa l.length xc _ hs (some ⟨X, 0, none⟩) 1 1 hx il.own t.cells rfl hr (by simp [Tk.cells, Value.oneCell']) (by simp only [maxLen]; omega) (by omega) hB ?_
  intro xb xd w' own' gr
  exact h xb xd w' (il.push (x := t) rfl own' gr hp) gr (Grew.step il.own gr)
theorem tkCells_set : ∀ (l : List Tk) (j : Nat) (_ : j < l.length) (y : Tk), tkCells (l.set j y) = ((((((tkCells l).set (j * 6) (.bool y.us)).set (j * 6 + 1) (.slice y.a y.sec.length y.c)).set (j * 6 + 2) (.int .i64 y.par)).set (j * 6 + 3) (.int .i64 y.rt)).set (j * 6 + 4) (.int .i64 y.cl)).set (j * 6 + 5) (.int .i64 y.un)
  | p :: l, 0, _, y => by simp [tkCells, Tk.cells]
  | p :: l, j + 1, h, y => by
    have := tkCells_set l j (by simpa using h) y
    simp only [tkCells, List.flatMap_cons, List.set_cons_succ] at this ⊢
    rw [this]
    have e : ∀ k, (j + 1) * 6 + k = j * 6 + k + 6 := fun k => by omega
    rw [show (j + 1) * 6 = j * 6 + 6 by omega]
    simp only [Tk.cells, List.cons_append, List.nil_append, show ∀ k, j * 6 + 6 + k = (j * 6 + k) + 1 + 1 + 1 + 1 + 1 + 1 from fun k => by omega, show j * 6 + 6 = j * 6 + 1 + 1 + 1 + 1 + 1 + 1 by omega, List.set_cons_succ]
/-- a token is written over -/
theorem TkL.setTok {W : World} {B : Nat} {l : List Tk} {xb xc : Nat} (h : TkL W B l (some ⟨xb, 0, none⟩) xc) {j : Nat} (hj : j < l.length) (y : Tk) (hy : Own W B 5 1 y.a y.sec.length y.c (y.sec.map encB)) :
    TkL ((((((W.setCell ⟨xb, j * 6, none⟩ (.bool y.us)).setCell ⟨xb, j * 6 + 1, none⟩ (.slice y.a y.sec.length y.c)).setCell ⟨xb, j * 6 + 2, none⟩ (.int .i64 y.par)).setCell ⟨xb, j * 6 + 3, none⟩ (.int .i64 y.rt)).setCell ⟨xb, j * 6 + 4, none⟩ (.int .i64 y.cl)).setCell ⟨xb, j * 6 + 5, none⟩ (.int .i64 y.un)) B (l.set j y) (some ⟨xb, 0, none⟩) xc := by
  have far : ∀ {n cap : Nat} {b : Option Addr} {xs : List Value}, Own W B 5 1 b n cap xs → Own ((((((W.setCell ⟨xb, j * 6, none⟩ (.bool y.us)).setCell ⟨xb, j * 6 + 1, none⟩ (.slice y.a y.sec.length y.c)).setCell ⟨xb, j * 6 + 2, none⟩ (.int .i64 y.par)).setCell ⟨xb, j * 6 + 3, none⟩ (.int .i64 y.rt)).setCell ⟨xb, j * 6 + 4, none⟩ (.int .i64 y.cl)).setCell ⟨xb, j * 6 + 5, none⟩ (.int .i64 y.un)) B 5 1 b n cap xs := fun o => by
    have q : _ ≠ some xb := fun e => h.own.apart3 o (by decide) xb rfl e
    exact (((((o.far (p := ⟨xb, _, none⟩) q _).far (p := ⟨xb, _, none⟩) q _).far (p := ⟨xb, _, none⟩) q _).far (p := ⟨xb, _, none⟩) q _).far (p := ⟨xb, _, none⟩) q _).far (p := ⟨xb, _, none⟩) q _
  refine ⟨?_, fun r hr => ?_⟩
  · rw [List.length_set, tkCells_set _ _ hj]
    exact (((((h.own.set _ _).set _ _).set _ _).set _ _).set _ _).set _ _
  · rcases List.mem_or_eq_of_mem_set hr with q | q
    · exact far (h.sec r q)
    · rw [q]; exact far hy
theorem Blk.six {w : World} {g : Nat} {t : TypeId} {a b c d e f : Value} (h : Blk w g t #[a, b, c, d, e, f]) : w.cell? ⟨g, 0, none⟩ = some a ∧ w.cell? ⟨g, 1, none⟩ = some b ∧ w.cell? ⟨g, 2, none⟩ = some c ∧ w.cell? ⟨g, 3, none⟩ = some d ∧ w.cell? ⟨g, 4, none⟩ = some e ∧ w.cell? ⟨g, 5, none⟩ = some f ∧ (∀ i, w.frozen? ⟨g, i, none⟩ = false) ∧ g < w.heap.size :=
  ⟨h.cell 0, h.cell 1, h.cell 2, h.cell 3, h.cell 4, h.cell 5, h.frozen, h.lt⟩
end Go.Proofs.Ytgngmmmdhhjbhaa
