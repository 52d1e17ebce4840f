/- stream.take -/
import Derived.Test.YtlfccoakodnbaaaParsed
import Derived.Test.YtlfccoakodnbaaaTakeLaw
import Derived.Test.YtlfccoakodnbaaaClone
import Derived.Deep.DeepCutAuto
import Derived.Outline
namespace Go.Proofs.Ytlfccoakodnbaaa
set_option linter.unusedVariables false
open Go.RowKit Go.Sort Go.Shelf
set_option maxRecDepth 100000
attribute [local go_sem] Oper.semAt_some

theorem stream_parsed (a : Option Addr) (n c : Nat) (w : World) : Calls Try.prog 43 #[.slice a n c] w fun e w' => e = .returned (.func (.func 44) #[] #[.pointer (some ⟨w.heap.size, 0, none⟩)]) ∧ w' = w.alloc (.cells #[.slice a n c] 23) := by
  go_enter Try.func43, Try.ntmps43
  go_wp2
  go_ret
  exact ⟨rfl, rfl⟩

theorem take1_c (lim : Nat) (k : Int) (nb : Nat) {b : Bool} (hb : Hid (decide ((lim : Int) ≤ k) = b)) (w : World) (hc : w.cell? ⟨nb, 0, none⟩ = some (.int .i64 (lim : Int))) : Calls Try.prog 40 #[.int .i64 k, .pointer (some ⟨nb, 0, none⟩)] w fun e w' => e = .returned (.bool b) ∧ w' = w := by
  go_enter Try.func40, Try.ntmps40
  go_wp2
  go_ret
  exact ⟨ret_bool hb.out, rfl⟩
theorem info_item : (Try.prog.info? 49).map (fun i => (i.zero, i.size, i.bytes)) = some (some (.agg #[.int .i64 0, .int .i64 0, .slice none 0 0]), 3, 40) := by kernel_rfl
/-- append of rows inside a round -/
theorem wpIn_append_row {F : Fence} {N : Nat} {P : Program} {w : World} {ops : Array Oper} {rest : List Oper} {o : Oper} {a : Act} {Q : Exit → Act → World → Prop} (hgd : o.guard = none) (s x : Operand) (t : TypeId)
    (ho : o.op = .call { callee := .builtin .append, args := #[s, x], argTypes := #[t, t] })
    (base : Nat) (e : TypeId) (i : TypeInfo) (z : Value) (size bytes : Nat) (ht : P.underlying t = some (.slice e)) (hi : P.info? e = some i) (hz : i.zero = some z)
    (hsize : i.size = size) (hby : i.bytes = bytes) (hzs : z.cells.size = size) (hsz : 0 < size)
    (b : Option Addr) (n cap : Nat) (xs : List Value) (hs : a.eval s = .slice b n cap) (A : Option Addr) (m c : Nat) (hx : a.eval x = .slice A m c)
    (hown : Own w base e size b n cap xs) (news : List Value) (hl : news.length = m * size) (hr : Row w A news) (h1 : ∀ u ∈ news, u.oneCell' = true)
    (h63 : n + m ≤ maxLen) (hbytes : (n + m) * bytes ≤ 140737488355328) (hbase : base ≤ w.heap.size)
    (h : ∀ b' cap' w', Own w' base e size b' (n + m) cap' (xs ++ news) → Grew base w w' b b' → wpListIn F N P ops Q rest (a.put o.dst (.slice b' (n + m) cap')) w') : wpListIn F N P ops Q (o :: rest) a w := by
  refine wpListIn_plain hgd fun K hK => ?_
  obtain ⟨b', cap', w', hrun, h2, h3⟩ := run_append_row (P := P) w base t o.type e i z size bytes ht hi hz hsize hby hzs hsz b n cap xs hown A m c news hl hr h1 h63 hbytes hbase
  unfold Oper.wpIn
  refine ⟨?_, ?_⟩
  · simp [Oper.about, ho, resolve, Target.leads, Sem.run_pure]
  · rw [Oper.semAt_plain F _ _ (by rw [ho]; intro c hc'; cases hc')]
    simp [execOp, ho, resolve, invoke, builtin, hs, hx, hrun, Result.andThen]
    exact hK _ _ (h b' cap' w' h2 h3)

section
variable {W W' : World} {row : Option Nat}
theorem Blk.turn {g : Nat} {t : TypeId} {cs : Array Value} (h : Blk W g t cs) (hg : W.grownBy W' row) (hr : ∀ r, row = some r → ∃ o : Obj, W.heap[r]? = some o ∧ o.isCells = false) : Blk W' g t cs :=
  (hg.block g h.lt (fun e => by obtain ⟨o, ho, hc⟩ := hr g e.symm; rw [show W.heap[g]? = _ from h] at ho; cases ho; cases hc)).trans h
theorem Own.turn {base : Nat} {e : TypeId} {size n cap : Nat} {a : Option Addr} {xs : List Value} (h : Own W base e size a n cap xs) (hg : W.grownBy W' row) (hr : ∀ r, row = some r → ∃ o : Obj, W.heap[r]? = some o ∧ o.isCells = false) : Own W' base e size a n cap xs := by
  refine h.keep fun b hb h1 h2 => hg.block b h2 fun e => ?_
  obtain ⟨o, ho, hc⟩ := hr b e.symm
  rcases h.2 with ⟨hv, _⟩ | ⟨g, c, cur, hv, _, hgc, _⟩
  · injection hv with hv; rw [hb] at hv; cases hv
  · injection hv with hv
    rw [hb] at hv
    injection hv with hv
    injection hv with hv
    subst hv
    rw [hgc] at ho
    cases ho
    cases hc
/-- blocks of two types are two -/
theorem Own.ne_blk {base g : Nat} {e t : TypeId} {size n cap : Nat} {a : Option Addr} {xs : List Value} {cs : Array Value} (h : Own W base e size a n cap xs) (k : Blk W g t cs) (hne : e ≠ t) : a.map (·.block) ≠ some g := by
  rcases h.2 with ⟨hv, _⟩ | ⟨g', c, cur, hv, _, hgc, _⟩
  · injection hv with hv; rw [hv]; simp
  · injection hv with hv
    rw [hv]
    intro q
    simp at q
    subst q
    rw [show W.heap[g']? = _ from k] at hgc
    injection hgc with hgc
    injection hgc with _ hgc
    exact hne hgc.symm
theorem Own.apart {b1 b2 : Nat} {e t : TypeId} {s1 s2 n1 n2 c1 c2 : Nat} {a b : Option Addr} {xs ys : List Value} (h : Own W b1 e s1 a n1 c1 xs) (k : Own W b2 t s2 b n2 c2 ys) (hne : e ≠ t) : Apart a b := by
  intro q ha hb
  rcases h.2 with ⟨hv, _⟩ | ⟨g', c, cur, hv, _, hgc, _⟩
  · injection hv with hv; rw [hv] at ha; simp at ha
  · injection hv with hv
    rw [hv] at ha
    simp at ha
    subst ha
    rcases k.2 with ⟨hv2, _⟩ | ⟨g2, c', cur', hv2, _, hgc2, _⟩
    · injection hv2 with hv2; rw [hv2] at hb; simp at hb
    · injection hv2 with hv2
      rw [hv2] at hb
      simp at hb
      subst hb
      rw [hgc2] at hgc
      injection hgc with hgc
      injection hgc with _ hgc
      exact hne hgc.symm
end

def tFold (g0 : Bool) (pre : List PIt) : TS := pre.foldl (fun st x => tStep st x.pr) ⟨0, g0, []⟩
theorem tFold_snoc (g0 : Bool) (pre : List PIt) (x : PIt) : tFold g0 (pre ++ [x]) = tStep (tFold g0 pre) x.pr := by simp [tFold]
theorem tFold_used (g0 : Bool) (pre : List PIt) : (tFold g0 pre).used = sumSz pre := by
  suffices h : ∀ st : TS, (pre.foldl (fun st x => tStep st x.pr) st).used = st.used + sumSz pre by
    have := h ⟨0, g0, []⟩
    unfold tFold
    rw [this]
    simp
  induction pre with
  | nil => intro st; simp [sumSz]
  | cons x l ih => intro st; rw [List.foldl_cons, ih, tStep_used]; simp [sumSz, PIt.pr]; omega
/-- what the loop of take keeps -/
structure TkV (w : World) (a : Option Addr) (n c : Nat) (g0 : Bool) (fv : Value) (U G B : Nat) (u : Nat) (g : Bool) (its : List It) (xa : Option Addr) (xc : Nat) (W : World) : Prop where
  kS : Blk W w.heap.size 28 #[.slice a n c, .bool g0]
  kF : Blk W (w.heap.size + 1) 68 #[fv]
  kR : Blk W (w.heap.size + 1 + 1) 28 #[.slice none 0 0, .bool false]
  kI : Blk W (w.heap.size + 1 + 1 + 1) 33 #[.slice xa its.length xc]
  kU : Blk W U 3 #[.int .i64 (u : Int)]
  kG : Blk W G 4 #[.bool g]
  own : Own W B 49 3 xa its.length xc (itCells its)
  pays : ∀ x ∈ its, Own W 0 5 1 x.a x.pay.length x.c (x.pay.map encB)
  bel : Below w.heap.size w W
  sz : B ≤ W.heap.size
/-- the numbers of the boxes -/
structure TkN (w : World) (U G B : Nat) : Prop where
  ug : U ≠ G
  u : w.heap.size + 4 ≤ U
  g : w.heap.size + 4 ≤ G
  ub : U < B
  gb : G < B
section
variable {w : World} {a : Option Addr} {n c : Nat} {g0 : Bool} {fv : Value} {U G B : Nat} {u : Nat} {g : Bool} {its : List It} {xa : Option Addr} {xc : Nat} {W W' : World}
theorem TkV.turn {row : Option Nat} (h : TkV w a n c g0 fv U G B u g its xa xc W)
    (hg : W.grownBy W' row) (hr : ∀ r, row = some r → w.heap.size ≤ r ∧ ∃ o : Obj, W.heap[r]? = some o ∧ o.isCells = false) : TkV w a n c g0 fv U G B u g its xa xc W' :=
  have hr2 : ∀ r, row = some r → ∃ o : Obj, W.heap[r]? = some o ∧ o.isCells = false := fun r e => (hr r e).2
  ⟨h.kS.turn hg hr2, h.kF.turn hg hr2, h.kR.turn hg hr2, h.kI.turn hg hr2, h.kU.turn hg hr2, h.kG.turn hg hr2, h.own.turn hg hr2, fun x hx => (h.pays x hx).turn hg hr2, h.bel.grown hg h.bel.size (fun k hk => (hr k hk).1), Nat.le_trans h.sz hg.size⟩
theorem TkV.setU (h : TkV w a n c g0 fv U G B u g its xa xc W) (k : TkN w U G B) (v : Nat) {z : Int} (hz : z = v) : TkV w a n c g0 fv U G B v g its xa xc (W.setCell ⟨U, 0, none⟩ (.int .i64 z)) := by
  subst hz
  have k1 := k.u
  have k2 := k.ug
  have k3 := k.ub
  exact ⟨h.kS.far (by simp only; omega) _, h.kF.far (by simp only; omega) _, h.kR.far (by simp only; omega) _, h.kI.far (by simp only; omega) _, h.kU.set 0 _, h.kG.far (by simp only; omega) _, h.own.far (fun e => by have := h.own.base_le _ e; simp only at this; omega) _, fun x hx => (h.pays x hx).far ((h.pays x hx).ne_blk h.kU (by decide)) _, h.bel.setCell (by simp only; omega) _, by simpa [World.setCell] using h.sz⟩
theorem TkV.setG (h : TkV w a n c g0 fv U G B u g its xa xc W) (k : TkN w U G B) (v : Bool) : TkV w a n c g0 fv U G B u v its xa xc (W.setCell ⟨G, 0, none⟩ (.bool v)) := by
  have k1 := k.g
  have k2 := k.ug
  have k3 := k.gb
  exact ⟨h.kS.far (by simp only; omega) _, h.kF.far (by simp only; omega) _, h.kR.far (by simp only; omega) _, h.kI.far (by simp only; omega) _, h.kU.far (by simp only; omega) _, h.kG.set 0 _, h.own.far (fun e => by have := h.own.base_le _ e; simp only at this; omega) _, fun x hx => (h.pays x hx).far ((h.pays x hx).ne_blk h.kG (by decide)) _, h.bel.setCell (by simp only; omega) _, by simpa [World.setCell] using h.sz⟩
theorem TkV.alloc (h : TkV w a n c g0 fv U G B u g its xa xc W) (o : Obj) : TkV w a n c g0 fv U G B u g its xa xc (W.alloc o) :=
  ⟨h.kS.alloc o, h.kF.alloc o, h.kR.alloc o, h.kI.alloc o, h.kU.alloc o, h.kG.alloc o, h.own.alloc o, fun x hx => (h.pays x hx).alloc o, h.bel.alloc h.bel.size o, by have := h.sz; simp; omega⟩
theorem TkV.push (h : TkV w a n c g0 fv U G B u g its xa xc W) (k : TkN w U G B) {x : It} {xb : Option Addr} {N xd : Nat} (hN : N = its.length + 1) (own : Own W' B 49 3 xb N xd (itCells its ++ x.cells)) (gr : Grew B W W' xa xb) (hp : Own W 0 5 1 x.a x.pay.length x.c (x.pay.map encB)) :
    TkV w a n c g0 fv U G B u g (its ++ [x]) xb xd (W'.setCell ⟨w.heap.size + 1 + 1 + 1, 0, none⟩ (.slice xb N xd)) := by
  subst hN
  have k1 := k.u
  have k2 := k.g
  have k3 := k.ub
  have k4 := k.gb
  have hl : (its ++ [x]).length = its.length + 1 := by simp
  have ob := h.own.base_le
  have ne : ∀ q, q < B → xa.map (·.block) ≠ some q := fun q hq e => by have := ob q e; omega
  have pw : ∀ y ∈ its ++ [x], Own W 0 5 1 y.a y.pay.length y.c (y.pay.map encB) := fun y hy => by
    rcases List.mem_append.1 hy with hy | hy
    · exact h.pays y hy
    · rw [List.mem_singleton.1 hy]; exact hp
  have ib := own.base_le
  have kI' := h.kI.ofGrown gr (ne _ (by omega))
  refine ⟨(h.kS.ofGrown gr (ne _ (by omega))).far (by simp only; omega) _, (h.kF.ofGrown gr (ne _ (by omega))).far (by simp only; omega) _, (h.kR.ofGrown gr (ne _ (by omega))).far (by simp only; omega) _, by rw [hl]; exact kI'.set 0 _, (h.kU.ofGrown gr (ne _ (by omega))).far (by simp only; omega) _, (h.kG.ofGrown gr (ne _ (by omega))).far (by simp only; omega) _, ?_, fun y hy => ?_, ?_, by have := h.sz; have := gr.1.size; simp [World.setCell]; omega⟩
  · rw [hl, itCells_append]
    exact own.far (fun e => by have := ib _ e; simp only at this; omega) _
  · have hy' := (pw y hy).grew gr (h.own.apart (pw y hy) (by decide))
    exact hy'.far (hy'.ne_blk kI' (by decide)) _
  · exact (h.bel.grown gr.1 h.bel.size (fun q hq => by have := ob q hq; omega)).setCell (by simp only; omega) _
theorem grew_keeps {base : Nat} {e : TypeId} {size n cap : Nat} {xb : Option Addr} {xs : List Value} (own : Own W base e size xa n cap xs) (gr : Grew base W W' xa xb) : KeepsOthers W W' :=
  ⟨gr.1.size, fun q o hq ho => (gr.1.block q (Array.getElem?_eq_some_iff.1 hq).1 (fun e => by
    rcases own.2 with ⟨hv, _⟩ | ⟨g', c', cur, hv, _, hgc, _⟩
    · injection hv with hv; rw [hv] at e; simp at e
    · injection hv with hv
      rw [hv] at e
      simp at e
      subst e
      rw [hgc] at hq
      cases hq
      cases ho)).trans hq⟩
end
def TkI (w : World) (a : Option Addr) (l : List UInt8) (c : Nat) (g0 : Bool) (fv : Value) (U G B : Nat) (ok : TS → Prop) (pre : List PIt) (W : World) : Prop :=
  (ok (tFold g0 pre) ∧ Chain l pre) ∧ ∃ its xa xc, TkV w a l.length c g0 fv U G B (sumSz pre) (tFold g0 pre).garb its xa xc W ∧ its.map It.key = (tFold g0 pre).keys
theorem tkI_own {w : World} {a : Option Addr} {l : List UInt8} {c : Nat} {g0 : Bool} {fv : Value} {U G B B' : Nat} {ok : TS → Prop} (hB : w.heap.size ≤ B') : OwnFrom B' (TkI w a l c g0 fv U G B ok) := by
  rintro pre W W' row ⟨ho, its, xa, xc, h, hk⟩ hg hr
  exact ⟨ho, its, xa, xc, h.turn hg (fun r e => ⟨Nat.le_trans hB (hr r e).1, (hr r e).2⟩), hk⟩

/-- what take hands back -/
def TakeR (lim : Nat) (l : List UInt8) (g0 : Bool) (w : World) (e : Ending) (w' : World) : Prop :=
  ∃ (st : TS) (its : List It) (xa : Option Addr) (xc : Nat) (ra : Option Addr) (rc : Nat), Hid (tRun lim l ⟨0, g0, []⟩ = st) ∧ e = .returned (.tuple #[.agg #[.slice ra (l.length - st.used) rc, .bool st.garb], .slice xa its.length xc]) ∧ its.map It.key = st.keys ∧
    Own w' w.heap.size 49 3 xa its.length xc (itCells its) ∧ (∀ x ∈ its, Own w' 0 5 1 x.a x.pay.length x.c (x.pay.map encB)) ∧ Own w' w.heap.size 5 1 ra (l.length - st.used) rc ((l.drop st.used).map encB) ∧ Below w.heap.size w w'
theorem Own.ne_lt {w : World} {base : Nat} {e : TypeId} {size n cap : Nat} {a : Option Addr} {xs : List Value} (h : Own w base e size a n cap xs) {q : Nat} (hq : q < base) : a.map (·.block) ≠ some q := fun e => by have := h.base_le q e; omega
theorem fold_keys_le {l : List UInt8} {g0 : Bool} {pre : List PIt} (h : Chain l pre) : (tFold g0 pre).keys.length ≤ sumSz pre := by
  induction h with
  | nil => simp [tFold]
  | snoc hc hx ih =>
    rw [tFold_snoc, sumSz_snoc]
    have := hx.2.2
    rcases tStep_keys (tFold g0 _) (PIt.pr _) with e | e <;> rw [e]
    · omega
    · rw [List.length_append]; simp; omega
theorem fold_go {l : List UInt8} {g0 : Bool} {pre : List PIt} {x : PIt} {lim : Nat} (hx : NextOk l pre x) (hl : (tFold g0 pre).keys.length < lim) : tRun lim l (tFold g0 pre) = tRun lim l (tFold g0 (pre ++ [x])) := by
  have e : fParse (l.drop (tFold g0 pre).used) = x.pr := by rw [tFold_used]; exact hx.1
  rw [tRun_go ⟨hl, by rw [e]; rfl⟩, e, tFold_snoc]
theorem fold_no {g0 : Bool} {pre : List PIt} {x : PIt} (h2 : x.it.code = 2) (hg : (tFold g0 pre).garb = true) : (tFold g0 (pre ++ [x])).garb = true ∧ (tFold g0 (pre ++ [x])).keys = (tFold g0 pre).keys := by
  rw [tFold_snoc]
  unfold tStep PIt.pr
  simp [h2, hg]
theorem fold_yes2 {g0 : Bool} {pre : List PIt} {x : PIt} (h2 : x.it.code = 2) (hg : (tFold g0 pre).garb = false) : (tFold g0 (pre ++ [x])).garb = true ∧ (tFold g0 (pre ++ [x])).keys = (tFold g0 pre).keys ++ [x.it.key] := by
  rw [tFold_snoc]
  unfold tStep PIt.pr
  simp [h2, hg, PR.key, It.key]
theorem fold_yes {g0 : Bool} {pre : List PIt} {x : PIt} {b : Bool} (h2 : x.it.code ≠ 2) (hb : decide (x.it.code = 7 ∨ x.it.code = 4) = b) : (tFold g0 (pre ++ [x])).garb = b ∧ (tFold g0 (pre ++ [x])).keys = (tFold g0 pre).keys ++ [x.it.key] := by
  rw [tFold_snoc]
  unfold tStep PIt.pr
  simp only [if_neg h2, PR.key, It.key]
  exact ⟨hb, trivial⟩
end Go.Proofs.Ytlfccoakodnbaaa
