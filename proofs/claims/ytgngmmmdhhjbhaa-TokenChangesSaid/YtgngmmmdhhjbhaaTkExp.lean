/- token.Expire -/
import Derived.Test.YtgngmmmdhhjbhaaTkRExp
import Derived.Test.YtgngmmmdhhjbhaaTkChk
import Derived.Stop.RegionWithIn
namespace Go.Proofs.Ytgngmmmdhhjbhaa
set_option linter.unusedVariables false
open Go.RowKit Go.Sort Go.Shelf
set_option maxRecDepth 100000
attribute [local go_sem] Oper.semAt_some

section
variable {W W' : World} {row : Option Nat}
theorem Own.turn {base : Nat} {e : TypeId} {size n cap : Nat} {a : Option Addr} {xs : List Value} (h : Own W base e size a n cap xs) (hg : W.grownBy W' row) (hr : ∀ r, row = some r → ∃ o : Obj, W.heap[r]? = some o ∧ o.isCells = false) : Own W' base e size a n cap xs := by
  rcases h.2 with hn | ⟨g, c, cur, hv, hb, hh, rest⟩
  · exact ⟨h.1, .inl hn⟩
  · refine ⟨h.1, .inr ⟨g, c, cur, hv, hb, ?_, rest⟩⟩
    rw [hg.block g (Array.getElem?_eq_some_iff.1 hh).1 (fun e => by obtain ⟨o, ho, hc⟩ := hr g e.symm; rw [hh] at ho; cases ho; cases hc)]
    exact hh
theorem TkL.turn {B : Nat} {l : List Tk} {xa : Option Addr} {xc : Nat} (h : TkL W B l xa xc) (hg : W.grownBy W' row) (hr : ∀ r, row = some r → ∃ o : Obj, W.heap[r]? = some o ∧ o.isCells = false) : TkL W' B l xa xc :=
  ⟨h.own.turn hg hr, fun t ht => (h.sec t ht).turn hg hr⟩
end
/-- the marks of the inner loops that have been run: their blocks lie from B to below U -/
def Marks (B U : Nat) (W : World) : List Deferred → Prop
  | [] => True
  | d :: ds => (∃ D, d = { target := .collected D, args := #[] } ∧ B ≤ D ∧ D < U ∧ W.heap[D]? = some (.deferred (some [])) ∧ ∀ d' ∈ ds, d'.target ≠ .collected D) ∧ Marks B U W ds
theorem Marks.keep {B U U' : Nat} {W W' : World} (hU : U ≤ U') (hk : ∀ D, D < U → W.heap[D]? = some (.deferred (some [])) → W'.heap[D]? = W.heap[D]?) : ∀ {ds : List Deferred}, Marks B U W ds → Marks B U' W' ds
  | [], _ => trivial
  | d :: ds, ⟨⟨D, e, h1, h2, h3, h4⟩, h⟩ => ⟨⟨D, e, h1, Nat.lt_of_lt_of_le h2 hU, (hk D h2 h3).trans h3, h4⟩, h.keep hU hk⟩
theorem Marks.lt {B U : Nat} {W : World} : ∀ {ds : List Deferred}, Marks B U W ds → ∀ d ∈ ds, ∃ D, d.target = .collected D ∧ D < U
  | d :: ds, ⟨⟨D, e, h1, h2, h3, h4⟩, h⟩, d', hd => by
    rcases List.mem_cons.1 hd with rfl | hd
    · exact ⟨D, by rw [e], h2⟩
    · exact h.lt d' hd
theorem Marks.putNe {B U D : Nat} {W : World} {o : Obj} : ∀ {ds : List Deferred}, (∀ d' ∈ ds, d'.target ≠ .collected D) → Marks B U W ds → Marks B U (W.putObj D o) ds
  | [], _, _ => trivial
  | d :: ds, hne, ⟨⟨D2, e, h1, h2, h3, h4⟩, h⟩ => ⟨⟨D2, e, h1, h2, (World.putObj_heap_other (fun e2 => hne d (by simp) (by rw [e, e2]))).trans h3, h4⟩, Marks.putNe (fun d' hd => hne d' (by simp [hd])) h⟩
theorem leaves_marks {F : Fence} {n : Nat} {P : Program} {fn : Func} {tmps : Array Value} {R : Ending → World → Prop} {B U : Nat} {I : Unit → World → Prop} (hI : OwnFrom B I) (hfin : ∀ W, I () W → LeavesIn F n P fn tmps R [] .returning W) :
    ∀ (ds : List Deferred) (W : World), Marks B U W ds → I () W → LeavesInM F n P fn tmps R ds .returning W
  | [], W, _, hi => hfin W hi
  | d :: ds, W, ⟨⟨D, e, h1, h2, h3, h4⟩, h⟩, hi => by
    subst e
    exact ⟨by simp, .inl ⟨D, _, rfl, run_takeDeferred h3, leaves_marks hI hfin ds _ (Marks.putNe h4 h) (hI.putObj _ hi h1 h3 rfl)⟩⟩
/-- what stands in the caller's cells between two rounds -/
structure ExI (w : World) (T : Nat) (lv : Value) (now : Int) (X : Nat) (xa : Option Addr) (xc : Nat) (l3 : List Tk) (U : Nat) (ds : List Deferred) (W : World) : Prop where
  kT : Blk W T 22 #[lv]
  kN : Blk W (T + 1) 3 #[.int .i64 now]
  kX : Blk W X 22 #[.slice xa 8 xc]
  il : TkL W w.heap.size l3 xa xc
  ms : Marks w.heap.size U W ds
  be : Below w.heap.size w W
theorem ExI.turn {w : World} {T : Nat} {lv : Value} {now : Int} {X : Nat} {xa : Option Addr} {xc : Nat} {l3 : List Tk} {U : Nat} {ds : List Deferred} {W W' : World} {row : Option Nat} {B : Nat} (h : ExI w T lv now X xa xc l3 U ds W) (hB : w.heap.size ≤ B) (hU : U ≤ B) (hg : W.grownBy W' row) (hr : ∀ r, row = some r → B ≤ r ∧ ∃ o : Obj, W.heap[r]? = some o ∧ o.isCells = false) : ExI w T lv now X xa xc l3 U ds W' :=
  ⟨h.kT.turn hg fun r e => (hr r e).2, h.kN.turn hg fun r e => (hr r e).2, h.kX.turn hg fun r e => (hr r e).2, h.il.turn hg fun r e => (hr r e).2,
    h.ms.keep (Nat.le_refl _) fun D hD hd => hg.block D (Array.getElem?_eq_some_iff.1 hd).1 fun e => (by have := (hr D e.symm).1; omega), h.be.grown hg h.be.size fun k e => Nat.le_trans hB (hr k e).1⟩
theorem ExI.below {w : World} {T : Nat} {lv : Value} {now : Int} {X : Nat} {xa : Option Addr} {xc : Nat} {l3 : List Tk} {U : Nat} {ds : List Deferred} {W W' : World} (h : ExI w T lv now X xa xc l3 U ds W) (hb : Below W.heap.size W W') : ExI w T lv now X xa xc l3 U ds W' :=
  ⟨h.kT.below hb h.kT.lt, h.kN.below hb h.kN.lt, h.kX.below hb h.kX.lt, h.il.below hb, h.ms.keep (Nat.le_refl _) fun D _ hd => hb.block D (Array.getElem?_eq_some_iff.1 hd).1, h.be.trans (hb.mono h.be.size)⟩
theorem cell_cells {W : World} {g o : Nat} {v : Value} (h : W.cell? ⟨g, o, none⟩ = some v) (x : Option (List Deferred)) : W.heap[g]? ≠ some (.deferred x) := by
  intro e
  simp [World.cell?, e] at h
theorem ExI.setTok {w : World} {T : Nat} {lv : Value} {now : Int} {X g : Nat} {xc : Nat} {l3 : List Tk} {U : Nat} {ds : List Deferred} {W : World} (h : ExI w T lv now X (some ⟨g, 0, none⟩) xc l3 U ds W) {j : Nat} (hj : j < l3.length) (hg : w.heap.size ≤ g) (y : Tk) (hy : Own W w.heap.size 5 1 y.a y.sec.length y.c (y.sec.map encB)) :
    ExI w T lv now X (some ⟨g, 0, none⟩) xc (l3.set j y) U ds ((((((W.setCell ⟨g, j * 6, none⟩ (.bool y.us)).setCell ⟨g, j * 6 + 1, none⟩ (.slice y.a y.sec.length y.c)).setCell ⟨g, j * 6 + 2, none⟩ (.int .i64 y.par)).setCell ⟨g, j * 6 + 3, none⟩ (.int .i64 y.rt)).setCell ⟨g, j * 6 + 4, none⟩ (.int .i64 y.cl)).setCell ⟨g, j * 6 + 5, none⟩ (.int .i64 y.un)) := by
  have gr : W.grownBy _ (some g) := (((((grownBy_set W g (j * 6) (.bool y.us)).trans (grownBy_set _ g (j * 6 + 1) (.slice y.a y.sec.length y.c))).trans (grownBy_set _ g (j * 6 + 2) (.int .i64 y.par))).trans (grownBy_set _ g (j * 6 + 3) (.int .i64 y.rt))).trans (grownBy_set _ g (j * 6 + 4) (.int .i64 y.cl))).trans (grownBy_set _ g (j * 6 + 5) (.int .i64 y.un))
  have y0 := (row_tok h.il.own.row j hj).1
  have nb : ∀ {g' : Nat} {t : TypeId} {cs : Array Value}, Blk W g' t cs → 52 ≠ t → g' ≠ g := fun k hne e => by
    subst e
    obtain ⟨g2, c2, cur, hv, _, hh, _⟩ := h.il.own.2.resolve_left (by rintro ⟨hv, -⟩; cases hv)
    injection hv with hv _ _
    injection hv with hv
    injection hv with hv
    subst hv
    rw [show W.heap[_]? = _ from k] at hh
    injection hh with hh
    injection hh with _ ht
    exact hne ht.symm
  exact ⟨h.kT.grown gr (nb h.kT (by decide)), h.kN.grown gr (nb h.kN (by decide)), h.kX.grown gr (nb h.kX (by decide)), h.il.setTok hj y hy,
    h.ms.keep (Nat.le_refl _) fun D _ hd => gr.block D (Array.getElem?_eq_some_iff.1 hd).1 fun e => by injection e with e; subst e; exact cell_cells y0 _ hd,
    h.be.grown gr h.be.size fun k hk => by injection hk with hk; omega⟩
theorem keepsOthers_below {W W' : World} (hb : Below W.heap.size W W') : KeepsOthers W W' :=
  ⟨hb.size, fun k o hk _ => (hb.block k (Array.getElem?_eq_some_iff.1 hk).1).trans hk⟩
set_option maxHeartbeats 4000000 in
theorem token_Expire (a : Option Addr) (l : List Tk) (n c : Nat) (now : Int) (w : World) (h : TkG w a l c) (hn : n = l.length) (h8 : l.length = 8) :
    Calls Try.prog 23 #[.slice a n c, .int .i64 now] w (FreeR (l.map Tk.key) (expF (l.map Tk.key) now) n w) := by
  have ht := h.tks
  have HS := Lib.hid h.sec
  have HNIL := Lib.hid h.nil
  obtain rfl : n = 8 := by omega
  have HN := Lib.hid h8
  clear hn h h8
  refine callsIn_wide.1 (callsIn_of_wp_marks (n := 6) Try.func23 rfl trivial (wpIn_wide.2 ?_) rfl)
  simp only [Try.ntmps23, List.size_toArray, List.length_cons, List.length_nil, Nat.reduceAdd, Nat.reduceSub, Array.replicate_succ, Array.replicate_zero, List.push_toArray, List.append_toArray, List.nil_append, List.cons_append]
  go_upto_region 1 with fail
  obtain ⟨T, hT⟩ : ∃ T, w.heap.size = T := ⟨_, rfl⟩
  refine wp_named (fun W => Blk W T 22 #[.slice a 8 c] ∧ Blk W (T + 1) 3 #[.int .i64 now] ∧ RowKit.Below w.heap.size w W ∧ W.heap.size = T + 2) ⟨by rw [← hT]; exact (Blk.new _ _ _).alloc _, by have := Blk.new (w.alloc (.cells #[.slice a 8 c] 22)) 3 #[.int .i64 now]; simpa [hT] using this, (by repeat (first | (with_reducible refine Below.setCell ?_ ?_ _) | (with_reducible refine Below.alloc ?_ ?_ _) | (with_reducible refine Below.drew ?_) | (with_reducible refine below_drewN ?_ _) | (with_reducible exact Below.refl _ _) | (focus (simp; done)) | (focus (simp; omega)) | (focus omega))), by simp [hT]⟩ ?_
  have HT := Lib.hid hT
  rw [hT]
  clear hT
  rintro W1 ⟨kT, kN, be1, z1⟩
  have be1 : RowKit.Below w.heap.size w W1 := by rw [HT.out]; exact be1
  have t0 := kT.cell 0
  have tl := kT.lt
  have ht1 := ht.below be1 (Nat.le_refl _)
  go_upto_region 2 with ((go_at_call 47; (with_reducible refine (token_clone a l 8 c _ ht1 HN.out.symm (by decide) HNIL.out HS.out).mono ?_); rintro e w2 ⟨xa, xc, l2, rfl, hk, hn2, il, hb2⟩))
  obtain ⟨X, hX⟩ : ∃ X, w2.heap.size = X := ⟨_, rfl⟩
  have hXT : T + 2 ≤ X := by have := hb2.size; omega
  refine wp_named (fun W => Blk W T 22 #[.slice a 8 c] ∧ Blk W (T + 1) 3 #[.int .i64 now] ∧ Blk W X 22 #[.slice xa 8 xc] ∧ TkL W w.heap.size l2 xa xc ∧ RowKit.Below w.heap.size w W) ⟨(kT.below hb2 kT.lt).alloc _, (kN.below hb2 kN.lt).alloc _, by rw [← hX]; exact Blk.new _ _ _, (il.mono be1.size).alloc _, (by repeat (first | (with_reducible refine Below.setCell ?_ ?_ _) | (with_reducible refine Below.alloc ?_ ?_ _) | (with_reducible refine Below.drew ?_) | (with_reducible refine below_drewN ?_ _) | (with_reducible exact Below.refl _ _) | (with_reducible refine Below.trans ?_ (Below.mono hb2 ?_)) | (with_reducible refine Below.trans ?_ (Below.mono be1 ?_)) | (focus (simp; done)) | (focus (simp; omega)) | (focus omega) | (focus (have q0 := Below.size hb2; (try simp at q0); have q1 := Below.size be1; (try simp at q1); (try simp); omega))))⟩ ?_
  rw [hX]
  clear hX kT kN be1 t0 tl ht1 il hb2 z1
  rintro W3 ⟨kT, kN, kX, il, be⟩
  have t0 := kT.cell 0
  have tl := kT.lt
  go_wp2_with fail
  refine wp_loop (fun a' wr => ∃ (j : Nat) (l3 : List Tk) (ds : List Deferred) (u6 u7 u13 u14 u15 u16 u17 u19 u20 u21 u22 u23 u24 u25 u26 u27 u28 u29 : Value), (j ≤ 8 ∧ Hid (l3.length = 8) ∧ Hid (l3.map Tk.key = frTo (l.map Tk.key) (expF (l.map Tk.key) now) j) ∧ ExI w T (.slice a 8 c) now X xa xc l3 wr.heap.size ds wr) ∧ a' = { tmps := #[.slice a 8 c, .int .i64 now, .pointer (some ⟨T, 0, none⟩), .pointer (some ⟨T + 1, 0, none⟩), .slice none 0 0, .pointer (some ⟨X, 0, none⟩), u6, u7, .slice a 8 c, .slice xa 8 xc, .slice a 8 c, .int .i64 8, .int .i64 j, u13, u14, u15, u16, u17, undef, u19, u20, u21, u22, u23, u24, u25, u26, u27, u28, u29, undef], defers := ds }) (fun a' _ => 8 - (intOf (a'.tmps.getD 12 undef)).toNat) ?_ ?_
  · exact ⟨0, l2, [], _, _, _, _, _, _, _, _, _, _, _, _, _, _, _, _, _, _, ⟨by omega, Lib.hid hn2.out.symm, Lib.hid (by rw [frTo_zero, hk.out]), kT, kN, kX, il, trivial, be⟩, rfl⟩
  · clear kT kN kX il be t0 tl hk hn2
    rintro _ wr ⟨j, l3, ds, u6, u7, u13, u14, u15, u16, u17, u19, u20, u21, u22, u23, u24, u25, u26, u27, u28, u29, ⟨hj, h3, hk3, I0⟩, rfl⟩
    have t0 := I0.kT.cell 0
    have tl := I0.kT.lt
    by_cases hlt : j < 8
    · have hj8 : (j : Int) < 8 := by omega
      go_upto_region 5 with fail
      obtain ⟨S, hS⟩ : ∃ S, wr.heap.size = S := ⟨_, rfl⟩
      refine wp_named (fun W => ExI w T (.slice a 8 c) now X xa xc l3 S ds W ∧ Blk W S 3 #[.int .i64 j] ∧ W.heap.size = S + 1) ⟨⟨I0.kT.alloc _, I0.kN.alloc _, I0.kX.alloc _, I0.il.alloc _, I0.ms.keep (Nat.le_of_eq hS) (fun D hD _ => Below.heap_alloc _ _ D hD), I0.be.alloc I0.be.size _⟩, by rw [← hS]; exact Blk.new _ _ _, by simp [hS]⟩ ?_
      have hSX : X < S := by have := I0.kX.lt; omega
      rw [hS]
      clear hS I0 t0 tl
      rintro W4 ⟨I4, kS, z4⟩
      have t0 := I4.kT.cell 0
      have tl := I4.kT.lt
      have s0 := kS.cell 0
      have sl := kS.lt
      go_wp2_with (go_at_call 53; (with_reducible refine (token_ancestors _ _ _ _ _).mono ?_); rintro e w' ⟨rfl, rfl⟩)
      refine wp_named (fun W => ExI w T (.slice a 8 c) now X xa xc l3 (S + 3) ds W ∧ Blk W S 3 #[.int .i64 j] ∧ Blk W (S + 1) 22 #[.slice a 8 c] ∧ Blk W (S + 1 + 1) 3 #[.int .i64 j] ∧ W.heap.size = S + 3) ⟨⟨(I4.kT.alloc _).alloc _, (I4.kN.alloc _).alloc _, (I4.kX.alloc _).alloc _, (I4.il.alloc _).alloc _, I4.ms.keep (by omega) (fun D hD _ => (Below.heap_alloc _ _ D (by simp; omega)).trans (Below.heap_alloc _ _ D (by omega))), (I4.be.alloc I4.be.size _).alloc (by have := I4.be.size; simp; omega) _⟩, (kS.alloc _).alloc _, by rw [← z4]; exact (Blk.new _ _ _).alloc _, by have := Blk.new (W4.alloc (.cells #[.slice a 8 c] 22)) 3 #[.int .i64 j]; rw [World.size_alloc, z4] at this; exact this, by simp [z4]⟩ ?_
      have HZ4 := Lib.hid z4
      clear I4 kS z4 t0 tl s0 sl
      rintro wc ⟨I5, kS, kL, kJ, zc⟩
      have HZC := Lib.hid zc
      clear zc
      refine (wpIn_wide (n := 6)).1 ?_
      refine wp_rangeV (F := Fence.wide) rfl (by omega) (gf := 64) (lb := #[.pointer (some ⟨S + 1 + 1, 0, none⟩), .pointer (some ⟨S + 1, 0, none⟩)]) rfl trivial (enters_of Try.func64 (by kernel_rfl) rfl)
        (ancestors_seq 5 (by omega) a l c j (S + 1 + 1) (S + 1) wc kJ (by rw [HN.out]; exact kL) (ht.below I5.be (Nat.le_refl _))) belowK_t (belowK_b (Nat.le_refl _)) (Below.refl _ _) (fun _ => rfl)
        (fun pre W => (∀ y ∈ pre, expB (gK (l.map Tk.key) y).un now = false) ∧ ExI w T (.slice a 8 c) now X xa xc l3 (S + 3) ds W ∧ Blk W S 3 #[.int .i64 j])
        (fun cd pre W => cd = .exit 2 ∧ (∃ y ∈ pre, expB (gK (l.map Tk.key) y).un now = true) ∧ ExI w T (.slice a 8 c) now X xa xc (l3.set j ⟨false, [], -1, 0, 0, 0, none, 0⟩) (S + 3) ds W ∧ Blk W S 3 #[.int .i64 j])
        (fun pre W W' row h hg hr => ⟨h.1, h.2.1.turn I5.be.size (by have := HZC.out; omega) hg hr, h.2.2.turn hg fun r e => (hr r e).2⟩)
        (fun cd pre W W' row h hg hr => ⟨h.1, h.2.1, h.2.2.1.turn I5.be.size (by have := HZC.out; omega) hg hr, h.2.2.2.turn hg fun r e => (hr r e).2⟩)
        ⟨by simp, I5, kS⟩
        (fun pre x a' W => a' = { tmps := #[.slice a 8 c, .int .i64 now, .pointer (some ⟨T, 0, none⟩), .pointer (some ⟨T + 1, 0, none⟩), .slice none 0 0, .pointer (some ⟨X, 0, none⟩), .pointer (some ⟨S, 0, none⟩), .int .i64 x, .slice a 8 c, .slice xa 8 xc, .slice a 8 c, .int .i64 8, .int .i64 j, .bool true, .int .i64 j, .slice a 8 c, .int .i64 j, .func (.func 64) #[] #[.pointer (some ⟨S + 1 + 1, 0, none⟩), .pointer (some ⟨S + 1, 0, none⟩)], .int .i64 x, u19, u20, u21, u22, u23, u24, u25, u26, u27, u28, u29, undef], defers := [] } ∧ ∃ i : Nat, x = i ∧ i < l.length)
        (fun pre x a' => ownFrom_pure _ _) ?assign ?body ?done ?stop
      case assign =>
        rintro L pre x W K hi ⟨t, hv⟩ hK
        have hx : tU (l.map Tk.key) x = true := ancK_used (k := l.map Tk.key) (n := 8) (s := j) (by rw [hv]; simp)
        gi_wp2
        exact hK _ _ (KeepsFrom.refl _ _) (Below.refl _ _) hi ⟨rfl, tU_in hx⟩
      case body =>
        rintro L pre x a' W hL hrec ⟨hp, hI, kS⟩ ⟨rfl, i, rfl, hi⟩
        have t0 := hI.kT.cell 0
        have tl := hI.kT.lt
        have n0 := hI.kN.cell 0
        have nl := hI.kN.lt
        have i8 : (i : Int) < 8 := by rw [HN.out] at hi; omega
        have htW := ht.below hI.be (Nat.le_refl _)
        have HG : Hid (gK (l.map Tk.key) i = l[i].key) := Lib.hid (gK_at hi)
        obtain ⟨ba, oa, rfl⟩ := htW.open (by omega)
        obtain ⟨x0, x1, x2, x3, x4, x5, xl⟩ := row_tok htW.row i hi
        obtain ⟨t, htt⟩ : ∃ t, l[i] = t := ⟨_, rfl⟩
        rw [htt] at x0 x1 x2 x3 x4 x5 HG
        clear htt
        obtain ⟨us, ts, par, rt, cl, un, la, lc⟩ := t
        simp only at x0 x1 x2 x3 x4 x5
        obtain ⟨q, hq⟩ : ∃ q, expB un now = q := ⟨_, rfl⟩
        have Q := Lib.hid hq
        clear hq
        gi_wp2
        gi_region_with (refine ⟨trivial, ?_⟩; gi_at_call 54; refine (CallsIn.inRound L (callsIn_wide.2 (token_expiredE Q _ _ _ _ _ _ _))).mono ?_; rintro e w' ⟨rfl, hb⟩)
        all_goals
          have hb2 : RowKit.Below W.heap.size W w' := (by repeat (first | (with_reducible refine Below.setCell ?_ ?_ _) | (with_reducible refine Below.alloc ?_ ?_ _) | (with_reducible refine Below.drew ?_) | (with_reducible refine below_drewN ?_ _) | (with_reducible exact Below.refl _ _) | (with_reducible refine Below.trans ?_ (Below.mono hb ?_)) | (focus (simp; done)) | (focus (simp; omega)) | (focus omega) | (focus (have q0 := Below.size hb; (try simp at q0); (try simp); omega))))
          have hI2 := hI.below hb2
          have kS2 := kS.below hb2 kS.lt
          have hWL : wc.heap.size ≤ W.heap.size := by
            obtain ⟨r, hr⟩ := hrec
            have := (Array.getElem?_eq_some_iff.1 hr).1
            omega
          clear hb hI t0 tl n0 nl x0 x1 x2 x3 x4 x5 xl htW
          cases q with
          | false =>
            gi_wp2
            exact ⟨(keepsOthers_below hb2).from _, hb2.mono hWL, fun y hy => by
              rcases List.mem_append.1 hy with h | h
              · exact hp y h
              · rw [List.mem_singleton.1 h, HG.out]; exact Q.out, hI2, kS2⟩
          | true =>
            obtain ⟨g, rfl, gB, -⟩ := hI2.il.own.open_ (by rw [h3.out]; decide)
            have X0 := hI2.kX.cell 0
            have Xl := hI2.kX.lt
            have s0 := kS2.cell 0
            have sl := kS2.lt
            have HI2 := Lib.hid hI2
            gi_wp2
            gi_region_with (refine ⟨trivial, ?_⟩; gi_at_call 51; refine (CallsIn.inRound L (callsIn_wide.2 (token_free _))).mono ?_; rintro e w4 ⟨rfl, hb4⟩; (have hb5 : RowKit.Below w'.heap.size w' w4 := (by repeat (first | (with_reducible refine Below.setCell ?_ ?_ _) | (with_reducible refine Below.alloc ?_ ?_ _) | (with_reducible refine Below.drew ?_) | (with_reducible refine below_drewN ?_ _) | (with_reducible exact Below.refl _ _) | (with_reducible refine Below.trans ?_ (Below.mono hb4 ?_)) | (focus (simp; done)) | (focus (simp; omega)) | (focus omega) | (focus (have q0 := Below.size hb4; (try simp at q0); (try simp); omega))))); (have hI4 := HI2.out.below hb5); (have kS4 := kS2.below hb5 kS2.lt); (have X4 := hI4.kX.cell 0); (have Xl4 := hI4.kX.lt); (have s4 := kS4.cell 0); (have sl4 := kS4.lt); (obtain ⟨y0, y1, y2, y3, y4, y5, yl⟩ := row_tok hI4.il.own.row j (by rw [h3.out]; exact hlt)); (simp only [Nat.zero_add] at y0 y1 y2 y3 y4 y5); (have yf := hI4.il.own.frozen))
            all_goals
              have fin := hI4.setTok (j := j) (by rw [h3.out]; exact hlt) gB ⟨false, [], -1, 0, 0, 0, none, 0⟩ (Own.nil _ _ _ _)
              have hgS : S ≠ g := fun e => by
                subst e
                obtain ⟨g2, c2, cur, hv, _, hh, _⟩ := hI4.il.own.2.resolve_left (by rintro ⟨hv, -⟩; cases hv)
                injection hv with hv _ _
                injection hv with hv
                injection hv with hv
                subst hv
                rw [show w4.heap[_]? = _ from kS4] at hh
                injection hh with hh
                injection hh with _ ht
                exact absurd ht (by decide)
              gi_wp2
              exact ⟨((((((((keepsOthers_below hb2).trans (keepsOthers_below hb5)).trans (KeepsOthers.setCell _ _ _)).trans (KeepsOthers.setCell _ _ _)).trans (KeepsOthers.setCell _ _ _)).trans (KeepsOthers.setCell _ _ _)).trans (KeepsOthers.setCell _ _ _)).trans (KeepsOthers.setCell _ _ _)).from _, rfl, ⟨i, by simp, by rw [HG.out]; exact Q.out⟩, fin, (((((kS4.far hgS _).far hgS _).far hgS _).far hgS _).far hgS _).far hgS _⟩
      case done =>
        rintro D xs W hD rfl ⟨hp, hI, kS⟩ hK
        have hf : expF (l.map Tk.key) now j = false := by
          unfold expF
          rw [List.any_eq_false]
          intro y hy
          rw [hp y hy]
          decide
        have HG : Hid (l3.map Tk.key = frTo (l.map Tk.key) (expF (l.map Tk.key) now) (j + 1)) := Lib.hid (by rw [frTo_no hf, hk3.out])
        have hDs : D < W.heap.size := (Array.getElem?_eq_some_iff.1 hK).1
        have HM : Hid (Marks w.heap.size W.heap.size W ({ target := .collected D, args := #[] } :: ds)) := Lib.hid ⟨⟨D, rfl, Nat.le_trans I5.be.size hD, hDs, hK, fun d' hd' e => by
          obtain ⟨D2, e2, h2⟩ := hI.ms.lt d' hd'
          rw [e2] at e
          injection e with e
          have := HZC.out
          omega⟩, hI.ms.keep (by have := HZC.out; omega) fun _ _ _ => rfl⟩
        clear hp hf hK
        go_wp2_with fail
        exact ⟨⟨j + 1, l3, _, _, _, _, _, _, _, _, _, _, _, _, _, _, _, _, _, _, _, ⟨by omega, h3, HG.out |> Lib.hid, ⟨hI.kT, hI.kN, hI.kX, hI.il, HM.out, hI.be⟩⟩, by go_num⟩, by simp [intOf]; omega⟩
      case stop =>
        rintro D cd pre W hD ⟨t, hst⟩ ⟨rfl, hp, hI, kS⟩ hK
        have hf : expF (l.map Tk.key) now j = true := by
          obtain ⟨y, hy, hq⟩ := hp
          unfold expF
          rw [List.any_eq_true]
          exact ⟨y, by rw [hst]; simp [hy], hq⟩
        have HG : Hid ((l3.set j ⟨false, [], -1, 0, 0, 0, none, 0⟩).map Tk.key = frTo (l.map Tk.key) (expF (l.map Tk.key) now) (j + 1)) := Lib.hid (by rw [frTo_yes hf, ← hk3.out, List.map_set]; rfl)
        have hDs : D < W.heap.size := (Array.getElem?_eq_some_iff.1 hK).1
        have HM : Hid (Marks w.heap.size W.heap.size W ({ target := .collected D, args := #[] } :: ds)) := Lib.hid ⟨⟨D, rfl, Nat.le_trans I5.be.size hD, hDs, hK, fun d' hd' e => by
          obtain ⟨D2, e2, h2⟩ := hI.ms.lt d' hd'
          rw [e2] at e
          injection e with e
          have := HZC.out
          omega⟩, hI.ms.keep (by have := HZC.out; omega) fun _ _ _ => rfl⟩
        clear hp hf hK
        gi_wp2
        go_wp2_with fail
        exact ⟨⟨j + 1, _, _, _, _, _, _, _, _, _, _, _, _, _, _, _, _, _, _, _, _, ⟨by omega, Lib.hid (by rw [List.length_set]; exact h3.out), HG, ⟨hI.kT, hI.kN, hI.kX, hI.il, HM.out, hI.be⟩⟩, by go_num⟩, by simp [intOf]; omega⟩
    · obtain rfl : j = 8 := by omega
      have x0 := I0.kX.cell 0
      have xl := I0.kX.lt
      have HK : Hid (l3.map Tk.key = freeM (l.map Tk.key) (expF (l.map Tk.key) now)) := Lib.hid (by rw [hk3.out, ← frTo_all, List.length_map, HN.out])
      have HI := Lib.hid I0
      clear hk3 t0 tl
      go_wp2_with fail
      refine leaves_marks (B := w.heap.size) (U := wr.heap.size) (I := fun _ W => TkL W w.heap.size l3 xa xc ∧ RowKit.Below w.heap.size w W) (fun s W W' row h hg hr => ⟨h.1.turn hg fun r e => (hr r e).2, h.2.grown hg h.2.size fun k e => (hr k e).1⟩) (fun W h => ?_) ds wr HI.out.ms ⟨HI.out.il, HI.out.be⟩
      refine ⟨.slice xa 8 xc, by simp [results, Try.results23, go_sem], ?_⟩
      exact ⟨xa, xc, l3, rfl, HK, Lib.hid h3.out.symm, h.1, h.2⟩
end Go.Proofs.Ytgngmmmdhhjbhaa
