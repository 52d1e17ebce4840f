/- RecordCounts -/
import Derived.Test.YtdkifkbnkedbpaaLawH
namespace Go.Proofs.Ytdkifkbnkedbpaa
set_option linter.unusedVariables false
open Go.RowKit Go.Sort
set_option maxRecDepth 100000

/-- only the blocks K and L are written -/
structure KL (K L : Nat) (w w' : World) : Prop where
  os : w'.os = w.os
  tape : w'.tape = w.tape
  output : w'.output = w.output
  size : w.heap.size ≤ w'.heap.size
  block : ∀ q, q < w.heap.size → q ≠ K → q ≠ L → w'.heap[q]? = w.heap[q]?
theorem KL.refl (K L : Nat) (w : World) : KL K L w w := ⟨rfl, rfl, rfl, Nat.le_refl _, fun _ _ _ _ => rfl⟩
theorem KL.set {K L : Nat} {w w' : World} (h : KL K L w w') (b o : Nat) (v : Value) (hb : b = K ∨ b = L) : KL K L w (w'.setCell ⟨b, o, none⟩ v) :=
  ⟨h.os, h.tape, h.output, by have := h.size; simpa [World.setCell] using this, fun q h1 h2 h3 => (Below.heap_setCell w' ⟨b, o, none⟩ v q (fun e => by simp only at e; omega)).trans (h.block q h1 h2 h3)⟩
theorem KL.drewN {K L : Nat} {w w' : World} (h : KL K L w w') (n : Nat) : KL K L w (w'.drewN n) := ⟨h.os, h.tape, h.output, h.size, h.block⟩
theorem KL.below {K L B : Nat} {U w w' : World} (h : KL K L w w') (hb : Below B U w) (h1 : B ≤ K) (h2 : B ≤ L) (h3 : B ≤ w.heap.size) : Below B U w' :=
  ⟨h.os.trans hb.os, h.tape.trans hb.tape, h.output.trans hb.output, Nat.le_trans hb.size h.size, fun q hq => (h.block q (by omega) (by omega) (by omega)).trans (hb.block q hq)⟩
theorem KL.own {K L : Nat} {w w' : World} (h : KL K L w w') {base : Nat} {e : TypeId} {size n cap : Nat} {a : Option Addr} {xs : List Value} (o : Own w base e size a n cap xs) (h1 : ∀ b, a.map (·.block) = some b → b ≠ K ∧ b ≠ L) : Own w' base e size a n cap xs :=
  o.keep fun b hb _ hl => h.block b hl (h1 b (by rw [hb]; rfl)).1 (h1 b (by rw [hb]; rfl)).2
theorem KL.blk {K L : Nat} {w w' : World} (h : KL K L w w') {g : Nat} {t : TypeId} {cs : Array Value} (k : Blk w g t cs) (h1 : g ≠ K) (h2 : g ≠ L) : Blk w' g t cs := (h.block g k.lt h1 h2).trans k
theorem lCount_pos {p : Ph} {a t : Int} (hp : PhOk p) (h : LiOk p a t) : 0 ≤ lCount p a t := by
  have h1 := lNeed_bd hp
  unfold LiOk at h
  unfold lCount
  split
  · split <;> omega
  · split
    · omega
    · split <;> omega
theorem lCount_keeps {p : Ph} {x y : Int × Int} (hp : PhOk p) (h : LiOk p x.1 x.2) (hr : LiRel p x y) (hc : 0 < lCount p x.1 x.2) : vCol y.1 = vCol x.1 := by
  have key : ∀ lv, vCol (lStep p x.1 x.2 lv).1 = vCol x.1 ∧ (lStep p x.1 x.2 lv).1 ≠ 0 := fun lv => by
    have h1 := lNeed_bd hp
    unfold LiOk at h
    unfold lCount at hc
    unfold lStep
    rcases h with ⟨e, ht⟩ | ⟨e, ht⟩ | ⟨e, ht⟩ | ⟨e, ht⟩
    · rw [e] at hc; simp at hc
    · rw [e] at hc ⊢
      simp only [if_true] at hc ⊢
      split at hc
      · omega
      · rw [if_neg (by omega)]; simp
    · rw [e] at hc ⊢
      simp at hc ⊢
      rw [if_pos (by omega)]; simp
    · rw [e] at hc ⊢
      simp at hc ⊢
      rw [if_pos (by omega)]; simp
  rcases hr with rfl | ⟨lv, rfl⟩ | ⟨rfl, lv, h0⟩
  · rfl
  · exact (key lv).1
  · exact absurd h0 (key lv).2
/-- what is remembered of the last tick -/
def Rem (ps : List Ph) (ls : List (Int × Int)) (Kl Cl : List Int) (i : Nat) : Prop := ∀ (h0 : i < ps.length) (h1 : i < ls.length) (h2 : i < Kl.length) (h3 : i < Cl.length), Kl[i] ≤ 0 ∨ (Kl[i] = lCount ps[i] ls[i].1 ls[i].2 ∧ Cl[i] = vCol ls[i].1)
theorem Rem.set_ne {ps : List Ph} {ls : List (Int × Int)} {Kl Cl : List Int} {i j : Nat} {x y : Int} (h : Rem ps ls Kl Cl j) (hne : i ≠ j) : Rem ps ls (Kl.set i x) (Cl.set i y) j := fun h0 h1 h2 h3 => by
  have h2' : j < Kl.length := by simpa using h2
  have h3' : j < Cl.length := by simpa using h3
  rw [List.getElem_set_ne hne, List.getElem_set_ne hne]
  exact h h0 h1 h2' h3'
theorem Rem.set_eq {ps : List Ph} {ls : List (Int × Int)} {Kl Cl : List Int} {i : Nat} {x y : Int} (hx : ∀ (h0 : i < ps.length) (h1 : i < ls.length), x = lCount ps[i] ls[i].1 ls[i].2 ∧ y = vCol ls[i].1) : Rem ps ls (Kl.set i x) (Cl.set i y) i := fun h0 h1 h2 h3 => by
  rw [List.getElem_set_self, List.getElem_set_self]
  exact .inr (hx h0 h1)
def StP (ps : List Ph) (ls : List (Int × Int)) (v : Value) (b0 b1 : Nat) (W : World) : Prop :=
  ∃ (ls' : List (Int × Int)) (nx : List Int) (g wt : Int) (la : Option Addr) (lc : Nat) (na : Option Addr) (nc : Nat), v = cAgg la ps.length lc g na nc wt ∧ StepRel ps ls ls' ∧ CtlV W b0 ps ls' nx g wt la lc na nc ∧ (∀ k, la.map (·.block) = some k → k < b1) ∧ ∀ k, na.map (·.block) = some k → k < b1
theorem StP.keep {ps : List Ph} {ls : List (Int × Int)} {v : Value} {b0 b1 : Nat} {W W' : World} (h : StP ps ls v b0 b1 W) (hk : ∀ q, b0 ≤ q → q < b1 → W'.heap[q]? = W.heap[q]?) : StP ps ls v b0 b1 W' := by
  obtain ⟨ls', nx, g, wt, la, lc, na, nc, hv, hs, hc, h1, h2⟩ := h
  exact ⟨ls', nx, g, wt, la, lc, na, nc, hv, hs, ⟨hc.lo.keep fun b hb hl _ => hk b hl (h1 b (by rw [hb]; rfl)), hc.no.keep fun b hb hl _ => hk b hl (h2 b (by rw [hb]; rfl)), hc.nx, hc.ll, hc.lok, hc.g0, hc.w0⟩, h1, h2⟩
set_option maxHeartbeats 16000000 in
theorem recordCounts_walk (a0 : Option Addr) (c0 : Nat) (l0 : List Int) (a1 : Option Addr) (c1 : Nat) (l1 : List Int) (w : World) (h0 : Ints w a0 l0) (n0 : l0.length ≤ 9223372036854775807) (h1 : Ints w a1 l1) (n1 : l1.length ≤ 9223372036854775807) :
    Calls Try.prog 7 #[.slice a0 l0.length c0, .slice a1 l1.length c1] w fun e w' => e = .returned (.bool true) ∧ RowKit.Below w.heap.size w w' := by
  go_enter Try.func7, Try.ntmps7
  by_cases h80 : 80 < l1.length
  · have h80' : (80 : Int) < (l1.length : Int) := by omega
    go_wp2_with ((go_at_call 9; (with_reducible refine (awake_yes _).mono ?_); rintro e w20 ⟨rfl, hb20⟩))
    go_ret
    exact ⟨rfl, (by repeat (first | (with_reducible refine Below.setCell ?_ ?_ _) | (with_reducible refine Below.alloc ?_ ?_ _) | (with_reducible refine Below.drew ?_) | (with_reducible refine below_drewN ?_ _) | (with_reducible exact Below.refl _ _) | (with_reducible refine Below.trans ?_ (Below.mono hb20 ?_)) | (focus (simp; done)) | (focus (simp; omega)) | (focus omega) | (focus (have q0 := Below.size hb20; (try simp at q0); (try simp); omega))))⟩
  have h80' : ¬ ((80 : Int) < (l1.length : Int)) := by omega
  go_upto_region 4 with (first | (go_at_call 10; (with_reducible refine (mk_New a0 c0 l0 _ h0 n0).mono ?_); rintro e w1 ⟨rfl, hd1, hb1⟩) | (go_at_call 26; (with_reducible refine (deck_JunP _ _ _ _ hd1).mono ?_); rintro e w2 ⟨k2, jb, jc, jb2, jc2, ps, cs, s, rfl, hj, hjb, hjb2, hd2, g2⟩))
  have hb2 : RowKit.Below w.heap.size w w2 := hb1.grown g2 hb1.size (fun k hk => by injection hk with hk; omega)
  obtain ⟨J, hJ⟩ : ∃ J, w2.heap.size = J := ⟨_, rfl⟩
  refine wp_named (fun U => Blk U J 32 #[.slice (some ⟨jb, 0, none⟩) ps.length jc, .slice (some ⟨jb2, 0, none⟩) ps.length jc2, .int .i64 s] ∧ RowKit.Below w2.heap.size w2 U ∧ U.heap.size = J + 1) ⟨by rw [← hJ]; exact Blk.new _ _ _, (by repeat (first | (with_reducible refine Below.setCell ?_ ?_ _) | (with_reducible refine Below.alloc ?_ ?_ _) | (with_reducible refine Below.drew ?_) | (with_reducible refine below_drewN ?_ _) | (with_reducible exact Below.refl _ _) | (focus (simp; done)) | (focus (simp; omega)) | (focus omega))), by simp; exact hJ⟩ ?_
  rintro U ⟨kJ, bU, hJz⟩
  have hjU := hj.below (base := w2.heap.size) bU
  have beU : RowKit.Below w.heap.size w U := (by repeat (first | (with_reducible refine Below.setCell ?_ ?_ _) | (with_reducible refine Below.alloc ?_ ?_ _) | (with_reducible refine Below.drew ?_) | (with_reducible refine below_drewN ?_ _) | (with_reducible exact Below.refl _ _) | (with_reducible refine Below.trans ?_ (Below.mono bU ?_)) | (with_reducible refine Below.trans ?_ (Below.mono hb2 ?_)) | (focus (simp; done)) | (focus (simp; omega)) | (focus omega) | (focus (have q0 := Below.size bU; (try simp at q0); have q1 := Below.size hb2; (try simp at q1); (try simp); omega))))
  have hwJ : w.heap.size ≤ J := by have := hb2.size; omega
  rw [hJ] at hjU ⊢
  clear hJ hj hd2 g2 hb2 hd1 hb1 bU hjb hjb2
  have hn := hjU.n1
  have HJZ := Lib.hid hJz
  have hJU : J + 1 ≤ U.heap.size := by omega
  clear hJz
  obtain ⟨j0, j1, j2⟩ : U.cell? ⟨J, 0, none⟩ = _ ∧ U.cell? ⟨J, 1, none⟩ = _ ∧ U.cell? ⟨J, 2, none⟩ = _ := ⟨kJ.cell 0, kJ.cell 1, kJ.cell 2⟩
  have jl := kJ.lt
  go_upto_region 5 with ((go_at_call 27; (with_reducible refine (ref09_Init J jb jc jb2 jc2 ps cs s _ hjU).mono ?_); rintro e w3 ⟨nx, la, lc, na, nc, rfl, hcv, hb3⟩))
  obtain ⟨C, hC⟩ : ∃ C, w3.heap.size = C := ⟨_, rfl⟩
  have hb3z := hb3.size
  refine wp_named (fun Y => Blk Y C 35 #[.slice la ps.length lc, .int .i64 0, .slice na 2 nc, .int .i64 s] ∧ CtlV Y 0 ps (List.replicate ps.length (0, 0)) nx 0 s la lc na nc ∧ RowKit.Below (J + 1) U Y ∧ C + 1 ≤ Y.heap.size) ⟨by rw [← hC]; exact Blk.new _ _ _, (hcv.alloc _).mono (Nat.zero_le _), (hb3.mono (by omega)).alloc (by omega) _, by rw [← hC]; simp⟩ ?_
  have hCJ : J < C := by omega
  rw [hC]
  have hnaC : ∀ b, na.map (·.block) = some b → b < C := by rw [← hC]; exact hcv.no.lt'
  clear hC hcv hb3 hb3z j0 j1 j2 jl
  rintro Y ⟨kC, hcv, bY, hCz⟩
  have kJY := kJ.below bY (by omega)
  apply wp_region_tab [] 10 125 [some 22, some 23, some 24, some 25, some 26, some 27, some 28, some 29, some 7, some 8] [⟨[], [], [], []⟩, ⟨[0], [0], [0], []⟩, ⟨[0, 1], [1], [1], []⟩, ⟨[0, 1, 2], [2], [2], []⟩, ⟨[], [], [], []⟩, ⟨[4], [4], [4], []⟩, ⟨[4, 5], [5], [5], []⟩, ⟨[4, 5, 6], [6], [6], []⟩, ⟨[0, 1, 2, 3], [3], [3], []⟩, ⟨[0, 1, 2, 3, 4, 5, 6, 7, 8], [7], [7], []⟩] [0, 1, 2, 3, 4, 5, 6, 7, 8, 9] [3, 7, 8, 9] [psiTrue, psiTrue, psiTrue, (fun f lo hi v b0 b1 W => ∃ B : Nat, v = .slice (some ⟨B, 0, none⟩) ps.length ps.length ∧ b0 ≤ B ∧ B < b1 ∧ Blk W B 3 ((List.replicate ps.length (0 : Int)).map encI).toArray), psiTrue, psiTrue, psiTrue, (fun f lo hi v b0 b1 W => ∃ B : Nat, v = .slice (some ⟨B, 0, none⟩) ps.length ps.length ∧ b0 ≤ B ∧ B < b1 ∧ Blk W B 3 ((List.replicate ps.length (0 : Int)).map encI).toArray), (fun f _ _ v _ _ _ => v = f 3), (fun f _ _ v _ _ _ => v = f 7)] [kVal _, kVal _, kVal _, kTrue, kVal _, kVal _, kVal _, kTrue, kTrue, kTrue]
  · kernel_rfl
  · kernel_rfl
  · rfl
  · rfl
  · exact trivial
  · exact trivial
  refine ⟨?oR1_0, ?oR1_1, ?oR1_2, ?oR1_3, ?oR1_4, ?oR1_5, ?oR1_6, ?oR1_7, ?oR1_8, ?oR1_9, trivial⟩
  case oR1_0 => intro f lo hi w hb hx hf hk hrg R hR; (try replace hb := BelX.zero hb); (try simp (decide := true) only [go_sem] at hf); (try simp (decide := true) only [go_sem] at hk); go_simp; exact hR _ _ (rpost_val rfl rfl (Below.refl _ _) rfl)
  case oR1_1 =>
    intro f lo hi w hb hx hf hk hrg R hR; (try replace hb := BelX.zero hb); (try simp (decide := true) only [go_sem] at hf); (try simp (decide := true) only [go_sem] at hk)
    have e0 := (kJY.below hb kJY.lt).cell 0
    go_simp
    exact hR _ _ (rpost_val rfl rfl (Below.refl _ _) rfl)
  case oR1_2 => intro f lo hi w hb hx hf hk hrg R hR; (try replace hb := BelX.zero hb); (try simp (decide := true) only [go_sem] at hf); (try simp (decide := true) only [go_sem] at hk); go_simp; exact hR _ _ (rpost_val rfl rfl (Below.refl _ _) rfl)
  case oR1_3 =>
    intro f lo hi w hb hx hf hk hrg R hR; (try replace hb := BelX.zero hb); (try simp (decide := true) only [go_sem] at hf); (try simp (decide := true) only [go_sem] at hk)
    refine obl_makeI ps.length ?_ ?_ (by omega) fun kk => ?_
    · go_simp
    · go_simp
    refine hR _ _ (rpost_none rfl ((RowKit.Below.refl _ _).alloc (Nat.le_refl _) _) ?_)
    (try simp (decide := true) only [go_sem])
    exact ⟨_, rfl, Nat.le_refl _, by simp, kk⟩
  case oR1_4 => intro f lo hi w hb hx hf hk hrg R hR; (try replace hb := BelX.zero hb); (try simp (decide := true) only [go_sem] at hf); (try simp (decide := true) only [go_sem] at hk); go_simp; exact hR _ _ (rpost_val rfl rfl (Below.refl _ _) rfl)
  case oR1_5 =>
    intro f lo hi w hb hx hf hk hrg R hR; (try replace hb := BelX.zero hb); (try simp (decide := true) only [go_sem] at hf); (try simp (decide := true) only [go_sem] at hk)
    have e0 := (kJY.below hb kJY.lt).cell 0
    go_simp
    exact hR _ _ (rpost_val rfl rfl (Below.refl _ _) rfl)
  case oR1_6 => intro f lo hi w hb hx hf hk hrg R hR; (try replace hb := BelX.zero hb); (try simp (decide := true) only [go_sem] at hf); (try simp (decide := true) only [go_sem] at hk); go_simp; exact hR _ _ (rpost_val rfl rfl (Below.refl _ _) rfl)
  case oR1_7 =>
    intro f lo hi w hb hx hf hk hrg R hR; (try replace hb := BelX.zero hb); (try simp (decide := true) only [go_sem] at hf); (try simp (decide := true) only [go_sem] at hk)
    refine obl_makeI ps.length ?_ ?_ (by omega) fun kk => ?_
    · go_simp
    · go_simp
    refine hR _ _ (rpost_none rfl ((RowKit.Below.refl _ _).alloc (Nat.le_refl _) _) ?_)
    (try simp (decide := true) only [go_sem])
    exact ⟨_, rfl, Nat.le_refl _, by simp, kk⟩
  case oR1_8 => intro f lo hi w hb hx hf hk hrg R hR; (try replace hb := BelX.zero hb); (try simp (decide := true) only [go_sem] at hf); (try simp (decide := true) only [go_sem] at hk); go_simp; exact hR _ _ (rpost_none rfl (Below.refl _ _) rfl)
  case oR1_9 => intro f lo hi w hb hx hf hk hrg R hR; (try replace hb := BelX.zero hb); (try simp (decide := true) only [go_sem] at hf); (try simp (decide := true) only [go_sem] at hk); go_simp; exact hR _ _ (rpost_none rfl (Below.refl _ _) rfl)
  case hcl =>
    refine ⟨Closed.true _ _ _ _, Closed.true _ _ _ _, Closed.true _ _ _ _, ?cR1_3, Closed.true _ _ _ _, Closed.true _ _ _ _, Closed.true _ _ _ _, ?cR1_7, ?cR1_8, ?cR1_9, trivial⟩
    all_goals first
      | exact fun f lo hi v b0 b1 w w' h hs hB hown hU hX => by
          obtain ⟨B, h1, h2, h3, kk⟩ := h
          exact ⟨B, h1, h2, h3, (hown B h2 h3).trans kk⟩
      | exact fun _ _ _ _ _ _ _ _ h _ _ _ _ _ => h
  intro f lo hi W7 hbr hx hf hk hrg; (try replace hbr := BelX.zero hbr); clear hx; (try simp (decide := true) only [go_sem] at hf); (try simp (decide := true) only [go_sem] at hk)
  obtain ⟨⟨K, h25, K1, K2, kK⟩, ⟨L, h29, L1, L2, kL⟩, h8, h9⟩ := hf
  rw [h25] at h8
  rw [h29] at h9
  have q3 := (hrg.out 3 (by simp)).1
  have q7 := (hrg.out 7 (by simp)).1
  have hKL : K ≠ L := fun e => by
    rcases (hrg.out 3 (by simp)).2.2.2 7 (by simp) (by decide) with h | h <;> omega
  have hCK : C < K := by omega
  have hCL : C < L := by omega
  have kC7 := kC.below hbr kC.lt
  have hcv7 := hcv.below hbr
  have bY7 : RowKit.Below (J + 1) U W7 := bY.trans (hbr.mono (by omega))
  clear hrg q3 q7 K1 K2 L1 L2 kC hcv kJY bY hbr
  go_simp
  clear hk h25 h29 h8 h9
  go_wp2_with fail
  go_loopw [32] (fun s32 wr => ∃ (k : Nat) (ls : List (Int × Int)) (nx : List Int) (g wt : Int) (la : Option Addr) (lc : Nat) (na : Option Addr) (nc : Nat) (Kl Cl : List Int), s32 = .int .i64 k ∧ k ≤ l1.length ∧ Blk wr C 35 #[.slice la ps.length lc, .int .i64 g, .slice na 2 nc, .int .i64 wt] ∧ CtlV wr 0 ps ls nx g wt la lc na nc ∧ (∀ b, na.map (·.block) = some b → b ≠ K ∧ b ≠ L) ∧ Blk wr K 3 (Kl.map encI).toArray ∧ Blk wr L 3 (Cl.map encI).toArray ∧ Kl.length = ps.length ∧ Cl.length = ps.length ∧ (∀ i, Rem ps ls Kl Cl i) ∧ RowKit.Below (J + 1) U wr) (fun s _ => l1.length - (intOf s).toNat)
  case atStart => exact ⟨0, _, nx, 0, s, la, lc, na, nc, _, _, rfl, by omega, kC7, hcv7, fun b hb => by have := hnaC b hb; omega, kK, kL, by simp, by simp, fun i h0 h1 h2 h3 => .inl (by simp), bY7⟩
  case round =>
    clear kC7 hcv7 hnaC kK kL bY7
    obtain ⟨k, ls, nx, g, wt, la, lc, na, nc, Kl, Cl, rfl, hk, kC, hcv, hna, kK, kL, hKl, hCl, hrem, bz⟩ := hrel
    have HREM := Lib.hid hrem
    have be : RowKit.Below w.heap.size w wr := beU.trans (bz.mono (by omega))
    have hzz := bz.size
    clear hrem
    by_cases hlt : k < l1.length
    · have hne : l1 ≠ [] := by intro e; rw [e] at hlt; simp at hlt
      obtain ⟨bp, op_, rfl, lp, xp⟩ := (Ints.below h1 be (Nat.le_refl _)).open.resolve_left hne
      have x0 := xp k hlt
      obtain ⟨tg, htg⟩ : ∃ q, l1[k] = q := ⟨_, rfl⟩
      rw [htg] at x0
      clear htg xp
      have kx : (k : Int) < (l1.length : Int) := by omega
      have kJr := kJ.below bz (by omega)
      have hjr := hjU.below (bz.mono (by omega))
      have kCl := kC.lt
      go_upto_region 9 with fail
      have ew : IntKind.i64.wrap ((ps.length : Int) + 1) = (ps.length : Int) + 1 := by rw [IntKind.wrap_i64]; omega
      apply wp_region_tab [(C, (C+1))] 11 125 [some 36, some 37, some 38, some 39, some 40, some 41, some 42, some 43, some 44, some 45, none] [⟨[11], [], [], []⟩, ⟨[11], [11], [11], []⟩, ⟨[11], [], [], []⟩, ⟨[11], [], [], []⟩, ⟨[3, 11], [3], [3], []⟩, ⟨[3, 4, 11], [4], [4], []⟩, ⟨[3, 4, 5, 11], [5], [5], []⟩, ⟨[2, 3, 4, 5, 6, 11], [2, 6], [2, 6], []⟩, ⟨[2, 3, 4, 5, 6, 7, 11], [7], [7], []⟩, ⟨[0, 1, 2, 3, 4, 5, 6, 7, 8, 11], [0, 1, 8], [0, 1, 8], []⟩, ⟨[0, 1, 2, 3, 4, 5, 6, 7, 8, 9, 11], [9, 11], [9, 11], [11]⟩, ⟨[], [], [], []⟩] [0, 1, 2, 3, 4, 5, 6, 7, 8, 9, 10] [9, 10] [psiTrue, psiTrue, psiTrue, psiTrue, psiTrue, psiTrue, psiTrue, psiTrue, psiTrue, (fun f lo hi v b0 b1 W => StP ps ls v b0 b1 W), (fun f lo hi v b0 b1 W => ∃ (la : Option Addr) (lc : Nat) (g : Int) (na : Option Addr) (nc : Nat) (wt : Int), f 9 = cAgg la ps.length lc g na nc wt ∧ Blk W C 35 #[.slice la ps.length lc, .int .i64 g, .slice na 2 nc, .int .i64 wt]), (fun f lo hi v b0 b1 W => (b0 = C ∧ b1 = (C+1)) ∧ Blk W C 35 #[.slice la ps.length lc, .int .i64 g, .slice na 2 nc, .int .i64 wt])] [kVal _, kVal _, kVal _, kVal _, kVal _, kVal _, kVal _, kVal _, kVal _, kTrue, kTrue]
      · kernel_rfl
      · kernel_rfl
      · rfl
      · rfl
      rotate_left 2
      refine ⟨?oR2_0, ?oR2_1, ?oR2_2, ?oR2_3, ?oR2_4, ?oR2_5, ?oR2_6, ?oR2_7, ?oR2_8, ?oR2_9, ?oR2_10, trivial⟩
      case hx => exact ⟨⟨by omega, by omega⟩, by simp, trivial⟩
      case hX => exact ⟨fun _ _ _ _ => ⟨⟨rfl, rfl⟩, kC⟩, trivial⟩
      case oR2_0 =>
        intro f lo hi w hb hx hf hk hrg R hR; (try replace hb := BelX.zero hb); (try simp (decide := true) only [go_sem] at hf); (try simp (decide := true) only [go_sem] at hk)
        have kk := hb.blk kJr (fun r hr => by simp at hr; subst hr; simp only; omega)
        obtain ⟨j0, j1, j2⟩ : w.cell? ⟨J, 0, none⟩ = _ ∧ w.cell? ⟨J, 1, none⟩ = _ ∧ w.cell? ⟨J, 2, none⟩ = _ := ⟨kk.cell 0, kk.cell 1, kk.cell 2⟩
        go_simp
        exact hR _ _ (rpost_val rfl rfl (Below.refl _ _) rfl)
      case oR2_1 =>
        intro f lo hi w hb hx hf hk hrg R hR; (try replace hb := BelX.zero hb); (try simp (decide := true) only [go_sem] at hf); (try simp (decide := true) only [go_sem] at hk)
        obtain ⟨⟨-, -⟩, kk⟩ := hf
        obtain ⟨e0, e1, e2, e3⟩ := kk.four'
        go_simp
        exact hR _ _ (rpost_val rfl rfl (Below.refl _ _) rfl)
      case oR2_2 => intro f lo hi w hb hx hf hk hrg R hR; (try replace hb := BelX.zero hb); (try simp (decide := true) only [go_sem] at hf); (try simp (decide := true) only [go_sem] at hk); go_simp; exact hR _ _ (rpost_val rfl rfl (Below.refl _ _) rfl)
      case oR2_3 => intro f lo hi w hb hx hf hk hrg R hR; (try replace hb := BelX.zero hb); (try simp (decide := true) only [go_sem] at hf); (try simp (decide := true) only [go_sem] at hk); go_simp; exact hR _ _ (rpost_val rfl rfl (Below.refl _ _) rfl)
      case oR2_4 =>
        intro f lo hi w hb hx hf hk hrg R hR; (try replace hb := BelX.zero hb); (try simp (decide := true) only [go_sem] at hf); (try simp (decide := true) only [go_sem] at hk)
        have kk := hb.blk kJr (fun r hr => by simp at hr; subst hr; simp only; omega)
        have j0 : w.cell? ⟨J, 0, none⟩ = _ := kk.cell 0
        go_simp
        exact hR _ _ (rpost_val rfl rfl (Below.refl _ _) rfl)
      case oR2_5 => intro f lo hi w hb hx hf hk hrg R hR; (try replace hb := BelX.zero hb); (try simp (decide := true) only [go_sem] at hf); (try simp (decide := true) only [go_sem] at hk); go_simp; exact hR _ _ (rpost_val rfl rfl (Below.refl _ _) rfl)
      case oR2_6 => intro f lo hi w hb hx hf hk hrg R hR; (try replace hb := BelX.zero hb); (try simp (decide := true) only [go_sem] at hf); (try simp (decide := true) only [go_sem] at hk); go_simp; exact hR _ _ (rpost_val rfl rfl (Below.refl _ _) rfl)
      case oR2_7 => intro f lo hi w hb hx hf hk hrg R hR; (try replace hb := BelX.zero hb); (try simp (decide := true) only [go_sem] at hf); (try simp (decide := true) only [go_sem] at hk); go_simp; (with_reducible refine (mk_Mod tg ((ps.length : Int) + 1) _ (by omega) (by omega)).mono ?_); rintro e w' ⟨rfl, rfl⟩; exact ⟨_, rfl, hR _ _ (rpost_val rfl rfl (Below.refl _ _) rfl)⟩
      case oR2_8 => intro f lo hi w hb hx hf hk hrg R hR; (try replace hb := BelX.zero hb); (try simp (decide := true) only [go_sem] at hf); (try simp (decide := true) only [go_sem] at hk); go_simp; exact hR _ _ (rpost_val rfl rfl (Below.refl _ _) rfl)
      case oR2_9 =>
        intro f lo hi w hb hx hf hk hrg R hR; (try replace hb := BelX.zero hb); (try simp (decide := true) only [go_sem] at hf); (try simp (decide := true) only [go_sem] at hk)
        have hout : ∀ q, q < wr.heap.size → q ≠ C → w.heap[q]? = wr.heap[q]? := fun q h1 h2 => hb.2.2.2.2 q ⟨h1, fun r hr => by simp at hr; subst hr; simp only; omega⟩
        have hjw := hjr.below (w' := w) ⟨hb.1, hb.2.1, hb.2.2.1, hb.2.2.2.1, fun q hq => hout q (by omega) (by omega)⟩
        have hcw : CtlV w 0 ps ls nx g wt la lc na nc := ⟨hcv.lo.keep fun b hb' _ hl => hout b hl (fun e => hcv.lo.ne_blk kC (by decide) (by rw [hb', e]; rfl)), hcv.no.keep fun b hb' _ hl => hout b hl (fun e => hcv.no.ne_blk kC (by decide) (by rw [hb', e]; rfl)), hcv.nx, hcv.ll, hcv.lok, hcv.g0, hcv.w0⟩
        go_simp
        (with_reducible refine (ref09_Step J jb jc jb2 jc2 ps cs s 0 ls nx g wt la lc na nc _ _ hjw hcw).mono ?_)
        rintro e w' ⟨ls', nx', g', wt', la', lc', na', nc', hst, rfl, hcv', hb2⟩
        exact ⟨_, rfl, hR _ _ (rpost_none rfl hb2 ⟨ls', nx', g', wt', la', lc', na', nc', rfl, hst, hcv', hcv'.lo.lt', hcv'.no.lt'⟩)⟩
      case oR2_10 =>
        intro f lo hi w hb hx hf hk hrg R hR; (try replace hb := BelX.zero hb); (try simp (decide := true) only [go_sem] at hf); (try simp (decide := true) only [go_sem] at hk)
        obtain ⟨⟨ls', nx', g', wt', la', lc', na', nc', h45, -⟩, ⟨-, -⟩, kk⟩ := hf
        obtain ⟨e0, e1, e2, e3⟩ := kk.four'
        have fz := kk.frozen
        have kl := kk.lt
        have p1 : lo 11 ≤ C := Nat.le_of_eq (XOk.get _ _ hx 0 _ rfl).1
        have p2 : C < hi 11 := by rw [(XOk.get _ _ hx 0 _ rfl).2]; exact Nat.lt_succ_self _
        go_simp
        refine hR _ _ (rpost_some rfl rfl (Touch.set4 w (List.mem_singleton.2 rfl) p1 p2 _ _ _ _) ?_)
        (try simp (decide := true) only [go_sem])
        exact ⟨la', lc', g', na', nc', wt', h45, kk.set4 _ _ _ _⟩
      case hcl =>
        refine ⟨Closed.true _ _ _ _, Closed.true _ _ _ _, Closed.true _ _ _ _, Closed.true _ _ _ _, Closed.true _ _ _ _, Closed.true _ _ _ _, Closed.true _ _ _ _, Closed.true _ _ _ _, Closed.true _ _ _ _, ?cR2_9, ?cR2_10, ?cR2_11, trivial⟩
        all_goals first
          | exact fun f lo hi v b0 b1 w w' h hs hB hown hU hX => StP.keep h fun q h1 h2 => hown q h1 h2
          | exact fun f lo hi v b0 b1 w w' h hs hB hown hU hX => by
              obtain ⟨la, lc, g, na, nc, wt, h1, h2⟩ := h
              exact ⟨la, lc, g, na, nc, wt, h1, (hX 0 _ rfl (by simp) _ (Nat.le_refl _) (Nat.lt_succ_self _)).trans h2⟩
          | exact fun f lo hi v b0 b1 w w' h hs hB hown hU hX => by
              obtain ⟨⟨rfl, rfl⟩, kb⟩ := h
              exact ⟨⟨rfl, rfl⟩, (hown _ (Nat.le_refl _) (Nat.lt_succ_self _)).trans kb⟩
          | exact fun _ _ _ _ _ _ _ _ h _ _ _ _ _ => h
      intro f lo hi W8 hbr hx hf hk hrg; (try replace hbr := BelX.zero hbr); clear hx; (try simp (decide := true) only [go_sem] at hf); (try simp (decide := true) only [go_sem] at hk)
      obtain ⟨⟨ls', nx', g', wt', la', lc', na', nc', h45, hst, hcv', -, -⟩, la2, lc2, g2, na2, nc2, wt2, h45', kC'⟩ := hf
      obtain ⟨rfl, rfl, rfl, rfl, rfl, rfl⟩ : la' = la2 ∧ lc' = lc2 ∧ g' = g2 ∧ na' = na2 ∧ nc' = nc2 ∧ wt' = wt2 := by
        rw [h45] at h45'
        simpa [and_assoc] using h45'
      have r9 := (hrg.out 9 (by simp)).1
      have hout : ∀ q, q < wr.heap.size → q ≠ C → W8.heap[q]? = wr.heap[q]? := fun q h1 h2 => hbr.2.2.2.2 q ⟨h1, fun r hr => by simp at hr; subst hr; simp only; omega⟩
      have hKw := kK.lt
      have hLw := kL.lt
      have kK8 : Blk W8 K 3 _ := (hout K hKw (by omega)).trans kK
      have kL8 : Blk W8 L 3 _ := (hout L hLw (by omega)).trans kL
      have bz8 : RowKit.Below (J + 1) U W8 := ⟨hbr.1.trans bz.os, hbr.2.1.trans bz.tape, hbr.2.2.1.trans bz.output, Nat.le_trans bz.size hbr.2.2.2.1, fun q hq => (hout q (by omega) (by omega)).trans (bz.block q hq)⟩
      have hna' : ∀ b, na'.map (·.block) = some b → b ≠ K ∧ b ≠ L := fun b hb => by have := hcv'.no.base_le b hb; omega
      have hcv8 := hcv'.mono (Nat.zero_le _)
      have hst := Lib.hid hst
      have HOLD := Lib.hid (show ls.length = ps.length ∧ ∀ i (h : i < ps.length) (h' : i < ls.length), LiOk ps[i] ls[i].1 ls[i].2 from ⟨hcv.ll, hcv.lok⟩)
      clear hrg hbr hout h45' kC kK kL bz hcv hna r9 hcv' kJr hjr kCl ew
      go_simp
      clear hk h45
      have kJ8 := kJ.below bz8 (by omega)
      have hj8 := hjU.below (bz8.mono (by omega))
      have HO : Calls Try.prog 19 #[jAgg jb jc jb2 jc2 ps.length s, sAgg la' ps.length lc' g' na' 2 nc' wt' false, .agg #[.int .i64 (-1), .int .i64 0, .slice none 0 0]] W8 (VwR false false ps.length (vCols ls') (vCnts ps ls') W8) := rec_Of J jb jc jb2 jc2 ps cs s 0 ls' la' lc' g' wt' na' 2 nc' false (-1) 0 none 0 0 W8 hj8 ⟨hcv8.lo, hcv8.ll, hcv8.lok⟩
      obtain ⟨j0, j1, j2⟩ : W8.cell? ⟨J, 0, none⟩ = _ ∧ W8.cell? ⟨J, 1, none⟩ = _ ∧ W8.cell? ⟨J, 2, none⟩ = _ := ⟨kJ8.cell 0, kJ8.cell 1, kJ8.cell 2⟩
      have jl := kJ8.lt
      obtain ⟨d0, d1, d2, d3⟩ := kC'.four'
      have dl := kC'.lt
      go_upto_region 11 with ((go_at_call 19; (with_reducible refine (HO).mono ?_); rintro e w9 ⟨ca, cc, da, dc, rfl, o1, o2, hb9⟩))
      have hK8 := kK8.lt
      have hL8 := kL8.lt
      have hC8 := kC'.lt
      have hJ8 := bz8.size
      obtain ⟨V, hV⟩ : ∃ V, w9.heap.size = V := ⟨_, rfl⟩
      have hV9 := hb9.size
      refine wp_named (fun X => Blk X V 43 #[.bool false, .bool false, .slice ca ps.length cc, .slice da ps.length dc] ∧ Own X W8.heap.size 3 1 ca ps.length cc ((vCols ls').map encI) ∧ Own X W8.heap.size 3 1 da ps.length dc ((vCnts ps ls').map encI) ∧ Blk X C 35 #[.slice la' ps.length lc', .int .i64 g', .slice na' 2 nc', .int .i64 wt'] ∧ CtlV X 0 ps ls' nx' g' wt' la' lc' na' nc' ∧ Blk X K 3 (Kl.map encI).toArray ∧ Blk X L 3 (Cl.map encI).toArray ∧ Blk X J 32 #[.slice (some ⟨jb, 0, none⟩) ps.length jc, .slice (some ⟨jb2, 0, none⟩) ps.length jc2, .int .i64 s] ∧ RowKit.Below (J + 1) U X) ⟨by rw [← hV]; exact Blk.new _ _ _, o1.alloc _, o2.alloc _, (kC'.below hb9 hC8).alloc _, (hcv8.below hb9).alloc _, (kK8.below hb9 hK8).alloc _, (kL8.below hb9 hL8).alloc _, (kJ8.below hb9 jl).alloc _, ((bz8.trans (hb9.mono (by omega))).alloc (by omega) _)⟩ ?_
      have hca : ∀ b, ca.map (·.block) = some b → b ≠ K ∧ b ≠ L := fun b hb => by have := o1.base_le b hb; omega
      have hda : ∀ b, da.map (·.block) = some b → b ≠ K ∧ b ≠ L := fun b hb => by have := o2.base_le b hb; omega
      have hVK : V ≠ K ∧ V ≠ L ∧ V ≠ J := by omega
      rw [hV]
      clear hV kC' hcv8 kK8 kL8 kJ8 bz8 o1 o2 hb9 HO j0 j1 j2 jl d0 d1 d2 d3 dl hj8 hV9 hK8 hL8 hC8 hJ8 hKw hLw
      rintro X ⟨kV, o1, o2, kC, hcv, kK, kL, kJx, bX⟩
      obtain ⟨A1, rfl, -, -⟩ := o1.open_ (by omega)
      obtain ⟨A2, rfl, -, -⟩ := o2.open_ (by omega)
      have hA1 := hca A1 rfl
      have hA2 := hda A2 rfl
      have hla : ∀ b, la'.map (·.block) = some b → b ≠ K ∧ b ≠ L := fun b hb => ⟨fun e => hcv.lo.ne_blk kK (by decide) (by rw [hb, e]), fun e => hcv.lo.ne_blk kL (by decide) (by rw [hb, e])⟩
      have hvl := vCols_len ls'
      have hvn := vCnts_len (ps := ps) (ls := ls') hcv.ll
      rw [hcv.ll] at hvl
      obtain ⟨v0, v1, v2, v3⟩ := kV.four'
      have vl := kV.lt
      obtain ⟨j0, j1, j2⟩ : X.cell? ⟨J, 0, none⟩ = _ ∧ X.cell? ⟨J, 1, none⟩ = _ ∧ X.cell? ⟨J, 2, none⟩ = _ := ⟨kJx.cell 0, kJx.cell 1, kJx.cell 2⟩
      have jl := kJx.lt
      have zn : ((ps.length : Int) != (ps.length : Int)) = false := by simp
      go_wp2_with fail
      go_loopw [78] (fun s78 wz => ∃ (i : Nat) (Kl' Cl' : List Int), s78 = .int .i64 i ∧ i ≤ ps.length ∧ Blk wz K 3 (Kl'.map encI).toArray ∧ Blk wz L 3 (Cl'.map encI).toArray ∧ Kl'.length = ps.length ∧ Cl'.length = ps.length ∧ (∀ j, j < i → Rem ps ls' Kl' Cl' j) ∧ (∀ j, i ≤ j → Rem ps ls Kl' Cl' j) ∧ KL K L X wz) (fun s _ => ps.length - (intOf s).toNat)
      case atStart => exact ⟨0, Kl, Cl, rfl, by omega, kK, kL, hKl, hCl, fun j hj => by omega, fun j _ => HREM.out j, KL.refl _ _ _⟩
      case round =>
        clear v0 v1 v2 v3 vl j0 j1 j2 jl zn kK kL hKl hCl
        obtain ⟨i, Kl', Cl', rfl, hi, kK, kL, hKl, hCl, hr1, hr2, kl⟩ := hrel
        by_cases hli : i < ps.length
        · have il' : i < ls'.length := by have := hcv.ll; omega
          have il : i < ls.length := by have := HOLD.out.1; omega
          have iK : i < Kl'.length := by omega
          have iL : i < Cl'.length := by omega
          have kVz := kl.blk kV hVK.1 hVK.2.1
          have o1z := kl.own o1 hca
          have o2z := kl.own o2 hda
          have hpok := hjU.ok _ (List.getElem_mem hli)
          have hN0 := lCount_pos hpok (hcv.lok i hli il')
          have hrem := hr2 i (Nat.le_refl _) hli il iK iL
          have hcnt : (vCnts ps ls')[i]'(by omega) = lCount ps[i] ls'[i].1 ls'[i].2 := by simp [vCnts]
          have hcol : (vCols ls')[i]'(by omega) = vCol ls'[i].1 := by simp [vCols]
          have hkeep : 0 < Kl'[i] → vCol ls'[i].1 = Cl'[i] := fun h => by
            rcases hrem with h2 | ⟨h2, h3⟩
            · omega
            · rw [h3]
              exact lCount_keeps hpok (HOLD.out.2 i hli il) (hst.out i hli il il') (by rw [← h2]; exact h)
          have xX1 : X.cell? ⟨A1, i, none⟩ = some (.int .i64 (vCols ls')[i]) := by rw [o1.cell i (by simp; omega)]; simp [encI]
          have xX2 : X.cell? ⟨A2, i, none⟩ = some (.int .i64 (vCnts ps ls')[i]) := by rw [o2.cell i (by simp; omega)]; simp [encI]
          have x1 : wr.cell? ⟨A1, i, none⟩ = some (.int .i64 (vCols ls')[i]) := by rw [o1z.cell i (by simp; omega)]; simp [encI]
          have x2 : wr.cell? ⟨A2, i, none⟩ = some (.int .i64 (vCnts ps ls')[i]) := by rw [o2z.cell i (by simp; omega)]; simp [encI]
          have x3 : wr.cell? ⟨K, i, none⟩ = some (.int .i64 Kl'[i]) := kK.cellL i iK
          have x4 : wr.cell? ⟨L, i, none⟩ = some (.int .i64 Cl'[i]) := kL.cellL i iL
          obtain ⟨Kv, hKv⟩ : ∃ x, Kl'[i] = x := ⟨_, rfl⟩
          obtain ⟨Cv, hCv⟩ : ∃ x, Cl'[i] = x := ⟨_, rfl⟩
          obtain ⟨Nv, hNv⟩ : ∃ x, lCount ps[i] ls'[i].1 ls'[i].2 = x := ⟨_, rfl⟩
          obtain ⟨Dv, hDv⟩ : ∃ x, vCol ls'[i].1 = x := ⟨_, rfl⟩
          rw [hcol, hDv] at x1 xX1
          rw [hcnt, hNv] at x2 xX2
          rw [hKv] at x3 hkeep
          rw [hCv] at x4 hkeep
          rw [hDv] at hkeep
          rw [hNv] at hN0
          have HSE := Lib.hid (show ∀ (h0 : i < ps.length) (h1 : i < ls'.length), Nv = lCount ps[i] ls'[i].1 ls'[i].2 ∧ Dv = vCol ls'[i].1 from fun _ _ => ⟨hNv.symm, hDv.symm⟩)
          have HR1 := Lib.hid hr1
          have HR2 := Lib.hid hr2
          clear hr1 hr2 hrem hcnt hcol hKv hCv hNv hDv hpok
          obtain ⟨v0, v1, v2, v3⟩ := kVz.four'
          have vl := kVz.lt
          have a1l := o1z.lt' A1 rfl
          have a2l := o2z.lt' A2 rfl
          have kKl := kK.lt
          have kLl := kL.lt
          have kKf := kK.frozen
          have kLf := kL.frozen
          have in1 : (i : Int) < (ps.length : Int) := by omega
          have zN : decide (Nv < 0) = false := by rw [decide_eq_false_iff_not]; omega
          go_upto_region 16 with fail
          go_cut [105] from 81 to 105 (fun s105 wx => s105 = .bool false ∧ KL K L X wx ∧ Blk wx K 3 (Kl'.map encI).toArray ∧ Blk wx L 3 (Cl'.map encI).toArray)
          case first =>
            by_cases hK0 : 0 < Kv
            · have zK : decide (0 < Kv) = true := by rw [decide_eq_true_eq]; exact hK0
              have zD : (Dv != Cv) = false := by rw [bne_eq_false_iff_eq]; exact hkeep hK0
              clear hkeep hK0
              go_quiet (fail)
              go_wp2_with fail
              go_meet
              exact ⟨rfl, kl.drewN _, kK.drewN _, kL.drewN _⟩
            · have zK : decide (0 < Kv) = false := by rw [decide_eq_false_iff_not]; exact hK0
              clear hkeep hK0
              go_quiet (fail)
              go_wp2_with fail
              go_meet
              exact ⟨rfl, kl.drewN _, kK.drewN _, kL.drewN _⟩
          case rest =>
            clear kVz o1z o2z kK kL kl x1 x2 x3 x4 v0 v1 v2 v3 vl a1l a2l kKl kLl kKf kLf hkeep zN
            obtain ⟨rfl, kl, kK, kL⟩ := hcut
            go_upto_region 18 with fail
            have kVz := kl.blk kV hVK.1 hVK.2.1
            have o1z := kl.own o1 hca
            have o2z := kl.own o2 hda
            have X1 : wc.cell? ⟨A1, i, none⟩ = some (.int .i64 Dv) := (World.cell?_of_block (w := X) (a := ⟨A1, i, none⟩) (kl.block A1 (o1.lt' A1 rfl) hA1.1 hA1.2)).trans xX1
            have X2 : wc.cell? ⟨A2, i, none⟩ = some (.int .i64 Nv) := (World.cell?_of_block (w := X) (a := ⟨A2, i, none⟩) (kl.block A2 (o2.lt' A2 rfl) hA2.1 hA2.2)).trans xX2
            have hKwc := kK.lt
            have hLwc := kL.lt
            apply wp_region_tab [(K, (K+1)), (L, (L+1))] 18 125 [some 106, some 107, some 108, some 109, some 110, some 111, some 112, some 113, some 114, some 115, some 116, some 117, some 118, some 119, some 120, none, some 121, none] [⟨[18, 19], [], [], []⟩, ⟨[18, 19], [], [], []⟩, ⟨[18, 19], [], [], []⟩, ⟨[18, 19], [], [], []⟩, ⟨[18, 19], [], [], []⟩, ⟨[4, 18, 19], [4], [4], []⟩, ⟨[18, 19], [], [], []⟩, ⟨[4, 5, 6, 18, 19], [5, 6], [5, 6], []⟩, ⟨[4, 5, 6, 7, 18, 19], [7], [7], []⟩, ⟨[18, 19], [], [], []⟩, ⟨[9, 18, 19], [9], [9], []⟩, ⟨[18, 19], [], [], []⟩, ⟨[9, 10, 11, 18, 19], [10, 11], [10, 11], []⟩, ⟨[9, 10, 11, 12, 18, 19], [12], [12], []⟩, ⟨[0, 1, 4, 5, 6, 7, 8, 9, 10, 11, 12, 13, 18, 19], [0, 1], [0, 1], []⟩, ⟨[0, 1, 4, 5, 6, 7, 8, 9, 10, 11, 12, 13, 14, 18, 19], [8, 14, 18], [8, 14, 18], [18]⟩, ⟨[0, 1, 2, 3, 4, 5, 6, 7, 8, 9, 10, 11, 12, 13, 14, 15, 18, 19], [2, 3], [2, 3], []⟩, ⟨[0, 1, 2, 3, 4, 5, 6, 7, 8, 9, 10, 11, 12, 13, 14, 15, 16, 18, 19], [13, 16, 19], [13, 16, 19], [19]⟩, ⟨[], [], [], []⟩, ⟨[], [], [], []⟩] [0, 1, 2, 3, 4, 5, 6, 7, 8, 9, 10, 11, 12, 13, 14, 15, 16, 17] [15, 17] [psiTrue, psiTrue, psiTrue, psiTrue, psiTrue, psiTrue, psiTrue, psiTrue, psiTrue, psiTrue, psiTrue, psiTrue, psiTrue, psiTrue, psiTrue, (fun f lo hi v b0 b1 W => Blk W K 3 ((Kl'.set i Nv).map encI).toArray), psiTrue, (fun f lo hi v b0 b1 W => Blk W L 3 ((Cl'.set i Dv).map encI).toArray), (fun f lo hi v b0 b1 W => (b0 = K ∧ b1 = (K+1)) ∧ Blk W K 3 (Kl'.map encI).toArray), (fun f lo hi v b0 b1 W => (b0 = L ∧ b1 = (L+1)) ∧ Blk W L 3 (Cl'.map encI).toArray)] [kVal _, kVal _, kVal _, kVal _, kVal _, kVal _, kVal _, kVal _, kVal _, kVal _, kVal _, kVal _, kVal _, kVal _, kVal _, kTrue, kVal _, kTrue]
            · kernel_rfl
            · kernel_rfl
            · rfl
            · rfl
            rotate_left 2
            refine ⟨?oR3_0, ?oR3_1, ?oR3_2, ?oR3_3, ?oR3_4, ?oR3_5, ?oR3_6, ?oR3_7, ?oR3_8, ?oR3_9, ?oR3_10, ?oR3_11, ?oR3_12, ?oR3_13, ?oR3_14, ?oR3_15, ?oR3_16, ?oR3_17, trivial⟩
            case hx => exact ⟨⟨by omega, by omega⟩, by simp; omega, ⟨by omega, by omega⟩, by simp, trivial⟩
            case hX => exact ⟨fun _ _ _ _ => ⟨⟨rfl, rfl⟩, kK⟩, fun _ _ _ _ => ⟨⟨rfl, rfl⟩, kL⟩, trivial⟩
            case oR3_0 => intro f lo hi w hb hx hf hk hrg R hR; (try replace hb := BelX.zero hb); (try simp (decide := true) only [go_sem] at hf); (try simp (decide := true) only [go_sem] at hk); go_simp; exact hR _ _ (rpost_val rfl rfl (Below.refl _ _) rfl)
            case oR3_1 => intro f lo hi w hb hx hf hk hrg R hR; (try replace hb := BelX.zero hb); (try simp (decide := true) only [go_sem] at hf); (try simp (decide := true) only [go_sem] at hk); go_simp; exact hR _ _ (rpost_val rfl rfl (Below.refl _ _) rfl)
            case oR3_2 => intro f lo hi w hb hx hf hk hrg R hR; (try replace hb := BelX.zero hb); (try simp (decide := true) only [go_sem] at hf); (try simp (decide := true) only [go_sem] at hk); go_simp; exact hR _ _ (rpost_val rfl rfl (Below.refl _ _) rfl)
            case oR3_3 => intro f lo hi w hb hx hf hk hrg R hR; (try replace hb := BelX.zero hb); (try simp (decide := true) only [go_sem] at hf); (try simp (decide := true) only [go_sem] at hk); go_simp; exact hR _ _ (rpost_val rfl rfl (Below.refl _ _) rfl)
            case oR3_4 => intro f lo hi w hb hx hf hk hrg R hR; (try replace hb := BelX.zero hb); (try simp (decide := true) only [go_sem] at hf); (try simp (decide := true) only [go_sem] at hk); go_simp; exact hR _ _ (rpost_val rfl rfl (Below.refl _ _) rfl)
            case oR3_5 =>
              intro f lo hi w hb hx hf hk hrg R hR; (try replace hb := BelX.zero hb); (try simp (decide := true) only [go_sem] at hf); (try simp (decide := true) only [go_sem] at hk)
              have hout : ∀ q, q < wc.heap.size → q ≠ K → q ≠ L → w.heap[q]? = wc.heap[q]? := fun q h1 h2 h3 => hb.2.2.2.2 q ⟨h1, fun r hr => by simp at hr; rcases hr with rfl | rfl <;> simp only <;> omega⟩
              have e0 : w.cell? ⟨V, 3, none⟩ = _ := Blk.cell (w := w) (g := V) ((hout V kVz.lt hVK.1 hVK.2.1).trans kVz) 3
              go_simp
              exact hR _ _ (rpost_val rfl rfl (Below.refl _ _) rfl)
            case oR3_6 => intro f lo hi w hb hx hf hk hrg R hR; (try replace hb := BelX.zero hb); (try simp (decide := true) only [go_sem] at hf); (try simp (decide := true) only [go_sem] at hk); go_simp; exact hR _ _ (rpost_val rfl rfl (Below.refl _ _) rfl)
            case oR3_7 => intro f lo hi w hb hx hf hk hrg R hR; (try replace hb := BelX.zero hb); (try simp (decide := true) only [go_sem] at hf); (try simp (decide := true) only [go_sem] at hk); go_simp; exact hR _ _ (rpost_val rfl rfl (Below.refl _ _) rfl)
            case oR3_8 =>
              intro f lo hi w hb hx hf hk hrg R hR; (try replace hb := BelX.zero hb); (try simp (decide := true) only [go_sem] at hf); (try simp (decide := true) only [go_sem] at hk)
              have hout : ∀ q, q < wc.heap.size → q ≠ K → q ≠ L → w.heap[q]? = wc.heap[q]? := fun q h1 h2 h3 => hb.2.2.2.2 q ⟨h1, fun r hr => by simp at hr; rcases hr with rfl | rfl <;> simp only <;> omega⟩
              have e0 : w.cell? ⟨A2, i, none⟩ = some (.int .i64 Nv) := (World.cell?_of_block (w := wc) (a := ⟨A2, i, none⟩) (hout A2 (o2z.lt' A2 rfl) hA2.1 hA2.2)).trans X2
              have el := Nat.lt_of_lt_of_le (o2z.lt' A2 rfl) hb.2.2.2.1
              go_simp
              exact hR _ _ (rpost_val rfl rfl (Below.refl _ _) rfl)
            case oR3_9 => intro f lo hi w hb hx hf hk hrg R hR; (try replace hb := BelX.zero hb); (try simp (decide := true) only [go_sem] at hf); (try simp (decide := true) only [go_sem] at hk); go_simp; exact hR _ _ (rpost_val rfl rfl (Below.refl _ _) rfl)
            case oR3_10 =>
              intro f lo hi w hb hx hf hk hrg R hR; (try replace hb := BelX.zero hb); (try simp (decide := true) only [go_sem] at hf); (try simp (decide := true) only [go_sem] at hk)
              have hout : ∀ q, q < wc.heap.size → q ≠ K → q ≠ L → w.heap[q]? = wc.heap[q]? := fun q h1 h2 h3 => hb.2.2.2.2 q ⟨h1, fun r hr => by simp at hr; rcases hr with rfl | rfl <;> simp only <;> omega⟩
              have e0 : w.cell? ⟨V, 2, none⟩ = _ := Blk.cell (w := w) (g := V) ((hout V kVz.lt hVK.1 hVK.2.1).trans kVz) 2
              go_simp
              exact hR _ _ (rpost_val rfl rfl (Below.refl _ _) rfl)
            case oR3_11 => intro f lo hi w hb hx hf hk hrg R hR; (try replace hb := BelX.zero hb); (try simp (decide := true) only [go_sem] at hf); (try simp (decide := true) only [go_sem] at hk); go_simp; exact hR _ _ (rpost_val rfl rfl (Below.refl _ _) rfl)
            case oR3_12 => intro f lo hi w hb hx hf hk hrg R hR; (try replace hb := BelX.zero hb); (try simp (decide := true) only [go_sem] at hf); (try simp (decide := true) only [go_sem] at hk); go_simp; exact hR _ _ (rpost_val rfl rfl (Below.refl _ _) rfl)
            case oR3_13 =>
              intro f lo hi w hb hx hf hk hrg R hR; (try replace hb := BelX.zero hb); (try simp (decide := true) only [go_sem] at hf); (try simp (decide := true) only [go_sem] at hk)
              have hout : ∀ q, q < wc.heap.size → q ≠ K → q ≠ L → w.heap[q]? = wc.heap[q]? := fun q h1 h2 h3 => hb.2.2.2.2 q ⟨h1, fun r hr => by simp at hr; rcases hr with rfl | rfl <;> simp only <;> omega⟩
              have e0 : w.cell? ⟨A1, i, none⟩ = some (.int .i64 Dv) := (World.cell?_of_block (w := wc) (a := ⟨A1, i, none⟩) (hout A1 (o1z.lt' A1 rfl) hA1.1 hA1.2)).trans X1
              have el := Nat.lt_of_lt_of_le (o1z.lt' A1 rfl) hb.2.2.2.1
              go_simp
              exact hR _ _ (rpost_val rfl rfl (Below.refl _ _) rfl)
            case oR3_14 => intro f lo hi w hb hx hf hk hrg R hR; (try replace hb := BelX.zero hb); (try simp (decide := true) only [go_sem] at hf); (try simp (decide := true) only [go_sem] at hk); go_simp; exact hR _ _ (rpost_val rfl rfl (Below.refl _ _) rfl)
            case oR3_15 =>
              intro f lo hi w hb hx hf hk hrg R hR; (try replace hb := BelX.zero hb); (try simp (decide := true) only [go_sem] at hf); (try simp (decide := true) only [go_sem] at hk)
              obtain ⟨⟨-, -⟩, kk⟩ := hf
              have e0 := kk.cellL i iK
              have fz := kk.frozen
              have kl := kk.lt
              have p1 : lo 18 ≤ K := Nat.le_of_eq (XOk.get _ _ hx 0 _ rfl).1
              have p2 : K < hi 18 := by rw [(XOk.get _ _ hx 0 _ rfl).2]; exact Nat.lt_succ_self _
              go_simp
              refine hR _ _ (rpost_some rfl rfl (Touch.set w (List.mem_singleton.2 rfl) p1 p2 _ _) ?_)
              (try simp (decide := true) only [go_sem])
              exact kk.setL i _ rfl
            case oR3_16 => intro f lo hi w hb hx hf hk hrg R hR; (try replace hb := BelX.zero hb); (try simp (decide := true) only [go_sem] at hf); (try simp (decide := true) only [go_sem] at hk); go_simp; exact hR _ _ (rpost_val rfl rfl (Below.refl _ _) rfl)
            case oR3_17 =>
              intro f lo hi w hb hx hf hk hrg R hR; (try replace hb := BelX.zero hb); (try simp (decide := true) only [go_sem] at hf); (try simp (decide := true) only [go_sem] at hk)
              obtain ⟨⟨-, -⟩, kk⟩ := hf
              have e0 := kk.cellL i iL
              have fz := kk.frozen
              have kl := kk.lt
              have p1 : lo 19 ≤ L := Nat.le_of_eq (XOk.get _ _ hx 1 _ rfl).1
              have p2 : L < hi 19 := by rw [(XOk.get _ _ hx 1 _ rfl).2]; exact Nat.lt_succ_self _
              go_simp
              refine hR _ _ (rpost_some rfl rfl (Touch.set w (List.mem_singleton.2 rfl) p1 p2 _ _) ?_)
              (try simp (decide := true) only [go_sem])
              exact kk.setL i _ rfl
            case hcl =>
              refine ⟨Closed.true _ _ _ _, Closed.true _ _ _ _, Closed.true _ _ _ _, Closed.true _ _ _ _, Closed.true _ _ _ _, Closed.true _ _ _ _, Closed.true _ _ _ _, Closed.true _ _ _ _, Closed.true _ _ _ _, Closed.true _ _ _ _, Closed.true _ _ _ _, Closed.true _ _ _ _, Closed.true _ _ _ _, Closed.true _ _ _ _, Closed.true _ _ _ _, ?cR3_15, Closed.true _ _ _ _, ?cR3_17, ?cR3_18, ?cR3_19, trivial⟩
              all_goals first
                | exact fun f lo hi v b0 b1 w w' h hs hB hown hU hX => (hX 0 _ rfl (by simp) _ (Nat.le_refl _) (Nat.lt_succ_self _)).trans h
                | exact fun f lo hi v b0 b1 w w' h hs hB hown hU hX => (hX 1 _ rfl (by simp) _ (Nat.le_refl _) (Nat.lt_succ_self _)).trans h
                | exact fun f lo hi v b0 b1 w w' h hs hB hown hU hX => by
                    obtain ⟨⟨rfl, rfl⟩, kb⟩ := h
                    exact ⟨⟨rfl, rfl⟩, (hown _ (Nat.le_refl _) (Nat.lt_succ_self _)).trans kb⟩
                | exact fun _ _ _ _ _ _ _ _ h _ _ _ _ _ => h
            intro f lo hi W9 hbr hx hf hk hrg; (try replace hbr := BelX.zero hbr); clear hx; (try simp (decide := true) only [go_sem] at hf); (try simp (decide := true) only [go_sem] at hk)
            obtain ⟨kK9, kL9⟩ := hf
            have kl9 : KL K L X W9 := ⟨hbr.1.trans kl.os, hbr.2.1.trans kl.tape, hbr.2.2.1.trans kl.output, Nat.le_trans kl.size hbr.2.2.2.1, fun q h1 h2 h3 => (hbr.2.2.2.2 q ⟨by have := kl.size; omega, fun r hr => by simp at hr; rcases hr with rfl | rfl <;> simp only <;> omega⟩).trans (kl.block q h1 h2 h3)⟩
            clear hrg hbr X1 X2 kVz o1z o2z kK kL kl
            go_simp
            clear hk
            go_wp2
            go_roundw
            case rel => exact ⟨i + 1, Kl'.set i Nv, Cl'.set i Dv, by go_num, by omega, kK9, kL9, by simp; exact hKl, by simp; exact hCl, fun j hj => by
              by_cases e : i = j
              · subst e; exact Rem.set_eq HSE.out
              · exact (HR1.out j (by omega)).set_ne e, fun j hj => (HR2.out j (by omega)).set_ne (by omega), kl9⟩
            case measure => simp [intOf]; omega
        · obtain rfl : i = ps.length := by omega
          go_wp2_with fail
          go_roundw
          case rel => exact ⟨k + 1, ls', nx', g', wt', la', lc', na', nc', Kl', Cl', by go_num, by omega, kl.blk kC (by omega) (by omega), ⟨kl.own hcv.lo hla, kl.own hcv.no hna', hcv.nx, hcv.ll, hcv.lok, hcv.g0, hcv.w0⟩, hna', kK, kL, hKl, hCl, fun j h0 => hr1 j h0 h0, kl.below bX (by omega) (by omega) (by have := bX.size; omega)⟩
          case measure => simp [intOf]; omega
    · obtain rfl : k = l1.length := by omega
      go_wp2_with ((go_at_call 9; (with_reducible refine (awake_yes _).mono ?_); rintro e w20 ⟨rfl, hb20⟩))
      go_ret
      exact ⟨rfl, (by repeat (first | (with_reducible refine Below.setCell ?_ ?_ _) | (with_reducible refine Below.alloc ?_ ?_ _) | (with_reducible refine Below.drew ?_) | (with_reducible refine below_drewN ?_ _) | (with_reducible exact Below.refl _ _) | (with_reducible refine Below.trans ?_ (Below.mono hb20 ?_)) | (with_reducible refine Below.trans ?_ (Below.mono be ?_)) | (focus (simp; done)) | (focus (simp; omega)) | (focus omega) | (focus (have q0 := Below.size hb20; (try simp at q0); have q1 := Below.size be; (try simp at q1); (try simp); omega))))⟩
end Go.Proofs.Ytdkifkbnkedbpaa
