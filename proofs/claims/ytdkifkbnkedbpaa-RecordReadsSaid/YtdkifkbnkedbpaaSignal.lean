/- signalbrokerlaw23.signal -/
import Derived.Test.YtdkifkbnkedbpaaSig
namespace Go.Proofs.Ytdkifkbnkedbpaa
set_option linter.unusedVariables false
open Go.RowKit Go.Sort
set_option maxRecDepth 100000

/-- a junction, its signal and its service -/
def SigR (p : Nat) (d : Dk) (w : World) (e : Ending) (w' : World) : Prop :=
  ∃ (k jb jc jb2 jc2 : Nat) (ps : List Ph) (cs : List Int) (s : Int) (ls : List (Int × Int)) (nx : List Int) (g wt : Int) (la : Option Addr) (lc : Nat) (na : Option Addr) (nc : Nat) (lat : Bool) (ph gr : Int) (es : List Int) (ea : Option Addr) (ec : Nat),
    e = .returned (.tuple #[jAgg jb jc jb2 jc2 ps.length s, sAgg la ps.length lc g na 2 nc wt lat, .agg #[.int .i64 ph, .int .i64 gr, .slice ea ps.length ec]]) ∧
    JAt w' w'.heap.size jb jc jb2 jc2 ps cs s ∧ CtlV w' w.heap.size ps ls nx g wt la lc na nc ∧ -1 ≤ ph ∧ ph < ps.length ∧ DeckAt w' p d k ∧ w.grownBy w' (some p)
/-- the same, its rows being new -/
def SigJ (p : Nat) (d : Dk) (w : World) (e : Ending) (w' : World) : Prop :=
  ∃ (k jb jc jb2 jc2 : Nat) (ps : List Ph) (cs : List Int) (s : Int) (ls : List (Int × Int)) (nx : List Int) (g wt : Int) (la : Option Addr) (lc : Nat) (na : Option Addr) (nc : Nat) (lat : Bool) (ph gr : Int) (es : List Int) (ea : Option Addr) (ec : Nat),
    e = .returned (.tuple #[jAgg jb jc jb2 jc2 ps.length s, sAgg la ps.length lc g na 2 nc wt lat, .agg #[.int .i64 ph, .int .i64 gr, .slice ea ps.length ec]]) ∧
    JAt w' w'.heap.size jb jc jb2 jc2 ps cs s ∧ CtlV w' w.heap.size ps ls nx g wt la lc na nc ∧ -1 ≤ ph ∧ ph < ps.length ∧ DeckAt w' p d k ∧ w.grownBy w' (some p) ∧ w.heap.size ≤ jb ∧ w.heap.size ≤ jb2
def CT (ps : List Ph) (v : Value) (b0 b1 : Nat) (W : World) : Prop :=
  ∃ (ls : List (Int × Int)) (nx : List Int) (g wt : Int) (la : Option Addr) (lc : Nat) (na : Option Addr) (nc : Nat), v = cAgg la ps.length lc g na nc wt ∧ CtlV W b0 ps ls nx g wt la lc na nc ∧ (∀ k, la.map (·.block) = some k → k < b1) ∧ ∀ k, na.map (·.block) = some k → k < b1
theorem CT.keep {ps : List Ph} {v : Value} {b0 b1 : Nat} {W W' : World} (h : CT ps v b0 b1 W) (hk : ∀ q, b0 ≤ q → q < b1 → W'.heap[q]? = W.heap[q]?) : CT ps v b0 b1 W' := by
  obtain ⟨ls, nx, g, wt, la, lc, na, nc, hv, hc, h1, h2⟩ := h
  exact ⟨ls, nx, g, wt, la, lc, na, nc, hv, ⟨hc.lo.keep fun b hb hl _ => hk b hl (h1 b (by rw [hb]; rfl)), hc.no.keep fun b hb hl _ => hk b hl (h2 b (by rw [hb]; rfl)), hc.nx, hc.ll, hc.lok, hc.g0, hc.w0⟩, h1, h2⟩
def SV (n : Nat) (v : Value) (b0 b1 : Nat) (W : World) : Prop :=
  ∃ (ph gr : Int) (es : List Int) (ea : Option Addr) (ec : Nat), v = .agg #[.int .i64 ph, .int .i64 gr, .slice ea n ec] ∧ -1 ≤ ph ∧ ph < n ∧ Own W b0 3 1 ea n ec (es.map encI) ∧ ∀ k, ea.map (·.block) = some k → k < b1
theorem SV.keep {n : Nat} {v : Value} {b0 b1 : Nat} {W W' : World} (h : SV n v b0 b1 W) (hk : ∀ q, b0 ≤ q → q < b1 → W'.heap[q]? = W.heap[q]?) : SV n v b0 b1 W' := by
  obtain ⟨ph, gr, es, ea, ec, hv, p0, p1, own, h1⟩ := h
  exact ⟨ph, gr, es, ea, ec, hv, p0, p1, own.keep fun b hb hl _ => hk b hl (h1 b (by rw [hb]; rfl)), h1⟩
set_option maxHeartbeats 8000000 in
theorem law_signalJ (p : Nat) (d : Dk) (k : Nat) (Z : World) (hd : DeckAt Z p d k) :
    Calls Try.prog 12 #[.pointer (some ⟨p, 0, none⟩)] Z (SigJ p d Z) := by
  have hpw := hd.lt
  have har := hd.arr
  go_enter Try.func12, Try.ntmps12
  go_upto_region 1 with fail
  refine wp_named (fun W => Blk W Z.heap.size 32 #[.slice none 0 0, .slice none 0 0, .int .i64 0] ∧ Blk W (Z.heap.size + 1) 37 #[.slice none 0 0, .int .i64 0, .slice none 0 0, .int .i64 0, .bool false] ∧ Blk W (Z.heap.size + 2) 39 #[.int .i64 0, .int .i64 0, .slice none 0 0] ∧ DeckAt W p d k ∧ Z.grownBy W (some p) ∧ Z.heap.size + 3 ≤ W.heap.size) ?_ ?_
  · obtain ⟨q1, q2, q3, q4⟩ := three_at Z #[.slice none 0 0, .slice none 0 0, .int .i64 0] #[.slice none 0 0, .int .i64 0, .slice none 0 0, .int .i64 0, .bool false] #[.int .i64 0, .int .i64 0, .slice none 0 0] 32 37 39
    exact ⟨q2, q3, q4, hd.below q1, q1.grown_any _, by simp⟩
  clear hd
  rintro W ⟨kJ, kS, kV, hd, gw, hWz⟩
  go_upto_region 2 with ((go_at_call 26; (with_reducible refine (deck_JunP p d k _ hd).mono ?_); rintro e w1 ⟨k1, jb, jc, jb2, jc2, ps, cs, s, rfl, hj, hjb, hjb2, hd1, g1⟩))
  have hW1 := g1.size
  obtain ⟨J, hJ⟩ : ∃ J, w1.heap.size = J := ⟨_, rfl⟩
  refine wp_named (fun U => Blk U J 32 #[.slice (some ⟨jb, 0, none⟩) ps.length jc, .slice (some ⟨jb2, 0, none⟩) ps.length jc2, .int .i64 s] ∧ JAt U J jb jc jb2 jc2 ps cs s ∧ Blk U Z.heap.size 32 #[.slice none 0 0, .slice none 0 0, .int .i64 0] ∧ Blk U (Z.heap.size + 1) 37 #[.slice none 0 0, .int .i64 0, .slice none 0 0, .int .i64 0, .bool false] ∧ Blk U (Z.heap.size + 2) 39 #[.int .i64 0, .int .i64 0, .slice none 0 0] ∧ DeckAt U p d k1 ∧ Z.grownBy U (some p)) ⟨by rw [← hJ]; exact Blk.new _ _ _, by rw [← hJ]; exact hj.below (by repeat (first | (with_reducible refine Below.setCell ?_ ?_ _) | (with_reducible refine Below.alloc ?_ ?_ _) | (with_reducible refine Below.drew ?_) | (with_reducible refine below_drewN ?_ _) | (with_reducible exact Below.refl _ _) | (focus (simp; done)) | (focus (simp; omega)) | (focus omega))), (kJ.grown g1 (by omega)).alloc _, (kS.grown g1 (by omega)).alloc _, (kV.grown g1 (by omega)).alloc _, hd1.alloc _, (gw.trans g1).trans (World.grownBy_alloc _ _ _)⟩ ?_
  have hn := hj.n1
  have hJZ : Z.heap.size + 3 ≤ J := by omega
  have hjp : jb ≠ p := by omega
  have hjp2 : jb2 ≠ p := by omega
  have hJp : J ≠ p := by omega
  have hjb3 : Z.heap.size + 3 ≤ jb := by omega
  have hjb23 : Z.heap.size + 3 ≤ jb2 := by omega
  rw [hJ]
  clear hJ hW1 hj kJ kS kV hd1 gw g1 hd hjb hjb2 hWz
  rintro U ⟨k5, hj, kJ, kS, kV, hd, gw⟩
  obtain ⟨j0, j1, j2⟩ : U.cell? ⟨J, 0, none⟩ = _ ∧ U.cell? ⟨J, 1, none⟩ = _ ∧ U.cell? ⟨J, 2, none⟩ = _ := ⟨k5.cell 0, k5.cell 1, k5.cell 2⟩
  have jl := k5.lt
  clear j0 j1 j2 jl
  have kjl := kJ.lt
  have ksl := kS.lt
  have kvl := kV.lt
  have kUl := gw.size
  have hjw : ∀ W', (∀ q, q < U.heap.size → Z.heap.size + 3 ≤ q → W'.heap[q]? = U.heap[q]?) → U.heap.size ≤ W'.heap.size → JAt W' J jb jc jb2 jc2 ps cs s := fun W' h hs =>
    ⟨hj.ph.keep fun b off e _ => by injection e with e; injection e with e _ _; subst e; exact h _ (by have := hj.lb; have := hj.lw; omega) hjb3, Row.keep hj.cf fun b off e _ => by injection e with e; injection e with e _ _; subst e; exact h _ (by have := hj.lb2; have := hj.lw; omega) hjb23, hj.lb, hj.lb2, Nat.le_trans hj.lw hs, hj.n1, hj.cl, hj.ok, hj.s0⟩
  have HJW := Lib.hid hjw
  have HJ := Lib.hid hj
  have HD := Lib.hid hd
  clear hjw hj
  apply wp_region_tab [(p, (p+1)), (Z.heap.size, (Z.heap.size+1)), (Z.heap.size+1, (Z.heap.size+1+1)), (Z.heap.size+2, (Z.heap.size+2+1))] 16 21 [some 8, some 9, some 10, some 11, some 12, some 13, some 14, some 15, some 16, some 17, some 18, some 19, some 20, none, none, none] [⟨[16, 17, 18, 19], [], [], []⟩, ⟨[16, 17, 18, 19], [], [], []⟩, ⟨[16, 17, 18, 19], [], [], []⟩, ⟨[1, 2, 16, 17, 18, 19], [1, 2, 16], [1, 2, 16], [16]⟩, ⟨[16, 17, 18, 19], [], [], []⟩, ⟨[1, 2, 3, 4, 16, 17, 18, 19], [3, 4, 16], [3, 4], [16]⟩, ⟨[1, 2, 3, 4, 5, 16, 17, 18, 19], [5], [], []⟩, ⟨[1, 2, 3, 4, 5, 6, 16, 17, 18, 19], [3, 6], [6], []⟩, ⟨[16, 17, 18, 19], [], [], []⟩, ⟨[16, 17, 18, 19], [], [], []⟩, ⟨[9, 16, 17, 18, 19], [9], [9], []⟩, ⟨[9, 10, 16, 17, 18, 19], [10], [10], []⟩, ⟨[1, 2, 3, 4, 5, 8, 9, 10, 11, 16, 17, 18, 19], [3, 5, 8, 11, 16], [5, 8, 11], [16]⟩, ⟨[0, 1, 2, 3, 4, 5, 8, 9, 10, 11, 12, 16, 17, 18, 19], [0, 17], [0, 17], [17]⟩, ⟨[0, 1, 2, 3, 4, 5, 6, 7, 8, 9, 10, 11, 12, 13, 16, 17, 18, 19], [3, 7, 18], [7, 18], [18]⟩, ⟨[0, 1, 2, 3, 4, 5, 6, 7, 8, 9, 10, 11, 12, 13, 14, 16, 17, 18, 19], [12, 19], [12, 19], [19]⟩, ⟨[], [], [], []⟩, ⟨[], [], [], []⟩, ⟨[], [], [], []⟩, ⟨[], [], [], []⟩] [0, 1, 2, 3, 4, 5, 6, 7, 8, 9, 10, 11, 12, 13, 14, 15] [12, 13, 14, 15] [psiTrue, psiTrue, psiTrue, (fun f lo hi v b0 b1 W => (∃ k, DeckAt W p d k) ∧ CT ps v b0 b1 W), psiTrue, (fun f lo hi v b0 b1 W => (∃ k, DeckAt W p d k) ∧ CT ps (f 3) (lo (3)) (hi (3)) W), psiTrue, (fun f lo hi v b0 b1 W => ∃ (la : Option Addr) (lc : Nat) (g : Int) (na : Option Addr) (nc : Nat) (wt : Int) (lat : Bool), f 3 = cAgg la ps.length lc g na nc wt ∧ v = sAgg la ps.length lc g na 2 nc wt lat), psiTrue, psiTrue, psiTrue, psiTrue, (fun f lo hi v b0 b1 W => (∃ k, DeckAt W p d k) ∧ CT ps (f 3) (lo (3)) (hi (3)) W ∧ SV ps.length v b0 b1 W), (fun f lo hi v b0 b1 W => Blk W Z.heap.size 32 #[.slice (some ⟨jb, 0, none⟩) ps.length jc, .slice (some ⟨jb2, 0, none⟩) ps.length jc2, .int .i64 s]), (fun f lo hi v b0 b1 W => ∃ (la : Option Addr) (lc : Nat) (g : Int) (na : Option Addr) (nc : Nat) (wt : Int) (lat : Bool), f 3 = cAgg la ps.length lc g na nc wt ∧ Blk W (Z.heap.size+1) 37 #[.slice la ps.length lc, .int .i64 g, .slice na 2 nc, .int .i64 wt, .bool lat]), (fun f lo hi v b0 b1 W => ∃ (ph gr : Int) (ea : Option Addr) (ec : Nat), f 12 = .agg #[.int .i64 ph, .int .i64 gr, .slice ea ps.length ec] ∧ Blk W (Z.heap.size+2) 39 #[.int .i64 ph, .int .i64 gr, .slice ea ps.length ec]), (fun f lo hi v b0 b1 W => (b0 = p ∧ b1 = (p+1)) ∧ ∃ k, DeckAt W p d k), (fun f lo hi v b0 b1 W => (b0 = Z.heap.size ∧ b1 = (Z.heap.size+1)) ∧ Blk W Z.heap.size 32 #[.slice none 0 0, .slice none 0 0, .int .i64 0]), (fun f lo hi v b0 b1 W => (b0 = Z.heap.size+1 ∧ b1 = (Z.heap.size+1+1)) ∧ Blk W (Z.heap.size+1) 37 #[.slice none 0 0, .int .i64 0, .slice none 0 0, .int .i64 0, .bool false]), (fun f lo hi v b0 b1 W => (b0 = Z.heap.size+2 ∧ b1 = (Z.heap.size+2+1)) ∧ Blk W (Z.heap.size+2) 39 #[.int .i64 0, .int .i64 0, .slice none 0 0])] [kVal _, kVal _, kVal _, (fun v => ∃ (la : Option Addr) (lc : Nat) (g : Int) (na : Option Addr) (nc : Nat) (wt : Int), v = cAgg la ps.length lc g na nc wt), kVal _, (fun v => ∃ x : Int, v = .int .i64 x), (fun v => ∃ b : Bool, v = .bool b), kTrue, kVal _, kVal _, kVal _, kVal _, (fun v => ∃ (ph gr : Int) (ea : Option Addr) (ec : Nat), v = .agg #[.int .i64 ph, .int .i64 gr, .slice ea ps.length ec]), kTrue, kTrue, kTrue]
  · kernel_rfl
  · kernel_rfl
  · rfl
  · rfl
  rotate_left 2
  refine ⟨?oR1_0, ?oR1_1, ?oR1_2, ?oR1_3, ?oR1_4, ?oR1_5, ?oR1_6, ?oR1_7, ?oR1_8, ?oR1_9, ?oR1_10, ?oR1_11, ?oR1_12, ?oR1_13, ?oR1_14, ?oR1_15, trivial⟩
  case hx => exact ⟨⟨by omega, by omega⟩, by simp; omega, ⟨by omega, by omega⟩, by simp, ⟨by omega, by omega⟩, by simp, ⟨by omega, by omega⟩, by simp, trivial⟩
  case hX => exact ⟨fun _ _ _ _ => ⟨⟨rfl, rfl⟩, _, hd⟩, fun _ _ _ _ => ⟨⟨rfl, rfl⟩, kJ⟩, fun _ _ _ _ => ⟨⟨rfl, rfl⟩, kS⟩, fun _ _ _ _ => ⟨⟨rfl, rfl⟩, kV⟩, trivial⟩
  case oR1_0 =>
    intro f lo hi w hb hx hf hk hrg R hR; (try replace hb := BelX.zero hb); (try simp (decide := true) only [go_sem] at hf); (try simp (decide := true) only [go_sem] at hk)
    have kk := hb.blk k5 (fun r hr => by simp at hr; rcases hr with rfl | rfl | rfl | rfl <;> simp only <;> omega)
    obtain ⟨j0, j1, j2⟩ : w.cell? ⟨J, 0, none⟩ = _ ∧ w.cell? ⟨J, 1, none⟩ = _ ∧ w.cell? ⟨J, 2, none⟩ = _ := ⟨kk.cell 0, kk.cell 1, kk.cell 2⟩
    go_simp
    exact hR _ _ (rpost_val rfl rfl (Below.refl _ _) rfl)
  case oR1_1 => intro f lo hi w hb hx hf hk hrg R hR; (try replace hb := BelX.zero hb); (try simp (decide := true) only [go_sem] at hf); (try simp (decide := true) only [go_sem] at hk); go_simp; exact hR _ _ (rpost_val rfl rfl (Below.refl _ _) rfl)
  case oR1_2 =>
    intro f lo hi w hb hx hf hk hrg R hR; (try replace hb := BelX.zero hb); (try simp (decide := true) only [go_sem] at hf); (try simp (decide := true) only [go_sem] at hk)
    have kk := hb.blk k5 (fun r hr => by simp at hr; rcases hr with rfl | rfl | rfl | rfl <;> simp only <;> omega)
    obtain ⟨j0, j1, j2⟩ : w.cell? ⟨J, 0, none⟩ = _ ∧ w.cell? ⟨J, 1, none⟩ = _ ∧ w.cell? ⟨J, 2, none⟩ = _ := ⟨kk.cell 0, kk.cell 1, kk.cell 2⟩
    go_simp
    exact hR _ _ (rpost_val rfl rfl (Below.refl _ _) rfl)
  case oR1_3 =>
    intro f lo hi w hb hx hf hk hrg R hR; (try replace hb := BelX.zero hb); (try simp (decide := true) only [go_sem] at hf); (try simp (decide := true) only [go_sem] at hk)
    obtain ⟨-, k2, hd2⟩ := hf
    have hj := HJW.out w (fun q h1 h2 => hb.2.2.2.2 q ⟨h1, fun r hr => by simp at hr; rcases hr with rfl | rfl | rfl | rfl <;> simp only <;> omega⟩) hb.2.2.2.1
    go_simp
    (with_reducible refine (deck_Control p d k2 J jb jc jb2 jc2 ps cs s _ hd2 hj hjp hjp2).mono ?_)
    rintro e w' ⟨k3, ls, nx, g, wt, la, lc, na, nc, rfl, hcv, hd3, g'⟩
    exact ⟨_, rfl, hR _ _ (rpost_both ⟨la, lc, g, na, nc, wt, rfl⟩ rfl (touch_grown g' (List.mem_singleton.2 rfl) (XOk.get _ _ hx 0 _ rfl).1 (XOk.get _ _ hx 0 _ rfl).2) ⟨⟨k3, hd3⟩, ls, nx, g, wt, la, lc, na, nc, rfl, hcv, hcv.lo.lt', hcv.no.lt'⟩)⟩
  case oR1_4 => intro f lo hi w hb hx hf hk hrg R hR; (try replace hb := BelX.zero hb); (try simp (decide := true) only [go_sem] at hf); (try simp (decide := true) only [go_sem] at hk); go_simp; exact hR _ _ (rpost_val rfl rfl (Below.refl _ _) rfl)
  case oR1_5 =>
    intro f lo hi w hb hx hf hk hrg R hR; (try replace hb := BelX.zero hb); (try simp (decide := true) only [go_sem] at hf); (try simp (decide := true) only [go_sem] at hk)
    obtain ⟨⟨k2, hd2⟩, hct⟩ := hf
    have r3 := hrg.out 3 (by simp)
    go_simp
    (with_reducible refine (deck_Next p 5 _ d k2 hd2 (by decide) (by decide)).mono ?_)
    rintro e w' ⟨v, rfl, v0, v1, -, hd', g'⟩
    exact ⟨_, rfl, hR _ _ (rpost_both ⟨_, rfl⟩ rfl (touch_grown g' (List.mem_singleton.2 rfl) (XOk.get _ _ hx 0 _ rfl).1 (XOk.get _ _ hx 0 _ rfl).2) ⟨⟨_, hd'⟩, hct.keep fun q h1 h2 => g'.block q (by omega) (fun e => by injection e with e; omega)⟩)⟩
  case oR1_6 =>
    intro f lo hi w hb hx hf hk hrg R hR; (try replace hb := BelX.zero hb); (try simp (decide := true) only [go_sem] at hf); (try simp (decide := true) only [go_sem] at hk)
    obtain ⟨x, h5⟩ := hk
    go_simp
    exact hR _ _ (rpost_vb ⟨_, rfl⟩ rfl (Below.refl _ _))
  case oR1_7 =>
    intro f lo hi w hb hx hf hk hrg R hR; (try replace hb := BelX.zero hb); (try simp (decide := true) only [go_sem] at hf); (try simp (decide := true) only [go_sem] at hk)
    obtain ⟨⟨la, lc, g, na, nc, wt, h3⟩, lat, h6⟩ := hk
    go_simp
    refine hR _ _ (rpost_none rfl (Below.refl _ _) ?_)
    (try simp (decide := true) only [go_sem])
    exact ⟨la, lc, g, na, nc, wt, lat, h3, rfl⟩
  case oR1_8 => intro f lo hi w hb hx hf hk hrg R hR; (try replace hb := BelX.zero hb); (try simp (decide := true) only [go_sem] at hf); (try simp (decide := true) only [go_sem] at hk); go_simp; exact hR _ _ (rpost_val rfl rfl (Below.refl _ _) rfl)
  case oR1_9 => intro f lo hi w hb hx hf hk hrg R hR; (try replace hb := BelX.zero hb); (try simp (decide := true) only [go_sem] at hf); (try simp (decide := true) only [go_sem] at hk); go_simp; exact hR _ _ (rpost_val rfl rfl (Below.refl _ _) rfl)
  case oR1_10 =>
    intro f lo hi w hb hx hf hk hrg R hR; (try replace hb := BelX.zero hb); (try simp (decide := true) only [go_sem] at hf); (try simp (decide := true) only [go_sem] at hk)
    have kk := hb.blk k5 (fun r hr => by simp at hr; rcases hr with rfl | rfl | rfl | rfl <;> simp only <;> omega)
    have j0 : w.cell? ⟨J, 0, none⟩ = _ := kk.cell 0
    go_simp
    exact hR _ _ (rpost_val rfl rfl (Below.refl _ _) rfl)
  case oR1_11 => intro f lo hi w hb hx hf hk hrg R hR; (try replace hb := BelX.zero hb); (try simp (decide := true) only [go_sem] at hf); (try simp (decide := true) only [go_sem] at hk); go_simp; exact hR _ _ (rpost_val rfl rfl (Below.refl _ _) rfl)
  case oR1_12 =>
    intro f lo hi w hb hx hf hk hrg R hR; (try replace hb := BelX.zero hb); (try simp (decide := true) only [go_sem] at hf); (try simp (decide := true) only [go_sem] at hk)
    obtain ⟨⟨k2, hd2⟩, hct⟩ := hf
    obtain ⟨-, -, h8, h11, -⟩ := hk
    have r3 := hrg.out 3 (by simp)
    go_simp
    (with_reducible refine (deck_Service p d k2 ps.length 5 _ hd2 (by omega) (by omega) (by omega) (by omega)).mono ?_)
    rintro e w' ⟨k5', ph, gr, es, ea, ec, rfl, p0, p1, p2, p3, hes, hok, own5, hd', g'⟩
    exact ⟨_, rfl, hR _ _ (rpost_both ⟨ph, gr, ea, ec, rfl⟩ rfl (touch_grown g' (List.mem_singleton.2 rfl) (XOk.get _ _ hx 0 _ rfl).1 (XOk.get _ _ hx 0 _ rfl).2) ⟨⟨_, hd'⟩, hct.keep fun q h1 h2 => g'.block q (by omega) (fun e => by injection e with e; omega), ph, gr, es, ea, ec, rfl, p0, p1, own5, own5.lt'⟩)⟩
  case oR1_13 =>
    intro f lo hi w hb hx hf hk hrg R hR; (try replace hb := BelX.zero hb); (try simp (decide := true) only [go_sem] at hf); (try simp (decide := true) only [go_sem] at hk)
    obtain ⟨⟨-, -⟩, kk⟩ := hf
    obtain ⟨a0, a1, a2⟩ : w.cell? ⟨Z.heap.size, 0, none⟩ = _ ∧ w.cell? ⟨Z.heap.size, 1, none⟩ = _ ∧ w.cell? ⟨Z.heap.size, 2, none⟩ = _ := ⟨kk.cell 0, kk.cell 1, kk.cell 2⟩
    have fz := kk.frozen
    have kl := kk.lt
    have hm : 17 ∈ [17] := List.mem_singleton.2 rfl
    have p1 : lo 17 ≤ Z.heap.size := Nat.le_of_eq (XOk.get _ _ hx 1 _ rfl).1
    have p2 : Z.heap.size < hi 17 := by rw [(XOk.get _ _ hx 1 _ rfl).2]; exact Nat.lt_succ_self _
    go_simp
    refine hR _ _ (rpost_some rfl rfl (((Touch.set w hm p1 p2 0 _).trans (Touch.set _ hm p1 p2 1 _)).trans (Touch.set _ hm p1 p2 2 _)) ?_)
    (try simp (decide := true) only [go_sem])
    exact ((kk.set 0 _).set 1 _).set 2 _
  case oR1_14 =>
    intro f lo hi w hb hx hf hk hrg R hR; (try replace hb := BelX.zero hb); (try simp (decide := true) only [go_sem] at hf); (try simp (decide := true) only [go_sem] at hk)
    obtain ⟨⟨la, lc, g, na, nc, wt, lat, h3, h7⟩, ⟨-, -⟩, kk⟩ := hf
    obtain ⟨a0, a1, a2, a3, a4⟩ : w.cell? ⟨Z.heap.size + 1, 0, none⟩ = _ ∧ w.cell? ⟨Z.heap.size + 1, 1, none⟩ = _ ∧ w.cell? ⟨Z.heap.size + 1, 2, none⟩ = _ ∧ w.cell? ⟨Z.heap.size + 1, 3, none⟩ = _ ∧ w.cell? ⟨Z.heap.size + 1, 4, none⟩ = _ := ⟨kk.cell 0, kk.cell 1, kk.cell 2, kk.cell 3, kk.cell 4⟩
    have fz := kk.frozen
    have kl := kk.lt
    have hm : 18 ∈ [18] := List.mem_singleton.2 rfl
    have p1 : lo 18 ≤ Z.heap.size + 1 := Nat.le_of_eq (XOk.get _ _ hx 2 _ rfl).1
    have p2 : Z.heap.size + 1 < hi 18 := by rw [(XOk.get _ _ hx 2 _ rfl).2]; exact Nat.lt_succ_self _
    go_simp
    refine hR _ _ (rpost_some rfl rfl (((((Touch.set w hm p1 p2 0 _).trans (Touch.set _ hm p1 p2 1 _)).trans (Touch.set _ hm p1 p2 2 _)).trans (Touch.set _ hm p1 p2 3 _)).trans (Touch.set _ hm p1 p2 4 _)) ?_)
    (try simp (decide := true) only [go_sem])
    exact ⟨la, lc, g, na, nc, wt, lat, h3, ((((kk.set 0 _).set 1 _).set 2 _).set 3 _).set 4 _⟩
  case oR1_15 =>
    intro f lo hi w hb hx hf hk hrg R hR; (try replace hb := BelX.zero hb); (try simp (decide := true) only [go_sem] at hf); (try simp (decide := true) only [go_sem] at hk)
    obtain ⟨-, ⟨-, -⟩, kk⟩ := hf
    obtain ⟨⟨ph, gr, ea, ec, h12⟩, -⟩ := hk
    obtain ⟨a0, a1, a2⟩ : w.cell? ⟨Z.heap.size + 2, 0, none⟩ = _ ∧ w.cell? ⟨Z.heap.size + 2, 1, none⟩ = _ ∧ w.cell? ⟨Z.heap.size + 2, 2, none⟩ = _ := ⟨kk.cell 0, kk.cell 1, kk.cell 2⟩
    have fz := kk.frozen
    have kl := kk.lt
    have hm : 19 ∈ [19] := List.mem_singleton.2 rfl
    have p1 : lo 19 ≤ Z.heap.size + 2 := Nat.le_of_eq (XOk.get _ _ hx 3 _ rfl).1
    have p2 : Z.heap.size + 2 < hi 19 := by rw [(XOk.get _ _ hx 3 _ rfl).2]; exact Nat.lt_succ_self _
    go_simp
    refine hR _ _ (rpost_some rfl rfl (((Touch.set w hm p1 p2 0 _).trans (Touch.set _ hm p1 p2 1 _)).trans (Touch.set _ hm p1 p2 2 _)) ?_)
    (try simp (decide := true) only [go_sem])
    exact ⟨ph, gr, ea, ec, h12, ((kk.set 0 _).set 1 _).set 2 _⟩
  case hcl =>
    refine ⟨Closed.true _ _ _ _, Closed.true _ _ _ _, Closed.true _ _ _ _, ?cR1_3, Closed.true _ _ _ _, ?cR1_5, Closed.true _ _ _ _, ?cR1_7, Closed.true _ _ _ _, Closed.true _ _ _ _, Closed.true _ _ _ _, Closed.true _ _ _ _, ?cR1_12, ?cR1_13, ?cR1_14, ?cR1_15, ?cR1_16, ?cR1_17, ?cR1_18, ?cR1_19, trivial⟩
    all_goals first
      | exact fun f lo hi v b0 b1 w w' h hs hB hown hU hX => by
          obtain ⟨⟨k2, h⟩, h2⟩ := h
          exact ⟨⟨k2, DeckAt.closed h HD.out (fun hl b hb h1 h2 => hB b ⟨h1, fun r hr => by have := har.resolve_left hl b hb; simp at hr; rcases hr with rfl | rfl | rfl | rfl <;> simp only <;> omega⟩) (hX 0 _ rfl (by simp) p (Nat.le_refl _) (Nat.lt_succ_self _))⟩, h2.keep fun q h1 h2 => hown q h1 h2⟩
      | exact fun f lo hi v b0 b1 w w' h hs hB hown hU hX => by
          obtain ⟨⟨k2, h⟩, h2⟩ := h
          exact ⟨⟨k2, DeckAt.closed h HD.out (fun hl b hb h1 h2 => hB b ⟨h1, fun r hr => by have := har.resolve_left hl b hb; simp at hr; rcases hr with rfl | rfl | rfl | rfl <;> simp only <;> omega⟩) (hX 0 _ rfl (by simp) p (Nat.le_refl _) (Nat.lt_succ_self _))⟩, h2.keep fun q h1 h2 => hU 3 (by simp) q h1 h2⟩
      | exact fun f lo hi v b0 b1 w w' h hs hB hown hU hX => by
          obtain ⟨⟨k2, h⟩, h2, h3⟩ := h
          exact ⟨⟨k2, DeckAt.closed h HD.out (fun hl b hb h1 h2 => hB b ⟨h1, fun r hr => by have := har.resolve_left hl b hb; simp at hr; rcases hr with rfl | rfl | rfl | rfl <;> simp only <;> omega⟩) (hX 0 _ rfl (by simp) p (Nat.le_refl _) (Nat.lt_succ_self _))⟩, h2.keep (fun q h1 h2 => hU 3 (by simp) q h1 h2), h3.keep fun q h1 h2 => hown q h1 h2⟩
      | exact fun f lo hi v b0 b1 w w' h hs hB hown hU hX => (hX 1 _ rfl (by simp) _ (Nat.le_refl _) (Nat.lt_succ_self _)).trans h
      | exact fun f lo hi v b0 b1 w w' h hs hB hown hU hX => by
          obtain ⟨la, lc, g, na, nc, wt, lat, h1, h2⟩ := h
          exact ⟨la, lc, g, na, nc, wt, lat, h1, (hX 2 _ rfl (by simp) _ (Nat.le_refl _) (Nat.lt_succ_self _)).trans h2⟩
      | exact fun f lo hi v b0 b1 w w' h hs hB hown hU hX => by
          obtain ⟨ph, gr, ea, ec, h1, h2⟩ := h
          exact ⟨ph, gr, ea, ec, h1, (hX 3 _ rfl (by simp) _ (Nat.le_refl _) (Nat.lt_succ_self _)).trans h2⟩
      | exact fun f lo hi v b0 b1 w w' h hs hB hown hU hX => by
          obtain ⟨e, k2, h⟩ := h
          exact ⟨e, k2, DeckAt.closed h HD.out (fun hl b hb h1 h2 => hB b ⟨h1, fun r hr => by have := har.resolve_left hl b hb; simp at hr; rcases hr with rfl | rfl | rfl | rfl <;> simp only <;> omega⟩) (hown p (by omega) (by omega))⟩
      | exact fun f lo hi v b0 b1 w w' h hs hB hown hU hX => by
          obtain ⟨⟨rfl, rfl⟩, kb⟩ := h
          exact ⟨⟨rfl, rfl⟩, (hown _ (Nat.le_refl _) (Nat.lt_succ_self _)).trans kb⟩
      | exact fun _ _ _ _ _ _ _ _ h _ _ _ _ _ => h
  intro f lo hi W7 hbr hx hf hk hrg; (try replace hbr := BelX.zero hbr); clear hx; (try simp (decide := true) only [go_sem] at hf); (try simp (decide := true) only [go_sem] at hk)
  obtain ⟨⟨⟨k7, hd7⟩, ⟨ls, nx, g, wt, la, lc, na, nc, h3, hcv, -, -⟩, ph, gr, es, ea, ec, h12, q0, q1, own, -⟩, kJ7, ⟨la', lc', g', na', nc', wt', lat, h3', kS7⟩, ph', gr', ea', ec', h12', kV7⟩ := hf
  obtain ⟨rfl, rfl, rfl, rfl, rfl, rfl⟩ : la = la' ∧ lc = lc' ∧ g = g' ∧ na = na' ∧ nc = nc' ∧ wt = wt' := by
    rw [h3] at h3'
    simpa [and_assoc] using h3'
  obtain ⟨rfl, rfl, rfl, rfl⟩ : ph = ph' ∧ gr = gr' ∧ ea = ea' ∧ ec = ec' := by
    rw [h12] at h12'
    simpa [and_assoc] using h12'
  have r3 := (hrg.out 3 (by simp)).1
  have hout : ∀ q, q < U.heap.size → q ≠ p → ¬ (Z.heap.size ≤ q ∧ q < Z.heap.size + 3) → W7.heap[q]? = U.heap[q]? := fun q h1 h2 h4 => hbr.2.2.2.2 q ⟨h1, fun r hr => by simp at hr; rcases hr with rfl | rfl | rfl | rfl <;> simp only <;> omega⟩
  have hsz : U.heap.size ≤ W7.heap.size := hbr.2.2.2.1
  have gw7 : Z.grownBy W7 (some p) := ⟨hbr.1.trans gw.os, hbr.2.1.trans gw.tape, hbr.2.2.1.trans gw.output, by omega, fun q hq hne => (hout q (by omega) (fun e => hne (by rw [e])) (by omega)).trans (gw.block q hq hne)⟩
  have hj7 := (HJW.out W7 (fun q h1 h2 => hout q h1 (by omega) (by omega)) hsz)
  have hcv7 := hcv.mono (base' := Z.heap.size) (by omega)
  obtain ⟨a0, a1, a2⟩ : W7.cell? ⟨Z.heap.size, 0, none⟩ = _ ∧ W7.cell? ⟨Z.heap.size, 1, none⟩ = _ ∧ W7.cell? ⟨Z.heap.size, 2, none⟩ = _ := ⟨kJ7.cell 0, kJ7.cell 1, kJ7.cell 2⟩
  obtain ⟨b0, b1, b2, b3, b4, -, -⟩ := kS7.five
  obtain ⟨c0, c1, c2⟩ : W7.cell? ⟨Z.heap.size + 2, 0, none⟩ = _ ∧ W7.cell? ⟨Z.heap.size + 2, 1, none⟩ = _ ∧ W7.cell? ⟨Z.heap.size + 2, 2, none⟩ = _ := ⟨kV7.cell 0, kV7.cell 1, kV7.cell 2⟩
  clear hrg hbr h3' h12' hout
  go_simp
  clear hk h3 h12
  go_wp2
  exact bodyPost_ret (v := .tuple #[jAgg jb jc jb2 jc2 ps.length s, sAgg la ps.length lc g na 2 nc wt lat, .agg #[.int .i64 ph, .int .i64 gr, .slice ea ps.length ec]]) (by simp [results, Try.results12, go_sem, a0, a1, a2, b0, b1, b2, b3, b4, c0, c1, c2]) rfl ⟨k7, jb, jc, jb2, jc2, ps, cs, s, ls, nx, g, wt, la, lc, na, nc, lat, ph, gr, es, ea, ec, rfl, hj7.mono (by have := hj7.lw; omega) (Nat.le_refl _), hcv7, q0, q1, hd7, gw7, by omega, by omega⟩
theorem law_signal (p : Nat) (d : Dk) (k : Nat) (Z : World) (hd : DeckAt Z p d k) :
    Calls Try.prog 12 #[.pointer (some ⟨p, 0, none⟩)] Z (SigR p d Z) :=
  (law_signalJ p d k Z hd).mono fun e w' ⟨k2, jb, jc, jb2, jc2, ps, cs, s, ls, nx, g, wt, la, lc, na, nc, lat, ph, gr, es, ea, ec, he, hj, hcv, q0, q1, hd2, g2, _, _⟩ => ⟨k2, jb, jc, jb2, jc2, ps, cs, s, ls, nx, g, wt, la, lc, na, nc, lat, ph, gr, es, ea, ec, he, hj, hcv, q0, q1, hd2, g2⟩
end Go.Proofs.Ytdkifkbnkedbpaa
