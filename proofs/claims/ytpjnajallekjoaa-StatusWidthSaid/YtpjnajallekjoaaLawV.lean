/- signalbrokerlaw24.views -/
import Derived.Test.YtpjnajallekjoaaVxL
namespace Go.Proofs.Ytpjnajallekjoaa
set_option linter.unusedVariables false
open Go.RowKit Go.Sort
set_option maxRecDepth 100000

/-- a junction of the deck's -/
def JunP (p : Nat) (d : Dk) (k0 : Nat) (w : World) (e : Ending) (w' : World) : Prop :=
  ∃ (jb jc jb2 jc2 : Nat) (ps : List Ph) (cs : List Int) (s : Int), e = .returned (jAgg jb jc jb2 jc2 ps.length s) ∧ Hid (ps.length = junLen d.l k0) ∧ JAt w' w'.heap.size jb jc jb2 jc2 ps cs s ∧ w.heap.size ≤ jb ∧ w.heap.size ≤ jb2 ∧ DeckAt w' p d (junPos d.l k0) ∧ w.grownBy w' (some p)
theorem deck_JunP (p : Nat) (d : Dk) (k : Nat) (w : World) (hd : DeckAt w p d k) :
    Calls Try.prog 22 #[.pointer (some ⟨p, 0, none⟩)] w (JunP p d k w) :=
  (deck_Junction p w d k hd).mono fun e w' ⟨v, he, ⟨b, c, b2, c2, ps, cs, s, hv, h1, h2, h3, h4, h5, h6, h7, h8, h9⟩, hd', g⟩ => by
    have hbd := shapeLen_bd (dVal d.l k 6)
    have hl : 1 ≤ ps.length ∧ ps.length ≤ 8 := by rw [h3]; exact hbd
    have hp0 : phCells ps ≠ [] := fun e => by have := phCells_len ps; rw [e] at this; simp at this; omega
    have hc0 : cs.map encI ≠ [] := fun e => by have := congrArg List.length e; simp at this; subst this; simp at h5; omega
    have q1 : b < w'.heap.size := by
      obtain ⟨x, o, e, q, _⟩ := h8.resolve_left hp0
      injection e with e
      injection e with e _ _
      omega
    have q2 : b2 < w'.heap.size := by
      obtain ⟨x, o, e, q, _⟩ := Or.resolve_left h9 hc0
      injection e with e
      injection e with e _ _
      omega
    rw [hv, ← h3] at he
    exact ⟨b, c, b2, c2, ps, cs, s, he, Lib.hid h3, ⟨h8, h9, q1, q2, Nat.le_refl _, hl, by omega, h4, h6, h7⟩, h1, h2, hd', g⟩
/-- where the deck stands behind a view, and the views' sizes -/
def vPos (l : List Int) (k : Nat) : Nat := svcPos l (dPos l (ctlPos l (junPos l k))) (junLen l k)
def vSz (l : List Int) : Nat → Nat → List Nat
  | 0, _ => []
  | c + 1, k => junLen l k :: vSz l c (vPos l k)
def szOf (its : List Vx) : List Nat := its.map fun v => v.cs.length
def ViewsR (p : Nat) (d : Dk) (k0 : Nat) (w : World) (e : Ending) (w' : World) : Prop :=
  ∃ (k n : Nat) (its : List Vx) (xa : Option Addr) (xc : Nat), e = .returned (.slice xa n xc) ∧ Hid (n = its.length) ∧ n ≤ 4 ∧ Hid (szOf its = vSz d.l (dVal d.l k0 5).toNat (dPos d.l k0)) ∧ VxD p w' w.heap.size its xa xc ∧ DeckAt w' p d k ∧ w.grownBy w' (some p)
set_option maxHeartbeats 8000000 in
theorem law_views (p : Nat) (d : Dk) (k : Nat) (Z : World) (hd : DeckAt Z p d k) :
    Calls Try.prog 7 #[.pointer (some ⟨p, 0, none⟩)] Z (ViewsR p d k Z) := by
  have hpw := hd.lt
  have HD0 := Lib.hid hd
  have har := hd.arr
  go_enter Try.func7, Try.ntmps7
  go_upto_region 3 with ((go_at_call 21; (with_reducible refine (deck_Next p 5 _ d _ hd (by decide) (by decide)).mono ?_); rintro e w1 ⟨v1, rfl, p1, q1, hv1, hd1, g1⟩))
  have HS0 : Hid (szOf [] ++ vSz d.l v1.toNat (dPos d.l k) = vSz d.l (dVal d.l k 5).toNat (dPos d.l k)) := Lib.hid (by rw [hv1.out]; rfl)
  clear hv1
  go_wp2_with fail
  go_loopw [3, 4] (fun s3 s4 wr => ∃ (kk : Int) (kd : Nat) (its : List Vx) (n : Nat) (xa : Option Addr) (xc : Nat), s3 = .slice xa n xc ∧ s4 = .int .i64 kk ∧ 0 ≤ kk ∧ kk + n ≤ 4 ∧ Hid (n = its.length) ∧ Hid (szOf its ++ vSz d.l kk.toNat kd = vSz d.l (dVal d.l k 5).toNat (dPos d.l k)) ∧ VxD p wr Z.heap.size its xa xc ∧ DeckAt wr p d kd ∧ Z.grownBy wr (some p)) (fun _ s _ => (intOf s).toNat)
  case atStart => exact ⟨v1, _, [], 0, none, 0, rfl, rfl, by omega, by omega, Lib.hid rfl, HS0, ⟨VxL.nil _ _, by simp, by simp, by simp⟩, hd1, g1⟩
  case round =>
    clear hd hd1 g1 HS0
    obtain ⟨kk, kd, its, n, xa, xc, rfl, rfl, hk0, hk1, hn, hsz, vl, hd, g⟩ := hrel
    obtain rfl := hn.out
    by_cases hlt : 0 < kk
    · have hzs := g.size
      go_upto_region 6 with ((go_at_call 22; (with_reducible refine (deck_JunP p d kd _ hd).mono ?_); rintro e w2 ⟨jb, jc, jb2, jc2, ps, cs, s, rfl, hpl, hj, hjb, hjb2, hd2, g2⟩))
      have hw2 := g2.size
      obtain ⟨J, hJ⟩ : ∃ J, w2.heap.size = J := ⟨_, rfl⟩
      refine wp_named (fun U => Blk U J 55 #[.slice (some ⟨jb, 0, none⟩) ps.length jc, .slice (some ⟨jb2, 0, none⟩) ps.length jc2, .int .i64 s] ∧ JAt U J jb jc jb2 jc2 ps cs s ∧ DeckAt U p d (junPos d.l kd) ∧ VxD p U Z.heap.size its xa xc ∧ Z.grownBy U (some p) ∧ J + 1 ≤ U.heap.size) ⟨by rw [← hJ]; exact Blk.new _ _ _, by rw [← hJ]; exact hj.below (by repeat (first | (with_reducible refine Below.setCell ?_ ?_ _) | (with_reducible refine Below.alloc ?_ ?_ _) | (with_reducible refine Below.drew ?_) | (with_reducible refine below_drewN ?_ _) | (with_reducible exact Below.refl _ _) | (focus (simp; done)) | (focus (simp; omega)) | (focus omega))), hd2.alloc _, (vl.grown g2 hpw).below (by repeat (first | (with_reducible refine Below.setCell ?_ ?_ _) | (with_reducible refine Below.alloc ?_ ?_ _) | (with_reducible refine Below.drew ?_) | (with_reducible refine below_drewN ?_ _) | (with_reducible exact Below.refl _ _) | (focus (simp; done)) | (focus (simp; omega)) | (focus omega))), (g.trans g2).trans (World.grownBy_alloc _ _ _), by rw [← hJ]; simp⟩ ?_
      have hjn := hj.n1
      have hJZ : Z.heap.size ≤ J := by omega
      have hjp : jb ≠ p := by omega
      have hjp2 : jb2 ≠ p := by omega
      have hjZ : Z.heap.size ≤ jb := by omega
      have hjZ2 : Z.heap.size ≤ jb2 := by omega
      rw [hJ]
      have hxj : Hid (∀ q, xa.map (·.block) = some q → q < jb ∧ q < jb2) := Lib.hid fun q hq => by have := vl.l.own.lt' q hq; omega
      clear hJ hw2 hj hd2 g2 g hd vl hzs hjb hjb2
      rintro U ⟨kJ, hj, hd, vl, g, hJU⟩
      obtain ⟨j0, j1, j2⟩ : U.cell? ⟨J, 0, none⟩ = _ ∧ U.cell? ⟨J, 1, none⟩ = _ ∧ U.cell? ⟨J, 2, none⟩ = _ := ⟨kJ.cell 0, kJ.cell 1, kJ.cell 2⟩
      have jl := kJ.lt
      go_upto_region 7 with (first | (go_at_call 23; (with_reducible refine (deck_Control p d _ _ _ _ _ _ _ _ _ _ hd hj hjp hjp2).mono ?_); rintro e w3 ⟨k3, ls, nx, cg, wt, la, lc, na, nc, rfl, hk3, hcv, hd3, g3⟩) | (go_at_call 21; (with_reducible refine (deck_Next p 5 _ d _ hd3 (by decide) (by decide)).mono ?_); rintro e w4 ⟨v4, rfl, p4, q4, -, hd4, g4⟩))
      obtain ⟨S, hS⟩ : ∃ S, w4.heap.size = S := ⟨_, rfl⟩
      have hw3 := g3.size
      have hw4 := g4.size
      refine wp_named (fun X => Blk X J 55 #[.slice (some ⟨jb, 0, none⟩) ps.length jc, .slice (some ⟨jb2, 0, none⟩) ps.length jc2, .int .i64 s] ∧ Blk X S 62 #[.slice la ps.length lc, .int .i64 cg, .slice na 2 nc, .int .i64 wt, .bool (v4 == 4)] ∧ JAt X J jb jc jb2 jc2 ps cs s ∧ CtlV X U.heap.size ps ls nx cg wt la lc na nc ∧ DeckAt X p d (dPos d.l k3) ∧ VxD p X Z.heap.size its xa xc ∧ Z.grownBy X (some p) ∧ S + 1 ≤ X.heap.size ∧ J < S) ⟨((kJ.grown g3 (by omega)).grown g4 (by omega)).alloc _, by rw [← hS]; exact Blk.new _ _ _, ((hj.grown g3 hjp hjp2).grown g4 hjp hjp2).below (base := J) (w := w4) ⟨rfl, rfl, rfl, by simp, fun b hb => Below.heap_alloc _ _ b (by omega)⟩, (hcv.grown g4 (by omega)).below (by repeat (first | (with_reducible refine Below.setCell ?_ ?_ _) | (with_reducible refine Below.alloc ?_ ?_ _) | (with_reducible refine Below.drew ?_) | (with_reducible refine below_drewN ?_ _) | (with_reducible exact Below.refl _ _) | (focus (simp; done)) | (focus (simp; omega)) | (focus omega))), hd4.alloc _, ((vl.grown g3 hpw).grown g4 hpw).below (by repeat (first | (with_reducible refine Below.setCell ?_ ?_ _) | (with_reducible refine Below.alloc ?_ ?_ _) | (with_reducible refine Below.drew ?_) | (with_reducible refine below_drewN ?_ _) | (with_reducible exact Below.refl _ _) | (focus (simp; done)) | (focus (simp; omega)) | (focus omega))), ((g.trans g3).trans g4).trans (World.grownBy_alloc _ _ _), by rw [← hS]; simp, by omega⟩ ?_
      rw [hS]
      have hUZ := g.size
      clear hS hw3 hw4 kJ hj hd vl g j0 j1 j2 jl hcv hd3 hd4 g3 g4
      rintro X ⟨kJ, kS, hj, hcv, hd, vl, g, hSX, hJS⟩
      obtain ⟨lat, hlat⟩ : ∃ lat : Bool, (v4 == 4) = lat := ⟨_, rfl⟩
      rw [hlat] at kS ⊢
      clear hlat p4 q4
      have hXs := g.size
      have jl := kJ.lt
      have hok : ∀ ov, OkB (lat, ov, ofC lat ls, ofN lat ps ls) ∧ (ofC lat ls).length = ps.length ∧ (ofN lat ps ls).length = ps.length := fun ov => ofK_ok lat ov hj.n1.2 hj.ok hcv.ll hcv.lok
      obtain ⟨CS, hCS⟩ : ∃ CS, ofC lat ls = CS := ⟨_, rfl⟩
      obtain ⟨NS, hNS⟩ : ∃ NS, ofN lat ps ls = NS := ⟨_, rfl⟩
      have HO2 : ∀ (W : World) (ph gr : Int) (ea : Option Addr) (ec : Nat), JAt W J jb jc jb2 jc2 ps cs s → Own W U.heap.size 90 2 la ps.length lc (liCells ls) → Calls Try.prog 24 #[jAgg jb jc jb2 jc2 ps.length s, sAgg la ps.length lc cg na 2 nc wt lat, .agg #[.int .i64 ph, .int .i64 gr, .slice ea ps.length ec]] W (VwR lat (!lat && (ph != -1)) ps.length CS NS W) := fun W ph gr ea ec h1 h2 => by
        have := ref23_Of J jb jc jb2 jc2 ps cs s 0 ls la lc cg wt na 2 nc lat ph gr ea ps.length ec W h1 ⟨h2.mono (Nat.zero_le _), hcv.ll, hcv.lok⟩
        rwa [hCS, hNS] at this
      rw [hCS, hNS] at hok
      have HO2 := Lib.hid HO2
      have HOK := Lib.hid hok
      obtain ⟨gl, gh, x1, x1', x2, x3, x4⟩ := vl.l.own.range
      have hghj : gh ≤ jb ∧ gh ≤ jb2 := by
        rcases x3 with ⟨e1, e2⟩ | ⟨e1, e2⟩
        · omega
        · have := hxj.out gl ((x4 gl).2 ⟨Nat.le_refl _, by omega⟩)
          omega
      have HX4 := Lib.hid x4
      clear x4
      have hjJ := hj.lb
      have hjJ2 := hj.lb2
      have HJW := Lib.hid (show ∀ W', BelX X [(p, p + 1), (gl, gh)] W' → JAt W' J jb jc jb2 jc2 ps cs s from fun W' h =>
        ⟨h.row hj.ph fun b hb r hr => by simp at hb; simp at hr; rcases hr with rfl | rfl <;> simp only <;> omega, h.row hj.cf fun b hb r hr => by simp at hb; simp at hr; rcases hr with rfl | rfl <;> simp only <;> omega, hj.lb, hj.lb2, Nat.le_trans hj.lw h.2.2.2.1, hj.n1, hj.cl, hj.ok, hj.s0⟩)
      have HLW := Lib.hid (show ∀ W', BelX X [(p, p + 1), (gl, gh)] W' → Own W' U.heap.size 90 2 la ps.length lc (liCells ls) from fun W' h => h.own hcv.lo fun r hr => by simp at hr; rcases hr with rfl | rfl <;> simp only <;> omega)
      have hXl : its.length ≤ 4 := by have := hn.out; omega
      have hpZ : p + 1 ≤ Z.heap.size := hpw
      apply wp_region_tab [(p, (p+1)), (gl, gh)] 12 34 [some 22, some 23, some 24, some 25, some 26, some 27, some 28, some 29, some 30, some 31, some 32, some 3] [⟨[12, 13], [], [], []⟩, ⟨[12, 13], [], [], []⟩, ⟨[12, 13], [], [], []⟩, ⟨[12, 13], [], [], []⟩, ⟨[12, 13], [], [], []⟩, ⟨[4, 12, 13], [4], [4], []⟩, ⟨[4, 5, 12, 13], [5], [5], []⟩, ⟨[3, 4, 5, 6, 12, 13], [3, 6, 12], [3, 6, 12], [12]⟩, ⟨[1, 2, 3, 4, 5, 6, 7, 12, 13], [1, 2, 7], [1, 2, 7], []⟩, ⟨[1, 2, 3, 4, 5, 6, 7, 8, 12, 13], [8], [8], []⟩, ⟨[0, 1, 2, 3, 4, 5, 6, 7, 8, 9, 12, 13], [0, 8, 9, 13], [0, 8, 9, 13], [13]⟩, ⟨[0, 1, 2, 3, 4, 5, 6, 7, 8, 9, 10, 12, 13], [10], [10], []⟩, ⟨[], [], [], []⟩, ⟨[], [], [], []⟩] [0, 1, 2, 3, 4, 5, 6, 7, 8, 9, 10, 11] [7, 8, 10, 11] [psiTrue, psiTrue, psiTrue, psiTrue, psiTrue, psiTrue, psiTrue, (fun f lo hi v b0 b1 W => DeckAt W p d (svcPos d.l (dPos d.l k3) ps.length)), (fun f lo hi v b0 b1 W => ∃ ov, VW lat ov ps.length CS NS v b0 b1 W), (fun f lo hi v b0 b1 W => ∃ (ov : Bool) (ca : Option Addr) (cc : Nat) (na : Option Addr) (nc b : Nat), f 8 = vAgg lat ov ps.length ca cc na nc ∧ v = .slice (some ⟨b, 0, none⟩) 1 1 ∧ b0 ≤ b ∧ b < b1 ∧ Blk W b 36 #[.bool lat, .bool ov, .slice ca ps.length cc, .slice na ps.length nc]), (fun f lo hi v b0 b1 W => ∃ (ov : Bool) (ca : Option Addr) (cc : Nat) (na : Option Addr) (nc : Nat) (a : Option Addr) (c : Nat), f 8 = vAgg lat ov ps.length ca cc na nc ∧ v = .slice a (its.length + 1) c ∧ Own W Z.heap.size 36 4 a (its.length + 1) c (vxCells its ++ [.bool lat, .bool ov, .slice ca ps.length cc, .slice na ps.length nc]) ∧ ∀ k, a.map (·.block) = some k → (gl ≤ k ∧ k < gh) ∨ (b0 ≤ k ∧ k < b1)), (fun f lo hi v b0 b1 W => v = f 10), (fun f lo hi v b0 b1 W => (b0 = p ∧ b1 = (p+1)) ∧ DeckAt W p d (dPos d.l k3)), (fun f lo hi v b0 b1 W => (b0 = gl ∧ b1 = gh) ∧ Own W Z.heap.size 36 4 xa its.length xc (vxCells its))] [kVal _, kVal _, kVal _, kVal _, kVal _, kVal _, kVal _, (fun v => ∃ (ph gr : Int) (ea : Option Addr) (ec : Nat), v = .agg #[.int .i64 ph, .int .i64 gr, .slice ea ps.length ec]), kTrue, kTrue, kTrue, kTrue]
      · kernel_rfl
      · kernel_rfl
      · rfl
      · rfl
      rotate_left 2
      refine ⟨?oR1_0, ?oR1_1, ?oR1_2, ?oR1_3, ?oR1_4, ?oR1_5, ?oR1_6, ?oR1_7, ?oR1_8, ?oR1_9, ?oR1_10, ?oR1_11, trivial⟩
      case hx => exact ⟨⟨by omega, by omega⟩, by simp; omega, ⟨by omega, by omega⟩, by simp, trivial⟩
      case hX => exact ⟨fun _ _ _ _ => ⟨⟨rfl, rfl⟩, hd⟩, fun _ _ _ _ => ⟨⟨rfl, rfl⟩, vl.l.own⟩, trivial⟩
      case oR1_0 => intro f lo hi w hb hx hf hk hrg R hR; (try replace hb := BelX.zero hb); (try simp (decide := true) only [go_sem] at hf); (try simp (decide := true) only [go_sem] at hk); go_simp; exact hR _ _ (rpost_val rfl rfl (Below.refl _ _) rfl)
      case oR1_1 =>
        intro f lo hi w hb hx hf hk hrg R hR; (try replace hb := BelX.zero hb); (try simp (decide := true) only [go_sem] at hf); (try simp (decide := true) only [go_sem] at hk)
        have kk := hb.blk kJ (fun r hr => by simp at hr; rcases hr with rfl | rfl <;> simp only <;> omega)
        obtain ⟨j0, j1, j2⟩ : w.cell? ⟨J, 0, none⟩ = _ ∧ w.cell? ⟨J, 1, none⟩ = _ ∧ w.cell? ⟨J, 2, none⟩ = _ := ⟨kk.cell 0, kk.cell 1, kk.cell 2⟩
        go_simp
        exact hR _ _ (rpost_val rfl rfl (Below.refl _ _) rfl)
      case oR1_2 =>
        intro f lo hi w hb hx hf hk hrg R hR; (try replace hb := BelX.zero hb); (try simp (decide := true) only [go_sem] at hf); (try simp (decide := true) only [go_sem] at hk)
        have kk := hb.blk kS (fun r hr => by simp at hr; rcases hr with rfl | rfl <;> simp only <;> omega)
        obtain ⟨s0, s1, s2, s3, s4, -, -⟩ := kk.five
        go_simp
        exact hR _ _ (rpost_val rfl rfl (Below.refl _ _) rfl)
      case oR1_3 => intro f lo hi w hb hx hf hk hrg R hR; (try replace hb := BelX.zero hb); (try simp (decide := true) only [go_sem] at hf); (try simp (decide := true) only [go_sem] at hk); go_simp; exact hR _ _ (rpost_val rfl rfl (Below.refl _ _) rfl)
      case oR1_4 => intro f lo hi w hb hx hf hk hrg R hR; (try replace hb := BelX.zero hb); (try simp (decide := true) only [go_sem] at hf); (try simp (decide := true) only [go_sem] at hk); go_simp; exact hR _ _ (rpost_val rfl rfl (Below.refl _ _) rfl)
      case oR1_5 =>
        intro f lo hi w hb hx hf hk hrg R hR; (try replace hb := BelX.zero hb); (try simp (decide := true) only [go_sem] at hf); (try simp (decide := true) only [go_sem] at hk)
        have kk := hb.blk kJ (fun r hr => by simp at hr; rcases hr with rfl | rfl <;> simp only <;> omega)
        have j0 := kk.cell 0
        go_simp
        exact hR _ _ (rpost_val rfl rfl (Below.refl _ _) rfl)
      case oR1_6 => intro f lo hi w hb hx hf hk hrg R hR; (try replace hb := BelX.zero hb); (try simp (decide := true) only [go_sem] at hf); (try simp (decide := true) only [go_sem] at hk); go_simp; exact hR _ _ (rpost_val rfl rfl (Below.refl _ _) rfl)
      case oR1_7 =>
        intro f lo hi w hb hx hf hk hrg R hR; (try replace hb := BelX.zero hb); (try simp (decide := true) only [go_sem] at hf); (try simp (decide := true) only [go_sem] at hk)
        have hd1 := hf.2
        obtain ⟨e3, e6, -⟩ := hk
        go_simp
        (with_reducible refine (deck_Service p d _ ps.length 5 w hd1 (by omega) (by omega) (by decide) (by decide)).mono ?_)
        rintro e w' ⟨ks, ph, gr, es, ea, ec, rfl, hks, -, -, -, -, -, -, -, hd', g'⟩
        obtain rfl := hks.out
        exact ⟨_, rfl, hR _ _ (rpost_both ⟨ph, gr, ea, ec, rfl⟩ rfl (touch_grown g' (List.mem_singleton.2 rfl) (XOk.get _ _ hx 0 _ rfl).1 (XOk.get _ _ hx 0 _ rfl).2) hd')⟩
      case oR1_8 =>
        intro f lo hi w hb hx hf hk hrg R hR; (try replace hb := BelX.zero hb); (try simp (decide := true) only [go_sem] at hf); (try simp (decide := true) only [go_sem] at hk)
        obtain ⟨e1, e2, ph, gr, ea, ec, e7⟩ := hk
        go_simp
        (with_reducible refine (HO2.out w ph gr ea ec (HJW.out _ hb) (HLW.out _ hb)).mono ?_)
        rintro e w' ⟨ca, cc, da, dc, rfl, o1, o2, hb2⟩
        exact ⟨_, rfl, hR _ _ (rpost_none rfl hb2 ⟨_, VW.of o1 o2⟩)⟩
      case oR1_9 =>
        intro f lo hi w hb hx hf hk hrg R hR; (try replace hb := BelX.zero hb); (try simp (decide := true) only [go_sem] at hf); (try simp (decide := true) only [go_sem] at hk)
        obtain ⟨ov, ca, cc, na', nc', h8, -⟩ := hf
        go_simp
        refine hR _ _ (rpost_none rfl (by repeat (first | (with_reducible refine Below.setCell ?_ ?_ _) | (with_reducible refine Below.alloc ?_ ?_ _) | (with_reducible refine Below.drew ?_) | (with_reducible refine below_drewN ?_ _) | (with_reducible exact Below.refl _ _) | (focus (simp; done)) | (focus (simp; omega)) | (focus omega))) ?_)
        (try simp (decide := true) only [go_sem])
        exact ⟨ov, ca, cc, na', nc', _, h8, rfl, Nat.le_refl _, by simp, Blk.new _ _ _⟩
      case oR1_10 =>
        intro f lo hi w hb hx hf hk hrg R hR; (try replace hb := BelX.zero hb); (try simp (decide := true) only [go_sem] at hf); (try simp (decide := true) only [go_sem] at hk)
        obtain ⟨-, ⟨ov, ca, cc, na', nc', bq, h8, h9, -, -, kk⟩, -, own⟩ := hf
        have hsz : X.heap.size ≤ w.heap.size := hb.2.2.2.1
        refine obl_appV Z.heap.size xa its.length xc (vxCells its) ?_ bq (.bool lat) (.bool ov) (.slice ca ps.length cc) (.slice na' ps.length nc') ?_ kk own ⟨rfl, rfl, rfl, rfl⟩ (by omega) (by omega) ?_
        · go_simp
        · go_simp
        intro b2 c2 w2 own2 g2
        refine hR _ _ (rpost_some rfl rfl (Grew.touch g2 fun k hk' => ⟨13, by simp, ?_⟩) ?_)
        · obtain ⟨q1, q2⟩ : lo 13 = gl ∧ hi 13 = gh := XOk.get _ _ hx 1 _ rfl
          have h4 := (HX4.out k).1 hk'
          omega
        (try simp (decide := true) only [go_sem])
        refine ⟨ov, ca, cc, na', nc', _, _, h8, rfl, own2, fun k hk' => ?_⟩
        rcases g2.2.1 with e | e
        · exact .inl ((HX4.out k).1 (e ▸ hk'))
        · rw [e] at hk'
          exact .inr ⟨by injection hk' with hk'; omega, own2.lt' k (e ▸ hk')⟩
      case oR1_11 =>
        intro f lo hi w hb hx hf hk hrg R hR; (try replace hb := BelX.zero hb); (try simp (decide := true) only [go_sem] at hf); (try simp (decide := true) only [go_sem] at hk)
        go_simp
        refine hR _ _ (rpost_none rfl (Below.refl _ _) ?_)
        (try simp (decide := true) only [go_sem])
      case hcl =>
        refine ⟨Closed.true _ _ _ _, Closed.true _ _ _ _, Closed.true _ _ _ _, Closed.true _ _ _ _, Closed.true _ _ _ _, Closed.true _ _ _ _, Closed.true _ _ _ _, ?cR1_7, ?cR1_8, ?cR1_9, ?cR1_10, ?cR1_11, ?cR1_12, ?cR1_13, trivial⟩
        all_goals first | (intro f lo hi v b0 b1 w w' h hs hB hown hU hX; exact DeckAt.closed h hd (fun hl b hb h1 h2 => hB b ⟨h1, fun r hr => by have := har.resolve_left hl b hb; simp at hr; rcases hr with rfl | rfl <;> simp only <;> omega⟩) (hX 0 _ rfl (by simp) p (Nat.le_refl _) (Nat.lt_succ_self _))) | (intro f lo hi v b0 b1 w w' h hs hB hown hU hX; obtain ⟨e, h⟩ := h; exact ⟨e, DeckAt.closed h hd (fun hl b hb h1 h2 => hB b ⟨h1, fun r hr => by have := har.resolve_left hl b hb; simp at hr; rcases hr with rfl | rfl <;> simp only <;> omega⟩) (hown p (by omega) (by omega))⟩) | (intro f lo hi v b0 b1 w w' h hs hB hown hU hX; obtain ⟨ov, h⟩ := h; exact ⟨ov, h.keep hown⟩) | (intro f lo hi v b0 b1 w w' h hs hB hown hU hX; obtain ⟨ov, ca, cc, na', nc', b, h1, h2, h3, h4, h5⟩ := h; exact ⟨ov, ca, cc, na', nc', b, h1, h2, h3, h4, (hown b h3 h4).trans h5⟩) | (intro f lo hi v b0 b1 w w' h hs hB hown hU hX; obtain ⟨ov, ca, cc, na', nc', a, c, h1, h2, own, lt⟩ := h; exact ⟨ov, ca, cc, na', nc', a, c, h1, h2, own.keep fun b hb hl _ => (lt b (by rw [hb]; rfl)).elim (fun h => hX 1 _ rfl (by simp) b h.1 h.2) (fun h => hown b h.1 h.2), lt⟩) | (intro f lo hi v b0 b1 w w' h hs hB hown hU hX; obtain ⟨⟨rfl, rfl⟩, own⟩ := h; exact ⟨⟨rfl, rfl⟩, own.keep fun b hb hl _ => hown b ((HX4.out b).1 (by rw [hb]; rfl)).1 ((HX4.out b).1 (by rw [hb]; rfl)).2⟩) | (exact fun _ _ _ _ _ _ _ _ h _ _ _ _ _ => h)
      intro f lo hi W7 hbr hx hf hk hrg; (try replace hbr := BelX.zero hbr); clear hx; (try simp (decide := true) only [go_sem] at hf); (try simp (decide := true) only [go_sem] at hk)
      obtain ⟨hd7, ⟨ov, ca, cc, na', nc', hv8, o1, o2, l1, l2⟩, ⟨ov2, ca2, cc2, na2, nc2, a, c, h8, h10, own7, lt7⟩, h11⟩ := hf
      obtain ⟨rfl, rfl, rfl, rfl, rfl⟩ : ov = ov2 ∧ ca = ca2 ∧ cc = cc2 ∧ na' = na2 ∧ nc' = nc2 := by
        rw [hv8] at h8
        simpa [and_assoc] using h8
      have hr8 := (hrg.out 8 (by simp)).1
      obtain ⟨hOK, hC, hN⟩ := HOK.out ov
      have hout : ∀ q, q < X.heap.size → q ≠ p → xa.map (·.block) ≠ some q → W7.heap[q]? = X.heap[q]? := fun q h1 h2 h3 => hbr.2.2.2.2 q ⟨h1, fun r hr => by
        have h5 : ¬ (gl ≤ q ∧ q < gh) := fun h => h3 ((HX4.out q).2 h)
        simp at hr
        rcases hr with rfl | rfl <;> simp only <;> omega⟩
      have hd7' : DeckAt W7 p d (vPos d.l kd) := by rw [vPos, ← hpl.out, ← hk3.out]; exact hd7
      have HSZ : Hid (szOf (its ++ [⟨lat, ov, CS, NS, ca, cc, na', nc'⟩]) ++ vSz d.l (kk - 1).toNat (vPos d.l kd) = vSz d.l (dVal d.l k 5).toNat (dPos d.l k)) := Lib.hid (by
        rw [← hsz.out, show kk.toNat = (kk - 1).toNat + 1 by omega]
        simp only [szOf, List.map_append, List.map_cons, List.map_nil, vSz, List.append_assoc, List.cons_append, List.nil_append]
        rw [hC, hpl.out])
      have vl7 : VxD p W7 Z.heap.size (its ++ [⟨lat, ov, CS, NS, ca, cc, na', nc'⟩]) a c := by
        refine ⟨⟨?_, ?_, ?_⟩, ?_, ?_, ?_⟩
        · rw [vxCells_append, List.length_append]
          simpa [vxCells, Vx.cells, hC, hN] using own7
        · intro v hv
          rcases List.mem_append.1 hv with hv | hv
          · exact (vl.l.cs v hv).keep fun b hb _ hl => hout b hl (fun e => (vl.ne v hv).1 b (by rw [hb]; rfl) e) (fun e => vl.l.own.apart2 (vl.l.cs v hv) (by decide) b e (by rw [hb]; rfl))
          · rw [List.mem_singleton.1 hv]
            simp only [hC]
            exact o1.mono (Nat.zero_le _)
        · intro v hv
          rcases List.mem_append.1 hv with hv | hv
          · exact (vl.l.ns v hv).keep fun b hb _ hl => hout b hl (fun e => (vl.ne v hv).2 b (by rw [hb]; rfl) e) (fun e => vl.l.own.apart2 (vl.l.ns v hv) (by decide) b e (by rw [hb]; rfl))
          · rw [List.mem_singleton.1 hv]
            simp only [hN]
            exact o2.mono (Nat.zero_le _)
        · intro v hv
          rcases List.mem_append.1 hv with hv | hv
          · exact vl.ok v hv
          · rw [List.mem_singleton.1 hv]; exact hOK
        · intro v hv
          rcases List.mem_append.1 hv with hv | hv
          · exact vl.ne v hv
          · rw [List.mem_singleton.1 hv]
            exact ⟨fun b hb => by have := o1.base_le b hb; omega, fun b hb => by have := o2.base_le b hb; omega⟩
        · intro v hv
          rcases List.mem_append.1 hv with hv | hv
          · exact vl.lo v hv
          · rw [List.mem_singleton.1 hv]
            exact ⟨fun b hb => by have := o1.base_le b hb; omega, fun b hb => by have := o2.base_le b hb; omega⟩
      have gz7 : Z.grownBy W7 (some p) := ⟨hbr.1.trans g.os, hbr.2.1.trans g.tape, hbr.2.2.1.trans g.output, Nat.le_trans hXs hbr.2.2.2.1, fun q hq hne => (hout q (by omega) (fun e => hne (by rw [e])) (fun e => by have := vl.l.own.base_le q e; omega)).trans (g.block q hq hne)⟩
      have HV7 := Lib.hid vl7
      rw [h10] at h11
      clear hout hrg hbr h8 hv8 h10 lt7 own7 o1 o2 l1 l2 hr8 HX4 hd7 hC hN hOK vl7
      go_simp
      clear hk h11
      go_wp2_with fail
      go_roundw
      case rel => exact ⟨kk - 1, _, its ++ [⟨lat, ov, CS, NS, ca, cc, na', nc'⟩], its.length + 1, a, c, rfl, by go_num, by omega, by omega, Lib.hid (by simp), HSZ, HV7.out, hd7', gz7⟩
      case measure => simp [intOf]; omega
    · obtain rfl : kk = 0 := by omega
      go_wp2_with fail
      go_ret
      exact ⟨kd, its.length, its, xa, xc, rfl, Lib.hid rfl, by omega, Lib.hid (by have := hsz.out; simpa [vSz] using this), vl, hd, g⟩
end Go.Proofs.Ytpjnajallekjoaa
