/- RecordTells -/
import Derived.Test.YtdkifkbnkedbpaaLawH
namespace Go.Proofs.Ytdkifkbnkedbpaa
set_option linter.unusedVariables false
open Go.RowKit Go.Sort
set_option maxRecDepth 100000

set_option maxHeartbeats 16000000 in
theorem recordTells_walk (a0 : Option Addr) (c0 : Nat) (l0 : List Int) (p green ended : Int) (w : World) (h0 : Ints w a0 l0) (n0 : l0.length ≤ 9223372036854775807) :
    Calls Try.prog 6 #[.slice a0 l0.length c0, .int .i64 p, .int .i64 green, .int .i64 ended] w fun e w' => e = .returned (.bool true) ∧ RowKit.Below w.heap.size w w' := by
  go_enter Try.func6, Try.ntmps6
  go_upto_region 2 with (first | (go_at_call 10; (with_reducible refine (mk_New a0 c0 l0 _ h0 n0).mono ?_); rintro e w1 ⟨rfl, hd1, hb1⟩) | (go_at_call 12; (with_reducible refine (law_signal _ _ _ _ hd1).mono ?_); rintro e w2 ⟨k2, jb, jc, jb2, jc2, ps, cs, s, ls, nx, g, wt, la, lc, na, nc, lat, ph, gr, es, ea, ec, rfl, hj, hcv, q0, q1, hd2, g2⟩))
  have hb2 : RowKit.Below w.heap.size w w2 := hb1.grown g2 hb1.size (fun k hk => by injection hk with hk; omega)
  have hz1 := hb1.size
  have hz2 := g2.size
  obtain ⟨J, hJ⟩ : ∃ J, w2.heap.size = J := ⟨_, rfl⟩
  have hl := hcv.lo.mono (Nat.zero_le _)
  refine wp_named (fun U => Blk U J 32 #[.slice (some ⟨jb, 0, none⟩) ps.length jc, .slice (some ⟨jb2, 0, none⟩) ps.length jc2, .int .i64 s] ∧ Blk U (J + 1) 37 #[.slice la ps.length lc, .int .i64 g, .slice na 2 nc, .int .i64 wt, .bool lat] ∧ Blk U (J + 2) 39 #[.int .i64 ph, .int .i64 gr, .slice ea ps.length ec] ∧ RowKit.Below w2.heap.size w2 U ∧ J + 3 ≤ U.heap.size) ?_ ?_
  · obtain ⟨t1, t2, t3, t4⟩ := three_at w2 #[.slice (some ⟨jb, 0, none⟩) ps.length jc, .slice (some ⟨jb2, 0, none⟩) ps.length jc2, .int .i64 s] #[.slice la ps.length lc, .int .i64 g, .slice na 2 nc, .int .i64 wt, .bool lat] #[.int .i64 ph, .int .i64 gr, .slice ea ps.length ec] 32 37 39
    rw [← hJ]
    exact ⟨t2, t3, t4, t1, by simp⟩
  rintro U ⟨kJ, kS, kV, bU, hJz⟩
  have hjU := hj.below (base := w2.heap.size) bU
  have hcU := hcv.below bU
  have beU : RowKit.Below w.heap.size w U := (by repeat (first | (with_reducible refine Below.setCell ?_ ?_ _) | (with_reducible refine Below.alloc ?_ ?_ _) | (with_reducible refine Below.drew ?_) | (with_reducible refine below_drewN ?_ _) | (with_reducible exact Below.refl _ _) | (with_reducible refine Below.trans ?_ (Below.mono bU ?_)) | (with_reducible refine Below.trans ?_ (Below.mono hb2 ?_)) | (focus (simp; done)) | (focus (simp; omega)) | (focus omega) | (focus (have q0 := Below.size bU; (try simp at q0); have q1 := Below.size hb2; (try simp at q1); (try simp); omega))))
  have hwJ : w.heap.size ≤ J := by omega
  rw [hJ] at hjU ⊢
  clear hJ hj hcv hd2 g2 hb2 hd1 hb1 bU hz1 hz2 hl
  have hn := hjU.n1
  obtain ⟨j0, j1, j2⟩ : U.cell? ⟨J, 0, none⟩ = _ ∧ U.cell? ⟨J, 1, none⟩ = _ ∧ U.cell? ⟨J, 2, none⟩ = _ := ⟨kJ.cell 0, kJ.cell 1, kJ.cell 2⟩
  have jl := kJ.lt
  go_upto_region 3 with ((with_reducible refine wp_makeI ps.length ?_ ?_ ?_ ?_); (focus rfl); (focus rfl); (focus omega); intro W kE0 be0 z0)
  obtain ⟨E, hE⟩ : ∃ E, U.heap.size = E := ⟨_, rfl⟩
  obtain ⟨T, hT⟩ : ∃ T, E + 1 = T := ⟨_, rfl⟩
  refine wp_named (fun Y => Blk Y E 3 ((List.replicate ps.length (0 : Int)).map encI).toArray ∧ Blk Y T 39 #[.int .i64 (-1), .int .i64 0, .slice (some ⟨E, 0, none⟩) ps.length ps.length] ∧ RowKit.Below U.heap.size U Y) ⟨by rw [← hE]; exact kE0.alloc _, by rw [← hT, ← hE, ← z0]; exact Blk.new _ _ _, (by repeat (first | (with_reducible refine Below.setCell ?_ ?_ _) | (with_reducible refine Below.alloc ?_ ?_ _) | (with_reducible refine Below.drew ?_) | (with_reducible refine below_drewN ?_ _) | (with_reducible exact Below.refl _ _) | (with_reducible refine Below.trans ?_ (Below.mono be0 ?_)) | (focus (simp; done)) | (focus (simp; omega)) | (focus omega) | (focus (have q0 := Below.size be0; (try simp at q0); (try simp); omega))))⟩ ?_
  rintro Y ⟨kE, kT, bY⟩
  have kJ1 := kJ.below bY kJ.lt
  have kS1 := kS.below bY kS.lt
  have kV1 := kV.below bY kV.lt
  have hjY := hjU.below (bY.mono (by omega))
  have hcY := hcU.below bY
  have beY : RowKit.Below w.heap.size w Y := (by repeat (first | (with_reducible refine Below.setCell ?_ ?_ _) | (with_reducible refine Below.alloc ?_ ?_ _) | (with_reducible refine Below.drew ?_) | (with_reducible refine below_drewN ?_ _) | (with_reducible exact Below.refl _ _) | (with_reducible refine Below.trans ?_ (Below.mono bY ?_)) | (with_reducible refine Below.trans ?_ (Below.mono beU ?_)) | (focus (simp; done)) | (focus (simp; omega)) | (focus omega) | (focus (have q0 := Below.size bY; (try simp at q0); have q1 := Below.size beU; (try simp at q1); (try simp); omega))))
  have hJE : J + 3 ≤ E := by omega
  have hET : E < T := by omega
  have hTE : T ≤ E + 1 := by omega
  rw [hE, hT]
  have cE1 := hcU.lo.lt'
  have cE2 := hcU.no.lt'
  rw [hE] at cE1 cE2
  clear hE hT kJ kS kV hjU hcU beU bY kE0 be0 z0 j0 j1 j2 jl hJz
  have tl := kT.lt
  have t2 : Y.cell? ⟨T, 2, none⟩ = _ := kT.cell 2
  go_wp2_with fail
  go_loopw [30] (fun s30 wr => ∃ (i : Nat) (es2 : List Int), s30 = .int .i64 i ∧ i ≤ ps.length ∧ es2.length = ps.length ∧ Blk wr E 3 (es2.map encI).toArray ∧ Blk wr T 39 #[.int .i64 (-1), .int .i64 0, .slice (some ⟨E, 0, none⟩) ps.length ps.length] ∧ RowKit.Below E Y wr) (fun s _ => ps.length - (intOf s).toNat)
  case atStart => exact ⟨0, _, rfl, by omega, by simp, kE, kT, (by repeat (first | (with_reducible refine Below.setCell ?_ ?_ _) | (with_reducible refine Below.alloc ?_ ?_ _) | (with_reducible refine Below.drew ?_) | (with_reducible refine below_drewN ?_ _) | (with_reducible exact Below.refl _ _) | (focus (simp; done)) | (focus (simp; omega)) | (focus omega)))⟩
  case round =>
    clear kE kT tl t2
    obtain ⟨i, es2, rfl, hi, hes2, kE, kT, bY⟩ := hrel
    have tl := kT.lt
    have t2 : wr.cell? ⟨T, 2, none⟩ = _ := kT.cell 2
    by_cases hlt : i < ps.length
    · have hin : (i : Int) < (ps.length : Int) := by omega
      have hil : i < es2.length := by omega
      have el := kE.lt
      go_upto_region 6 with fail
      apply wp_region_tab [(E, (E+1))] 10 82 [some 33, some 34, some 35, some 36, some 37, some 38, some 39, some 40, some 41, none] [⟨[10], [], [], []⟩, ⟨[0, 10], [0], [0], []⟩, ⟨[10], [], [], []⟩, ⟨[10], [], [], []⟩, ⟨[10], [], [], []⟩, ⟨[3, 4, 10], [3, 4], [3, 4], []⟩, ⟨[3, 4, 5, 10], [5], [5], []⟩, ⟨[3, 4, 5, 6, 10], [6], [6], []⟩, ⟨[0, 1, 2, 3, 4, 5, 6, 7, 10], [1, 2], [1, 2], []⟩, ⟨[0, 1, 2, 3, 4, 5, 6, 7, 8, 10], [7, 8, 10], [7, 8, 10], [10]⟩, ⟨[], [], [], []⟩] [0, 1, 2, 3, 4, 5, 6, 7, 8, 9] [9] [psiTrue, psiTrue, psiTrue, psiTrue, psiTrue, psiTrue, psiTrue, psiTrue, psiTrue, (fun f lo hi v b0 b1 W => ∃ es3 : List Int, es3.length = ps.length ∧ Blk W E 3 (es3.map encI).toArray), (fun f lo hi v b0 b1 W => (b0 = E ∧ b1 = (E+1)) ∧ Blk W E 3 (es2.map encI).toArray)] [kVal _, kVal _, kVal _, kVal _, kVal _, kVal _, kVal _, kVal _, kVal _, kTrue]
      · kernel_rfl
      · kernel_rfl
      · rfl
      · rfl
      rotate_left 2
      refine ⟨?oR1_0, ?oR1_1, ?oR1_2, ?oR1_3, ?oR1_4, ?oR1_5, ?oR1_6, ?oR1_7, ?oR1_8, ?oR1_9, trivial⟩
      case hx => exact ⟨⟨by omega, by omega⟩, by simp, trivial⟩
      case hX => exact ⟨fun _ _ _ _ => ⟨⟨rfl, rfl⟩, kE⟩, trivial⟩
      case oR1_0 => intro f lo hi w hb hx hf hk hrg R hR; (try replace hb := BelX.zero hb); (try simp (decide := true) only [go_sem] at hf); (try simp (decide := true) only [go_sem] at hk); go_simp; exact hR _ _ (rpost_val rfl rfl (Below.refl _ _) rfl)
      case oR1_1 =>
        intro f lo hi w hb hx hf hk hrg R hR; (try replace hb := BelX.zero hb); (try simp (decide := true) only [go_sem] at hf); (try simp (decide := true) only [go_sem] at hk)
        have kk := hb.blk kT (fun r hr => by simp at hr; subst hr; simp only; omega)
        have j0 : w.cell? ⟨T, 2, none⟩ = _ := kk.cell 2
        go_simp
        exact hR _ _ (rpost_val rfl rfl (Below.refl _ _) rfl)
      case oR1_2 => intro f lo hi w hb hx hf hk hrg R hR; (try replace hb := BelX.zero hb); (try simp (decide := true) only [go_sem] at hf); (try simp (decide := true) only [go_sem] at hk); go_simp; exact hR _ _ (rpost_val rfl rfl (Below.refl _ _) rfl)
      case oR1_3 => intro f lo hi w hb hx hf hk hrg R hR; (try replace hb := BelX.zero hb); (try simp (decide := true) only [go_sem] at hf); (try simp (decide := true) only [go_sem] at hk); go_simp; exact hR _ _ (rpost_val rfl rfl (Below.refl _ _) rfl)
      case oR1_4 => intro f lo hi w hb hx hf hk hrg R hR; (try replace hb := BelX.zero hb); (try simp (decide := true) only [go_sem] at hf); (try simp (decide := true) only [go_sem] at hk); go_simp; exact hR _ _ (rpost_val rfl rfl (Below.refl _ _) rfl)
      case oR1_5 => intro f lo hi w hb hx hf hk hrg R hR; (try replace hb := BelX.zero hb); (try simp (decide := true) only [go_sem] at hf); (try simp (decide := true) only [go_sem] at hk); go_simp; exact hR _ _ (rpost_val rfl rfl (Below.refl _ _) rfl)
      case oR1_6 => intro f lo hi w hb hx hf hk hrg R hR; (try replace hb := BelX.zero hb); (try simp (decide := true) only [go_sem] at hf); (try simp (decide := true) only [go_sem] at hk); go_simp; (with_reducible refine (mk_Mod _ 9 _ (by decide) (by decide)).mono ?_); rintro e w' ⟨rfl, rfl⟩; exact ⟨_, rfl, hR _ _ (rpost_val rfl rfl (Below.refl _ _) rfl)⟩
      case oR1_7 => intro f lo hi w hb hx hf hk hrg R hR; (try replace hb := BelX.zero hb); (try simp (decide := true) only [go_sem] at hf); (try simp (decide := true) only [go_sem] at hk); go_simp; exact hR _ _ (rpost_val rfl rfl (Below.refl _ _) rfl)
      case oR1_8 => intro f lo hi w hb hx hf hk hrg R hR; (try replace hb := BelX.zero hb); (try simp (decide := true) only [go_sem] at hf); (try simp (decide := true) only [go_sem] at hk); go_simp; exact hR _ _ (rpost_val rfl rfl (Below.refl _ _) rfl)
      case oR1_9 =>
        intro f lo hi w hb hx hf hk hrg R hR; (try replace hb := BelX.zero hb); (try simp (decide := true) only [go_sem] at hf); (try simp (decide := true) only [go_sem] at hk)
        obtain ⟨⟨-, -⟩, kk⟩ := hf
        have e0 := kk.cellL i hil
        have fz := kk.frozen
        have kl := kk.lt
        have p1 : lo 10 ≤ E := Nat.le_of_eq (XOk.get _ _ hx 0 _ rfl).1
        have p2 : E < hi 10 := by rw [(XOk.get _ _ hx 0 _ rfl).2]; exact Nat.lt_succ_self _
        go_simp
        refine hR _ _ (rpost_some rfl rfl (Touch.set w (List.mem_singleton.2 rfl) p1 p2 _ _) ?_)
        (try simp (decide := true) only [go_sem])
        exact ⟨es2.set i _, by simp; exact hes2, kk.setL i _ rfl⟩
      case hcl =>
        refine ⟨Closed.true _ _ _ _, Closed.true _ _ _ _, Closed.true _ _ _ _, Closed.true _ _ _ _, Closed.true _ _ _ _, Closed.true _ _ _ _, Closed.true _ _ _ _, Closed.true _ _ _ _, Closed.true _ _ _ _, ?cR1_9, ?cR1_10, trivial⟩
        all_goals first
          | exact fun f lo hi v b0 b1 w w' h hs hB hown hU hX => by
              obtain ⟨es3, h1, h2⟩ := h
              exact ⟨es3, h1, (hX 0 _ rfl (by simp) _ (Nat.le_refl _) (Nat.lt_succ_self _)).trans h2⟩
          | exact fun f lo hi v b0 b1 w w' h hs hB hown hU hX => by
              obtain ⟨⟨rfl, rfl⟩, kb⟩ := h
              exact ⟨⟨rfl, rfl⟩, (hown _ (Nat.le_refl _) (Nat.lt_succ_self _)).trans kb⟩
          | exact fun _ _ _ _ _ _ _ _ h _ _ _ _ _ => h
      intro f lo hi W7 hbr hx hf hk hrg; (try replace hbr := BelX.zero hbr); clear hx; (try simp (decide := true) only [go_sem] at hf); (try simp (decide := true) only [go_sem] at hk)
      obtain ⟨es3, hes3, kE3⟩ := hf
      have hout : ∀ q, q < wr.heap.size → q ≠ E → W7.heap[q]? = wr.heap[q]? := fun q h1 h2 => hbr.2.2.2.2 q ⟨h1, fun r hr => by simp at hr; subst hr; simp only; omega⟩
      have kT7 := (hout T tl (by omega)).trans kT
      have bY7 : RowKit.Below E Y W7 := ⟨hbr.1.trans bY.os, hbr.2.1.trans bY.tape, hbr.2.2.1.trans bY.output, Nat.le_trans bY.size hbr.2.2.2.1, fun q hq => (hout q (by omega) (by omega)).trans (bY.block q hq)⟩
      clear hout hbr hrg
      go_simp
      clear hk
      go_wp2
      go_roundw
      case rel => exact ⟨i + 1, es3, by go_num, by omega, hes3, kE3, kT7, bY7⟩
      case measure => simp [intOf]; omega
    · obtain rfl : i = ps.length := by omega
      clear hlt t2
      obtain ⟨j0, j1, j2⟩ : wr.cell? ⟨J, 0, none⟩ = _ ∧ wr.cell? ⟨J, 1, none⟩ = _ ∧ wr.cell? ⟨J, 2, none⟩ = _ := ⟨(kJ1.below bY (by omega)).cell 0, (kJ1.below bY (by omega)).cell 1, (kJ1.below bY (by omega)).cell 2⟩
      obtain ⟨t0, t1, t2⟩ : wr.cell? ⟨T, 0, none⟩ = _ ∧ wr.cell? ⟨T, 1, none⟩ = _ ∧ wr.cell? ⟨T, 2, none⟩ = _ := ⟨kT.cell 0, kT.cell 1, kT.cell 2⟩
      have tf := kT.frozen
      have v0 : wr.cell? ⟨J + 2, 0, none⟩ = _ := (kV1.below bY (by omega)).cell 0
      have el := kE.lt
      have jl : J < wr.heap.size := by omega
      have vl : J + 2 < wr.heap.size := by omega
      go_upto_if 45 with fail
      go_cut [] (fun wx => ∃ ph2 gr2 : Int, (ph2 != -1) = (ph != -1) ∧ Blk wx T 39 #[.int .i64 ph2, .int .i64 gr2, .slice (some ⟨E, 0, none⟩) ps.length ps.length] ∧ RowKit.Below E Y wx)
      case first =>
        by_cases hp0 : 0 ≤ ph
        · go_wp2_with (first | (go_at_call 11; (with_reducible refine (mk_Mod p ps.length _ (by omega) (by omega)).mono ?_); rintro e w3 ⟨rfl, rfl⟩) | (go_at_call 11; (with_reducible refine (mk_Mod green 9 _ (by decide) (by decide)).mono ?_); rintro e w3 ⟨rfl, rfl⟩))
          go_meet
          exact ⟨_, _, by have := Int.emod_nonneg p (show (ps.length : Int) ≠ 0 by omega); rw [Bool.eq_iff_iff]; simp; omega, (kT.set 0 _).set 1 _, (by repeat (first | (with_reducible refine Below.setCell ?_ ?_ _) | (with_reducible refine Below.alloc ?_ ?_ _) | (with_reducible refine Below.drew ?_) | (with_reducible refine below_drewN ?_ _) | (with_reducible exact Below.refl _ _) | (with_reducible refine Below.trans ?_ (Below.mono bY ?_)) | (focus (simp; done)) | (focus (simp; omega)) | (focus omega) | (focus (have q0 := Below.size bY; (try simp at q0); (try simp); omega))))⟩
        · go_wp2_with fail
          go_meet
          exact ⟨-1, 0, by rw [Bool.eq_iff_iff]; simp; omega, kT, bY⟩
      case rest =>
        clear kE kT tl t0 t1 t2 tf v0 j0 j1 j2 jl vl bY el hes2
        obtain ⟨ph2, gr2, hpp, kT, bc⟩ := hcut
        have kJ := kJ1.below bc (by omega)
        have kS := kS1.below bc (by omega)
        have kV := kV1.below bc (by omega)
        have hjc := hjY.below (bc.mono (by omega))
        have hcc : CtlV wc 0 ps ls nx g wt la lc na nc := ⟨(hcY.lo.keep fun b hb _ _ => bc.block b (cE1 b (by rw [hb]; rfl))).mono (Nat.zero_le _), (hcY.no.keep fun b hb _ _ => bc.block b (cE2 b (by rw [hb]; rfl))).mono (Nat.zero_le _), hcY.nx, hcY.ll, hcY.lok, hcY.g0, hcY.w0⟩
        have bew : RowKit.Below w.heap.size w wc := (by repeat (first | (with_reducible refine Below.setCell ?_ ?_ _) | (with_reducible refine Below.alloc ?_ ?_ _) | (with_reducible refine Below.drew ?_) | (with_reducible refine below_drewN ?_ _) | (with_reducible exact Below.refl _ _) | (with_reducible refine Below.trans ?_ (Below.mono bc ?_)) | (with_reducible refine Below.trans ?_ (Below.mono beY ?_)) | (focus (simp; done)) | (focus (simp; omega)) | (focus omega) | (focus (have q0 := Below.size bc; (try simp at q0); have q1 := Below.size beY; (try simp at q1); (try simp); omega))))
        clear hcY hjY kJ1 kS1 kV1 bc cE1 cE2 beY
        have kJl := kJ.lt
        have kSl := kS.lt
        have kVl := kV.lt
        have kTl := kT.lt
        have HPP := Lib.hid hpp
        clear hpp
        go_upto_region 10 with fail
        apply wp_region_tab [] 8 82 [some 55, some 56, some 57, some 58, some 59, some 60, some 14, none] [⟨[], [], [], []⟩, ⟨[0], [0], [0], []⟩, ⟨[0, 1], [1], [1], []⟩, ⟨[], [], [], []⟩, ⟨[3], [3], [3], []⟩, ⟨[0, 1, 2, 3, 4], [2, 4], [2, 4], []⟩, ⟨[], [], [], []⟩, ⟨[0, 1, 2, 3, 4, 5, 6], [2, 5, 6], [2, 5, 6], [6]⟩] [0, 1, 2, 3, 4, 5, 6, 7] [2, 7] [psiTrue, psiTrue, (fun f lo hi v b0 b1 W => ∃ (la : Option Addr) (lc : Nat) (na : Option Addr) (nc : Nat), v = cAgg la ps.length lc g na nc wt ∧ Own W b0 67 2 la ps.length lc (liCells ls) ∧ ∀ k, la.map (·.block) = some k → k < b1), psiTrue, psiTrue, (fun f lo hi v b0 b1 W => ∃ (la : Option Addr) (lc : Nat) (na : Option Addr) (nc : Nat), f 2 = cAgg la ps.length lc g na nc wt ∧ v = sAgg la ps.length lc g na 2 nc wt lat), (fun f lo hi v b0 b1 W => ∃ c, v = .pointer (some ⟨c, 0, none⟩) ∧ b0 ≤ c ∧ c < b1 ∧ Blk W c 37 #[.slice none 0 0, .int .i64 0, .slice none 0 0, .int .i64 0, .bool false]), (fun f lo hi v b0 b1 W => ∃ (la : Option Addr) (lc : Nat) (na : Option Addr) (nc c : Nat), f 2 = cAgg la ps.length lc g na nc wt ∧ f 6 = .pointer (some ⟨c, 0, none⟩) ∧ lo (6) ≤ c ∧ c < hi (6) ∧ Blk W c 37 #[.slice la ps.length lc, .int .i64 g, .slice na 2 nc, .int .i64 wt, .bool lat])] [kVal _, kVal _, kTrue, kVal _, kVal _, kTrue, kTrue, kTrue]
        · kernel_rfl
        · kernel_rfl
        · rfl
        · rfl
        · exact trivial
        · exact trivial
        refine ⟨?oR2_0, ?oR2_1, ?oR2_2, ?oR2_3, ?oR2_4, ?oR2_5, ?oR2_6, ?oR2_7, trivial⟩
        case oR2_0 => intro f lo hi w hb hx hf hk hrg R hR; (try replace hb := BelX.zero hb); (try simp (decide := true) only [go_sem] at hf); (try simp (decide := true) only [go_sem] at hk); go_simp; exact hR _ _ (rpost_val rfl rfl (Below.refl _ _) rfl)
        case oR2_1 =>
          intro f lo hi w hb hx hf hk hrg R hR; (try replace hb := BelX.zero hb); (try simp (decide := true) only [go_sem] at hf); (try simp (decide := true) only [go_sem] at hk)
          obtain ⟨s0, s1, s2, s3, s4, -, -⟩ := (kS.below hb kSl).five
          go_simp
          exact hR _ _ (rpost_val rfl rfl (Below.refl _ _) rfl)
        case oR2_2 =>
          intro f lo hi w hb hx hf hk hrg R hR; (try replace hb := BelX.zero hb); (try simp (decide := true) only [go_sem] at hf); (try simp (decide := true) only [go_sem] at hk)
          go_simp
          (with_reducible refine (ref09_Copy 0 ps ls nx g wt la lc na nc _ (hcc.below hb) (by omega)).mono ?_)
          rintro e w' ⟨la2, lc2, na2, nc2, rfl, hcv, hb2⟩
          exact ⟨_, rfl, hR _ _ (rpost_none rfl hb2 ⟨la2, lc2, na2, nc2, rfl, hcv.lo, hcv.lo.lt'⟩)⟩
        case oR2_3 => intro f lo hi w hb hx hf hk hrg R hR; (try replace hb := BelX.zero hb); (try simp (decide := true) only [go_sem] at hf); (try simp (decide := true) only [go_sem] at hk); go_simp; exact hR _ _ (rpost_val rfl rfl (Below.refl _ _) rfl)
        case oR2_4 =>
          intro f lo hi w hb hx hf hk hrg R hR; (try replace hb := BelX.zero hb); (try simp (decide := true) only [go_sem] at hf); (try simp (decide := true) only [go_sem] at hk)
          obtain ⟨s0, s1, s2, s3, s4, -, -⟩ := (kS.below hb kSl).five
          go_simp
          exact hR _ _ (rpost_val rfl rfl (Below.refl _ _) rfl)
        case oR2_5 =>
          intro f lo hi w hb hx hf hk hrg R hR; (try replace hb := BelX.zero hb); (try simp (decide := true) only [go_sem] at hf); (try simp (decide := true) only [go_sem] at hk)
          obtain ⟨la2, lc2, na2, nc2, h57, -⟩ := hf
          go_simp
          refine hR _ _ (rpost_none rfl (Below.refl _ _) ?_)
          (try simp (decide := true) only [go_sem])
          exact ⟨la2, lc2, na2, nc2, h57, rfl⟩
        case oR2_6 =>
          intro f lo hi w hb hx hf hk hrg R hR; (try replace hb := BelX.zero hb); (try simp (decide := true) only [go_sem] at hf); (try simp (decide := true) only [go_sem] at hk)
          go_simp
          refine hR _ _ (rpost_none rfl ((RowKit.Below.refl _ _).alloc (Nat.le_refl _) _) ?_)
          (try simp (decide := true) only [go_sem])
          exact ⟨_, rfl, Nat.le_refl _, by simp, Blk.new _ _ _⟩
        case oR2_7 =>
          intro f lo hi w hb hx hf hk hrg R hR; (try replace hb := BelX.zero hb); (try simp (decide := true) only [go_sem] at hf); (try simp (decide := true) only [go_sem] at hk)
          obtain ⟨-, ⟨la2, lc2, na2, nc2, h57, h60⟩, c, h14, q1, q2, kk⟩ := hf
          obtain ⟨a0, a1, a2, a3, a4, fz, -⟩ := kk.five
          have kl := kk.lt
          go_simp
          refine hR _ _ (rpost_some rfl rfl (((((Touch.set w (List.mem_singleton.2 rfl) q1 q2 0 _).trans (Touch.set _ (List.mem_singleton.2 rfl) q1 q2 1 _)).trans (Touch.set _ (List.mem_singleton.2 rfl) q1 q2 2 _)).trans (Touch.set _ (List.mem_singleton.2 rfl) q1 q2 3 _)).trans (Touch.set _ (List.mem_singleton.2 rfl) q1 q2 4 _)) ?_)
          (try simp (decide := true) only [go_sem])
          exact ⟨la2, lc2, na2, nc2, c, h57, h14, q1, q2, kk.set5 _ _ _ _ _⟩
        case hcl =>
          refine ⟨Closed.true _ _ _ _, Closed.true _ _ _ _, ?cR2_2, Closed.true _ _ _ _, Closed.true _ _ _ _, ?cR2_5, ?cR2_6, ?cR2_7, trivial⟩
          all_goals first
            | exact fun f lo hi v b0 b1 w w' h hs hB hown hU hX => by
                obtain ⟨la, lc, na, nc, rfl, h2, h3⟩ := h
                exact ⟨la, lc, na, nc, rfl, h2.keep fun b hb hl _ => hown b hl (h3 b (by rw [hb]; rfl)), h3⟩
            | exact fun f lo hi v b0 b1 w w' h hs hB hown hU hX => by
                obtain ⟨c, rfl, h2, h3, h4⟩ := h
                exact ⟨c, rfl, h2, h3, (hown c h2 h3).trans h4⟩
            | exact fun f lo hi v b0 b1 w w' h hs hB hown hU hX => by
                obtain ⟨la, lc, na, nc, c, h0, h1, h3, h4, h5⟩ := h
                exact ⟨la, lc, na, nc, c, h0, h1, h3, h4, (hU 6 (by simp) c h3 h4).trans h5⟩
            | exact fun _ _ _ _ _ _ _ _ h _ _ _ _ _ => h
        intro f lo hi W8 hbr hx hf hk hrg; (try replace hbr := BelX.zero hbr); clear hx; (try simp (decide := true) only [go_sem] at hf); (try simp (decide := true) only [go_sem] at hk)
        obtain ⟨⟨la2, lc2, na2, nc2, h57, own8, -⟩, la', lc', na', nc', C, h57', h14, C1, C2, kC⟩ := hf
        obtain ⟨rfl, rfl, rfl, rfl⟩ : la2 = la' ∧ lc2 = lc' ∧ na2 = na' ∧ nc2 = nc' := by
          rw [h57] at h57'
          simpa [and_assoc] using h57'
        have r6 := (hrg.out 6 (by simp)).1
        have hCw : wc.heap.size ≤ C := by omega
        have kJ8 := kJ.below hbr kJl
        have kS8 := kS.below hbr kSl
        have kV8 := kV.below hbr kVl
        have kT8 := kT.below hbr kTl
        have hj8 := hjc.below (hbr.mono (by have := hjc.lw; omega))
        have hl8 : Lts W8 0 ps ls la lc := ⟨(hcc.below hbr).lo, hcc.ll, hcc.lok⟩
        have hl2 : Lts W8 0 ps ls la2 lc2 := ⟨own8.mono (Nat.zero_le _), hcc.ll, hcc.lok⟩
        have be8 : RowKit.Below w.heap.size w W8 := (by repeat (first | (with_reducible refine Below.setCell ?_ ?_ _) | (with_reducible refine Below.alloc ?_ ?_ _) | (with_reducible refine Below.drew ?_) | (with_reducible refine below_drewN ?_ _) | (with_reducible exact Below.refl _ _) | (with_reducible refine Below.trans ?_ (Below.mono hbr ?_)) | (with_reducible refine Below.trans ?_ (Below.mono bew ?_)) | (focus (simp; done)) | (focus (simp; omega)) | (focus omega) | (focus (have q0 := Below.size hbr; (try simp at q0); have q1 := Below.size bew; (try simp at q1); (try simp); omega))))
        have hww := bew.size
        clear hrg h57' r6 C1 C2 own8 kJ kS kV kT hjc hcc bew hbr
        go_simp
        clear hk h57 h14
        obtain ⟨c0, c1, c2, c3, c4, cf, cl⟩ := kC.five
        go_upto_region 12 with fail
        obtain ⟨A, hA⟩ : ∃ A, W8.heap.size = A := ⟨_, rfl⟩
        have neC : ∀ {a : Option Addr} {n c : Nat} {l : List (Int × Int)} (o : Nat), Own W8 0 67 2 a n c (liCells l) → a.map (·.block) ≠ some (⟨C, o, none⟩ : Addr).block := fun o h e => h.ne_blk kC (by decide) e
        have hJC : J ≠ C := by omega
        have hJC1 : J + 1 ≠ C := by omega
        have hJC2 : J + 2 ≠ C := by omega
        have hTC : T ≠ C := by omega
        refine wp_named (fun Z => Blk Z J 32 #[.slice (some ⟨jb, 0, none⟩) ps.length jc, .slice (some ⟨jb2, 0, none⟩) ps.length jc2, .int .i64 s] ∧ Blk Z (J + 1) 37 #[.slice la ps.length lc, .int .i64 g, .slice na 2 nc, .int .i64 wt, .bool lat] ∧ Blk Z (J + 2) 39 #[.int .i64 ph, .int .i64 gr, .slice ea ps.length ec] ∧ Blk Z T 39 #[.int .i64 ph2, .int .i64 gr2, .slice (some ⟨E, 0, none⟩) ps.length ps.length] ∧ Blk Z C 37 #[.slice la2 ps.length lc2, .int .i64 0, .slice (some ⟨A, 0, none⟩) 2 2, .int .i64 0, .bool lat] ∧ JAt Z J jb jc jb2 jc2 ps cs s ∧ Lts Z 0 ps ls la lc ∧ Lts Z 0 ps ls la2 lc2 ∧ RowKit.Below w.heap.size w Z) ?_ ?_
        · rw [hA]
          exact ⟨(((kJ8.far hJC _).far hJC _).far hJC _).alloc _, (((kS8.far hJC1 _).far hJC1 _).far hJC1 _).alloc _, (((kV8.far hJC2 _).far hJC2 _).far hJC2 _).alloc _, (((kT8.far hTC _).far hTC _).far hTC _).alloc _, (((kC.set 1 _).set 2 _).set 3 _).alloc _, hj8.below (show RowKit.Below J W8 _ from (by repeat (first | (with_reducible refine Below.setCell ?_ ?_ _) | (with_reducible refine Below.alloc ?_ ?_ _) | (with_reducible refine Below.drew ?_) | (with_reducible refine below_drewN ?_ _) | (with_reducible exact Below.refl _ _) | (focus (simp; done)) | (focus (simp; omega)) | (focus omega)))), ⟨(((hl8.own.far (neC 1 hl8.own) _).far (neC 2 hl8.own) _).far (neC 3 hl8.own) _).alloc _, hl8.ll, hl8.lok⟩, ⟨(((hl2.own.far (neC 1 hl2.own) _).far (neC 2 hl2.own) _).far (neC 3 hl2.own) _).alloc _, hl2.ll, hl2.lok⟩, (by repeat (first | (with_reducible refine Below.setCell ?_ ?_ _) | (with_reducible refine Below.alloc ?_ ?_ _) | (with_reducible refine Below.drew ?_) | (with_reducible refine below_drewN ?_ _) | (with_reducible exact Below.refl _ _) | (with_reducible refine Below.trans ?_ (Below.mono be8 ?_)) | (focus (simp; done)) | (focus (simp; omega)) | (focus omega) | (focus (have q0 := Below.size be8; (try simp at q0); (try simp); omega))))⟩
        clear kJ8 kS8 kV8 kT8 kC hj8 hl8 hl2 be8 neC c0 c1 c2 c3 c4 cf cl hA hJC hJC1 hJC2 hTC
        rintro Z ⟨kJ, kS, kV, kT, kC, hjz, hl1, hl2, bez⟩
        have kJl := kJ.lt
        have kSl := kS.lt
        have kVl := kV.lt
        have kTl := kT.lt
        have kCl := kC.lt
        obtain ⟨ov, hov⟩ : ∃ ov, (!lat && (ph != -1)) = ov := ⟨_, rfl⟩
        have hov2 : (!lat && (ph2 != -1)) = ov := by rw [HPP.out]; exact hov
        obtain ⟨CS, hCS⟩ : ∃ CS, ofC lat ls = CS := ⟨_, rfl⟩
        obtain ⟨NS, hNS⟩ : ∃ NS, ofN lat ps ls = NS := ⟨_, rfl⟩
        have HO1 : ∀ W, RowKit.Below Z.heap.size Z W → Calls Try.prog 19 #[jAgg jb jc jb2 jc2 ps.length s, sAgg la ps.length lc g na 2 nc wt lat, .agg #[.int .i64 ph, .int .i64 gr, .slice ea ps.length ec]] W (VwR lat ov ps.length CS NS W) := fun W h => by
          have := rec_Of J jb jc jb2 jc2 ps cs s 0 ls la lc g wt na 2 nc lat ph gr ea ps.length ec W (hjz.below (h.mono (by have := hjz.lw; omega))) ⟨hl1.own.below h (Nat.le_refl _), hl1.ll, hl1.lok⟩
          rwa [hov, hCS, hNS] at this
        have HO2 : ∀ W, RowKit.Below Z.heap.size Z W → Calls Try.prog 19 #[jAgg jb jc jb2 jc2 ps.length s, sAgg la2 ps.length lc2 0 (some ⟨A, 0, none⟩) 2 2 0 lat, .agg #[.int .i64 ph2, .int .i64 gr2, .slice (some ⟨E, 0, none⟩) ps.length ps.length]] W (VwR lat ov ps.length CS NS W) := fun W h => by
          have := rec_Of J jb jc jb2 jc2 ps cs s 0 ls la2 lc2 0 0 (some ⟨A, 0, none⟩) 2 2 lat ph2 gr2 (some ⟨E, 0, none⟩) ps.length ps.length W (hjz.below (h.mono (by have := hjz.lw; omega))) ⟨hl2.own.below h (Nat.le_refl _), hl2.ll, hl2.lok⟩
          rwa [hov2, hCS, hNS] at this
        have HO1 := Lib.hid HO1
        have HO2 := Lib.hid HO2
        clear hov hov2 hCS hNS hjz hl1 hl2
        apply wp_region_tab [] 15 82 [some 68, some 69, some 70, some 71, some 72, some 73, some 74, some 75, some 76, some 77, some 78, some 79, some 80, some 81, some 8] [⟨[], [], [], []⟩, ⟨[], [], [], []⟩, ⟨[], [], [], []⟩, ⟨[0, 1, 2], [0, 1, 2], [0, 1, 2], []⟩, ⟨[0, 1, 2, 3], [3], [3], []⟩, ⟨[], [], [], []⟩, ⟨[], [], [], []⟩, ⟨[], [], [], []⟩, ⟨[0, 1, 2, 3, 5, 6, 7], [5, 6, 7], [5, 6, 7], []⟩, ⟨[0, 1, 2, 3, 5, 6, 7, 8], [8], [8], []⟩, ⟨[0, 1, 2, 3, 4, 5, 6, 7, 8, 9], [3, 4, 8, 9], [3, 4, 8, 9], []⟩, ⟨[0, 1, 2, 3, 4, 5, 6, 7, 8, 9, 10], [10], [10], []⟩, ⟨[0, 1, 2, 3, 4, 5, 6, 7, 8, 9, 10, 11], [11], [11], []⟩, ⟨[0, 1, 2, 3, 4, 5, 6, 7, 8, 9, 10, 11, 12], [11, 12], [11, 12], []⟩, ⟨[0, 1, 2, 3, 4, 5, 6, 7, 8, 9, 10, 11, 12, 13], [13], [13], []⟩] [0, 1, 2, 3, 4, 5, 6, 7, 8, 9, 10, 11, 12, 13, 14] [] [psiTrue, psiTrue, psiTrue, (fun f lo hi v b0 b1 W => VW lat ov ps.length CS NS v b0 b1 W), (fun f lo hi v b0 b1 W => VS1 lat ov ps.length (f 3) v b0 b1 W), psiTrue, psiTrue, psiTrue, (fun f lo hi v b0 b1 W => VW lat ov ps.length CS NS v b0 b1 W), (fun f lo hi v b0 b1 W => VS1 lat ov ps.length (f 8) v b0 b1 W), psiTrue, psiTrue, psiTrue, psiTrue, psiTrue] [kVal _, kVal _, kVal _, kTrue, kTrue, kVal _, kVal _, kVal _, kTrue, kTrue, kVal _, kVal _, kVal _, kVal _, kVal _]
        · kernel_rfl
        · kernel_rfl
        · rfl
        · rfl
        · exact trivial
        · exact trivial
        refine ⟨?oR3_0, ?oR3_1, ?oR3_2, ?oR3_3, ?oR3_4, ?oR3_5, ?oR3_6, ?oR3_7, ?oR3_8, ?oR3_9, ?oR3_10, ?oR3_11, ?oR3_12, ?oR3_13, ?oR3_14, trivial⟩
        case oR3_0 =>
          intro f lo hi w hb hx hf hk hrg R hR; (try replace hb := BelX.zero hb); (try simp (decide := true) only [go_sem] at hf); (try simp (decide := true) only [go_sem] at hk)
          have kk := kJ.below hb kJl
          obtain ⟨j0, j1, j2⟩ : w.cell? ⟨J, 0, none⟩ = _ ∧ w.cell? ⟨J, 1, none⟩ = _ ∧ w.cell? ⟨J, 2, none⟩ = _ := ⟨kk.cell 0, kk.cell 1, kk.cell 2⟩
          go_simp
          exact hR _ _ (rpost_val rfl rfl (Below.refl _ _) rfl)
        case oR3_1 =>
          intro f lo hi w hb hx hf hk hrg R hR; (try replace hb := BelX.zero hb); (try simp (decide := true) only [go_sem] at hf); (try simp (decide := true) only [go_sem] at hk)
          obtain ⟨s0, s1, s2, s3, s4, -, -⟩ := (kS.below hb kSl).five
          go_simp
          exact hR _ _ (rpost_val rfl rfl (Below.refl _ _) rfl)
        case oR3_2 =>
          intro f lo hi w hb hx hf hk hrg R hR; (try replace hb := BelX.zero hb); (try simp (decide := true) only [go_sem] at hf); (try simp (decide := true) only [go_sem] at hk)
          have kk := kV.below hb kVl
          obtain ⟨j0, j1, j2⟩ : w.cell? ⟨J + 2, 0, none⟩ = _ ∧ w.cell? ⟨J + 2, 1, none⟩ = _ ∧ w.cell? ⟨J + 2, 2, none⟩ = _ := ⟨kk.cell 0, kk.cell 1, kk.cell 2⟩
          go_simp
          exact hR _ _ (rpost_val rfl rfl (Below.refl _ _) rfl)
        case oR3_3 =>
          intro f lo hi w hb hx hf hk hrg R hR; (try replace hb := BelX.zero hb); (try simp (decide := true) only [go_sem] at hf); (try simp (decide := true) only [go_sem] at hk)
          go_simp
          (with_reducible refine (HO1.out _ hb).mono ?_)
          rintro e w' ⟨ca, cc, da, dc, rfl, o1, o2, hb2⟩
          exact ⟨_, rfl, hR _ _ (rpost_none rfl hb2 (VW.of o1 o2))⟩
        case oR3_4 =>
          intro f lo hi w hb hx hf hk hrg R hR; (try replace hb := BelX.zero hb); (try simp (decide := true) only [go_sem] at hf); (try simp (decide := true) only [go_sem] at hk)
          obtain ⟨ca, cc, da, dc, h71, o1, o2, -, -⟩ := hf
          go_simp
          refine hR _ _ (rpost_none rfl ((RowKit.Below.refl _ _).alloc (Nat.le_refl _) _) ?_)
          (try simp (decide := true) only [go_sem])
          exact ⟨_, ca, cc, da, dc, h71, rfl, Nat.le_refl _, by simp, Blk.new _ _ _⟩
        case oR3_5 =>
          intro f lo hi w hb hx hf hk hrg R hR; (try replace hb := BelX.zero hb); (try simp (decide := true) only [go_sem] at hf); (try simp (decide := true) only [go_sem] at hk)
          have kk := kJ.below hb kJl
          obtain ⟨j0, j1, j2⟩ : w.cell? ⟨J, 0, none⟩ = _ ∧ w.cell? ⟨J, 1, none⟩ = _ ∧ w.cell? ⟨J, 2, none⟩ = _ := ⟨kk.cell 0, kk.cell 1, kk.cell 2⟩
          go_simp
          exact hR _ _ (rpost_val rfl rfl (Below.refl _ _) rfl)
        case oR3_6 =>
          intro f lo hi w hb hx hf hk hrg R hR; (try replace hb := BelX.zero hb); (try simp (decide := true) only [go_sem] at hf); (try simp (decide := true) only [go_sem] at hk)
          obtain ⟨s0, s1, s2, s3, s4, -, -⟩ := (kC.below hb kCl).five
          go_simp
          exact hR _ _ (rpost_val rfl rfl (Below.refl _ _) rfl)
        case oR3_7 =>
          intro f lo hi w hb hx hf hk hrg R hR; (try replace hb := BelX.zero hb); (try simp (decide := true) only [go_sem] at hf); (try simp (decide := true) only [go_sem] at hk)
          have kk := kT.below hb kTl
          obtain ⟨j0, j1, j2⟩ : w.cell? ⟨T, 0, none⟩ = _ ∧ w.cell? ⟨T, 1, none⟩ = _ ∧ w.cell? ⟨T, 2, none⟩ = _ := ⟨kk.cell 0, kk.cell 1, kk.cell 2⟩
          go_simp
          exact hR _ _ (rpost_val rfl rfl (Below.refl _ _) rfl)
        case oR3_8 =>
          intro f lo hi w hb hx hf hk hrg R hR; (try replace hb := BelX.zero hb); (try simp (decide := true) only [go_sem] at hf); (try simp (decide := true) only [go_sem] at hk)
          go_simp
          (with_reducible refine (HO2.out _ hb).mono ?_)
          rintro e w' ⟨ca, cc, da, dc, rfl, o1, o2, hb2⟩
          exact ⟨_, rfl, hR _ _ (rpost_none rfl hb2 (VW.of o1 o2))⟩
        case oR3_9 =>
          intro f lo hi w hb hx hf hk hrg R hR; (try replace hb := BelX.zero hb); (try simp (decide := true) only [go_sem] at hf); (try simp (decide := true) only [go_sem] at hk)
          obtain ⟨ca, cc, da, dc, h71, o1, o2, -, -⟩ := hf
          go_simp
          refine hR _ _ (rpost_none rfl ((RowKit.Below.refl _ _).alloc (Nat.le_refl _) _) ?_)
          (try simp (decide := true) only [go_sem])
          exact ⟨_, ca, cc, da, dc, h71, rfl, Nat.le_refl _, by simp, Blk.new _ _ _⟩
        case oR3_10 =>
          intro f lo hi w hb hx hf hk hrg R hR; (try replace hb := BelX.zero hb); (try simp (decide := true) only [go_sem] at hf); (try simp (decide := true) only [go_sem] at hk)
          obtain ⟨g1, g2, g3, g4⟩ := hf
          go_simp
          (with_reducible refine (same_one g1 g2 g3 g4 (by omega)).mono ?_)
          rintro e w' ⟨rfl, hb2⟩
          exact ⟨_, rfl, hR _ _ (rpost_val rfl rfl hb2 rfl)⟩
        case oR3_11 => intro f lo hi w hb hx hf hk hrg R hR; (try replace hb := BelX.zero hb); (try simp (decide := true) only [go_sem] at hf); (try simp (decide := true) only [go_sem] at hk); go_simp; exact hR _ _ (rpost_val rfl rfl (Below.refl _ _) rfl)
        case oR3_12 =>
          intro f lo hi w hb hx hf hk hrg R hR; (try replace hb := BelX.zero hb); (try simp (decide := true) only [go_sem] at hf); (try simp (decide := true) only [go_sem] at hk)
          go_simp
          (with_reducible refine (awake_yes _).mono ?_)
          rintro e w' ⟨rfl, hb2⟩
          exact ⟨_, rfl, hR _ _ (rpost_val rfl rfl hb2 rfl)⟩
        case oR3_13 => intro f lo hi w hb hx hf hk hrg R hR; (try replace hb := BelX.zero hb); (try simp (decide := true) only [go_sem] at hf); (try simp (decide := true) only [go_sem] at hk); go_simp; exact hR _ _ (rpost_val rfl rfl (Below.refl _ _) rfl)
        case oR3_14 => intro f lo hi w hb hx hf hk hrg R hR; (try replace hb := BelX.zero hb); (try simp (decide := true) only [go_sem] at hf); (try simp (decide := true) only [go_sem] at hk); go_simp; exact hR _ _ (rpost_val rfl rfl (Below.refl _ _) rfl)
        case hcl =>
          refine ⟨Closed.true _ _ _ _, Closed.true _ _ _ _, Closed.true _ _ _ _, ?cR3_3, ?cR3_4, Closed.true _ _ _ _, Closed.true _ _ _ _, Closed.true _ _ _ _, ?cR3_8, ?cR3_9, Closed.true _ _ _ _, Closed.true _ _ _ _, Closed.true _ _ _ _, Closed.true _ _ _ _, Closed.true _ _ _ _, trivial⟩
          all_goals first
            | exact fun f lo hi v b0 b1 w w' h hs hB hown hU hX => VW.keep h fun q h1 h2 => hown q h1 h2
            | exact fun f lo hi v b0 b1 w w' h hs hB hown hU hX => by
                obtain ⟨b, ca, cc, na, nc, h1, h2, h3, h4, k⟩ := h
                exact ⟨b, ca, cc, na, nc, h1, h2, h3, h4, (hown b h3 h4).trans k⟩
        intro f lo hi W9 hbr hx hf hk hrg; (try replace hbr := BelX.zero hbr); clear hx; (try simp (decide := true) only [go_sem] at hf); (try simp (decide := true) only [go_sem] at hk)
        clear hrg
        go_simp
        clear hk
        go_wp2
        go_ret
        exact ⟨rfl, (by repeat (first | (with_reducible refine Below.setCell ?_ ?_ _) | (with_reducible refine Below.alloc ?_ ?_ _) | (with_reducible refine Below.drew ?_) | (with_reducible refine below_drewN ?_ _) | (with_reducible exact Below.refl _ _) | (with_reducible refine Below.trans ?_ (Below.mono hbr ?_)) | (with_reducible refine Below.trans ?_ (Below.mono bez ?_)) | (focus (simp; done)) | (focus (simp; omega)) | (focus omega) | (focus (have q0 := Below.size hbr; (try simp at q0); have q1 := Below.size bez; (try simp at q1); (try simp); omega))))⟩
end Go.Proofs.Ytdkifkbnkedbpaa
