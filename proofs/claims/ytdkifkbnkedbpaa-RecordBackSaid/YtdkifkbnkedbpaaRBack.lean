/- RecordBack: the walk (written by gen/mkrec.py out of gen/rec-back.txt) -/
import Derived.Test.YtdkifkbnkedbpaaRSz
import Derived.Test.YtdkifkbnkedbpaaSpoilt
namespace Go.Proofs.Ytdkifkbnkedbpaa
set_option linter.unusedVariables false
open Go.RowKit Go.Sort
set_option maxRecDepth 100000

theorem sum_keys : ∀ (its : List Vx), (∀ v ∈ its, OkB v.key) → ((bytesOf (its.map Vx.key)).length : Int) = ((szL its).map (3 + ·)).sum := fun its h => (pRun_some _ _ _ (szL_bytes h)).2.2.2.2
set_option maxHeartbeats 16000000 in
theorem recordBack_walk (a0 : Option Addr) (c0 : Nat) (l0 : List Int) (n at_ by_ : Int) (w : World) (h0 : Ints w a0 l0) (n0 : l0.length ≤ 9223372036854775807) :
    Calls Try.prog 5 #[.slice a0 l0.length c0, .int .i64 n, .int .i64 at_, .int .i64 by_] w fun e w' => e = .returned (.bool true) ∧ RowKit.Below w.heap.size w w' := by
  obtain ⟨m, HM, hm0, hm3⟩ := modName n 4 (by decide)
  have HOLD := Lib.hid (ints_old h0)
  go_enter Try.func5, Try.ntmps5
  go_wp2_with (first | (go_at_call 10; (with_reducible refine (mk_New a0 c0 l0 _ h0 n0).mono ?_); rintro e w1 ⟨rfl, hd1, hb1⟩) | (go_at_call 11; (with_reducible refine (mk_ModE HM.out _ (by decide) (by decide)).mono ?_); rintro e w2 ⟨rfl, rfl⟩))
  obtain ⟨N, hN⟩ : ∃ N : Nat, (N : Int) = 1 + m := ⟨(1 + m).toNat, by omega⟩
  have hN3 : 1 ≤ N ∧ N ≤ 4 := by omega
  rw [← hN]
  have hz1 := hb1.size
  have hd1' := hd1.lt
  obtain ⟨p, hp⟩ : ∃ p, w.heap.size = p := ⟨_, rfl⟩
  rw [hp] at hd1 hb1 hz1 hd1' ⊢
  obtain ⟨B, hB⟩ : ∃ B, w1.heap.size = B := ⟨_, rfl⟩
  have HB := Lib.hid hB
  have hpB : p < B := by omega
  clear hN hB
  go_loopw [10, 11, 12, 27] (fun s10 s11 s12 s27 wr => ∃ (i k : Nat) (its : List Vx) (va : Option Addr) (vc : Nat) (sa : Option Addr) (sc : Nat) (SZ : Int), s10 = .slice va i vc ∧ s11 = .slice sa i sc ∧ s12 = .int .i64 SZ ∧ s27 = .int .i64 i ∧ i ≤ N ∧ its.length = i ∧ SZ = ((szL its).map (3 + ·)).sum ∧ VSz p wr B its va vc sa sc ∧ DeckAt wr p ⟨a0, c0, l0⟩ k ∧ w1.grownBy wr (some p)) (fun _ _ _ i _ => N - (intOf i).toNat)
  case atStart => exact ⟨0, 0, [], none, 0, none, 0, 0, rfl, rfl, rfl, rfl, by omega, rfl, rfl, VSz.nil _ _ _, hd1, World.grownBy.refl _ _⟩
  case round =>
    clear hd1 hz1 hd1'
    obtain ⟨i, k, its, va, vc, sa, sc, SZ, rfl, rfl, rfl, rfl, hi, hil, hSZ, vs, hd, gw⟩ := hrel
    have hSZb : 0 ≤ SZ ∧ SZ ≤ 11 * (i : Int) := by
      have h1 := bytesOf_len (its.map Vx.key) (fun v hv => by obtain ⟨x, hx, rfl⟩ := List.mem_map.1 hv; exact (vs.vd.ok x hx).ok)
      have h2 := sum_keys its vs.vd.ok
      rw [List.length_map, hil] at h1
      omega
    have HIL := Lib.hid hil
    have HSZ := Lib.hid hSZ
    clear hil hSZ
    have hBr : B ≤ wr.heap.size := by have := gw.size; have := HB.out; omega
    have HVA := Lib.hid (show ∀ q, va.map (·.block) = some q → q < wr.heap.size from vs.vd.l.own.lt')
    have HSA := Lib.hid (show ∀ q, sa.map (·.block) = some q → q < wr.heap.size from vs.own.lt')
    by_cases hlt : i < N
    · have iN : (i : Int) < (N : Int) := by omega
      go_upto_region 8 with ((go_at_call 12; (with_reducible refine (law_signalJ p _ k _ hd).mono ?_); rintro e w2 ⟨k2, jb, jc, jb2, jc2, ps, cs, s, ls, nx, g, wt, la, lc, na, nc, lat, ph, gr, es, ea, ec, rfl, hj, hcv, q0, q1, hd2, g2, hjb, hjb2⟩))
      obtain ⟨J, hJ⟩ : ∃ J, w2.heap.size = J := ⟨_, rfl⟩
      refine wp_named (fun U => Blk U J 32 #[.slice (some ⟨jb, 0, none⟩) ps.length jc, .slice (some ⟨jb2, 0, none⟩) ps.length jc2, .int .i64 s] ∧ Blk U (J + 1) 37 #[.slice la ps.length lc, .int .i64 g, .slice na 2 nc, .int .i64 wt, .bool lat] ∧ Blk U (J + 2) 39 #[.int .i64 ph, .int .i64 gr, .slice ea ps.length ec] ∧ RowKit.Below w2.heap.size w2 U ∧ J + 3 ≤ U.heap.size) ?_ ?_
      · obtain ⟨t1, t2, t3, t4⟩ := three_at w2 #[.slice (some ⟨jb, 0, none⟩) ps.length jc, .slice (some ⟨jb2, 0, none⟩) ps.length jc2, .int .i64 s] #[.slice la ps.length lc, .int .i64 g, .slice na 2 nc, .int .i64 wt, .bool lat] #[.int .i64 ph, .int .i64 gr, .slice ea ps.length ec] 32 37 39
        rw [← hJ]
        exact ⟨t2, t3, t4, t1, by simp⟩
      rintro U ⟨kJ, kS, kV, bU, hJz⟩
      have hjU := hj.below (base := w2.heap.size) bU
      have hcU := hcv.below bU
      have hdU := hd2.below bU
      have gU := (gw.trans g2).trans (bU.grown_any (some p))
      have vsU := (vs.grown g2 hpB).below bU
      have hBJ : B ≤ J := by have := g2.size; omega
      have hwJ : wr.heap.size ≤ J := by have := g2.size; omega
      have hok := ofK_ok lat (!lat && (ph != -1)) hjU.n1.2 hjU.ok hcU.ll hcU.lok
      have hn := hjU.n1
      rw [hJ] at hjU ⊢
      clear hJ hj hcv hd2 g2 bU vs gw hd
      obtain ⟨ov, hov⟩ : ∃ ov, (!lat && (ph != -1)) = ov := ⟨_, rfl⟩
      obtain ⟨CS, hCS⟩ : ∃ CS, ofC lat ls = CS := ⟨_, rfl⟩
      obtain ⟨NS, hNS⟩ : ∃ NS, ofN lat ps ls = NS := ⟨_, rfl⟩
      have HO1 : ∀ W, (∀ q, q < U.heap.size → wr.heap.size ≤ q → W.heap[q]? = U.heap[q]?) → U.heap.size ≤ W.heap.size → Calls Try.prog 19 #[jAgg jb jc jb2 jc2 ps.length s, sAgg la ps.length lc g na 2 nc wt lat, .agg #[.int .i64 ph, .int .i64 gr, .slice ea ps.length ec]] W (VwR lat ov ps.length CS NS W) := fun W h hs => by
        have hjW : JAt W J jb jc jb2 jc2 ps cs s := ⟨hjU.ph.keep fun b off e hl => by injection e with e; injection e with e _ _; subst e; exact h _ hl hjb, Row.keep hjU.cf fun b off e hl => by injection e with e; injection e with e _ _; subst e; exact h _ hl hjb2, hjU.lb, hjU.lb2, Nat.le_trans hjU.lw hs, hjU.n1, hjU.cl, hjU.ok, hjU.s0⟩
        have := rec_Of J jb jc jb2 jc2 ps cs s 0 ls la lc g wt na 2 nc lat ph gr ea ps.length ec W hjW ⟨(hcU.lo.keep fun b _ hl hl2 => h b hl2 hl).mono (Nat.zero_le _), hcU.ll, hcU.lok⟩
        rwa [hov, hCS, hNS] at this
      rw [hov, hCS, hNS] at hok
      have HO1 := Lib.hid HO1
      have HOK := Lib.hid hok
      have HHD := Lib.hid hdU
      have HHV := Lib.hid vsU
      have HHG := Lib.hid gU
      clear hov hCS hNS hjU hcU hok hdU gU
      have kJl := kJ.lt
      have kSl := kS.lt
      have kVl := kV.lt
      obtain ⟨gl, gh, g1, g2, g3, g4, g5⟩ := vsU.vd.l.own.range
      obtain ⟨kl, kh, k1, k2', k3, k4, k5⟩ := vsU.own.range
      have hdis : gh ≤ kl ∨ kh ≤ gl := by
        have ap := vsU.vd.l.own.apart2 vsU.own (by decide)
        rcases Nat.lt_or_ge gl gh with h1 | h1
        · rcases Nat.lt_or_ge kl kh with h2 | h2
          · have := ap gl ((g5 gl).2 ⟨by omega, h1⟩)
            have h3 : kl ≠ gl := fun e => this ((k5 gl).2 ⟨by omega, by omega⟩)
            omega
          · omega
        · omega
      have G5 := Lib.hid g5
      have K5 := Lib.hid k5
      have GNJ : ∀ q, J ≤ q → q < J + 3 → ¬ (gl ≤ q ∧ q < gh) ∧ ¬ (kl ≤ q ∧ q < kh) := fun q h1 h2 => by
        constructor
        · intro hh
          have e := HVA.out q ((g5 q).2 hh)
          omega
        · intro hh
          have e := HSA.out q ((k5 q).2 hh)
          omega
      have hgw : gh ≤ wr.heap.size ∧ kh ≤ wr.heap.size := by
        constructor
        · rcases g4 with ⟨e1, e2⟩ | ⟨e1, e2⟩
          · omega
          · have := HVA.out gl ((g5 gl).2 (by omega)); omega
        · rcases k4 with ⟨e1, e2⟩ | ⟨e1, e2⟩
          · omega
          · have := HSA.out kl ((k5 kl).2 (by omega)); omega
      have hJ0 := GNJ J (by omega) (by omega)
      have hJ1 := GNJ (J + 1) (by omega) (by omega)
      have hJ2 := GNJ (J + 2) (by omega) (by omega)
      have oV : Own U B 43 4 va i vc (vxCells its) := by have h := vsU.vd.l.own; rw [HIL.out] at h; exact h
      have oS : Own U B 3 1 sa i sc ((szL its).map encI) := by have h := vsU.own; rw [HIL.out] at h; exact h
      clear g5 k5 GNJ vsU
      apply wp_region_tab [(gl, gh), (kl, kh)] 15 100 [some 35, some 36, some 37, some 38, some 39, some 40, some 41, some 42, some 43, some 44, some 45, some 46, some 47, some 10, some 11] [⟨[15, 16], [], [], []⟩, ⟨[15, 16], [], [], []⟩, ⟨[15, 16], [], [], []⟩, ⟨[15, 16], [], [], []⟩, ⟨[1, 2, 3, 15, 16], [1, 2, 3], [1, 2, 3], []⟩, ⟨[1, 2, 3, 4, 15, 16], [4], [4], []⟩, ⟨[0, 1, 2, 3, 4, 5, 15, 16], [0, 4, 5, 15], [0, 4, 5, 15], [15]⟩, ⟨[15, 16], [], [], []⟩, ⟨[15, 16], [], [], []⟩, ⟨[8, 15, 16], [8], [8], []⟩, ⟨[8, 9, 15, 16], [9], [9], []⟩, ⟨[8, 9, 10, 15, 16], [10], [10], []⟩, ⟨[0, 1, 2, 3, 4, 5, 6, 7, 8, 9, 10, 11, 15, 16], [7, 11, 16], [7, 11, 16], [16]⟩, ⟨[0, 1, 2, 3, 4, 5, 6, 7, 8, 9, 10, 11, 12, 15, 16], [6], [6], []⟩, ⟨[0, 1, 2, 3, 4, 5, 6, 7, 8, 9, 10, 11, 12, 13, 15, 16], [12], [12], []⟩, ⟨[], [], [], []⟩, ⟨[], [], [], []⟩] [0, 1, 2, 3, 4, 5, 6, 7, 8, 9, 10, 11, 12, 13, 14] [4, 6, 12, 13, 14] [psiTrue, psiTrue, psiTrue, psiTrue, (fun f lo hi v b0 b1 W => VW lat ov ps.length CS NS v b0 b1 W), (fun f lo hi v b0 b1 W => VS1 lat ov ps.length (f 4) v b0 b1 W), (fun f lo hi v b0 b1 W => ∃ (ca : Option Addr) (cc : Nat) (na : Option Addr) (nc : Nat) (a : Option Addr) (c : Nat), f 4 = vAgg lat ov ps.length ca cc na nc ∧ v = .slice a (i + 1) c ∧ Own W B 43 4 a (i + 1) c (vxCells its ++ [.bool lat, .bool ov, .slice ca ps.length cc, .slice na ps.length nc]) ∧ ∀ k, a.map (·.block) = some k → (gl ≤ k ∧ k < gh) ∨ (b0 ≤ k ∧ k < b1)), psiTrue, psiTrue, psiTrue, psiTrue, (fun f lo hi v b0 b1 W => ∃ b : Nat, v = .slice (some ⟨b, 0, none⟩) 1 1 ∧ b0 ≤ b ∧ b < b1 ∧ Blk W b 3 #[.int .i64 ps.length]), (fun f lo hi v b0 b1 W => ∃ (a : Option Addr) (c : Nat), v = .slice a (i + 1) c ∧ Own W B 3 1 a (i + 1) c ((szL its ++ [(ps.length : Int)]).map encI) ∧ ∀ k, a.map (·.block) = some k → (kl ≤ k ∧ k < kh) ∨ (b0 ≤ k ∧ k < b1)), (fun f _ _ v _ _ _ => v = f 6), (fun f _ _ v _ _ _ => v = f 12), (fun f lo hi v b0 b1 W => (b0 = gl ∧ b1 = gh) ∧ Own W B 43 4 va i vc (vxCells its)), (fun f lo hi v b0 b1 W => (b0 = kl ∧ b1 = kh) ∧ Own W B 3 1 sa i sc ((szL its).map encI))] [kVal _, kVal _, kVal _, kVal _, kTrue, kTrue, kTrue, kVal _, kVal _, kVal _, kVal _, kTrue, kTrue, kTrue, kTrue]
      · kernel_rfl
      · kernel_rfl
      · rfl
      · rfl
      rotate_left 2
      refine ⟨?oR1_0, ?oR1_1, ?oR1_2, ?oR1_3, ?oR1_4, ?oR1_5, ?oR1_6, ?oR1_7, ?oR1_8, ?oR1_9, ?oR1_10, ?oR1_11, ?oR1_12, ?oR1_13, ?oR1_14, trivial⟩
      case hx => exact ⟨⟨by omega, by omega⟩, by simp; omega, ⟨by omega, by omega⟩, by simp, trivial⟩
      case hX => exact ⟨fun _ _ _ _ => ⟨⟨rfl, rfl⟩, oV⟩, fun _ _ _ _ => ⟨⟨rfl, rfl⟩, oS⟩, trivial⟩
      case oR1_0 => intro f lo hi w hb hx hf hk hrg R hR; (try replace hb := BelX.zero hb); (try simp (decide := true) only [go_sem] at hf); (try simp (decide := true) only [go_sem] at hk); go_simp; exact hR _ _ (rpost_val rfl rfl (Below.refl _ _) rfl)
      case oR1_1 =>
        intro f lo hi w hb hx hf hk hrg R hR; (try replace hb := BelX.zero hb); (try simp (decide := true) only [go_sem] at hf); (try simp (decide := true) only [go_sem] at hk)
        have kk := hb.blk kJ (fun r hr => by simp at hr; rcases hr with rfl | rfl <;> simp only <;> omega)
        obtain ⟨j0, j1, j2⟩ : w.cell? ⟨J, 0, none⟩ = _ ∧ w.cell? ⟨J, 1, none⟩ = _ ∧ w.cell? ⟨J, 2, none⟩ = _ := ⟨kk.cell 0, kk.cell 1, kk.cell 2⟩
        go_simp
        exact hR _ _ (rpost_val rfl rfl (Below.refl _ _) rfl)
      case oR1_2 =>
        intro f lo hi w hb hx hf hk hrg R hR; (try replace hb := BelX.zero hb); (try simp (decide := true) only [go_sem] at hf); (try simp (decide := true) only [go_sem] at hk)
        obtain ⟨s0, s1, s2, s3, s4, -, -⟩ := (hb.blk kS (fun r hr => by simp at hr; rcases hr with rfl | rfl <;> simp only <;> omega)).five
        go_simp
        exact hR _ _ (rpost_val rfl rfl (Below.refl _ _) rfl)
      case oR1_3 =>
        intro f lo hi w hb hx hf hk hrg R hR; (try replace hb := BelX.zero hb); (try simp (decide := true) only [go_sem] at hf); (try simp (decide := true) only [go_sem] at hk)
        have kk := hb.blk kV (fun r hr => by simp at hr; rcases hr with rfl | rfl <;> simp only <;> omega)
        obtain ⟨j0, j1, j2⟩ : w.cell? ⟨J + 2, 0, none⟩ = _ ∧ w.cell? ⟨J + 2, 1, none⟩ = _ ∧ w.cell? ⟨J + 2, 2, none⟩ = _ := ⟨kk.cell 0, kk.cell 1, kk.cell 2⟩
        go_simp
        exact hR _ _ (rpost_val rfl rfl (Below.refl _ _) rfl)
      case oR1_4 =>
        intro f lo hi w hb hx hf hk hrg R hR; (try replace hb := BelX.zero hb); (try simp (decide := true) only [go_sem] at hf); (try simp (decide := true) only [go_sem] at hk)
        have hq := HO1.out w (fun q h1 h2 => hb.2.2.2.2 q ⟨h1, fun r hr => by simp at hr; rcases hr with rfl | rfl <;> simp only <;> omega⟩) hb.2.2.2.1
        go_simp
        (with_reducible refine hq.mono ?_)
        rintro e w' ⟨ca, cc, da, dc, rfl, o1, o2, hb2⟩
        exact ⟨_, rfl, hR _ _ (rpost_none rfl hb2 (VW.of o1 o2))⟩
      case oR1_5 =>
        intro f lo hi w hb hx hf hk hrg R hR; (try replace hb := BelX.zero hb); (try simp (decide := true) only [go_sem] at hf); (try simp (decide := true) only [go_sem] at hk)
        obtain ⟨ca, cc, da, dc, h71, o1, o2, -, -⟩ := hf
        go_simp
        refine hR _ _ (rpost_none rfl ((RowKit.Below.refl _ _).alloc (Nat.le_refl _) _) ?_)
        (try simp (decide := true) only [go_sem])
        exact ⟨_, ca, cc, da, dc, h71, rfl, Nat.le_refl _, by simp, Blk.new _ _ _⟩
      case oR1_6 =>
        intro f lo hi w hb hx hf hk hrg R hR; (try replace hb := BelX.zero hb); (try simp (decide := true) only [go_sem] at hf); (try simp (decide := true) only [go_sem] at hk)
        obtain ⟨-, ⟨bq, ca, cc, da, dc, h71, hbq, -, -, kk⟩, ⟨-, -⟩, own⟩ := hf
        have hsz : U.heap.size ≤ w.heap.size := hb.2.2.2.1
        refine obl_appV B va i vc (vxCells its) ?_ bq (.bool lat) (.bool ov) (.slice ca ps.length cc) (.slice da ps.length dc) ?_ kk own ⟨rfl, rfl, rfl, rfl⟩ (by omega) (by omega) ?_
        · go_simp
        · go_simp
        intro b2 c2 w2 own2 gr2
        refine hR _ _ (rpost_some rfl rfl (Grew.touch gr2 fun k hk' => ⟨15, by simp, ?_⟩) ?_)
        · obtain ⟨q1, q2⟩ : lo 15 = gl ∧ hi 15 = gh := XOk.get _ _ hx 0 _ rfl
          have h4 := (G5.out k).1 hk'
          omega
        (try simp (decide := true) only [go_sem])
        refine ⟨ca, cc, da, dc, _, _, h71, rfl, own2, fun k hk' => ?_⟩
        rcases gr2.2.1 with e | e
        · exact .inl ((G5.out k).1 (e ▸ hk'))
        · rw [e] at hk'
          exact .inr ⟨by injection hk' with hk'; omega, own2.lt' k (e ▸ hk')⟩
      case oR1_7 => intro f lo hi w hb hx hf hk hrg R hR; (try replace hb := BelX.zero hb); (try simp (decide := true) only [go_sem] at hf); (try simp (decide := true) only [go_sem] at hk); go_simp; exact hR _ _ (rpost_val rfl rfl (Below.refl _ _) rfl)
      case oR1_8 => intro f lo hi w hb hx hf hk hrg R hR; (try replace hb := BelX.zero hb); (try simp (decide := true) only [go_sem] at hf); (try simp (decide := true) only [go_sem] at hk); go_simp; exact hR _ _ (rpost_val rfl rfl (Below.refl _ _) rfl)
      case oR1_9 =>
        intro f lo hi w hb hx hf hk hrg R hR; (try replace hb := BelX.zero hb); (try simp (decide := true) only [go_sem] at hf); (try simp (decide := true) only [go_sem] at hk)
        have kk := hb.blk kJ (fun r hr => by simp at hr; rcases hr with rfl | rfl <;> simp only <;> omega)
        have j0 : w.cell? ⟨J, 0, none⟩ = _ := kk.cell 0
        go_simp
        exact hR _ _ (rpost_val rfl rfl (Below.refl _ _) rfl)
      case oR1_10 => intro f lo hi w hb hx hf hk hrg R hR; (try replace hb := BelX.zero hb); (try simp (decide := true) only [go_sem] at hf); (try simp (decide := true) only [go_sem] at hk); go_simp; exact hR _ _ (rpost_val rfl rfl (Below.refl _ _) rfl)
      case oR1_11 =>
        intro f lo hi w hb hx hf hk hrg R hR; (try replace hb := BelX.zero hb); (try simp (decide := true) only [go_sem] at hf); (try simp (decide := true) only [go_sem] at hk)
        go_simp
        refine hR _ _ (rpost_none rfl ((RowKit.Below.refl _ _).alloc (Nat.le_refl _) _) ?_)
        (try simp (decide := true) only [go_sem])
        exact ⟨_, rfl, Nat.le_refl _, by simp, Blk.new _ _ _⟩
      case oR1_12 =>
        intro f lo hi w hb hx hf hk hrg R hR; (try replace hb := BelX.zero hb); (try simp (decide := true) only [go_sem] at hf); (try simp (decide := true) only [go_sem] at hk)
        obtain ⟨⟨bq, h69, -, -, kk⟩, ⟨-, -⟩, own⟩ := hf
        have ix : Ints w (some ⟨bq, 0, none⟩) [(ps.length : Int)] := kk.rowL (enc := encI) (l := [(ps.length : Int)])
        have hsz : U.heap.size ≤ w.heap.size := hb.2.2.2.1
        refine obl_appI B sa i sc (szL its) ?_ (some ⟨bq, 0, none⟩) 1 1 [(ps.length : Int)] ?_ own ix rfl (i + 1) rfl (by omega) (by omega) ?_
        · go_simp
        · go_simp
        intro b2 c2 w2 own2 gr2
        refine hR _ _ (rpost_some rfl rfl (Grew.touch gr2 fun k hk' => ⟨16, by simp, ?_⟩) ?_)
        · obtain ⟨q1, q2⟩ : lo 16 = kl ∧ hi 16 = kh := XOk.get _ _ hx 1 _ rfl
          have h4 := (K5.out k).1 hk'
          omega
        (try simp (decide := true) only [go_sem])
        refine ⟨_, _, rfl, own2, fun k hk' => ?_⟩
        rcases gr2.2.1 with e | e
        · exact .inl ((K5.out k).1 (e ▸ hk'))
        · rw [e] at hk'
          exact .inr ⟨by injection hk' with hk'; omega, own2.lt' k (e ▸ hk')⟩
      case oR1_13 => intro f lo hi w hb hx hf hk hrg R hR; (try replace hb := BelX.zero hb); (try simp (decide := true) only [go_sem] at hf); (try simp (decide := true) only [go_sem] at hk); go_simp; exact hR _ _ (rpost_none rfl (Below.refl _ _) rfl)
      case oR1_14 => intro f lo hi w hb hx hf hk hrg R hR; (try replace hb := BelX.zero hb); (try simp (decide := true) only [go_sem] at hf); (try simp (decide := true) only [go_sem] at hk); go_simp; exact hR _ _ (rpost_none rfl (Below.refl _ _) rfl)
      case hcl =>
        refine ⟨Closed.true _ _ _ _, Closed.true _ _ _ _, Closed.true _ _ _ _, Closed.true _ _ _ _, ?cR1_4, ?cR1_5, ?cR1_6, Closed.true _ _ _ _, Closed.true _ _ _ _, Closed.true _ _ _ _, Closed.true _ _ _ _, ?cR1_11, ?cR1_12, ?cR1_13, ?cR1_14, ?cR1_15, ?cR1_16, trivial⟩
        all_goals first
          | exact fun f lo hi v b0 b1 w w' h hs hB hown hU hX => VW.keep h fun q h1 h2 => hown q h1 h2
          | exact fun f lo hi v b0 b1 w w' h hs hB hown hU hX => by
              obtain ⟨b, x1, x2, x3, x4, h1, h2, h3, h4, k⟩ := h
              exact ⟨b, x1, x2, x3, x4, h1, h2, h3, h4, (hown b h3 h4).trans k⟩
          | exact fun f lo hi v b0 b1 w w' h hs hB hown hU hX => by
              obtain ⟨b, rfl, h2, h3, h6⟩ := h
              exact ⟨b, rfl, h2, h3, (hown b h2 h3).trans h6⟩
          | exact fun f lo hi v b0 b1 w w' h hs hB hown hU hX => by
              obtain ⟨x1, x2, x3, x4, a, c, h0, h1, own, lt⟩ := h
              exact ⟨x1, x2, x3, x4, a, c, h0, h1, own.keep fun b hb hl _ => (lt b (by rw [hb]; rfl)).elim (fun h => hX 0 _ rfl (by simp) b h.1 h.2) (fun h => hown b h.1 h.2), lt⟩
          | exact fun f lo hi v b0 b1 w w' h hs hB hown hU hX => by
              obtain ⟨a, c, h1, own, lt⟩ := h
              exact ⟨a, c, h1, own.keep fun b hb hl _ => (lt b (by rw [hb]; rfl)).elim (fun h => hX 1 _ rfl (by simp) b h.1 h.2) (fun h => hown b h.1 h.2), lt⟩
          | exact fun f lo hi v b0 b1 w w' h hs hB hown hU hX => by
              obtain ⟨⟨rfl, rfl⟩, own⟩ := h
              exact ⟨⟨rfl, rfl⟩, own.keep fun b hb hl _ => by have := (G5.out b).1 (by rw [hb]; rfl); exact hown b this.1 this.2⟩
          | exact fun f lo hi v b0 b1 w w' h hs hB hown hU hX => by
              obtain ⟨⟨rfl, rfl⟩, own⟩ := h
              exact ⟨⟨rfl, rfl⟩, own.keep fun b hb hl _ => by have := (K5.out b).1 (by rw [hb]; rfl); exact hown b this.1 this.2⟩
          | exact fun _ _ _ _ _ _ _ _ h _ _ _ _ _ => h
      intro f lo hi W8 hbr hx hf hk hrg; (try replace hbr := BelX.zero hbr); clear hx; (try simp (decide := true) only [go_sem] at hf); (try simp (decide := true) only [go_sem] at hk)
      obtain ⟨⟨ca, cc, ea1, ec1, h28, o1, o2, l1, l2⟩, ⟨ca', cc', ea', ec', xb, xd, h28', h41, own7, -⟩, ⟨sb, sd, h47, own8, lt8⟩, h13, h14⟩ := hf
      obtain ⟨rfl, rfl, rfl, rfl⟩ : ca = ca' ∧ cc = cc' ∧ ea1 = ea' ∧ ec1 = ec' := by
        rw [h28] at h28'
        simpa [and_assoc] using h28'
      rw [h41] at h13
      rw [h47] at h14
      have r4 := hrg.out 4 (by simp)
      have r12 := hrg.out 12 (by simp)
      have hout : ∀ q, q < U.heap.size → ¬ (gl ≤ q ∧ q < gh) → ¬ (kl ≤ q ∧ q < kh) → W8.heap[q]? = U.heap[q]? := fun q h1 h2 h3 => hbr.2.2.2.2 q ⟨h1, fun r hr => by simp at hr; rcases hr with rfl | rfl <;> simp only <;> omega⟩
      have hsz8 : U.heap.size ≤ W8.heap.size := hbr.2.2.2.1
      have lC : CS.length = ps.length := HOK.out.2.1
      have lN : NS.length = ps.length := HOK.out.2.2
      have hpU : p < U.heap.size := by omega
      have eK : vSize (⟨lat, ov, CS, NS, ca, cc, ea1, ec1⟩ : Vx).key = (ps.length : Int) := by simp [vSize, Vx.key, lC]
      have vs8 : VSz p W8 B (its ++ [⟨lat, ov, CS, NS, ca, cc, ea1, ec1⟩]) xb xd sb sd := HHV.out.push G5.out K5.out hout (by simpa [Vx.cells, lC, lN, HIL.out] using own7) (by rw [eK, HIL.out]; exact own8) lt8 (by simp only [lC]; exact o1) (by simp only [lN]; exact o2) l1 l2 r12.1 r4.1 (by rcases r12.2.2.2 4 (by simp) (by decide) with h | h <;> omega) hpU HOK.out.1 k3 (b2 := 0) (b3 := 0)
      have hgB : ∀ q, q < B → ¬ (gl ≤ q ∧ q < gh) ∧ ¬ (kl ≤ q ∧ q < kh) := fun q hq => by omega
      have beB : ∀ q, q < B → W8.heap[q]? = U.heap[q]? := fun q hq => hout q (by omega) (hgB q hq).1 (hgB q hq).2
      have hd8 := HHD.out.keepB beB hpB (HOLD.out.imp id fun h b hb => by have := h b hb; omega)
      have gw8 : w1.grownBy W8 (some p) := ⟨hbr.1.trans HHG.out.os, hbr.2.1.trans HHG.out.tape, hbr.2.2.1.trans HHG.out.output, Nat.le_trans HHG.out.size hsz8, fun q hq hne => (beB q (by have := HB.out; omega)).trans (HHG.out.block q hq hne)⟩
      have kJ8 : Blk W8 J 32 _ := (hout J kJl hJ0.1 hJ0.2).trans kJ
      clear hout hbr hrg h28' own7 own8 o1 o2 kJ kS kV beB hgB r4 r12 lt8 l1 l2 HO1 HHD HHV HHG oV oS
      go_simp
      clear hk h28 h41 h47 h13 h14
      have hSum : Hid (((szL (its ++ [⟨lat, ov, CS, NS, ca, cc, ea1, ec1⟩])).map (3 + ·)).sum = SZ + (3 + (ps.length : Int))) := Lib.hid (by
        rw [show szL (its ++ [⟨lat, ov, CS, NS, ca, cc, ea1, ec1⟩]) = szL its ++ [(ps.length : Int)] by simp [szL, vSize, Vx.key, lC], sum_snoc, HSZ.out])
      have j0 : W8.cell? ⟨J, 0, none⟩ = _ := kJ8.cell 0
      have jl := kJ8.lt
      go_wp2_with ((go_at_call 23; (with_reducible refine (rec_Size (ps.length : Int) _ (by omega) (by omega)).mono ?_); rintro e w9 ⟨rfl, rfl⟩))
      go_roundw
      case rel => exact ⟨i + 1, k2, its ++ [⟨lat, ov, CS, NS, ca, cc, ea1, ec1⟩], xb, xd, sb, sd, _, rfl, rfl, rfl, by go_num, by omega, by simp; exact HIL.out, hSum.out.symm, vs8, hd8, gw8⟩
      case measure => simp [intOf]; omega
    · obtain rfl : i = N := by omega
      have hbs := Lib.hid (sum_keys its vs.vd.ok)
      have HP := Lib.hid (szL_bytes vs.vd.ok)
      have HOK := Lib.hid vs.vd.ok
      obtain ⟨BS, hBS⟩ : ∃ BS, bytesOf (its.map Vx.key) = BS := ⟨_, rfl⟩
      rw [hBS] at hbs HP
      have HBS := Lib.hid hBS
      have hlB : Hid ((BS.length : Int) = SZ) := Lib.hid (by rw [HSZ.out]; exact hbs.out)
      have hvw := Lib.hid vs.vd.l.vws
      have hsz := Lib.hid vs.own.ints
      have hwp : w.heap.size ≤ p := by omega
      have be : RowKit.Below w.heap.size w wr := (hb1.mono (by omega)).grown gw (by have := HB.out; omega) (fun k hk => by injection hk with hk; omega)
      have hzl : Hid (i = (szL its).length) := Lib.hid (by rw [szL_len]; exact HIL.out.symm)
      clear hBS vs hd gw hb1
      go_upto_region 12 with ((go_at_call 22; (with_reducible refine (rec_BytesE HBS va i vc _ hvw.out HIL.out.symm (by have := HIL.out; omega) (fun v hv => (HOK.out v hv).ok)).mono ?_); rintro e w3 ⟨b, c, m2, rfl, hm, own, hb3⟩))
      have hcl := own.cap_le
      have hbyt := Lib.hid own.byt
      have hm2 : (m2 : Int) = SZ := by rw [hm.out]; exact hlB.out
      have be3 : RowKit.Below w.heap.size w w3 := (by repeat (first | (with_reducible refine Below.setCell ?_ ?_ _) | (with_reducible refine Below.alloc ?_ ?_ _) | (with_reducible refine Below.drew ?_) | (with_reducible refine below_drewN ?_ _) | (with_reducible exact Below.refl _ _) | (with_reducible refine Below.trans ?_ (Below.mono hb3 ?_)) | (with_reducible refine Below.trans ?_ (Below.mono be ?_)) | (focus (simp; done)) | (focus (simp; omega)) | (focus omega) | (focus (have q0 := Below.size hb3; (try simp at q0); have q1 := Below.size be; (try simp at q1); (try simp); omega))))
      have hvw3 := Lib.hid (hvw.out.below hb3 (Nat.le_refl _))
      have hsz3 := Lib.hid (Ints.below hsz.out hb3 (Nat.le_refl _))
      have hbl : BS.length ≤ 1000000 := by have := hlB.out; omega
      clear own hb3
      go_upto_region 13 with ((go_at_call 16; (with_reducible refine (rec_ParseY HP b m2 c sa i sc _ hbyt.out hm.out (by have := hm.out; omega) hbl hsz3.out hzl.out (by have := hzl.out; omega)).mono ?_); rintro e w4 ⟨ya, ym, yc, its2, rfl, hb4, hk4, hl4, vl4⟩))
      have hlen2 : Hid (its2.length = i) := Lib.hid (by have := congrArg List.length hk4.out; simp at this; rw [this]; exact HIL.out)
      have hvy := Lib.hid vl4.vws
      have hvw4 := Lib.hid (hvw3.out.below hb4 (Nat.le_refl _))
      have hsz4 := Lib.hid (Ints.below hsz3.out hb4 (Nat.le_refl _))
      have hbyt4 := Lib.hid (hbyt.out.below hb4 (Nat.le_refl _))
      have be4 : RowKit.Below w.heap.size w w4 := (by repeat (first | (with_reducible refine Below.setCell ?_ ?_ _) | (with_reducible refine Below.alloc ?_ ?_ _) | (with_reducible refine Below.drew ?_) | (with_reducible refine below_drewN ?_ _) | (with_reducible exact Below.refl _ _) | (with_reducible refine Below.trans ?_ (Below.mono hb4 ?_)) | (with_reducible refine Below.trans ?_ (Below.mono be3 ?_)) | (focus (simp; done)) | (focus (simp; omega)) | (focus omega) | (focus (have q0 := Below.size hb4; (try simp at q0); have q1 := Below.size be3; (try simp at q1); (try simp); omega))))
      have HC2 := Lib.hid (show ∀ v ∈ its2, v.cs.length ≤ 1000000 ∧ v.ns.length ≤ 1000000 from fun v hv => by
        have h1 : v.key ∈ its.map Vx.key := by rw [← hk4.out]; exact List.mem_map_of_mem hv
        obtain ⟨x, hx, hxk⟩ := List.mem_map.1 h1
        have h2 := HOK.out x hx
        rw [hxk] at h2
        have h3 := h2.1
        have h4 := h2.2.1
        simp only [Vx.key] at h3 h4
        omega)
      have zs : ((m2 : Int) != SZ) = false := by rw [bne_eq_false_iff_eq]; exact hm2
      clear hm2 vl4 hb4
      go_upto_region 15 with ((go_at_call 18; (with_reducible refine (ref23_Same ya va its2 its ym i yc vc _ hvy.out hvw4.out hl4.out HIL.out.symm (by have := hlen2.out; omega) hk4.out HC2.out).mono ?_); rintro e w5 ⟨rfl, hb5⟩))
      have hbyt5 := Lib.hid (hbyt4.out.below hb5 (Nat.le_refl _))
      have hsz5 := Lib.hid (Ints.below hsz4.out hb5 (Nat.le_refl _))
      have be5 : RowKit.Below w.heap.size w w5 := (by repeat (first | (with_reducible refine Below.setCell ?_ ?_ _) | (with_reducible refine Below.alloc ?_ ?_ _) | (with_reducible refine Below.drew ?_) | (with_reducible refine below_drewN ?_ _) | (with_reducible exact Below.refl _ _) | (with_reducible refine Below.trans ?_ (Below.mono hb5 ?_)) | (with_reducible refine Below.trans ?_ (Below.mono be4 ?_)) | (focus (simp; done)) | (focus (simp; omega)) | (focus omega) | (focus (have q0 := Below.size hb5; (try simp at q0); have q1 := Below.size be4; (try simp at q1); (try simp); omega))))
      clear hb5
      go_upto_region 16 with ((go_at_call 15; (with_reducible refine (mk_Spoilt b m2 c BS at_ by_ _ hbyt5.out hm.out hbl).mono ?_); rintro e w6 ⟨qa, qc, q, rfl, hbq, hlq, hcq, hb6⟩))
      have be6 : RowKit.Below w.heap.size w w6 := (by repeat (first | (with_reducible refine Below.setCell ?_ ?_ _) | (with_reducible refine Below.alloc ?_ ?_ _) | (with_reducible refine Below.drew ?_) | (with_reducible refine below_drewN ?_ _) | (with_reducible exact Below.refl _ _) | (with_reducible refine Below.trans ?_ (Below.mono hb6 ?_)) | (with_reducible refine Below.trans ?_ (Below.mono be5 ?_)) | (focus (simp; done)) | (focus (simp; omega)) | (focus omega) | (focus (have q0 := Below.size hb6; (try simp at q0); have q1 := Below.size be5; (try simp at q1); (try simp); omega))))
      have hsz6 := Lib.hid (Ints.below hsz5.out hb6 (Nat.le_refl _))
      have hbl2 : BS.length ≤ 50 := by have := hlB.out; omega
      clear hb6
      cases hpr : pRun q (szL its) with
      | none =>
        have HPN := Lib.hid hpr
        clear hpr
        go_upto_region 17 with ((go_at_call 16; (with_reducible refine (rec_ParseN HPN qa q.length qc sa i sc _ hbq rfl hcq (by omega) hsz6.out hzl.out (by have := hzl.out; omega)).mono ?_); rintro e w7 ⟨rfl, hb7⟩))
        (refine wp_region_quiet_below (by kernel_rfl) (by kernel_rfl) ?_; (repeat (go_big_quiet_step (first | (go_at_call 9; exact qb (awake_yes _))))); refine wpQuiet_nil ?_; intro wq hwq; have hbq := below_of_regrown hwq; clear hwq)
        have hbq0 := hbq
        go_wp2_with fail
        go_ret
        exact ⟨rfl, (by repeat (first | (with_reducible refine Below.setCell ?_ ?_ _) | (with_reducible refine Below.alloc ?_ ?_ _) | (with_reducible refine Below.drew ?_) | (with_reducible refine below_drewN ?_ _) | (with_reducible exact Below.refl _ _) | (with_reducible refine Below.trans ?_ (Below.mono hbq0 ?_)) | (with_reducible refine Below.trans ?_ (Below.mono hb7 ?_)) | (with_reducible refine Below.trans ?_ (Below.mono be6 ?_)) | (focus (simp; done)) | (focus (simp; omega)) | (focus omega) | (focus (have q0 := Below.size hbq0; (try simp at q0); have q1 := Below.size hb7; (try simp at q1); have q2 := Below.size be6; (try simp at q2); (try simp); omega))))⟩
      | some vs =>
        have HPY := Lib.hid hpr
        have HQS := Lib.hid (pRun_some _ _ _ hpr)
        clear hpr
        go_upto_region 17 with ((go_at_call 16; (with_reducible refine (rec_ParseY HPY qa q.length qc sa i sc _ hbq rfl hcq (by omega) hsz6.out hzl.out (by have := hzl.out; omega)).mono ?_); rintro e w7 ⟨za, zm, zc, its3, rfl, hb7, hk7, hl7, vl7⟩))
        have HB3 : Hid (bytesOf (its3.map Vx.key) = q) := Lib.hid (by rw [hk7.out]; exact HQS.out.1)
        have HK3 := Lib.hid (show ∀ v ∈ its3, OkK v.key from fun v hv => HQS.out.2.1 _ (by rw [← hk7.out]; exact List.mem_map_of_mem hv))
        have HL3 : Hid (its3.length ≤ 1000000) := Lib.hid (by
          have h1 := congrArg List.length hk7.out
          have h2 := HQS.out.2.2.2.1
          have h3 := hzl.out
          simp at h1
          omega)
        have hvz := Lib.hid vl7.vws
        have hbq7 := Lib.hid (hbq.below hb7 (Nat.le_refl _))
        have be7 : RowKit.Below w.heap.size w w7 := (by repeat (first | (with_reducible refine Below.setCell ?_ ?_ _) | (with_reducible refine Below.alloc ?_ ?_ _) | (with_reducible refine Below.drew ?_) | (with_reducible refine below_drewN ?_ _) | (with_reducible exact Below.refl _ _) | (with_reducible refine Below.trans ?_ (Below.mono hb7 ?_)) | (with_reducible refine Below.trans ?_ (Below.mono be6 ?_)) | (focus (simp; done)) | (focus (simp; omega)) | (focus omega) | (focus (have q0 := Below.size hb7; (try simp at q0); have q1 := Below.size be6; (try simp at q1); (try simp); omega))))
        obtain ⟨S, hS⟩ : ∃ S : ByteArray, S = ⟨q.toArray⟩ := ⟨_, rfl⟩
        have HS := Lib.hid hS
        have zS : (S.toList == S.toList) = true := by simp
        clear hS vl7 hb7 hbq
        apply wp_region_tab [] 14 100 [some 87, some 88, some 89, some 90, some 91, some 92, some 93, some 94, some 95, some 96, some 97, some 98, some 99, some 8] [⟨[], [], [], []⟩, ⟨[0], [0], [0], []⟩, ⟨[0, 1], [1], [1], []⟩, ⟨[0, 1, 2], [2], [2], []⟩, ⟨[0, 1, 2, 3], [2, 3], [2, 3], []⟩, ⟨[0, 1, 2, 3, 4], [2, 4], [2, 4], []⟩, ⟨[0, 1, 2], [2], [2], []⟩, ⟨[0, 1, 2, 6], [2, 6], [2, 6], []⟩, ⟨[0, 1, 2, 3, 4, 5, 6, 7], [2, 5, 7], [2, 5, 7], []⟩, ⟨[0, 1, 2, 3, 4, 5, 6, 7, 8], [2, 8], [2, 8], []⟩, ⟨[0, 1, 2, 3, 4, 5, 6, 7, 8, 9], [9], [9], []⟩, ⟨[0, 1, 2, 3, 4, 5, 6, 7, 8, 9, 10], [10], [10], []⟩, ⟨[0, 1, 2, 3, 4, 5, 6, 7, 8, 9, 10, 11], [10, 11], [10, 11], []⟩, ⟨[0, 1, 2, 3, 4, 5, 6, 7, 8, 9, 10, 11, 12], [12], [12], []⟩] [0, 1, 2, 3, 4, 5, 6, 7, 8, 9, 10, 11, 12, 13] [] [psiTrue, psiTrue, psiTrue, psiTrue, (fun f lo hi v b0 b1 W => ∃ (b : Option Addr) (m c : Nat), v = .slice b m c ∧ Hid (m = q.length) ∧ Own W b0 5 1 b m c (q.map encB) ∧ ∀ k, b.map (·.block) = some k → k < b1), psiTrue, psiTrue, psiTrue, psiTrue, psiTrue, psiTrue, psiTrue, psiTrue, psiTrue] [kVal _, kVal _, kVal _, kVal _, kTrue, kVal _, kVal _, kVal _, kVal _, kVal _, kVal _, kVal _, kVal _, kVal _]
        · kernel_rfl
        · kernel_rfl
        · rfl
        · rfl
        · exact trivial
        · exact trivial
        refine ⟨?oR2_0, ?oR2_1, ?oR2_2, ?oR2_3, ?oR2_4, ?oR2_5, ?oR2_6, ?oR2_7, ?oR2_8, ?oR2_9, ?oR2_10, ?oR2_11, ?oR2_12, ?oR2_13, trivial⟩
        case oR2_0 => intro f lo hi w hb hx hf hk hrg R hR; (try replace hb := BelX.zero hb); (try simp (decide := true) only [go_sem] at hf); (try simp (decide := true) only [go_sem] at hk); go_simp; exact hR _ _ (rpost_val rfl rfl (Below.refl _ _) rfl)
        case oR2_1 => intro f lo hi w hb hx hf hk hrg R hR; (try replace hb := BelX.zero hb); (try simp (decide := true) only [go_sem] at hf); (try simp (decide := true) only [go_sem] at hk); go_simp; exact hR _ _ (rpost_val rfl rfl (Below.refl _ _) rfl)
        case oR2_2 => intro f lo hi w hb hx hf hk hrg R hR; (try replace hb := BelX.zero hb); (try simp (decide := true) only [go_sem] at hf); (try simp (decide := true) only [go_sem] at hk); go_simp; exact hR _ _ (rpost_val rfl rfl (Below.refl _ _) rfl)
        case oR2_3 => intro f lo hi w hb hx hf hk hrg R hR; (try replace hb := BelX.zero hb); (try simp (decide := true) only [go_sem] at hf); (try simp (decide := true) only [go_sem] at hk); go_simp; exact hR _ _ (rpost_val rfl rfl (Below.refl _ _) rfl)
        case oR2_4 =>
          intro f lo hi w hb hx hf hk hrg R hR; (try replace hb := BelX.zero hb); (try simp (decide := true) only [go_sem] at hf); (try simp (decide := true) only [go_sem] at hk)
          go_simp
          (with_reducible refine (rec_BytesE HB3 za zm zc _ (hvz.out.below hb (Nat.le_refl _)) hl7.out HL3.out HK3.out).mono ?_)
          rintro e w' ⟨b, c, m, rfl, hm, own, hb2⟩
          exact ⟨_, rfl, hR _ _ (rpost_none rfl hb2 ⟨b, m, c, rfl, hm, own, own.lt'⟩)⟩
        case oR2_5 =>
          intro f lo hi w hb hx hf hk hrg R hR; (try replace hb := BelX.zero hb); (try simp (decide := true) only [go_sem] at hf); (try simp (decide := true) only [go_sem] at hk)
          obtain ⟨b, m, c, h49, hm, own, -⟩ := hf
          have hc : (convert 22 9 (.slice b m c)).run Try.prog w = .ok (.string S) w := by rw [HS.out]; exact conv_str own.byt hm.out
          go_simp
          exact hR _ _ (rpost_val rfl rfl (Below.refl _ _) rfl)
        case oR2_6 => intro f lo hi w hb hx hf hk hrg R hR; (try replace hb := BelX.zero hb); (try simp (decide := true) only [go_sem] at hf); (try simp (decide := true) only [go_sem] at hk); go_simp; exact hR _ _ (rpost_val rfl rfl (Below.refl _ _) rfl)
        case oR2_7 =>
          intro f lo hi w hb hx hf hk hrg R hR; (try replace hb := BelX.zero hb); (try simp (decide := true) only [go_sem] at hf); (try simp (decide := true) only [go_sem] at hk)
          have hc : (convert 22 9 (.slice qa q.length qc)).run Try.prog w = .ok (.string S) w := by rw [HS.out]; exact conv_str (hbq7.out.below hb (Nat.le_refl _)) rfl
          go_simp
          exact hR _ _ (rpost_val rfl rfl (Below.refl _ _) rfl)
        case oR2_8 => intro f lo hi w hb hx hf hk hrg R hR; (try replace hb := BelX.zero hb); (try simp (decide := true) only [go_sem] at hf); (try simp (decide := true) only [go_sem] at hk); go_simp; exact hR _ _ (rpost_val rfl rfl (Below.refl _ _) rfl)
        case oR2_9 => intro f lo hi w hb hx hf hk hrg R hR; (try replace hb := BelX.zero hb); (try simp (decide := true) only [go_sem] at hf); (try simp (decide := true) only [go_sem] at hk); go_simp; exact hR _ _ (rpost_val rfl rfl (Below.refl _ _) rfl)
        case oR2_10 => intro f lo hi w hb hx hf hk hrg R hR; (try replace hb := BelX.zero hb); (try simp (decide := true) only [go_sem] at hf); (try simp (decide := true) only [go_sem] at hk); go_simp; exact hR _ _ (rpost_val rfl rfl (Below.refl _ _) rfl)
        case oR2_11 =>
          intro f lo hi w hb hx hf hk hrg R hR; (try replace hb := BelX.zero hb); (try simp (decide := true) only [go_sem] at hf); (try simp (decide := true) only [go_sem] at hk)
          go_simp
          (with_reducible refine (awake_yes _).mono ?_)
          rintro e w' ⟨rfl, hb2⟩
          exact ⟨_, rfl, hR _ _ (rpost_val rfl rfl hb2 rfl)⟩
        case oR2_12 => intro f lo hi w hb hx hf hk hrg R hR; (try replace hb := BelX.zero hb); (try simp (decide := true) only [go_sem] at hf); (try simp (decide := true) only [go_sem] at hk); go_simp; exact hR _ _ (rpost_val rfl rfl (Below.refl _ _) rfl)
        case oR2_13 => intro f lo hi w hb hx hf hk hrg R hR; (try replace hb := BelX.zero hb); (try simp (decide := true) only [go_sem] at hf); (try simp (decide := true) only [go_sem] at hk); go_simp; exact hR _ _ (rpost_val rfl rfl (Below.refl _ _) rfl)
        case hcl =>
          refine ⟨Closed.true _ _ _ _, Closed.true _ _ _ _, Closed.true _ _ _ _, Closed.true _ _ _ _, ?cR2_4, Closed.true _ _ _ _, Closed.true _ _ _ _, Closed.true _ _ _ _, Closed.true _ _ _ _, Closed.true _ _ _ _, Closed.true _ _ _ _, Closed.true _ _ _ _, Closed.true _ _ _ _, Closed.true _ _ _ _, trivial⟩
          all_goals first
            | exact fun f lo hi v b0 b1 w w' h hs hB hown hU hX => by
                obtain ⟨b, m, c, h1, h2, own, lt⟩ := h
                exact ⟨b, m, c, h1, h2, own.keep fun q hb hl _ => hown q hl (lt q (by rw [hb]; rfl)), lt⟩
        intro f lo hi W9 hbr hx hf hk hrg; (try replace hbr := BelX.zero hbr); clear hx; (try simp (decide := true) only [go_sem] at hf); (try simp (decide := true) only [go_sem] at hk)
        clear hrg
        go_simp
        clear hk
        go_wp2
        go_ret
        exact ⟨rfl, (by repeat (first | (with_reducible refine Below.setCell ?_ ?_ _) | (with_reducible refine Below.alloc ?_ ?_ _) | (with_reducible refine Below.drew ?_) | (with_reducible refine below_drewN ?_ _) | (with_reducible exact Below.refl _ _) | (with_reducible refine Below.trans ?_ (Below.mono hbr ?_)) | (with_reducible refine Below.trans ?_ (Below.mono be7 ?_)) | (focus (simp; done)) | (focus (simp; omega)) | (focus omega) | (focus (have q0 := Below.size hbr; (try simp at q0); have q1 := Below.size be7; (try simp at q1); (try simp); omega))))⟩
end Go.Proofs.Ytdkifkbnkedbpaa
