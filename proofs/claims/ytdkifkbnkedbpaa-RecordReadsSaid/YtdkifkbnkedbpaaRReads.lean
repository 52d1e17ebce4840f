/- RecordReads: the walk (written by gen/mkrec.py out of gen/rec-reads.txt) -/
import Derived.Test.YtdkifkbnkedbpaaRSz
import Derived.Test.YtdkifkbnkedbpaaSpoilt
namespace Go.Proofs.Ytdkifkbnkedbpaa
set_option linter.unusedVariables false
open Go.RowKit Go.Sort
set_option maxRecDepth 100000

/-- append(nil, l...) of ints -/
theorem wp_appI0 {ops : Array Oper} {rest : List Oper} {o : Oper} {a : Act} {Q : Exit → Act → World → Prop} {w : World} (hgd : o.guard = none) (s x : Operand) (ho : o.op = .call { callee := .builtin .append, args := #[s, x], argTypes := #[23, 23] })
    (A : Option Addr) (m c : Nat) (l : List Int) (hs : a.eval s = .slice none 0 0) (hx : a.eval x = .slice A m c) (hr : Ints w A l) (hm : m = l.length) (hbig : m ≤ 1000000)
    (h : ∀ b' cap' w', Own w' w.heap.size 3 1 b' m cap' (l.map encI) → Below w.heap.size w w' → wpList Try.prog ops Q rest (a.put o.dst (.slice b' m cap')) w') : wpList Try.prog ops Q (o :: rest) a w := by
  obtain ⟨i0, hi, hz0, hz1, hz2⟩ := info_parts info_int
  refine wp_append_row _ hgd s x _ ho w.heap.size _ i0 _ 1 8 Try.underlying23 hi hz0 hz1 hz2 rfl (by decide) none 0 0 _ hs A m c hx (Own.nil _ _ _ _) (l.map encI) (by simp [hm]) hr (mapI_one l) (by simp only [maxLen]; omega) (by omega) (Nat.le_refl _) ?_
  intro b' cap' w' own' g
  rw [Nat.zero_add] at own' ⊢
  exact h b' cap' w' (by simpa using own') (Grew.step (Own.nil w w.heap.size 3 1) g w (Below.refl _ _))
theorem same_nil (w : World) : Calls Try.prog 18 #[.slice none 0 0, .slice none 0 0] w fun e w' => e = .returned (.bool true) ∧ Below w.heap.size w w' :=
  ref23_Same none none [] [] 0 0 0 0 w ⟨.inl rfl, by simp, by simp⟩ ⟨.inl rfl, by simp, by simp⟩ rfl rfl (by simp) rfl (by simp)
theorem keys_small {its : List Vx} {vs : List Vk} {b : List UInt8} {ps : List Int} (hk : its.map Vx.key = vs) (hq : pRun b ps = some vs) : (∀ v ∈ its, v.cs.length ≤ 1000000 ∧ v.ns.length ≤ 1000000) ∧ its.length = ps.length := by
  have h := pRun_some _ _ _ hq
  refine ⟨fun v hv => ?_, ?_⟩
  · have h1 := h.2.1 v.key (by rw [← hk]; exact List.mem_map_of_mem hv)
    have h2 := h1.1
    have h3 := h1.2.1
    simp only [Vx.key] at h2 h3
    omega
  · have h1 := congrArg List.length hk
    have h2 := h.2.2.2.1
    simp at h1
    omega
/-- a cell that holds bytes, a cell that holds ints -/
def CelB (w : World) (ad : Addr) : Prop := ∃ (a : Option Addr) (n c : Nat) (l : List UInt8), w.cell? ad = some (.slice a n c) ∧ n = l.length ∧ Byt w a l ∧ l.length ≤ c ∧ l.length ≤ 1000
def CelI (w : World) (ad : Addr) : Prop := ∃ (a : Option Addr) (n c : Nat) (l : List Int), w.cell? ad = some (.slice a n c) ∧ n = l.length ∧ Ints w a l ∧ l.length ≤ 10
theorem CelB.below {w w' : World} {b o : Nat} (h : CelB w ⟨b, o, none⟩) (hb : Below w.heap.size w w') (hl : b < w.heap.size) : CelB w' ⟨b, o, none⟩ := by
  obtain ⟨a, n, c, l, h1, h2, h3, h4, h5⟩ := h
  exact ⟨a, n, c, l, (hb.cell (p := ⟨b, o, none⟩) hl).trans h1, h2, h3.below hb (Nat.le_refl _), h4, h5⟩
theorem CelI.below {w w' : World} {b o : Nat} (h : CelI w ⟨b, o, none⟩) (hb : Below w.heap.size w w') (hl : b < w.heap.size) : CelI w' ⟨b, o, none⟩ := by
  obtain ⟨a, n, c, l, h1, h2, h3, h4⟩ := h
  exact ⟨a, n, c, l, (hb.cell (p := ⟨b, o, none⟩) hl).trans h1, h2, Ints.below h3 hb (Nat.le_refl _), h4⟩
set_option maxHeartbeats 16000000 in
theorem recordReads_walk (a0 : Option Addr) (c0 : Nat) (l0 : List UInt8) (a1 : Option Addr) (c1 : Nat) (l1 : List Int) (a2 : Option Addr) (c2 : Nat) (l2 : List Int) (at_ by_ : Int) (w : World) (cc0 : l0.length ≤ c0) (h0 : Byt w a0 l0) (n0 : l0.length ≤ 9223372036854775807) (h1 : Ints w a1 l1) (n1 : l1.length ≤ 9223372036854775807) (h2 : Ints w a2 l2) (n2 : l2.length ≤ 9223372036854775807) :
    Calls Try.prog 3 #[.slice a0 l0.length c0, .slice a1 l1.length c1, .slice a2 l2.length c2, .int .i64 at_, .int .i64 by_] w fun e w' => e = .returned (.bool true) ∧ RowKit.Below w.heap.size w w' := by
  go_enter Try.func3, Try.ntmps3
  by_cases hs : 600 < l0.length
  · have hs' : decide (l0.length ≤ 600) = false := by rw [decide_eq_false_iff_not]; omega
    go_wp2_with (first | (go_at_call 8; (with_reducible refine (mk_Short _ _ _ _ (by omega)).mono ?_); rintro e w1 ⟨rfl, rfl⟩) | (go_at_call 9; (with_reducible refine (awake_yes _).mono ?_); rintro e w20 ⟨rfl, hb20⟩))
    go_ret
    exact ⟨rfl, (by repeat (first | (with_reducible refine Below.setCell ?_ ?_ _) | (with_reducible refine Below.alloc ?_ ?_ _) | (with_reducible refine Below.drew ?_) | (with_reducible refine below_drewN ?_ _) | (with_reducible exact Below.refl _ _) | (with_reducible refine Below.trans ?_ (Below.mono hb20 ?_)) | (focus (simp; done)) | (focus (simp; omega)) | (focus omega) | (focus (have q0 := Below.size hb20; (try simp at q0); (try simp); omega))))⟩
  have hs' : decide (l0.length ≤ 600) = true := by rw [decide_eq_true_eq]; omega
  by_cases h9 : 9 < l2.length
  · have h9' : (9 : Int) < (l2.length : Int) := by omega
    go_wp2_with (first | (go_at_call 8; (with_reducible refine (mk_Short _ _ _ _ (by omega)).mono ?_); rintro e w1 ⟨rfl, rfl⟩) | (go_at_call 9; (with_reducible refine (awake_yes _).mono ?_); rintro e w20 ⟨rfl, hb20⟩))
    go_ret
    exact ⟨rfl, (by repeat (first | (with_reducible refine Below.setCell ?_ ?_ _) | (with_reducible refine Below.alloc ?_ ?_ _) | (with_reducible refine Below.drew ?_) | (with_reducible refine below_drewN ?_ _) | (with_reducible exact Below.refl _ _) | (with_reducible refine Below.trans ?_ (Below.mono hb20 ?_)) | (focus (simp; done)) | (focus (simp; omega)) | (focus omega) | (focus (have q0 := Below.size hb20; (try simp at q0); (try simp); omega))))⟩
  have h9' : ¬ ((9 : Int) < (l2.length : Int)) := by omega
  obtain ⟨m, HM, hm0, hm3⟩ := modName at_ 3 (by decide)
  have HOLD := Lib.hid (ints_old h1)
  go_wp2_with (first | (go_at_call 8; (with_reducible refine (mk_Short _ _ _ _ (by omega)).mono ?_); rintro e w1 ⟨rfl, rfl⟩) | (go_at_call 10; (with_reducible refine (mk_New a1 c1 l1 _ h1 n1).mono ?_); rintro e w1 ⟨rfl, hd1, hb1⟩) | (go_at_call 11; (with_reducible refine (mk_ModE HM.out _ (by decide) (by decide)).mono ?_); rintro e w2 ⟨rfl, rfl⟩))
  obtain ⟨N, hN⟩ : ∃ N : Nat, (N : Int) = 1 + m := ⟨(1 + m).toNat, by omega⟩
  have hN3 : 1 ≤ N ∧ N ≤ 3 := by omega
  rw [← hN]
  have hz1 := hb1.size
  have hd1' := hd1.lt
  obtain ⟨p, hp⟩ : ∃ p, w.heap.size = p := ⟨_, rfl⟩
  rw [hp] at hd1 hb1 hz1 hd1' ⊢
  obtain ⟨B, hB⟩ : ∃ B, w1.heap.size = B := ⟨_, rfl⟩
  have HB := Lib.hid hB
  have hpB : p < B := by omega
  clear hN hB
  go_loopw [12, 13, 41] (fun s12 s13 s41 wr => ∃ (i k : Nat) (its : List Vx) (va : Option Addr) (vc : Nat) (sa : Option Addr) (sc : Nat), s12 = .slice va i vc ∧ s13 = .slice sa i sc ∧ s41 = .int .i64 i ∧ i ≤ N ∧ its.length = i ∧ VSz p wr B its va vc sa sc ∧ DeckAt wr p ⟨a1, c1, l1⟩ k ∧ w1.grownBy wr (some p)) (fun _ _ i _ => N - (intOf i).toNat)
  case atStart => exact ⟨0, 0, [], none, 0, none, 0, rfl, rfl, rfl, by omega, rfl, VSz.nil _ _ _, hd1, World.grownBy.refl _ _⟩
  case round =>
    clear hd1 hz1 hd1'
    obtain ⟨i, k, its, va, vc, sa, sc, rfl, rfl, rfl, hi, hil, vs, hd, gw⟩ := hrel
    have HIL := Lib.hid hil
    clear hil
    have hBr : B ≤ wr.heap.size := by have := gw.size; have := HB.out; omega
    have HVA := Lib.hid (show ∀ q, va.map (·.block) = some q → q < wr.heap.size from vs.vd.l.own.lt')
    have HSA := Lib.hid (show ∀ q, sa.map (·.block) = some q → q < wr.heap.size from vs.own.lt')
    by_cases hlt : i < N
    · have iN : (i : Int) < (N : Int) := by omega
      go_upto_region 9 with ((go_at_call 12; (with_reducible refine (law_signalJ p _ k _ hd).mono ?_); rintro e w2 ⟨k2, jb, jc, jb2, jc2, ps, cs, s, ls, nx, g, wt, la, lc, na, nc, lat, ph, gr, es, ea, ec, rfl, hj, hcv, q0, q1, hd2, g2, hjb, hjb2⟩))
      obtain ⟨J, hJ⟩ : ∃ J, w2.heap.size = J := ⟨_, rfl⟩
      refine wp_named (fun U => Blk U J 32 #[.slice (some ⟨jb, 0, none⟩) ps.length jc, .slice (some ⟨jb2, 0, none⟩) ps.length jc2, .int .i64 s] ∧ Blk U (J + 1) 37 #[.slice la ps.length lc, .int .i64 g, .slice na 2 nc, .int .i64 wt, .bool lat] ∧ Blk U (J + 2) 39 #[.int .i64 ph, .int .i64 gr, .slice ea ps.length ec] ∧ RowKit.Below w2.heap.size w2 U ∧ J + 3 ≤ U.heap.size) ?_ ?_
      · obtain ⟨t1, t2, t3, t4⟩ := three_at w2 #[.slice (some ⟨jb, 0, none⟩) ps.length jc, .slice (some ⟨jb2, 0, none⟩) ps.length jc2, .int .i64 s] #[.slice la ps.length lc, .int .i64 g, .slice na 2 nc, .int .i64 wt, .bool lat] #[.int .i64 ph, .int .i64 gr, .slice ea ps.length ec] 32 37 39
        rw [← hJ]
        exact ⟨t2, t3, t4, t1, by simp⟩
      rintro U ⟨kJ, kS, kV, bU, hJz⟩
      have hjU := hj.below (base := w2.heap.size) bU
      have hcU := hcv.below bU
      have hdU := hd2.below bU
      have gU := (gw.trans g2).trans (bU.grown_any (some p))
      have vsU := (vs.grown g2 hpB).below bU
      have hBJ : B ≤ J := by have := g2.size; omega
      have hwJ : wr.heap.size ≤ J := by have := g2.size; omega
      have hok := ofK_ok lat (!lat && (ph != -1)) hjU.n1.2 hjU.ok hcU.ll hcU.lok
      have hn := hjU.n1
      rw [hJ] at hjU ⊢
      clear hJ hj hcv hd2 g2 bU vs gw hd
      obtain ⟨ov, hov⟩ : ∃ ov, (!lat && (ph != -1)) = ov := ⟨_, rfl⟩
      obtain ⟨CS, hCS⟩ : ∃ CS, ofC lat ls = CS := ⟨_, rfl⟩
      obtain ⟨NS, hNS⟩ : ∃ NS, ofN lat ps ls = NS := ⟨_, rfl⟩
      have HO1 : ∀ W, (∀ q, q < U.heap.size → wr.heap.size ≤ q → W.heap[q]? = U.heap[q]?) → U.heap.size ≤ W.heap.size → Calls Try.prog 13 #[jAgg jb jc jb2 jc2 ps.length s, sAgg la ps.length lc g na 2 nc wt lat, .agg #[.int .i64 ph, .int .i64 gr, .slice ea ps.length ec]] W (VwR lat ov ps.length CS NS W) := fun W h hs => by
        have hjW : JAt W J jb jc jb2 jc2 ps cs s := ⟨hjU.ph.keep fun b off e hl => by injection e with e; injection e with e _ _; subst e; exact h _ hl hjb, Row.keep hjU.cf fun b off e hl => by injection e with e; injection e with e _ _; subst e; exact h _ hl hjb2, hjU.lb, hjU.lb2, Nat.le_trans hjU.lw hs, hjU.n1, hjU.cl, hjU.ok, hjU.s0⟩
        have := ref23_Of J jb jc jb2 jc2 ps cs s 0 ls la lc g wt na 2 nc lat ph gr ea ps.length ec W hjW ⟨(hcU.lo.keep fun b _ hl hl2 => h b hl2 hl).mono (Nat.zero_le _), hcU.ll, hcU.lok⟩
        rwa [hov, hCS, hNS] at this
      rw [hov, hCS, hNS] at hok
      have HO1 := Lib.hid HO1
      have HOK := Lib.hid hok
      have HHD := Lib.hid hdU
      have HHV := Lib.hid vsU
      have HHG := Lib.hid gU
      clear hov hCS hNS hjU hcU hok hdU gU
      have kJl := kJ.lt
      have kSl := kS.lt
      have kVl := kV.lt
      obtain ⟨gl, gh, g1, g2, g3, g4, g5⟩ := vsU.vd.l.own.range
      obtain ⟨kl, kh, k1, k2', k3, k4, k5⟩ := vsU.own.range
      have hdis : gh ≤ kl ∨ kh ≤ gl := by
        have ap := vsU.vd.l.own.apart2 vsU.own (by decide)
        rcases Nat.lt_or_ge gl gh with h1 | h1
        · rcases Nat.lt_or_ge kl kh with h2 | h2
          · have := ap gl ((g5 gl).2 ⟨by omega, h1⟩)
            have h3 : kl ≠ gl := fun e => this ((k5 gl).2 ⟨by omega, by omega⟩)
            omega
          · omega
        · omega
      have G5 := Lib.hid g5
      have K5 := Lib.hid k5
      have GNJ : ∀ q, J ≤ q → q < J + 3 → ¬ (gl ≤ q ∧ q < gh) ∧ ¬ (kl ≤ q ∧ q < kh) := fun q h1 h2 => by
        constructor
        · intro hh
          have e := HVA.out q ((g5 q).2 hh)
          omega
        · intro hh
          have e := HSA.out q ((k5 q).2 hh)
          omega
      have hgw : gh ≤ wr.heap.size ∧ kh ≤ wr.heap.size := by
        constructor
        · rcases g4 with ⟨e1, e2⟩ | ⟨e1, e2⟩
          · omega
          · have := HVA.out gl ((g5 gl).2 (by omega)); omega
        · rcases k4 with ⟨e1, e2⟩ | ⟨e1, e2⟩
          · omega
          · have := HSA.out kl ((k5 kl).2 (by omega)); omega
      have hJ0 := GNJ J (by omega) (by omega)
      have hJ1 := GNJ (J + 1) (by omega) (by omega)
      have hJ2 := GNJ (J + 2) (by omega) (by omega)
      have oV : Own U B 43 4 va i vc (vxCells its) := by have h := vsU.vd.l.own; rw [HIL.out] at h; exact h
      have oS : Own U B 3 1 sa i sc ((szL its).map encI) := by have h := vsU.own; rw [HIL.out] at h; exact h
      clear g5 k5 GNJ vsU
      apply wp_region_tab [(gl, gh), (kl, kh)] 15 121 [some 49, some 50, some 51, some 52, some 53, some 54, some 55, some 56, some 57, some 58, some 59, some 60, some 61, some 12, some 13] [⟨[15, 16], [], [], []⟩, ⟨[15, 16], [], [], []⟩, ⟨[15, 16], [], [], []⟩, ⟨[15, 16], [], [], []⟩, ⟨[1, 2, 3, 15, 16], [1, 2, 3], [1, 2, 3], []⟩, ⟨[1, 2, 3, 4, 15, 16], [4], [4], []⟩, ⟨[0, 1, 2, 3, 4, 5, 15, 16], [0, 4, 5, 15], [0, 4, 5, 15], [15]⟩, ⟨[15, 16], [], [], []⟩, ⟨[15, 16], [], [], []⟩, ⟨[8, 15, 16], [8], [8], []⟩, ⟨[8, 9, 15, 16], [9], [9], []⟩, ⟨[8, 9, 10, 15, 16], [10], [10], []⟩, ⟨[0, 1, 2, 3, 4, 5, 6, 7, 8, 9, 10, 11, 15, 16], [7, 11, 16], [7, 11, 16], [16]⟩, ⟨[0, 1, 2, 3, 4, 5, 6, 7, 8, 9, 10, 11, 12, 15, 16], [6], [6], []⟩, ⟨[0, 1, 2, 3, 4, 5, 6, 7, 8, 9, 10, 11, 12, 13, 15, 16], [12], [12], []⟩, ⟨[], [], [], []⟩, ⟨[], [], [], []⟩] [0, 1, 2, 3, 4, 5, 6, 7, 8, 9, 10, 11, 12, 13, 14] [4, 6, 12, 13, 14] [psiTrue, psiTrue, psiTrue, psiTrue, (fun f lo hi v b0 b1 W => VW lat ov ps.length CS NS v b0 b1 W), (fun f lo hi v b0 b1 W => VS1 lat ov ps.length (f 4) v b0 b1 W), (fun f lo hi v b0 b1 W => ∃ (ca : Option Addr) (cc : Nat) (na : Option Addr) (nc : Nat) (a : Option Addr) (c : Nat), f 4 = vAgg lat ov ps.length ca cc na nc ∧ v = .slice a (i + 1) c ∧ Own W B 43 4 a (i + 1) c (vxCells its ++ [.bool lat, .bool ov, .slice ca ps.length cc, .slice na ps.length nc]) ∧ ∀ k, a.map (·.block) = some k → (gl ≤ k ∧ k < gh) ∨ (b0 ≤ k ∧ k < b1)), psiTrue, psiTrue, psiTrue, psiTrue, (fun f lo hi v b0 b1 W => ∃ b : Nat, v = .slice (some ⟨b, 0, none⟩) 1 1 ∧ b0 ≤ b ∧ b < b1 ∧ Blk W b 3 #[.int .i64 ps.length]), (fun f lo hi v b0 b1 W => ∃ (a : Option Addr) (c : Nat), v = .slice a (i + 1) c ∧ Own W B 3 1 a (i + 1) c ((szL its ++ [(ps.length : Int)]).map encI) ∧ ∀ k, a.map (·.block) = some k → (kl ≤ k ∧ k < kh) ∨ (b0 ≤ k ∧ k < b1)), (fun f _ _ v _ _ _ => v = f 6), (fun f _ _ v _ _ _ => v = f 12), (fun f lo hi v b0 b1 W => (b0 = gl ∧ b1 = gh) ∧ Own W B 43 4 va i vc (vxCells its)), (fun f lo hi v b0 b1 W => (b0 = kl ∧ b1 = kh) ∧ Own W B 3 1 sa i sc ((szL its).map encI))] [kVal _, kVal _, kVal _, kVal _, kTrue, kTrue, kTrue, kVal _, kVal _, kVal _, kVal _, kTrue, kTrue, kTrue, kTrue]
      · kernel_rfl
      · kernel_rfl
      · rfl
      · rfl
      rotate_left 2
      refine ⟨?oR1_0, ?oR1_1, ?oR1_2, ?oR1_3, ?oR1_4, ?oR1_5, ?oR1_6, ?oR1_7, ?oR1_8, ?oR1_9, ?oR1_10, ?oR1_11, ?oR1_12, ?oR1_13, ?oR1_14, trivial⟩
      case hx => exact ⟨⟨by omega, by omega⟩, by simp; omega, ⟨by omega, by omega⟩, by simp, trivial⟩
      case hX => exact ⟨fun _ _ _ _ => ⟨⟨rfl, rfl⟩, oV⟩, fun _ _ _ _ => ⟨⟨rfl, rfl⟩, oS⟩, trivial⟩
      case oR1_0 => intro f lo hi w hb hx hf hk hrg R hR; (try replace hb := BelX.zero hb); (try simp (decide := true) only [go_sem] at hf); (try simp (decide := true) only [go_sem] at hk); go_simp; exact hR _ _ (rpost_val rfl rfl (Below.refl _ _) rfl)
      case oR1_1 =>
        intro f lo hi w hb hx hf hk hrg R hR; (try replace hb := BelX.zero hb); (try simp (decide := true) only [go_sem] at hf); (try simp (decide := true) only [go_sem] at hk)
        have kk := hb.blk kJ (fun r hr => by simp at hr; rcases hr with rfl | rfl <;> simp only <;> omega)
        obtain ⟨j0, j1, j2⟩ : w.cell? ⟨J, 0, none⟩ = _ ∧ w.cell? ⟨J, 1, none⟩ = _ ∧ w.cell? ⟨J, 2, none⟩ = _ := ⟨kk.cell 0, kk.cell 1, kk.cell 2⟩
        go_simp
        exact hR _ _ (rpost_val rfl rfl (Below.refl _ _) rfl)
      case oR1_2 =>
        intro f lo hi w hb hx hf hk hrg R hR; (try replace hb := BelX.zero hb); (try simp (decide := true) only [go_sem] at hf); (try simp (decide := true) only [go_sem] at hk)
        obtain ⟨s0, s1, s2, s3, s4, -, -⟩ := (hb.blk kS (fun r hr => by simp at hr; rcases hr with rfl | rfl <;> simp only <;> omega)).five
        go_simp
        exact hR _ _ (rpost_val rfl rfl (Below.refl _ _) rfl)
      case oR1_3 =>
        intro f lo hi w hb hx hf hk hrg R hR; (try replace hb := BelX.zero hb); (try simp (decide := true) only [go_sem] at hf); (try simp (decide := true) only [go_sem] at hk)
        have kk := hb.blk kV (fun r hr => by simp at hr; rcases hr with rfl | rfl <;> simp only <;> omega)
        obtain ⟨j0, j1, j2⟩ : w.cell? ⟨J + 2, 0, none⟩ = _ ∧ w.cell? ⟨J + 2, 1, none⟩ = _ ∧ w.cell? ⟨J + 2, 2, none⟩ = _ := ⟨kk.cell 0, kk.cell 1, kk.cell 2⟩
        go_simp
        exact hR _ _ (rpost_val rfl rfl (Below.refl _ _) rfl)
      case oR1_4 =>
        intro f lo hi w hb hx hf hk hrg R hR; (try replace hb := BelX.zero hb); (try simp (decide := true) only [go_sem] at hf); (try simp (decide := true) only [go_sem] at hk)
        have hq := HO1.out w (fun q h1 h2 => hb.2.2.2.2 q ⟨h1, fun r hr => by simp at hr; rcases hr with rfl | rfl <;> simp only <;> omega⟩) hb.2.2.2.1
        go_simp
        (with_reducible refine hq.mono ?_)
        rintro e w' ⟨ca, cc, da, dc, rfl, o1, o2, hb2⟩
        exact ⟨_, rfl, hR _ _ (rpost_none rfl hb2 (VW.of o1 o2))⟩
      case oR1_5 =>
        intro f lo hi w hb hx hf hk hrg R hR; (try replace hb := BelX.zero hb); (try simp (decide := true) only [go_sem] at hf); (try simp (decide := true) only [go_sem] at hk)
        obtain ⟨ca, cc, da, dc, h71, o1, o2, -, -⟩ := hf
        go_simp
        refine hR _ _ (rpost_none rfl ((RowKit.Below.refl _ _).alloc (Nat.le_refl _) _) ?_)
        (try simp (decide := true) only [go_sem])
        exact ⟨_, ca, cc, da, dc, h71, rfl, Nat.le_refl _, by simp, Blk.new _ _ _⟩
      case oR1_6 =>
        intro f lo hi w hb hx hf hk hrg R hR; (try replace hb := BelX.zero hb); (try simp (decide := true) only [go_sem] at hf); (try simp (decide := true) only [go_sem] at hk)
        obtain ⟨-, ⟨bq, ca, cc, da, dc, h71, hbq, -, -, kk⟩, ⟨-, -⟩, own⟩ := hf
        have hsz : U.heap.size ≤ w.heap.size := hb.2.2.2.1
        refine obl_appV B va i vc (vxCells its) ?_ bq (.bool lat) (.bool ov) (.slice ca ps.length cc) (.slice da ps.length dc) ?_ kk own ⟨rfl, rfl, rfl, rfl⟩ (by omega) (by omega) ?_
        · go_simp
        · go_simp
        intro b2 c2 w2 own2 gr2
        refine hR _ _ (rpost_some rfl rfl (Grew.touch gr2 fun k hk' => ⟨15, by simp, ?_⟩) ?_)
        · obtain ⟨q1, q2⟩ : lo 15 = gl ∧ hi 15 = gh := XOk.get _ _ hx 0 _ rfl
          have h4 := (G5.out k).1 hk'
          omega
        (try simp (decide := true) only [go_sem])
        refine ⟨ca, cc, da, dc, _, _, h71, rfl, own2, fun k hk' => ?_⟩
        rcases gr2.2.1 with e | e
        · exact .inl ((G5.out k).1 (e ▸ hk'))
        · rw [e] at hk'
          exact .inr ⟨by injection hk' with hk'; omega, own2.lt' k (e ▸ hk')⟩
      case oR1_7 => intro f lo hi w hb hx hf hk hrg R hR; (try replace hb := BelX.zero hb); (try simp (decide := true) only [go_sem] at hf); (try simp (decide := true) only [go_sem] at hk); go_simp; exact hR _ _ (rpost_val rfl rfl (Below.refl _ _) rfl)
      case oR1_8 => intro f lo hi w hb hx hf hk hrg R hR; (try replace hb := BelX.zero hb); (try simp (decide := true) only [go_sem] at hf); (try simp (decide := true) only [go_sem] at hk); go_simp; exact hR _ _ (rpost_val rfl rfl (Below.refl _ _) rfl)
      case oR1_9 =>
        intro f lo hi w hb hx hf hk hrg R hR; (try replace hb := BelX.zero hb); (try simp (decide := true) only [go_sem] at hf); (try simp (decide := true) only [go_sem] at hk)
        have kk := hb.blk kJ (fun r hr => by simp at hr; rcases hr with rfl | rfl <;> simp only <;> omega)
        have j0 : w.cell? ⟨J, 0, none⟩ = _ := kk.cell 0
        go_simp
        exact hR _ _ (rpost_val rfl rfl (Below.refl _ _) rfl)
      case oR1_10 => intro f lo hi w hb hx hf hk hrg R hR; (try replace hb := BelX.zero hb); (try simp (decide := true) only [go_sem] at hf); (try simp (decide := true) only [go_sem] at hk); go_simp; exact hR _ _ (rpost_val rfl rfl (Below.refl _ _) rfl)
      case oR1_11 =>
        intro f lo hi w hb hx hf hk hrg R hR; (try replace hb := BelX.zero hb); (try simp (decide := true) only [go_sem] at hf); (try simp (decide := true) only [go_sem] at hk)
        go_simp
        refine hR _ _ (rpost_none rfl ((RowKit.Below.refl _ _).alloc (Nat.le_refl _) _) ?_)
        (try simp (decide := true) only [go_sem])
        exact ⟨_, rfl, Nat.le_refl _, by simp, Blk.new _ _ _⟩
      case oR1_12 =>
        intro f lo hi w hb hx hf hk hrg R hR; (try replace hb := BelX.zero hb); (try simp (decide := true) only [go_sem] at hf); (try simp (decide := true) only [go_sem] at hk)
        obtain ⟨⟨bq, h69, -, -, kk⟩, ⟨-, -⟩, own⟩ := hf
        have ix : Ints w (some ⟨bq, 0, none⟩) [(ps.length : Int)] := kk.rowL (enc := encI) (l := [(ps.length : Int)])
        have hsz : U.heap.size ≤ w.heap.size := hb.2.2.2.1
        refine obl_appI B sa i sc (szL its) ?_ (some ⟨bq, 0, none⟩) 1 1 [(ps.length : Int)] ?_ own ix rfl (i + 1) rfl (by omega) (by omega) ?_
        · go_simp
        · go_simp
        intro b2 c2 w2 own2 gr2
        refine hR _ _ (rpost_some rfl rfl (Grew.touch gr2 fun k hk' => ⟨16, by simp, ?_⟩) ?_)
        · obtain ⟨q1, q2⟩ : lo 16 = kl ∧ hi 16 = kh := XOk.get _ _ hx 1 _ rfl
          have h4 := (K5.out k).1 hk'
          omega
        (try simp (decide := true) only [go_sem])
        refine ⟨_, _, rfl, own2, fun k hk' => ?_⟩
        rcases gr2.2.1 with e | e
        · exact .inl ((K5.out k).1 (e ▸ hk'))
        · rw [e] at hk'
          exact .inr ⟨by injection hk' with hk'; omega, own2.lt' k (e ▸ hk')⟩
      case oR1_13 => intro f lo hi w hb hx hf hk hrg R hR; (try replace hb := BelX.zero hb); (try simp (decide := true) only [go_sem] at hf); (try simp (decide := true) only [go_sem] at hk); go_simp; exact hR _ _ (rpost_none rfl (Below.refl _ _) rfl)
      case oR1_14 => intro f lo hi w hb hx hf hk hrg R hR; (try replace hb := BelX.zero hb); (try simp (decide := true) only [go_sem] at hf); (try simp (decide := true) only [go_sem] at hk); go_simp; exact hR _ _ (rpost_none rfl (Below.refl _ _) rfl)
      case hcl =>
        refine ⟨Closed.true _ _ _ _, Closed.true _ _ _ _, Closed.true _ _ _ _, Closed.true _ _ _ _, ?cR1_4, ?cR1_5, ?cR1_6, Closed.true _ _ _ _, Closed.true _ _ _ _, Closed.true _ _ _ _, Closed.true _ _ _ _, ?cR1_11, ?cR1_12, ?cR1_13, ?cR1_14, ?cR1_15, ?cR1_16, trivial⟩
        all_goals first
          | exact fun f lo hi v b0 b1 w w' h hs hB hown hU hX => VW.keep h fun q h1 h2 => hown q h1 h2
          | exact fun f lo hi v b0 b1 w w' h hs hB hown hU hX => by
              obtain ⟨b, x1, x2, x3, x4, h1, h2, h3, h4, k⟩ := h
              exact ⟨b, x1, x2, x3, x4, h1, h2, h3, h4, (hown b h3 h4).trans k⟩
          | exact fun f lo hi v b0 b1 w w' h hs hB hown hU hX => by
              obtain ⟨b, rfl, h2, h3, h6⟩ := h
              exact ⟨b, rfl, h2, h3, (hown b h2 h3).trans h6⟩
          | exact fun f lo hi v b0 b1 w w' h hs hB hown hU hX => by
              obtain ⟨x1, x2, x3, x4, a, c, h0, h1, own, lt⟩ := h
              exact ⟨x1, x2, x3, x4, a, c, h0, h1, own.keep fun b hb hl _ => (lt b (by rw [hb]; rfl)).elim (fun h => hX 0 _ rfl (by simp) b h.1 h.2) (fun h => hown b h.1 h.2), lt⟩
          | exact fun f lo hi v b0 b1 w w' h hs hB hown hU hX => by
              obtain ⟨a, c, h1, own, lt⟩ := h
              exact ⟨a, c, h1, own.keep fun b hb hl _ => (lt b (by rw [hb]; rfl)).elim (fun h => hX 1 _ rfl (by simp) b h.1 h.2) (fun h => hown b h.1 h.2), lt⟩
          | exact fun f lo hi v b0 b1 w w' h hs hB hown hU hX => by
              obtain ⟨⟨rfl, rfl⟩, own⟩ := h
              exact ⟨⟨rfl, rfl⟩, own.keep fun b hb hl _ => by have := (G5.out b).1 (by rw [hb]; rfl); exact hown b this.1 this.2⟩
          | exact fun f lo hi v b0 b1 w w' h hs hB hown hU hX => by
              obtain ⟨⟨rfl, rfl⟩, own⟩ := h
              exact ⟨⟨rfl, rfl⟩, own.keep fun b hb hl _ => by have := (K5.out b).1 (by rw [hb]; rfl); exact hown b this.1 this.2⟩
          | exact fun _ _ _ _ _ _ _ _ h _ _ _ _ _ => h
      intro f lo hi W8 hbr hx hf hk hrg; (try replace hbr := BelX.zero hbr); clear hx; (try simp (decide := true) only [go_sem] at hf); (try simp (decide := true) only [go_sem] at hk)
      obtain ⟨⟨ca, cc, ea1, ec1, h28, o1, o2, l1, l2⟩, ⟨ca', cc', ea', ec', xb, xd, h28', h41, own7, -⟩, ⟨sb, sd, h47, own8, lt8⟩, h13, h14⟩ := hf
      obtain ⟨rfl, rfl, rfl, rfl⟩ : ca = ca' ∧ cc = cc' ∧ ea1 = ea' ∧ ec1 = ec' := by
        rw [h28] at h28'
        simpa [and_assoc] using h28'
      rw [h41] at h13
      rw [h47] at h14
      have r4 := hrg.out 4 (by simp)
      have r12 := hrg.out 12 (by simp)
      have hout : ∀ q, q < U.heap.size → ¬ (gl ≤ q ∧ q < gh) → ¬ (kl ≤ q ∧ q < kh) → W8.heap[q]? = U.heap[q]? := fun q h1 h2 h3 => hbr.2.2.2.2 q ⟨h1, fun r hr => by simp at hr; rcases hr with rfl | rfl <;> simp only <;> omega⟩
      have hsz8 : U.heap.size ≤ W8.heap.size := hbr.2.2.2.1
      have lC : CS.length = ps.length := HOK.out.2.1
      have lN : NS.length = ps.length := HOK.out.2.2
      have hpU : p < U.heap.size := by omega
      have eK : vSize (⟨lat, ov, CS, NS, ca, cc, ea1, ec1⟩ : Vx).key = (ps.length : Int) := by simp [vSize, Vx.key, lC]
      have vs8 : VSz p W8 B (its ++ [⟨lat, ov, CS, NS, ca, cc, ea1, ec1⟩]) xb xd sb sd := HHV.out.push G5.out K5.out hout (by simpa [Vx.cells, lC, lN, HIL.out] using own7) (by rw [eK, HIL.out]; exact own8) lt8 (by simp only [lC]; exact o1) (by simp only [lN]; exact o2) l1 l2 r12.1 r4.1 (by rcases r12.2.2.2 4 (by simp) (by decide) with h | h <;> omega) hpU HOK.out.1 k3 (b2 := 0) (b3 := 0)
      have hgB : ∀ q, q < B → ¬ (gl ≤ q ∧ q < gh) ∧ ¬ (kl ≤ q ∧ q < kh) := fun q hq => by omega
      have beB : ∀ q, q < B → W8.heap[q]? = U.heap[q]? := fun q hq => hout q (by omega) (hgB q hq).1 (hgB q hq).2
      have hd8 := HHD.out.keepB beB hpB (HOLD.out.imp id fun h b hb => by have := h b hb; omega)
      have gw8 : w1.grownBy W8 (some p) := ⟨hbr.1.trans HHG.out.os, hbr.2.1.trans HHG.out.tape, hbr.2.2.1.trans HHG.out.output, Nat.le_trans HHG.out.size hsz8, fun q hq hne => (beB q (by have := HB.out; omega)).trans (HHG.out.block q hq hne)⟩
      have kJ8 : Blk W8 J 32 _ := (hout J kJl hJ0.1 hJ0.2).trans kJ
      clear hout hbr hrg h28' own7 own8 o1 o2 kJ kS kV beB hgB r4 r12 lt8 l1 l2 HO1 HHD HHV HHG oV oS
      go_simp
      clear hk h28 h41 h47 h13 h14
      go_wp2_with fail
      go_roundw
      case rel => exact ⟨i + 1, k2, its ++ [⟨lat, ov, CS, NS, ca, cc, ea1, ec1⟩], xb, xd, sb, sd, rfl, rfl, by go_num, by omega, by simp; exact HIL.out, vs8, hd8, gw8⟩
      case measure => simp [intOf]; omega
    · obtain rfl : i = N := by omega
      have HOK := Lib.hid vs.vd.ok
      obtain ⟨BS, hBS⟩ : ∃ BS, bytesOf (its.map Vx.key) = BS := ⟨_, rfl⟩
      have HBS := Lib.hid hBS
      have hbl : BS.length ≤ 50 := by
        have h1 := bytesOf_len (its.map Vx.key) (fun v hv => by obtain ⟨x, hx, rfl⟩ := List.mem_map.1 hv; exact (vs.vd.ok x hx).ok)
        rw [hBS, List.length_map, HIL.out] at h1
        omega
      have hvw := Lib.hid vs.vd.l.vws
      have hsz := Lib.hid vs.own.ints
      have hwp : w.heap.size ≤ p := by omega
      have be : RowKit.Below w.heap.size w wr := (hb1.mono (by omega)).grown gw (by have := HB.out; omega) (fun k hk => by injection hk with hk; omega)
      have hzl : Hid (i = (szL its).length) := Lib.hid (by rw [szL_len]; exact HIL.out.symm)
      clear hBS vs hd gw hb1
      go_upto_region 12 with ((go_at_call 14; (with_reducible refine (ref23_BytesE HBS va i vc _ hvw.out HIL.out.symm (by have := HIL.out; omega) (fun v hv => (HOK.out v hv).ok)).mono ?_); rintro e w3 ⟨b, c, m2, rfl, hm, own, hb3⟩))
      have hcl := own.cap_le
      have hbyt := Lib.hid own.byt
      have be3 : RowKit.Below w.heap.size w w3 := (by repeat (first | (with_reducible refine Below.setCell ?_ ?_ _) | (with_reducible refine Below.alloc ?_ ?_ _) | (with_reducible refine Below.drew ?_) | (with_reducible refine below_drewN ?_ _) | (with_reducible exact Below.refl _ _) | (with_reducible refine Below.trans ?_ (Below.mono hb3 ?_)) | (with_reducible refine Below.trans ?_ (Below.mono be ?_)) | (focus (simp; done)) | (focus (simp; omega)) | (focus omega) | (focus (have q0 := Below.size hb3; (try simp at q0); have q1 := Below.size be; (try simp at q1); (try simp); omega))))
      have hsz3 := Lib.hid (Ints.below hsz.out hb3 (Nat.le_refl _))
      clear own hb3
      obtain ⟨ix, HIX, ix0, ix1⟩ := modName by_ (i : Int) (by omega)
      obtain ⟨iv, HIV, iv0, iv1⟩ := modName at_ 12 (by decide)
      obtain ⟨xn, rfl⟩ := Int.eq_ofNat_of_zero_le ix0
      have hxn : xn < i := by omega
      go_upto_region 13 with ((at_builtin; refine wp_appI0 rfl _ _ rfl sa i sc (szL its) rfl rfl hsz3.out hzl.out (by omega) ?_; intro ob oc w4 ownO hb4))
      have be4 : RowKit.Below w.heap.size w w4 := (by repeat (first | (with_reducible refine Below.setCell ?_ ?_ _) | (with_reducible refine Below.alloc ?_ ?_ _) | (with_reducible refine Below.drew ?_) | (with_reducible refine below_drewN ?_ _) | (with_reducible exact Below.refl _ _) | (with_reducible refine Below.trans ?_ (Below.mono hb4 ?_)) | (with_reducible refine Below.trans ?_ (Below.mono be3 ?_)) | (focus (simp; done)) | (focus (simp; omega)) | (focus omega) | (focus (have q0 := Below.size hb4; (try simp at q0); have q1 := Below.size be3; (try simp at q1); (try simp); omega))))
      have hsz4 := Lib.hid (Ints.below hsz3.out hb4 (Nat.le_refl _))
      have hbyt4 := Lib.hid (hbyt.out.below hb4 (Nat.le_refl _))
      obtain ⟨G, rfl, hG, hGl⟩ := ownO.open_ (by omega)
      have x0 := ownO.cell xn (by have := hzl.out; simp; omega)
      have xf := ownO.frozen xn
      have hzw := be3.size
      have hsne : ∀ q, sa.map (·.block) = some q → q < w3.heap.size := fun q hq => by
        rcases hsz3.out with hz | ⟨b', off', e, hlt, _⟩
        · have h4 := hzl.out
          rw [List.map_eq_nil_iff.1 hz] at h4
          simp at h4
          omega
        · rw [e] at hq; simp at hq; omega
      have hbne : ∀ q, b.map (·.block) = some q → BS ≠ [] → q < w3.heap.size := fun q hq hne => by
        rcases hbyt.out with hz | ⟨b', off', e, hlt, _⟩
        · exact absurd (by simpa using hz) hne
        · rw [e] at hq; simp at hq; omega
      go_upto_region 14 with (first | (go_at_call 11; (with_reducible refine (mk_ModE HIX.out _ (by omega) (by omega)).mono ?_); rintro e w5 ⟨rfl, rfl⟩) | (go_at_call 11; (with_reducible refine (mk_ModE HIV.out _ (by decide) (by decide)).mono ?_); rintro e w5 ⟨rfl, rfl⟩))
      obtain ⟨OL, hOL⟩ : ∃ OL, (szL its).set xn (iv - 1) = OL := ⟨_, rfl⟩
      have hOlen : Hid (OL.length = i) := Lib.hid (by rw [← hOL, List.length_set]; exact hzl.out.symm)
      refine wp_named (fun Y => Ints Y (some ⟨G, 0, none⟩) OL ∧ Ints Y sa (szL its) ∧ Byt Y b BS ∧ RowKit.Below w.heap.size w Y) ⟨?_, ?_, ?_, (by repeat (first | (with_reducible refine Below.setCell ?_ ?_ _) | (with_reducible refine Below.alloc ?_ ?_ _) | (with_reducible refine Below.drew ?_) | (with_reducible refine below_drewN ?_ _) | (with_reducible exact Below.refl _ _) | (with_reducible refine Below.trans ?_ (Below.mono be4 ?_)) | (focus (simp; done)) | (focus (simp; omega)) | (focus omega) | (focus (have q0 := Below.size be4; (try simp at q0); (try simp); omega))))⟩ ?_
      · have := ownO.set xn (.int .i64 (iv - 1))
        rw [show (Value.int .i64 (iv - 1)) = encI (iv - 1) from rfl, ← List.map_set, hOL] at this
        exact this.ints
      · exact Row.far hsz4.out (fun e => by have := hsne _ e; simp only at this; omega) _
      · by_cases hne : BS = []
        · exact .inl (by rw [hne]; rfl)
        · exact Row.far hbyt4.out (fun e => by have := hbne _ e hne; simp only at this; omega) _
      clear hOL ownO hb4 be4 x0 xf hsne hbne hzw hG hGl
      rintro Y ⟨iO, iS, bB, beY⟩
      go_wp2_with ((go_at_call 15; (with_reducible refine (mk_Spoilt b m2 c BS at_ by_ _ bB hm.out (by omega)).mono ?_); rintro e w6 ⟨qa, qc, q, rfl, hbq, hlq, hcq, hb6⟩))
      obtain ⟨X, hX⟩ : ∃ X, w6.heap.size = X := ⟨_, rfl⟩
      refine wp_named (fun R => (∀ j, j < 3 → CelB R ⟨X, j, none⟩) ∧ X < R.heap.size ∧ Ints R (some ⟨G, 0, none⟩) OL ∧ Ints R sa (szL its) ∧ RowKit.Below w.heap.size w R) ⟨fun j hj => ?_, by rw [← hX]; simp, (Ints.below iO hb6 (Nat.le_refl _)).alloc _, (Ints.below iS hb6 (Nat.le_refl _)).alloc _, (by repeat (first | (with_reducible refine Below.setCell ?_ ?_ _) | (with_reducible refine Below.alloc ?_ ?_ _) | (with_reducible refine Below.drew ?_) | (with_reducible refine below_drewN ?_ _) | (with_reducible exact Below.refl _ _) | (with_reducible refine Below.trans ?_ (Below.mono hb6 ?_)) | (with_reducible refine Below.trans ?_ (Below.mono beY ?_)) | (focus (simp; done)) | (focus (simp; omega)) | (focus omega) | (focus (have q0 := Below.size hb6; (try simp at q0); have q1 := Below.size beY; (try simp at q1); (try simp); omega))))⟩ ?_
      · have hk := Blk.new w6 22 #[.slice a0 l0.length c0, .slice b m2 c, .slice qa q.length qc]
        rw [hX] at hk
        have hw6 : RowKit.Below w.heap.size w w6 := (by repeat (first | (with_reducible refine Below.setCell ?_ ?_ _) | (with_reducible refine Below.alloc ?_ ?_ _) | (with_reducible refine Below.drew ?_) | (with_reducible refine below_drewN ?_ _) | (with_reducible exact Below.refl _ _) | (with_reducible refine Below.trans ?_ (Below.mono hb6 ?_)) | (with_reducible refine Below.trans ?_ (Below.mono beY ?_)) | (focus (simp; done)) | (focus (simp; omega)) | (focus omega) | (focus (have q0 := Below.size hb6; (try simp at q0); have q1 := Below.size beY; (try simp at q1); (try simp); omega))))
        have hj3 : j = 0 ∨ j = 1 ∨ j = 2 := by omega
        rcases hj3 with rfl | rfl | rfl
        · exact ⟨a0, _, c0, l0, hk.cell 0, rfl, (h0.below hw6 (Nat.le_refl _)).alloc _, cc0, by omega⟩
        · exact ⟨b, _, c, BS, hk.cell 1, hm.out, (bB.below hb6 (Nat.le_refl _)).alloc _, by have := hm.out; omega, by omega⟩
        · exact ⟨qa, _, qc, q, hk.cell 2, rfl, hbq.alloc _, hcq, by omega⟩
      rw [hX]
      clear hX iO iS bB beY hbq hb6
      rintro R ⟨hX3, hXl, iO, iS, beR⟩
      have HX3 := Lib.hid hX3
      clear hX3
      have e33 : ((3 : Nat) : Int) = 3 := rfl
      go_loopw [84] (fun s84 wr => ∃ i2 : Nat, s84 = .int .i64 i2 ∧ i2 ≤ 3 ∧ RowKit.Below R.heap.size R wr) (fun s _ => 3 - (intOf s).toNat)
      case atStart => exact ⟨0, rfl, by omega, (by repeat (first | (with_reducible refine Below.setCell ?_ ?_ _) | (with_reducible refine Below.alloc ?_ ?_ _) | (with_reducible refine Below.drew ?_) | (with_reducible refine below_drewN ?_ _) | (with_reducible exact Below.refl _ _) | (focus (simp; done)) | (focus (simp; omega)) | (focus omega)))⟩
      case round =>
        obtain ⟨i2, rfl, hi2, bR⟩ := hrel
        by_cases hl2 : i2 < 3
        · obtain ⟨xa, xm, xc, xl, x0, hxm, hxb, hxc, hxl⟩ := (HX3.out i2 hl2).below bR hXl
          have HXM := Lib.hid hxm
          have hxm9 : xm ≤ 1000 := by omega
          have hxb := Lib.hid hxb
          clear hxm
          have i23 : (i2 : Int) < 3 := by omega
          have hXl2 : X < wr.heap.size := Nat.lt_of_lt_of_le hXl bR.size
          go_wp2_with fail
          obtain ⟨P, hP⟩ : ∃ P, wr.heap.size = P := ⟨_, rfl⟩
          refine wp_named (fun T => (∀ j, j < 3 → CelI T ⟨P, j, none⟩) ∧ P < T.heap.size ∧ Byt T xa xl ∧ RowKit.Below R.heap.size R T) ⟨fun j hj => ?_, by rw [← hP]; simp, hxb.out.alloc _, (by repeat (first | (with_reducible refine Below.setCell ?_ ?_ _) | (with_reducible refine Below.alloc ?_ ?_ _) | (with_reducible refine Below.drew ?_) | (with_reducible refine below_drewN ?_ _) | (with_reducible exact Below.refl _ _) | (with_reducible refine Below.trans ?_ (Below.mono bR ?_)) | (focus (simp; done)) | (focus (simp; omega)) | (focus omega) | (focus (have q0 := Below.size bR; (try simp at q0); (try simp); omega))))⟩ ?_
          · have hk := Blk.new wr 23 #[.slice sa i sc, .slice a2 l2.length c2, .slice (some ⟨G, 0, none⟩) i oc]
            rw [hP] at hk
            have hj3 : j = 0 ∨ j = 1 ∨ j = 2 := by omega
            rcases hj3 with rfl | rfl | rfl
            · exact ⟨sa, i, sc, szL its, hk.cell 0, hzl.out, (Ints.below iS bR (Nat.le_refl _)).alloc _, by have := hzl.out; omega⟩
            · exact ⟨a2, _, c2, l2, hk.cell 1, rfl, (Ints.below h2 ((by repeat (first | (with_reducible refine Below.setCell ?_ ?_ _) | (with_reducible refine Below.alloc ?_ ?_ _) | (with_reducible refine Below.drew ?_) | (with_reducible refine below_drewN ?_ _) | (with_reducible exact Below.refl _ _) | (with_reducible refine Below.trans ?_ (Below.mono bR ?_)) | (with_reducible refine Below.trans ?_ (Below.mono beR ?_)) | (focus (simp; done)) | (focus (simp; omega)) | (focus omega) | (focus (have q0 := Below.size bR; (try simp at q0); have q1 := Below.size beR; (try simp at q1); (try simp); omega))))) (Nat.le_refl _)).alloc _, by omega⟩
            · exact ⟨some ⟨G, 0, none⟩, i, oc, OL, hk.cell 2, hOlen.out.symm, (Ints.below iO bR (Nat.le_refl _)).alloc _, by have := hOlen.out; omega⟩
          rw [hP]
          clear hP bR x0
          rintro T ⟨hP3, hPl, hxT, bT⟩
          have HP3 := Lib.hid hP3
          clear hP3
          go_loopw [93] (fun s93 wr => ∃ j2 : Nat, s93 = .int .i64 j2 ∧ j2 ≤ 3 ∧ RowKit.Below T.heap.size T wr) (fun s _ => 3 - (intOf s).toNat)
          case atStart => exact ⟨0, rfl, by omega, (by repeat (first | (with_reducible refine Below.setCell ?_ ?_ _) | (with_reducible refine Below.alloc ?_ ?_ _) | (with_reducible refine Below.drew ?_) | (with_reducible refine below_drewN ?_ _) | (with_reducible exact Below.refl _ _) | (focus (simp; done)) | (focus (simp; omega)) | (focus omega)))⟩
          case round =>
            obtain ⟨j2, rfl, hj2, bQ⟩ := hrel
            by_cases hl3 : j2 < 3
            · obtain ⟨pa, pm, pc, pl, y0, hpm, hpb, hpl⟩ := (HP3.out j2 hl3).below bQ hPl
              have hxq := Lib.hid (hxT.below bQ (Nat.le_refl _))
              have HPM := Lib.hid hpm
              have hpm9 : pm ≤ 10 := by omega
              have hpb := Lib.hid hpb
              clear hpm
              have j23 : (j2 : Int) < 3 := by omega
              have hPl2 : P < wr.heap.size := Nat.lt_of_lt_of_le hPl bQ.size
              cases hpr : pRun xl pl with
              | none =>
                have HPN := Lib.hid hpr
                clear hpr
                go_wp2_with (first | (go_at_call 16; (with_reducible refine (rec_ParseN HPN xa xm xc pa pm pc _ hxq.out HXM.out hxc (by omega) hpb.out HPM.out (by omega)).mono ?_); rintro e w7 ⟨rfl, hb7⟩) | (go_at_call 17; (with_reducible refine (ref23_ParseN HPN xa xm xc pa pm pc _ (hxq.out.below hb7 (Nat.le_refl _)) HXM.out hxc (by omega) (Ints.below hpb.out hb7 (Nat.le_refl _)) HPM.out (by omega)).mono ?_); rintro e w8 ⟨rfl, hb8⟩) | (go_at_call 18; (with_reducible refine (same_nil _).mono ?_); rintro e w9 ⟨rfl, hb9⟩))
                go_roundw
                case rel => exact ⟨j2 + 1, by go_num, by omega, (by repeat (first | (with_reducible refine Below.setCell ?_ ?_ _) | (with_reducible refine Below.alloc ?_ ?_ _) | (with_reducible refine Below.drew ?_) | (with_reducible refine below_drewN ?_ _) | (with_reducible exact Below.refl _ _) | (with_reducible refine Below.trans ?_ (Below.mono hb9 ?_)) | (with_reducible refine Below.trans ?_ (Below.mono hb8 ?_)) | (with_reducible refine Below.trans ?_ (Below.mono hb7 ?_)) | (with_reducible refine Below.trans ?_ (Below.mono bQ ?_)) | (focus (simp; done)) | (focus (simp; omega)) | (focus omega) | (focus (have q0 := Below.size hb9; (try simp at q0); have q1 := Below.size hb8; (try simp at q1); have q2 := Below.size hb7; (try simp at q2); have q3 := Below.size bQ; (try simp at q3); (try simp); omega))))⟩
                case measure => simp [intOf]; omega
              | some vs =>
                have HPY := Lib.hid hpr
                clear hpr
                go_wp2_with (first | (go_at_call 16; (with_reducible refine (rec_ParseY HPY xa xm xc pa pm pc _ hxq.out HXM.out hxc (by omega) hpb.out HPM.out (by omega)).mono ?_); rintro e w7 ⟨ya, ym, yc, its2, rfl, hb7, hk7, hl7, vl7⟩) | (go_at_call 17; (with_reducible refine (ref23_ParseY HPY xa xm xc pa pm pc _ (hxq.out.below hb7 (Nat.le_refl _)) HXM.out hxc (by omega) (Ints.below hpb.out hb7 (Nat.le_refl _)) HPM.out (by omega)).mono ?_); rintro e w8 ⟨za, zm, zc, its3, rfl, hb8, hk8, hl8, vl8⟩; (have vv7 := (vl7.below hb8).vws)) | (go_at_call 18; (with_reducible refine (ref23_Same ya za its2 its3 ym zm yc zc _ vv7 vl8.vws hl7.out hl8.out (by have h1 := (keys_small hk7.out HPY.out).2; have h4 := HPM.out; omega) (hk7.out.trans hk8.out.symm) (keys_small hk7.out HPY.out).1).mono ?_); rintro e w9 ⟨rfl, hb9⟩))
                go_roundw
                case rel => exact ⟨j2 + 1, by go_num, by omega, (by repeat (first | (with_reducible refine Below.setCell ?_ ?_ _) | (with_reducible refine Below.alloc ?_ ?_ _) | (with_reducible refine Below.drew ?_) | (with_reducible refine below_drewN ?_ _) | (with_reducible exact Below.refl _ _) | (with_reducible refine Below.trans ?_ (Below.mono hb9 ?_)) | (with_reducible refine Below.trans ?_ (Below.mono hb8 ?_)) | (with_reducible refine Below.trans ?_ (Below.mono hb7 ?_)) | (with_reducible refine Below.trans ?_ (Below.mono bQ ?_)) | (focus (simp; done)) | (focus (simp; omega)) | (focus omega) | (focus (have q0 := Below.size hb9; (try simp at q0); have q1 := Below.size hb8; (try simp at q1); have q2 := Below.size hb7; (try simp at q2); have q3 := Below.size bQ; (try simp at q3); (try simp); omega))))⟩
                case measure => simp [intOf]; omega
            · obtain rfl : j2 = 3 := by omega
              go_wp2_with fail
              go_roundw
              case rel => exact ⟨i2 + 1, by go_num, by omega, (by repeat (first | (with_reducible refine Below.setCell ?_ ?_ _) | (with_reducible refine Below.alloc ?_ ?_ _) | (with_reducible refine Below.drew ?_) | (with_reducible refine below_drewN ?_ _) | (with_reducible exact Below.refl _ _) | (with_reducible refine Below.trans ?_ (Below.mono bQ ?_)) | (with_reducible refine Below.trans ?_ (Below.mono bT ?_)) | (focus (simp; done)) | (focus (simp; omega)) | (focus omega) | (focus (have q0 := Below.size bQ; (try simp at q0); have q1 := Below.size bT; (try simp at q1); (try simp); omega))))⟩
              case measure => simp [intOf]; omega
        · obtain rfl : i2 = 3 := by omega
          go_wp2_with ((go_at_call 9; (with_reducible refine (awake_yes _).mono ?_); rintro e w20 ⟨rfl, hb20⟩))
          go_ret
          exact ⟨rfl, (by repeat (first | (with_reducible refine Below.setCell ?_ ?_ _) | (with_reducible refine Below.alloc ?_ ?_ _) | (with_reducible refine Below.drew ?_) | (with_reducible refine below_drewN ?_ _) | (with_reducible exact Below.refl _ _) | (with_reducible refine Below.trans ?_ (Below.mono hb20 ?_)) | (with_reducible refine Below.trans ?_ (Below.mono bR ?_)) | (with_reducible refine Below.trans ?_ (Below.mono beR ?_)) | (focus (simp; done)) | (focus (simp; omega)) | (focus omega) | (focus (have q0 := Below.size hb20; (try simp at q0); have q1 := Below.size bR; (try simp at q1); have q2 := Below.size beR; (try simp at q2); (try simp); omega))))⟩
end Go.Proofs.Ytdkifkbnkedbpaa
