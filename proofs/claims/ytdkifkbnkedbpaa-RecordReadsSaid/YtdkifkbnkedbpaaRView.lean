/- RecordViews: the walk -/
import Derived.Test.YtdkifkbnkedbpaaRViews
namespace Go.Proofs.Ytdkifkbnkedbpaa
set_option linter.unusedVariables false
open Go.RowKit Go.Sort
set_option maxRecDepth 100000

theorem VxL.grown {W W' : World} {B p : Nat} {its : List Vx} {xa : Option Addr} {xc : Nat} (h : VxL W B its xa xc) (hg : W.grownBy W' (some p)) (h1 : p < B) (h2 : ∀ v ∈ its, (∀ b, v.ca.map (·.block) = some b → b ≠ p) ∧ ∀ b, v.na.map (·.block) = some b → b ≠ p) : VxL W' B its xa xc :=
  ⟨h.own.grown hg h1, fun v hv => (h.cs v hv).keep fun b hb _ hl => hg.block b hl fun e => (h2 v hv).1 b (by rw [hb]; rfl) (by injection e), fun v hv => (h.ns v hv).keep fun b hb _ hl => hg.block b hl fun e => (h2 v hv).2 b (by rw [hb]; rfl) (by injection e)⟩
/-- a list of views, none of whose arrays is the deck -/
structure VxD (p : Nat) (W : World) (B : Nat) (its : List Vx) (xa : Option Addr) (xc : Nat) : Prop where
  l : VxL W B its xa xc
  ok : ∀ v ∈ its, OkB v.key
  ne : ∀ v ∈ its, (∀ b, v.ca.map (·.block) = some b → b ≠ p) ∧ ∀ b, v.na.map (·.block) = some b → b ≠ p
theorem VxD.below {p : Nat} {W W' : World} {B : Nat} {its : List Vx} {xa : Option Addr} {xc : Nat} (h : VxD p W B its xa xc) (hb : Below W.heap.size W W') : VxD p W' B its xa xc := ⟨h.l.below hb, h.ok, h.ne⟩
theorem VxD.grown {p : Nat} {W W' : World} {B : Nat} {its : List Vx} {xa : Option Addr} {xc : Nat} (h : VxD p W B its xa xc) (hg : W.grownBy W' (some p)) (h1 : p < B) : VxD p W' B its xa xc := ⟨h.l.grown hg h1 h.ne, h.ok, h.ne⟩
theorem VxD.push {p : Nat} {W W' : World} {B : Nat} {its : List Vx} {x : Vx} {xa xb : Option Addr} {xc xd : Nat} (h : VxD p W B its xa xc) (h2 : VxL W' B (its ++ [x]) xb xd) (hok : OkB x.key) (hne : (∀ b, x.ca.map (·.block) = some b → b ≠ p) ∧ ∀ b, x.na.map (·.block) = some b → b ≠ p) : VxD p W' B (its ++ [x]) xb xd :=
  ⟨h2, fun v hv => by
    rcases List.mem_append.1 hv with hv | hv
    · exact h.ok v hv
    · rw [List.mem_singleton.1 hv]; exact hok, fun v hv => by
    rcases List.mem_append.1 hv with hv | hv
    · exact h.ne v hv
    · rw [List.mem_singleton.1 hv]; exact hne⟩
theorem DeckAt.keepB {W W' : World} {p B k : Nat} {d : Dk} (h : DeckAt W p d k) (hB : ∀ b, b < B → W'.heap[b]? = W.heap[b]?) (hp : p < B) (ha : d.l = [] ∨ ∀ b, d.a.map (·.block) = some b → b < B) : DeckAt W' p d k := by
  refine ⟨(hB p hp).trans h.1, ?_, h.2.2⟩
  rcases ha with ha | ha
  · exact .inl (by rw [ha]; rfl)
  · exact Row.keep h.2.1 fun b off e _ => hB b (ha b (by rw [e]; rfl))
theorem ints_old {w : World} {a : Option Addr} {l : List Int} (h : Ints w a l) : l = [] ∨ ∀ b, a.map (·.block) = some b → b < w.heap.size := by
  rcases h with hz | ⟨b, off, e, hlt, _⟩
  · exact .inl (by simpa using hz)
  · exact .inr fun b' hb' => by rw [e] at hb'; simp at hb'; omega
set_option maxHeartbeats 16000000 in
theorem recordViews_walk (a0 : Option Addr) (c0 : Nat) (l0 : List Int) (n : Int) (w : World) (h0 : Ints w a0 l0) (n0 : l0.length ≤ 9223372036854775807) :
    Calls Try.prog 4 #[.slice a0 l0.length c0, .int .i64 n] w fun e w' => e = .returned (.bool true) ∧ RowKit.Below w.heap.size w w' := by
  obtain ⟨m, HM, hm0, hm3⟩ := modName n 3 (by decide)
  have HOLD := Lib.hid (ints_old h0)
  go_enter Try.func4, Try.ntmps4
  go_wp2_with (first | (go_at_call 10; (with_reducible refine (mk_New a0 c0 l0 _ h0 n0).mono ?_); rintro e w1 ⟨rfl, hd1, hb1⟩) | (go_at_call 11; (with_reducible refine (mk_ModE HM.out _ (by decide) (by decide)).mono ?_); rintro e w2 ⟨rfl, rfl⟩))
  obtain ⟨N, hN⟩ : ∃ N : Nat, (N : Int) = 1 + m := ⟨(1 + m).toNat, by omega⟩
  have hN3 : 1 ≤ N ∧ N ≤ 3 := by omega
  rw [← hN]
  have hz1 := hb1.size
  have hd1' := hd1.lt
  obtain ⟨p, hp⟩ : ∃ p, w.heap.size = p := ⟨_, rfl⟩
  rw [hp] at hd1 hb1 hz1 hd1' ⊢
  obtain ⟨B, hB⟩ : ∃ B, w1.heap.size = B := ⟨_, rfl⟩
  have HB := Lib.hid hB
  have hpB : p < B := by omega
  clear hN hB
  go_loopw [6, 17] (fun s6 s17 wr => ∃ (i k : Nat) (its : List Vx) (va : Option Addr) (vc : Nat), s6 = .slice va i vc ∧ s17 = .int .i64 i ∧ i ≤ N ∧ its.length = i ∧ VxD p wr B its va vc ∧ DeckAt wr p ⟨a0, c0, l0⟩ k ∧ w1.grownBy wr (some p)) (fun _ i _ => N - (intOf i).toNat)
  case atStart => exact ⟨0, 0, [], none, 0, rfl, rfl, by omega, rfl, ⟨VxL.nil _ _, by simp, by simp⟩, hd1, World.grownBy.refl _ _⟩
  case round =>
    clear hd1 hz1 hd1'
    obtain ⟨i, k, its, va, vc, rfl, rfl, hi, hil, vd, hd, gw⟩ := hrel
    have HIL := Lib.hid hil
    clear hil
    have hBr : B ≤ wr.heap.size := by have := gw.size; have := HB.out; omega
    by_cases hlt : i < N
    · have iN : (i : Int) < (N : Int) := by omega
      go_upto_region 6 with ((go_at_call 12; (with_reducible refine (law_signal p _ k _ hd).mono ?_); rintro e w2 ⟨k2, jb, jc, jb2, jc2, ps, cs, s, ls, nx, g, wt, la, lc, na, nc, lat, ph, gr, es, ea, ec, rfl, hj, hcv, q0, q1, hd2, g2⟩))
      obtain ⟨J, hJ⟩ : ∃ J, w2.heap.size = J := ⟨_, rfl⟩
      refine wp_named (fun U => Blk U J 32 #[.slice (some ⟨jb, 0, none⟩) ps.length jc, .slice (some ⟨jb2, 0, none⟩) ps.length jc2, .int .i64 s] ∧ Blk U (J + 1) 37 #[.slice la ps.length lc, .int .i64 g, .slice na 2 nc, .int .i64 wt, .bool lat] ∧ Blk U (J + 2) 39 #[.int .i64 ph, .int .i64 gr, .slice ea ps.length ec] ∧ RowKit.Below w2.heap.size w2 U ∧ J + 3 ≤ U.heap.size) ?_ ?_
      · obtain ⟨t1, t2, t3, t4⟩ := three_at w2 #[.slice (some ⟨jb, 0, none⟩) ps.length jc, .slice (some ⟨jb2, 0, none⟩) ps.length jc2, .int .i64 s] #[.slice la ps.length lc, .int .i64 g, .slice na 2 nc, .int .i64 wt, .bool lat] #[.int .i64 ph, .int .i64 gr, .slice ea ps.length ec] 32 37 39
        rw [← hJ]
        exact ⟨t2, t3, t4, t1, by simp⟩
      rintro U ⟨kJ, kS, kV, bU, hJz⟩
      have hjU := hj.below (base := w2.heap.size) bU
      have hcU := hcv.below bU
      have hdU := hd2.below bU
      have gU := (gw.trans g2).trans (bU.grown_any (some p))
      have vdU := (vd.grown g2 hpB).below bU
      have hBJ : B ≤ J := by have := g2.size; omega
      have hok := ofK_ok lat (!lat && (ph != -1)) hjU.n1.2 hjU.ok hcU.ll hcU.lok
      have hn := hjU.n1
      rw [hJ] at hjU ⊢
      clear hJ hj hcv hd2 g2 bU vd gw hd
      obtain ⟨ov, hov⟩ : ∃ ov, (!lat && (ph != -1)) = ov := ⟨_, rfl⟩
      obtain ⟨CS, hCS⟩ : ∃ CS, ofC lat ls = CS := ⟨_, rfl⟩
      obtain ⟨NS, hNS⟩ : ∃ NS, ofN lat ps ls = NS := ⟨_, rfl⟩
      have HO1 : ∀ W, RowKit.Below U.heap.size U W → Calls Try.prog 19 #[jAgg jb jc jb2 jc2 ps.length s, sAgg la ps.length lc g na 2 nc wt lat, .agg #[.int .i64 ph, .int .i64 gr, .slice ea ps.length ec]] W (VwR lat ov ps.length CS NS W) := fun W h => by
        have := rec_Of J jb jc jb2 jc2 ps cs s 0 ls la lc g wt na 2 nc lat ph gr ea ps.length ec W (hjU.below (h.mono (by omega))) ⟨(hcU.lo.mono (Nat.zero_le _)).below h (Nat.le_refl _), hcU.ll, hcU.lok⟩
        rwa [hov, hCS, hNS] at this
      have HO2 : ∀ W, RowKit.Below U.heap.size U W → Calls Try.prog 13 #[jAgg jb jc jb2 jc2 ps.length s, sAgg la ps.length lc g na 2 nc wt lat, .agg #[.int .i64 ph, .int .i64 gr, .slice ea ps.length ec]] W (VwR lat ov ps.length CS NS W) := fun W h => by
        have := ref23_Of J jb jc jb2 jc2 ps cs s 0 ls la lc g wt na 2 nc lat ph gr ea ps.length ec W (hjU.below (h.mono (by omega))) ⟨(hcU.lo.mono (Nat.zero_le _)).below h (Nat.le_refl _), hcU.ll, hcU.lok⟩
        rwa [hov, hCS, hNS] at this
      rw [hov, hCS, hNS] at hok
      have HO1 := Lib.hid HO1
      have HO2 := Lib.hid HO2
      have HOK := Lib.hid hok
      clear hov hCS hNS hjU hcU hok
      have kJl := kJ.lt
      have kSl := kS.lt
      have kVl := kV.lt
      apply wp_region_tab [] 12 65 [some 25, some 26, some 27, some 28, some 29, some 30, some 31, some 32, some 10, some 11, none, none] [⟨[], [], [], []⟩, ⟨[], [], [], []⟩, ⟨[], [], [], []⟩, ⟨[0, 1, 2], [0, 1, 2], [0, 1, 2], []⟩, ⟨[], [], [], []⟩, ⟨[], [], [], []⟩, ⟨[], [], [], []⟩, ⟨[0, 1, 2, 3, 4, 5, 6], [4, 5, 6], [4, 5, 6], []⟩, ⟨[], [], [], []⟩, ⟨[], [], [], []⟩, ⟨[0, 1, 2, 3, 4, 5, 6, 7, 8, 9], [3, 8], [3, 8], [8]⟩, ⟨[0, 1, 2, 3, 4, 5, 6, 7, 8, 9, 10], [7, 9], [7, 9], [9]⟩] [0, 1, 2, 3, 4, 5, 6, 7, 8, 9, 10, 11] [3, 7, 10, 11] [psiTrue, psiTrue, psiTrue, (fun f lo hi v b0 b1 W => VW lat ov ps.length CS NS v b0 b1 W), psiTrue, psiTrue, psiTrue, (fun f lo hi v b0 b1 W => VW lat ov ps.length CS NS v b0 b1 W), (fun f lo hi v b0 b1 W => ∃ c, v = .pointer (some ⟨c, 0, none⟩) ∧ b0 ≤ c ∧ c < b1 ∧ Blk W c 43 #[.bool false, .bool false, .slice none 0 0, .slice none 0 0]), (fun f lo hi v b0 b1 W => ∃ c, v = .pointer (some ⟨c, 0, none⟩) ∧ b0 ≤ c ∧ c < b1 ∧ Blk W c 43 #[.bool false, .bool false, .slice none 0 0, .slice none 0 0]), (fun f lo hi v b0 b1 W => ∃ (ca : Option Addr) (cc : Nat) (na : Option Addr) (nc c : Nat), f 3 = vAgg lat ov ps.length ca cc na nc ∧ f 8 = .pointer (some ⟨c, 0, none⟩) ∧ lo (8) ≤ c ∧ c < hi (8) ∧ Blk W c 43 #[.bool lat, .bool ov, .slice ca ps.length cc, .slice na ps.length nc]), (fun f lo hi v b0 b1 W => ∃ (ca : Option Addr) (cc : Nat) (na : Option Addr) (nc c : Nat), f 7 = vAgg lat ov ps.length ca cc na nc ∧ f 9 = .pointer (some ⟨c, 0, none⟩) ∧ lo (9) ≤ c ∧ c < hi (9) ∧ Blk W c 43 #[.bool lat, .bool ov, .slice ca ps.length cc, .slice na ps.length nc])] [kVal _, kVal _, kVal _, kTrue, kVal _, kVal _, kVal _, kTrue, kTrue, kTrue, kTrue, kTrue]
      · kernel_rfl
      · kernel_rfl
      · rfl
      · rfl
      · exact trivial
      · exact trivial
      refine ⟨?oR1_0, ?oR1_1, ?oR1_2, ?oR1_3, ?oR1_4, ?oR1_5, ?oR1_6, ?oR1_7, ?oR1_8, ?oR1_9, ?oR1_10, ?oR1_11, trivial⟩
      case oR1_0 =>
        intro f lo hi w hb hx hf hk hrg R hR; (try replace hb := BelX.zero hb); (try simp (decide := true) only [go_sem] at hf); (try simp (decide := true) only [go_sem] at hk)
        have kk := kJ.below hb kJl
        obtain ⟨j0, j1, j2⟩ : w.cell? ⟨J, 0, none⟩ = _ ∧ w.cell? ⟨J, 1, none⟩ = _ ∧ w.cell? ⟨J, 2, none⟩ = _ := ⟨kk.cell 0, kk.cell 1, kk.cell 2⟩
        go_simp
        exact hR _ _ (rpost_val rfl rfl (Below.refl _ _) rfl)
      case oR1_1 =>
        intro f lo hi w hb hx hf hk hrg R hR; (try replace hb := BelX.zero hb); (try simp (decide := true) only [go_sem] at hf); (try simp (decide := true) only [go_sem] at hk)
        obtain ⟨s0, s1, s2, s3, s4, -, -⟩ := (kS.below hb kSl).five
        go_simp
        exact hR _ _ (rpost_val rfl rfl (Below.refl _ _) rfl)
      case oR1_2 =>
        intro f lo hi w hb hx hf hk hrg R hR; (try replace hb := BelX.zero hb); (try simp (decide := true) only [go_sem] at hf); (try simp (decide := true) only [go_sem] at hk)
        have kk := kV.below hb kVl
        obtain ⟨j0, j1, j2⟩ : w.cell? ⟨J + 2, 0, none⟩ = _ ∧ w.cell? ⟨J + 2, 1, none⟩ = _ ∧ w.cell? ⟨J + 2, 2, none⟩ = _ := ⟨kk.cell 0, kk.cell 1, kk.cell 2⟩
        go_simp
        exact hR _ _ (rpost_val rfl rfl (Below.refl _ _) rfl)
      case oR1_3 =>
        intro f lo hi w hb hx hf hk hrg R hR; (try replace hb := BelX.zero hb); (try simp (decide := true) only [go_sem] at hf); (try simp (decide := true) only [go_sem] at hk)
        go_simp
        (with_reducible refine (HO1.out _ hb).mono ?_)
        rintro e w' ⟨ca, cc, da, dc, rfl, o1, o2, hb2⟩
        exact ⟨_, rfl, hR _ _ (rpost_none rfl hb2 (VW.of o1 o2))⟩
      case oR1_4 =>
        intro f lo hi w hb hx hf hk hrg R hR; (try replace hb := BelX.zero hb); (try simp (decide := true) only [go_sem] at hf); (try simp (decide := true) only [go_sem] at hk)
        have kk := kJ.below hb kJl
        obtain ⟨j0, j1, j2⟩ : w.cell? ⟨J, 0, none⟩ = _ ∧ w.cell? ⟨J, 1, none⟩ = _ ∧ w.cell? ⟨J, 2, none⟩ = _ := ⟨kk.cell 0, kk.cell 1, kk.cell 2⟩
        go_simp
        exact hR _ _ (rpost_val rfl rfl (Below.refl _ _) rfl)
      case oR1_5 =>
        intro f lo hi w hb hx hf hk hrg R hR; (try replace hb := BelX.zero hb); (try simp (decide := true) only [go_sem] at hf); (try simp (decide := true) only [go_sem] at hk)
        obtain ⟨s0, s1, s2, s3, s4, -, -⟩ := (kS.below hb kSl).five
        go_simp
        exact hR _ _ (rpost_val rfl rfl (Below.refl _ _) rfl)
      case oR1_6 =>
        intro f lo hi w hb hx hf hk hrg R hR; (try replace hb := BelX.zero hb); (try simp (decide := true) only [go_sem] at hf); (try simp (decide := true) only [go_sem] at hk)
        have kk := kV.below hb kVl
        obtain ⟨j0, j1, j2⟩ : w.cell? ⟨J + 2, 0, none⟩ = _ ∧ w.cell? ⟨J + 2, 1, none⟩ = _ ∧ w.cell? ⟨J + 2, 2, none⟩ = _ := ⟨kk.cell 0, kk.cell 1, kk.cell 2⟩
        go_simp
        exact hR _ _ (rpost_val rfl rfl (Below.refl _ _) rfl)
      case oR1_7 =>
        intro f lo hi w hb hx hf hk hrg R hR; (try replace hb := BelX.zero hb); (try simp (decide := true) only [go_sem] at hf); (try simp (decide := true) only [go_sem] at hk)
        go_simp
        (with_reducible refine (HO2.out _ hb).mono ?_)
        rintro e w' ⟨ca, cc, da, dc, rfl, o1, o2, hb2⟩
        exact ⟨_, rfl, hR _ _ (rpost_none rfl hb2 (VW.of o1 o2))⟩
      case oR1_8 =>
        intro f lo hi w hb hx hf hk hrg R hR; (try replace hb := BelX.zero hb); (try simp (decide := true) only [go_sem] at hf); (try simp (decide := true) only [go_sem] at hk)
        go_simp
        refine hR _ _ (rpost_none rfl ((RowKit.Below.refl _ _).alloc (Nat.le_refl _) _) ?_)
        (try simp (decide := true) only [go_sem])
        exact ⟨_, rfl, Nat.le_refl _, by simp, Blk.new _ _ _⟩
      case oR1_9 =>
        intro f lo hi w hb hx hf hk hrg R hR; (try replace hb := BelX.zero hb); (try simp (decide := true) only [go_sem] at hf); (try simp (decide := true) only [go_sem] at hk)
        go_simp
        refine hR _ _ (rpost_none rfl ((RowKit.Below.refl _ _).alloc (Nat.le_refl _) _) ?_)
        (try simp (decide := true) only [go_sem])
        exact ⟨_, rfl, Nat.le_refl _, by simp, Blk.new _ _ _⟩
      case oR1_10 =>
        intro f lo hi w hb hx hf hk hrg R hR; (try replace hb := BelX.zero hb); (try simp (decide := true) only [go_sem] at hf); (try simp (decide := true) only [go_sem] at hk)
        obtain ⟨⟨ca, cc, da, dc, h28, -⟩, c, h14, q1, q2, kk⟩ := hf
        obtain ⟨e0, e1, e2, e3⟩ := kk.four'
        have fz := kk.frozen
        have kl := kk.lt
        go_simp
        refine hR _ _ (rpost_some rfl rfl (Touch.set4 w (List.mem_singleton.2 rfl) q1 q2 _ _ _ _) ?_)
        (try simp (decide := true) only [go_sem])
        exact ⟨ca, cc, da, dc, c, h28, h14, q1, q2, kk.set4 _ _ _ _⟩
      case oR1_11 =>
        intro f lo hi w hb hx hf hk hrg R hR; (try replace hb := BelX.zero hb); (try simp (decide := true) only [go_sem] at hf); (try simp (decide := true) only [go_sem] at hk)
        obtain ⟨⟨ca, cc, da, dc, h28, -⟩, c, h14, q1, q2, kk⟩ := hf
        obtain ⟨e0, e1, e2, e3⟩ := kk.four'
        have fz := kk.frozen
        have kl := kk.lt
        go_simp
        refine hR _ _ (rpost_some rfl rfl (Touch.set4 w (List.mem_singleton.2 rfl) q1 q2 _ _ _ _) ?_)
        (try simp (decide := true) only [go_sem])
        exact ⟨ca, cc, da, dc, c, h28, h14, q1, q2, kk.set4 _ _ _ _⟩
      case hcl =>
        refine ⟨Closed.true _ _ _ _, Closed.true _ _ _ _, Closed.true _ _ _ _, ?cR1_3, Closed.true _ _ _ _, Closed.true _ _ _ _, Closed.true _ _ _ _, ?cR1_7, ?cR1_8, ?cR1_9, ?cR1_10, ?cR1_11, trivial⟩
        all_goals first
          | exact fun f lo hi v b0 b1 w w' h hs hB hown hU hX => VW.keep h fun q h1 h2 => hown q h1 h2
          | exact fun f lo hi v b0 b1 w w' h hs hB hown hU hX => by
              obtain ⟨c, rfl, h2, h3, h4⟩ := h
              exact ⟨c, rfl, h2, h3, (hown c h2 h3).trans h4⟩
          | exact fun f lo hi v b0 b1 w w' h hs hB hown hU hX => by
              obtain ⟨ca, cc, na, nc, c, h0, h1, h3, h4, h5⟩ := h
              exact ⟨ca, cc, na, nc, c, h0, h1, h3, h4, (hU 8 (by simp) c h3 h4).trans h5⟩
          | exact fun f lo hi v b0 b1 w w' h hs hB hown hU hX => by
              obtain ⟨ca, cc, na, nc, c, h0, h1, h3, h4, h5⟩ := h
              exact ⟨ca, cc, na, nc, c, h0, h1, h3, h4, (hU 9 (by simp) c h3 h4).trans h5⟩
      intro f lo hi W8 hbr hx hf hk hrg; (try replace hbr := BelX.zero hbr); clear hx; (try simp (decide := true) only [go_sem] at hf); (try simp (decide := true) only [go_sem] at hk)
      obtain ⟨⟨ca, cc, ea1, ec1, h28, o1, o2, -, -⟩, ⟨da, dc, fa1, fc1, h32, o3, o4, -, -⟩, ⟨ca', cc', ea', ec', X, h28', h10, X1, X2, kX⟩, da', dc', fa', fc', Yb, h32', h11, Y1, Y2, kY⟩ := hf
      obtain ⟨rfl, rfl, rfl, rfl⟩ : ca = ca' ∧ cc = cc' ∧ ea1 = ea' ∧ ec1 = ec' := by
        rw [h28] at h28'
        simpa [and_assoc] using h28'
      obtain ⟨rfl, rfl, rfl, rfl⟩ : da = da' ∧ dc = dc' ∧ fa1 = fa' ∧ fc1 = fc' := by
        rw [h32] at h32'
        simpa [and_assoc] using h32'
      have r3 := (hrg.out 3 (by simp)).1
      have r7 := (hrg.out 7 (by simp)).1
      have r8 := (hrg.out 8 (by simp)).1
      have r9 := (hrg.out 9 (by simp)).1
      have o3' := o3.mono (base' := U.heap.size) (by omega)
      have o4' := o4.mono (base' := U.heap.size) (by omega)
      have vd8 := vdU.below hbr
      have hd8 := hdU.below hbr
      have gw8 := gU.trans (hbr.grown_any (some p))
      have kJ8 := kJ.below hbr kJl
      have hB8 : B ≤ U.heap.size := by omega
      clear hrg h28' h32' X1 X2 Y1 Y2 kS kV kJ vdU hdU gU o3 o4 HO1 HO2 hbr r3 r7 r8 r9
      go_simp
      clear hk h28 h32 h10 h11
      have kXl := kX.lt
      have kYl := kY.lt
      have kJ8l := kJ8.lt
      go_upto_region 7 with fail
      apply wp_region_tab [] 10 65 [some 33, some 34, some 35, some 36, some 37, some 38, some 39, some 40, some 41, some 42] [⟨[], [], [], []⟩, ⟨[], [], [], []⟩, ⟨[1], [1], [1], []⟩, ⟨[0, 1, 2], [0, 2], [0, 2], []⟩, ⟨[], [], [], []⟩, ⟨[], [], [], []⟩, ⟨[1, 2, 5], [5], [5], []⟩, ⟨[1, 2, 4, 5, 6], [4, 6], [4, 6], []⟩, ⟨[0, 1, 2, 3, 4, 5, 6, 7], [2, 3, 6, 7], [2, 3, 6, 7], []⟩, ⟨[0, 1, 2, 3, 4, 5, 6, 7, 8], [8], [8], []⟩] [0, 1, 2, 3, 4, 5, 6, 7, 8, 9] [] [psiTrue, psiTrue, (fun f lo hi v b0 b1 W => VW true false ps.length (List.replicate ps.length 0) (List.replicate ps.length 0) v b0 b1 W), (fun f lo hi v b0 b1 W => VS2 lat ov ps.length ca cc ea1 ec1 (f 2) v b0 b1 W), psiTrue, psiTrue, (fun f lo hi v b0 b1 W => VW true false ps.length (List.replicate ps.length 0) (List.replicate ps.length 0) v b0 b1 W), (fun f lo hi v b0 b1 W => VS2 lat ov ps.length da dc fa1 fc1 (f 6) v b0 b1 W), psiTrue, psiTrue] [kVal _, kVal _, kTrue, kTrue, kVal _, kVal _, kTrue, kTrue, kVal _, kVal _]
      · kernel_rfl
      · kernel_rfl
      · rfl
      · rfl
      · exact trivial
      · exact trivial
      refine ⟨?oR2_0, ?oR2_1, ?oR2_2, ?oR2_3, ?oR2_4, ?oR2_5, ?oR2_6, ?oR2_7, ?oR2_8, ?oR2_9, trivial⟩
      case oR2_0 =>
        intro f lo hi w hb hx hf hk hrg R hR; (try replace hb := BelX.zero hb); (try simp (decide := true) only [go_sem] at hf); (try simp (decide := true) only [go_sem] at hk)
        obtain ⟨e0, e1, e2, e3⟩ := (kX.below hb kXl).four'
        go_simp
        exact hR _ _ (rpost_val rfl rfl (Below.refl _ _) rfl)
      case oR2_1 =>
        intro f lo hi w hb hx hf hk hrg R hR; (try replace hb := BelX.zero hb); (try simp (decide := true) only [go_sem] at hf); (try simp (decide := true) only [go_sem] at hk)
        have kk := kJ8.below hb kJ8l
        obtain ⟨j0, j1, j2⟩ : w.cell? ⟨J, 0, none⟩ = _ ∧ w.cell? ⟨J, 1, none⟩ = _ ∧ w.cell? ⟨J, 2, none⟩ = _ := ⟨kk.cell 0, kk.cell 1, kk.cell 2⟩
        go_simp
        exact hR _ _ (rpost_val rfl rfl (Below.refl _ _) rfl)
      case oR2_2 =>
        intro f lo hi w hb hx hf hk hrg R hR; (try replace hb := BelX.zero hb); (try simp (decide := true) only [go_sem] at hf); (try simp (decide := true) only [go_sem] at hk)
        go_simp
        (with_reducible refine (rec_Flashing jb jc jb2 jc2 ps.length s _ (by omega)).mono ?_)
        rintro e w' ⟨B1, B2, rfl, q1, q2, -, k1, k2, hb2⟩
        exact ⟨_, rfl, hR _ _ (rpost_none rfl hb2 (VW.flash k1 k2 q1 q2 (by omega)))⟩
      case oR2_3 =>
        intro f lo hi w hb hx hf hk hrg R hR; (try replace hb := BelX.zero hb); (try simp (decide := true) only [go_sem] at hf); (try simp (decide := true) only [go_sem] at hk)
        obtain ⟨xa, xc, ya, yc, h35, -, -, -, -⟩ := hf
        go_simp
        refine hR _ _ (rpost_none rfl ((RowKit.Below.refl _ _).alloc (Nat.le_refl _) _) ?_)
        (try simp (decide := true) only [go_sem])
        exact ⟨_, xa, xc, ya, yc, h35, rfl, Nat.le_refl _, by simp, Blk.new _ _ _⟩
      case oR2_4 =>
        intro f lo hi w hb hx hf hk hrg R hR; (try replace hb := BelX.zero hb); (try simp (decide := true) only [go_sem] at hf); (try simp (decide := true) only [go_sem] at hk)
        obtain ⟨e0, e1, e2, e3⟩ := (kY.below hb kYl).four'
        go_simp
        exact hR _ _ (rpost_val rfl rfl (Below.refl _ _) rfl)
      case oR2_5 =>
        intro f lo hi w hb hx hf hk hrg R hR; (try replace hb := BelX.zero hb); (try simp (decide := true) only [go_sem] at hf); (try simp (decide := true) only [go_sem] at hk)
        have kk := kJ8.below hb kJ8l
        obtain ⟨j0, j1, j2⟩ : w.cell? ⟨J, 0, none⟩ = _ ∧ w.cell? ⟨J, 1, none⟩ = _ ∧ w.cell? ⟨J, 2, none⟩ = _ := ⟨kk.cell 0, kk.cell 1, kk.cell 2⟩
        go_simp
        exact hR _ _ (rpost_val rfl rfl (Below.refl _ _) rfl)
      case oR2_6 =>
        intro f lo hi w hb hx hf hk hrg R hR; (try replace hb := BelX.zero hb); (try simp (decide := true) only [go_sem] at hf); (try simp (decide := true) only [go_sem] at hk)
        go_simp
        (with_reducible refine (ref23_Flashing jb jc jb2 jc2 ps.length s _ (by omega)).mono ?_)
        rintro e w' ⟨B1, B2, rfl, q1, q2, -, k1, k2, hb2⟩
        exact ⟨_, rfl, hR _ _ (rpost_none rfl hb2 (VW.flash k1 k2 q1 q2 (by omega)))⟩
      case oR2_7 =>
        intro f lo hi w hb hx hf hk hrg R hR; (try replace hb := BelX.zero hb); (try simp (decide := true) only [go_sem] at hf); (try simp (decide := true) only [go_sem] at hk)
        obtain ⟨xa, xc, ya, yc, h35, -, -, -, -⟩ := hf
        go_simp
        refine hR _ _ (rpost_none rfl ((RowKit.Below.refl _ _).alloc (Nat.le_refl _) _) ?_)
        (try simp (decide := true) only [go_sem])
        exact ⟨_, xa, xc, ya, yc, h35, rfl, Nat.le_refl _, by simp, Blk.new _ _ _⟩
      case oR2_8 =>
        intro f lo hi w hb hx hf hk hrg R hR; (try replace hb := BelX.zero hb); (try simp (decide := true) only [go_sem] at hf); (try simp (decide := true) only [go_sem] at hk)
        obtain ⟨g1, g2, g3, g4⟩ := hf
        go_simp
        (with_reducible refine (same_two (o1.below hb (Nat.le_refl _)) (o2.below hb (Nat.le_refl _)) (o3'.below hb (Nat.le_refl _)) (o4'.below hb (Nat.le_refl _)) g1 g2 g3 g4 (by omega)).mono ?_)
        rintro e w' ⟨rfl, hb2⟩
        exact ⟨_, rfl, hR _ _ (rpost_val rfl rfl hb2 rfl)⟩
      case oR2_9 => intro f lo hi w hb hx hf hk hrg R hR; (try replace hb := BelX.zero hb); (try simp (decide := true) only [go_sem] at hf); (try simp (decide := true) only [go_sem] at hk); go_simp; exact hR _ _ (rpost_val rfl rfl (Below.refl _ _) rfl)
      case hcl =>
        refine ⟨Closed.true _ _ _ _, Closed.true _ _ _ _, ?cR2_2, ?cR2_3, Closed.true _ _ _ _, Closed.true _ _ _ _, ?cR2_6, ?cR2_7, Closed.true _ _ _ _, Closed.true _ _ _ _, trivial⟩
        all_goals first
          | exact fun f lo hi v b0 b1 w w' h hs hB hown hU hX => VW.keep h fun q h1 h2 => hown q h1 h2
          | exact fun f lo hi v b0 b1 w w' h hs hB hown hU hX => by
              obtain ⟨b, x1, x2, x3, x4, h1, h2, h3, h4, k⟩ := h
              exact ⟨b, x1, x2, x3, x4, h1, h2, h3, h4, (hown b h3 h4).trans k⟩
      intro f lo hi W9 hbr hx hf hk hrg; (try replace hbr := BelX.zero hbr); clear hx; (try simp (decide := true) only [go_sem] at hf); (try simp (decide := true) only [go_sem] at hk)
      have vd9 := vd8.below hbr
      have hd9 := hd8.below hbr
      have gw9 := gw8.trans (hbr.grown_any (some p))
      have kY9 := kY.below hbr kYl
      have o5 := o3'.below hbr (Nat.le_refl _)
      have o6 := o4'.below hbr (Nat.le_refl _)
      have hB9 : B ≤ W9.heap.size := by have := hbr.size; have := kXl; omega
      clear hrg hbr vd8 hd8 gw8 kY kX kJ8 o1 o2 o3' o4'
      go_simp
      clear hk
      obtain ⟨y0, y1, y2, y3⟩ := kY9.four'
      have yl := kY9.lt
      have HC1 : Hid (ps.length = CS.length) := Lib.hid HOK.out.2.1.symm
      have HC2 : Hid (ps.length = NS.length) := Lib.hid HOK.out.2.2.symm
      go_wp2_with ((at_builtin; refine app1V rfl _ _ rfl B va i vc its rfl HIL.out.symm lat ov CS NS da dc fa1 fc1 ps.length ps.length HC1.out HC2.out W9.heap.size rfl rfl vd9.l hB9 (o5.mono (Nat.zero_le _)) (o6.mono (Nat.zero_le _)) (by have := HIL.out; omega) ?_; intro xb xd w4 il4 g4))
      have be4 : RowKit.Below B W9 w4 := Grew.below ((RowKit.Below.refl _ _).alloc hB9 _) g4 vd9.l.own.base_le
      have hd4 := hd9.keepB be4.block hpB (HOLD.out.imp id fun h b hb => by have := h b hb; omega)
      have gw4 : w1.grownBy w4 (some p) := ⟨be4.os.trans gw9.os, be4.tape.trans gw9.tape, be4.output.trans gw9.output, Nat.le_trans gw9.size be4.size, fun q hq hne => (be4.block q (by have := HB.out; omega)).trans (gw9.block q hq hne)⟩
      have vd4 := vd9.push il4 HOK.out.1 ⟨fun b hb => by have := o5.base_le b hb; omega, fun b hb => by have := o6.base_le b hb; omega⟩
      go_roundw
      case rel => exact ⟨i + 1, k2, _, xb, xd, rfl, by go_num, by omega, by simp; exact HIL.out, vd4, hd4, gw4⟩
      case measure => simp [intOf]; omega
    · obtain rfl : i = N := by omega
      obtain ⟨BS, hBS⟩ : ∃ BS, bytesOf (its.map Vx.key) = BS := ⟨_, rfl⟩
      have HBS := Lib.hid hBS
      have hvw := Lib.hid vd.l.vws
      have hok := Lib.hid (show ∀ v ∈ its, OkK v.key from fun v hv => (vd.ok v hv).ok)
      obtain ⟨S, hS⟩ : ∃ S : ByteArray, S = ⟨BS.toArray⟩ := ⟨_, rfl⟩
      have HS := Lib.hid hS
      have hwp : w.heap.size ≤ p := by omega
      have be : RowKit.Below w.heap.size w wr := (hb1.mono (by omega)).grown gw (by have := HB.out; omega) (fun k hk => by injection hk with hk; omega)
      clear hBS hS vd hd gw hb1
      go_upto_region 11 with fail
      have zS : (S.toList == S.toList) = true := by simp
      apply wp_region_tab [] 18 65 [some 48, some 49, some 50, some 51, some 52, some 53, some 54, some 55, some 56, some 57, some 58, some 59, some 60, some 61, some 62, some 63, some 64, some 4] [⟨[], [], [], []⟩, ⟨[0], [0], [0], []⟩, ⟨[0, 1], [1], [1], []⟩, ⟨[], [], [], []⟩, ⟨[0, 1, 3], [3], [3], []⟩, ⟨[0, 1, 3, 4], [4], [4], []⟩, ⟨[0, 1, 2, 3, 4, 5], [2, 5], [2, 5], []⟩, ⟨[0, 1, 2, 3, 4, 5, 6], [6], [6], []⟩, ⟨[0, 1, 2, 3, 4, 5, 6, 7], [7], [7], []⟩, ⟨[0, 1, 2, 3, 4, 5, 6, 7, 8], [7, 8], [7, 8], []⟩, ⟨[0, 1, 2, 3, 4, 5, 6, 7], [7], [7], []⟩, ⟨[0, 1, 2, 3, 4, 5, 6, 7, 8, 9, 10], [7, 10], [7, 10], []⟩, ⟨[0, 1, 2, 3, 4, 5, 6, 7, 8, 9, 10, 11], [7, 9, 11], [7, 9, 11], []⟩, ⟨[0, 1, 2, 3, 4, 5, 6, 7, 8, 9, 10, 11, 12], [7, 12], [7, 12], []⟩, ⟨[0, 1, 2, 3, 4, 5, 6, 7, 8, 9, 10, 11, 12, 13], [13], [13], []⟩, ⟨[0, 1, 2, 3, 4, 5, 6, 7, 8, 9, 10, 11, 12, 13, 14], [14], [14], []⟩, ⟨[0, 1, 2, 3, 4, 5, 6, 7, 8, 9, 10, 11, 12, 13, 14, 15], [14, 15], [14, 15], []⟩, ⟨[0, 1, 2, 3, 4, 5, 6, 7, 8, 9, 10, 11, 12, 13, 14, 15, 16], [16], [16], []⟩] [0, 1, 2, 3, 4, 5, 6, 7, 8, 9, 10, 11, 12, 13, 14, 15, 16, 17] [] [psiTrue, (fun f lo hi v b0 b1 W => ∃ (b : Option Addr) (m c : Nat), v = .slice b m c ∧ Hid (m = BS.length) ∧ Own W b0 5 1 b m c (BS.map encB) ∧ ∀ k, b.map (·.block) = some k → k < b1), psiTrue, psiTrue, (fun f lo hi v b0 b1 W => ∃ (b : Option Addr) (m c : Nat), v = .slice b m c ∧ Hid (m = BS.length) ∧ Own W b0 5 1 b m c (BS.map encB) ∧ ∀ k, b.map (·.block) = some k → k < b1), psiTrue, psiTrue, psiTrue, psiTrue, psiTrue, psiTrue, psiTrue, psiTrue, psiTrue, psiTrue, psiTrue, psiTrue, psiTrue] [kVal _, kTrue, kVal _, kVal _, kTrue, kVal _, kVal _, kVal _, kVal _, kVal _, kVal _, kVal _, kVal _, kVal _, kVal _, kVal _, kVal _, kVal _]
      · kernel_rfl
      · kernel_rfl
      · rfl
      · rfl
      · exact trivial
      · exact trivial
      refine ⟨?oR3_0, ?oR3_1, ?oR3_2, ?oR3_3, ?oR3_4, ?oR3_5, ?oR3_6, ?oR3_7, ?oR3_8, ?oR3_9, ?oR3_10, ?oR3_11, ?oR3_12, ?oR3_13, ?oR3_14, ?oR3_15, ?oR3_16, ?oR3_17, trivial⟩
      case oR3_0 => intro f lo hi w hb hx hf hk hrg R hR; (try replace hb := BelX.zero hb); (try simp (decide := true) only [go_sem] at hf); (try simp (decide := true) only [go_sem] at hk); go_simp; exact hR _ _ (rpost_val rfl rfl (Below.refl _ _) rfl)
      case oR3_1 =>
        intro f lo hi w hb hx hf hk hrg R hR; (try replace hb := BelX.zero hb); (try simp (decide := true) only [go_sem] at hf); (try simp (decide := true) only [go_sem] at hk)
        go_simp
        (with_reducible refine (rec_BytesE HBS va i vc _ (hvw.out.below hb (Nat.le_refl _)) HIL.out.symm (by have := HIL.out; omega) hok.out).mono ?_)
        rintro e w' ⟨b, c, m, rfl, hm, own, hb2⟩
        exact ⟨_, rfl, hR _ _ (rpost_none rfl hb2 ⟨b, m, c, rfl, hm, own, own.lt'⟩)⟩
      case oR3_2 =>
        intro f lo hi w hb hx hf hk hrg R hR; (try replace hb := BelX.zero hb); (try simp (decide := true) only [go_sem] at hf); (try simp (decide := true) only [go_sem] at hk)
        obtain ⟨b, m, c, h49, hm, own, -⟩ := hf
        have hc : (convert 22 9 (.slice b m c)).run Try.prog w = .ok (.string S) w := by rw [HS.out]; exact conv_str own.byt hm.out
        go_simp
        exact hR _ _ (rpost_val rfl rfl (Below.refl _ _) rfl)
      case oR3_3 => intro f lo hi w hb hx hf hk hrg R hR; (try replace hb := BelX.zero hb); (try simp (decide := true) only [go_sem] at hf); (try simp (decide := true) only [go_sem] at hk); go_simp; exact hR _ _ (rpost_val rfl rfl (Below.refl _ _) rfl)
      case oR3_4 =>
        intro f lo hi w hb hx hf hk hrg R hR; (try replace hb := BelX.zero hb); (try simp (decide := true) only [go_sem] at hf); (try simp (decide := true) only [go_sem] at hk)
        go_simp
        (with_reducible refine (ref23_BytesE HBS va i vc _ (hvw.out.below hb (Nat.le_refl _)) HIL.out.symm (by have := HIL.out; omega) hok.out).mono ?_)
        rintro e w' ⟨b, c, m, rfl, hm, own, hb2⟩
        exact ⟨_, rfl, hR _ _ (rpost_none rfl hb2 ⟨b, m, c, rfl, hm, own, own.lt'⟩)⟩
      case oR3_5 =>
        intro f lo hi w hb hx hf hk hrg R hR; (try replace hb := BelX.zero hb); (try simp (decide := true) only [go_sem] at hf); (try simp (decide := true) only [go_sem] at hk)
        obtain ⟨b, m, c, h49, hm, own, -⟩ := hf
        have hc : (convert 22 9 (.slice b m c)).run Try.prog w = .ok (.string S) w := by rw [HS.out]; exact conv_str own.byt hm.out
        go_simp
        exact hR _ _ (rpost_val rfl rfl (Below.refl _ _) rfl)
      case oR3_6 => intro f lo hi w hb hx hf hk hrg R hR; (try replace hb := BelX.zero hb); (try simp (decide := true) only [go_sem] at hf); (try simp (decide := true) only [go_sem] at hk); go_simp; exact hR _ _ (rpost_val rfl rfl (Below.refl _ _) rfl)
      case oR3_7 => intro f lo hi w hb hx hf hk hrg R hR; (try replace hb := BelX.zero hb); (try simp (decide := true) only [go_sem] at hf); (try simp (decide := true) only [go_sem] at hk); go_simp; exact hR _ _ (rpost_val rfl rfl (Below.refl _ _) rfl)
      case oR3_8 => intro f lo hi w hb hx hf hk hrg R hR; (try replace hb := BelX.zero hb); (try simp (decide := true) only [go_sem] at hf); (try simp (decide := true) only [go_sem] at hk); go_simp; exact hR _ _ (rpost_val rfl rfl (Below.refl _ _) rfl)
      case oR3_9 => intro f lo hi w hb hx hf hk hrg R hR; (try replace hb := BelX.zero hb); (try simp (decide := true) only [go_sem] at hf); (try simp (decide := true) only [go_sem] at hk); go_simp; (with_reducible refine (rec_SizeW n _).mono ?_); rintro e w' ⟨rfl, rfl⟩; exact ⟨_, rfl, hR _ _ (rpost_val rfl rfl (Below.refl _ _) rfl)⟩
      case oR3_10 => intro f lo hi w hb hx hf hk hrg R hR; (try replace hb := BelX.zero hb); (try simp (decide := true) only [go_sem] at hf); (try simp (decide := true) only [go_sem] at hk); go_simp; exact hR _ _ (rpost_val rfl rfl (Below.refl _ _) rfl)
      case oR3_11 => intro f lo hi w hb hx hf hk hrg R hR; (try replace hb := BelX.zero hb); (try simp (decide := true) only [go_sem] at hf); (try simp (decide := true) only [go_sem] at hk); go_simp; (with_reducible refine (ref23_SizeW n _).mono ?_); rintro e w' ⟨rfl, rfl⟩; exact ⟨_, rfl, hR _ _ (rpost_val rfl rfl (Below.refl _ _) rfl)⟩
      case oR3_12 => intro f lo hi w hb hx hf hk hrg R hR; (try replace hb := BelX.zero hb); (try simp (decide := true) only [go_sem] at hf); (try simp (decide := true) only [go_sem] at hk); go_simp; exact hR _ _ (rpost_val rfl rfl (Below.refl _ _) rfl)
      case oR3_13 => intro f lo hi w hb hx hf hk hrg R hR; (try replace hb := BelX.zero hb); (try simp (decide := true) only [go_sem] at hf); (try simp (decide := true) only [go_sem] at hk); go_simp; exact hR _ _ (rpost_val rfl rfl (Below.refl _ _) rfl)
      case oR3_14 => intro f lo hi w hb hx hf hk hrg R hR; (try replace hb := BelX.zero hb); (try simp (decide := true) only [go_sem] at hf); (try simp (decide := true) only [go_sem] at hk); go_simp; exact hR _ _ (rpost_val rfl rfl (Below.refl _ _) rfl)
      case oR3_15 =>
        intro f lo hi w hb hx hf hk hrg R hR; (try replace hb := BelX.zero hb); (try simp (decide := true) only [go_sem] at hf); (try simp (decide := true) only [go_sem] at hk)
        go_simp
        (with_reducible refine (awake_yes _).mono ?_)
        rintro e w' ⟨rfl, hb2⟩
        exact ⟨_, rfl, hR _ _ (rpost_val rfl rfl hb2 rfl)⟩
      case oR3_16 => intro f lo hi w hb hx hf hk hrg R hR; (try replace hb := BelX.zero hb); (try simp (decide := true) only [go_sem] at hf); (try simp (decide := true) only [go_sem] at hk); go_simp; exact hR _ _ (rpost_val rfl rfl (Below.refl _ _) rfl)
      case oR3_17 => intro f lo hi w hb hx hf hk hrg R hR; (try replace hb := BelX.zero hb); (try simp (decide := true) only [go_sem] at hf); (try simp (decide := true) only [go_sem] at hk); go_simp; exact hR _ _ (rpost_val rfl rfl (Below.refl _ _) rfl)
      case hcl =>
        refine ⟨Closed.true _ _ _ _, ?cR3_1, Closed.true _ _ _ _, Closed.true _ _ _ _, ?cR3_4, Closed.true _ _ _ _, Closed.true _ _ _ _, Closed.true _ _ _ _, Closed.true _ _ _ _, Closed.true _ _ _ _, Closed.true _ _ _ _, Closed.true _ _ _ _, Closed.true _ _ _ _, Closed.true _ _ _ _, Closed.true _ _ _ _, Closed.true _ _ _ _, Closed.true _ _ _ _, Closed.true _ _ _ _, trivial⟩
        all_goals first
          | exact fun f lo hi v b0 b1 w w' h hs hB hown hU hX => by
              obtain ⟨b, m, c, h1, h2, own, lt⟩ := h
              exact ⟨b, m, c, h1, h2, own.keep fun q hb hl _ => hown q hl (lt q (by rw [hb]; rfl)), lt⟩
      intro f lo hi W9 hbr hx hf hk hrg; (try replace hbr := BelX.zero hbr); clear hx; (try simp (decide := true) only [go_sem] at hf); (try simp (decide := true) only [go_sem] at hk)
      clear hrg
      go_simp
      clear hk
      go_wp2
      go_ret
      exact ⟨rfl, (by repeat (first | (with_reducible refine Below.setCell ?_ ?_ _) | (with_reducible refine Below.alloc ?_ ?_ _) | (with_reducible refine Below.drew ?_) | (with_reducible refine below_drewN ?_ _) | (with_reducible exact Below.refl _ _) | (with_reducible refine Below.trans ?_ (Below.mono hbr ?_)) | (with_reducible refine Below.trans ?_ (Below.mono be ?_)) | (focus (simp; done)) | (focus (simp; omega)) | (focus omega) | (focus (have q0 := Below.size hbr; (try simp at q0); have q1 := Below.size be; (try simp at q1); (try simp); omega))))⟩
end Go.Proofs.Ytdkifkbnkedbpaa
