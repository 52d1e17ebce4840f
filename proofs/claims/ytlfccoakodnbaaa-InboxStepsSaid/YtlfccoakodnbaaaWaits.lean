/- law 25: InboxWaits -/
import Derived.Test.YtlfccoakodnbaaaWaitLaw
namespace Go.Proofs.Ytlfccoakodnbaaa
set_option linter.unusedVariables false
open Go.RowKit Go.Sort
set_option maxRecDepth 100000

theorem rcv_fits {l : List UInt8} (h : l.length ≤ 256) : Ses.rcv ⟨true, false, [], false⟩ l = ⟨true, false, l, false⟩ := by
  simp [Ses.rcv, putL, h]
  exact List.take_of_length_le h
theorem inbox_ReceiveO (ba : Option Addr) (b : List UInt8) (m bc : Nat) (w : World) (hb : Byt w ba b) (hm : m = b.length) (hcb : m ≤ bc) (h256 : m ≤ 256) :
    Calls Try.prog 9 #[.agg #[.bool true, .bool false, .slice none 0 0, .bool false], .slice ba m bc] w (SesR ⟨true, false, b, false⟩ w) := by
  have := inbox_Receive true false false [] none 0 0 ba b m bc w ⟨Byt.nil _ _, rfl, by omega, by simp, by omega⟩ hb hm (by omega) hcb (by omega)
  rwa [rcv_fits (by omega)] at this
set_option maxHeartbeats 8000000 in
theorem inboxWaits_walk (a0 : Option Addr) (c0 : Nat) (l0 : List Int) (w : World) (h0 : Ints w a0 l0) (n0 : l0.length ≤ 9223372036854775807) :
    Calls Try.prog 3 #[.slice a0 l0.length c0] w fun e w' => e = .returned (.bool true) ∧ Below w.heap.size w w' := by
  go_enter Try.func3, Try.ntmps3
  go_upto_region 5 with (first | (go_at_call 8; (with_reducible refine (mk_New a0 c0 l0 _ (h0.below (B := w.heap.size) (by repeat (first | (with_reducible refine Below.setCell ?_ ?_ _) | (with_reducible refine Below.alloc ?_ ?_ _) | (with_reducible refine Below.drew ?_) | (with_reducible refine below_drewN ?_ _) | (with_reducible exact Below.refl _ _) | (focus (simp; done)) | (focus (simp; omega)) | (focus omega))) (Nat.le_refl _)) n0).mono ?_); rintro e w1 ⟨rfl, hd1, hb1⟩) | (go_at_call 7; (with_reducible refine (law_line _ 10 _ _ _ 10 rfl (by omega) (by omega) hd1).mono ?_); rintro e w2 ⟨ll, k2, lm, la, lc, hlm, rfl, hll, own2, hd2, g2⟩; ((have be2 : RowKit.Below w.heap.size w w2 := hb1.grown g2 hb1.size (fun k hk => by injection hk with hk; omega)); (have cp2 := own2.cap_le))) | (go_at_call 10; (with_reducible refine (inbox_Open0 _).mono ?_); rintro e w3 ⟨rfl, hb3⟩) | (go_at_call 9; (with_reducible refine (inbox_ReceiveO la ll lm lc _ (own2.byt.below hb3 (Nat.le_refl _)) hlm.out cp2 (by omega)).mono ?_); rintro e w4 ⟨sa, sc, sn, hsn, rfl, own4, hb4⟩))
  have z2 := hb1.size
  have z3 := be2.size
  have z4 := hb3.size
  have z5 := hb4.size
  have hlb : Byt w4 la ll := ((own2.byt.below hb3 (Nat.le_refl _)).below hb4 (Nat.le_refl _))
  have hlm' := hlm.out
  have hsn' := hsn.out
  have hll' : ll.length ≤ 252 := by omega
  refine wp_named (fun W => WtM w W w4.heap.size la ll false ll sa sn sc [] none 0 ∧ w4.heap.size < W.heap.size) ⟨⟨Blk.new _ _ _, ⟨(own4.mono (Nat.zero_le _)).alloc _, hsn', by omega⟩, Own.nil _ _ _ _, by simp, hlb.alloc _, (by repeat (first | (with_reducible refine Below.setCell ?_ ?_ _) | (with_reducible refine Below.alloc ?_ ?_ _) | (with_reducible refine Below.drew ?_) | (with_reducible refine below_drewN ?_ _) | (with_reducible exact Below.refl _ _) | (with_reducible refine Below.trans ?_ (Below.mono hb4 ?_)) | (with_reducible refine Below.trans ?_ (Below.mono hb3 ?_)) | (with_reducible refine Below.trans ?_ (Below.mono be2 ?_)) | (focus (simp; done)) | (focus (simp; omega)) | (focus omega) | (focus (have q0 := Below.size hb4; (try simp at q0); have q1 := Below.size hb3; (try simp at q1); have q2 := Below.size be2; (try simp at q2); (try simp); omega)))), by omega⟩, by simp⟩ ?_
  have hJ : w.heap.size ≤ w4.heap.size := by omega
  have HNL := Lib.hid (fun h : la = none => own2.none_len h)
  obtain ⟨J, hJJ⟩ : ∃ J, w4.heap.size = J := ⟨_, rfl⟩
  have HLA := Lib.hid (show ∀ k, la.map (·.block) = some k → k < w4.heap.size from fun k h => by have := own2.lt' k h; omega)
  clear hd1 hd2 g2 own2 own4 hb1 hb3 hb4 be2 h0 hlb z2 z3 z4 z5 hlm' hsn' hsn
  have HLAJ : Hid (∀ k, la.map (·.block) = some k → k < J) := Lib.hid (by have := HLA.out; rw [hJJ] at this; exact this)
  clear HLA
  rw [hJJ] at *
  clear hJJ
  rintro W ⟨wm, lJ⟩
  go_wp2_with fail
  go_loopw [5, 20] (fun s5 s20 wr => ∃ (i : Nat) (its : List It) (xa : Option Addr) (xc : Nat) (G : Bool) (sb : List UInt8) (sa : Option Addr) (sn sc : Nat) (U : Nat) (ks : List Key), s5 = .slice xa its.length xc ∧ s20 = .int .i64 i ∧ i ≤ 70 ∧ WtM w wr J la ll G sb sa sn sc its xa xc ∧ sb = ll.drop U ∧ its.map It.key = ks ∧ WaitAt ll i U G ks) (fun _ s _ => 70 - (intOf s).toNat)
  case atStart => exact ⟨0, [], none, 0, false, ll, sa, sn, sc, 0, [], rfl, rfl, by omega, wm, rfl, rfl, WaitAt.start _⟩
  case round =>
    obtain ⟨i, its, xa, xc, G, sb, sa, sn, sc, U, ks, rfl, rfl, hi, wm, hsb, hk, hwa⟩ := hrel
    have HSB := Lib.hid hsb
    have HK := Lib.hid hk
    have HWA := Lib.hid hwa
    have hb1 := hwa.bd
    have hil : its.length ≤ 252 := by have := congrArg List.length hk; rw [List.length_map] at this; omega
    clear hsb hk hwa hb1
    by_cases hlt : i < 70
    · have hii : (i : Int) < 70 := by omega
      obtain ⟨c0', c1', c2', c3'⟩ := wm.blk.four'
      have jl := wm.blk.lt
      go_upto_region 11 with ((go_at_call 11; (with_reducible refine (inbox_TakeO false G sb sa sn sc _ wm.ses.at).mono ?_); rintro e w3 ⟨st, ra, rc, rn, its2, ia, ic, im, hst, hrn, him, hk2, h5, h4, rfl, own3, owi3, pays3, hb3⟩; ((have hm4 : im ≤ 4 := h4 rfl); clear h5 h4)))
      refine wp_named (fun W => WtM w W J la ll G sb sa sn sc its xa xc ∧ Blk W w3.heap.size 30 #[.bool true, .bool false, .slice ra rn rc, .bool st.garb] ∧ Blk W (w3.heap.size + 1) 35 #[.bool true, .slice ia im ic] ∧ Items W ia its2 ∧ (∀ x ∈ its2, Own W 0 5 1 x.a x.pay.length x.c (x.pay.map encB)) ∧ Own W 0 5 1 ra rn rc ((sb.drop st.used).map encB) ∧ (∀ q, ia.map (·.block) = some q → wr.heap.size ≤ q)) ⟨((wm.below hb3).below (show RowKit.Below w3.heap.size w3 _ from (by repeat (first | (with_reducible refine Below.setCell ?_ ?_ _) | (with_reducible refine Below.alloc ?_ ?_ _) | (with_reducible refine Below.drew ?_) | (with_reducible refine below_drewN ?_ _) | (with_reducible exact Below.refl _ _) | (focus (simp; done)) | (focus (simp; omega)) | (focus omega))))).below (RowKit.Below.refl _ _), (Blk.new _ _ _).alloc _, Blk.next _ _ _ _, ((items_of (by rw [← him.out]; exact owi3) pays3).alloc _).alloc _, fun x hx => ((pays3 x hx).alloc _).alloc _, ((own3.mono (Nat.zero_le _)).alloc _).alloc _, fun q hq => owi3.base_le q hq⟩ ?_
      have hJw := wm.sz
      have HXLT := Lib.hid (fun q (h : xa.map (·.block) = some q) => wm.own.lt' q h)
      have zs3 := hb3.size
      clear own3 owi3 pays3 c0' c1' c2' c3' wm hb3
      rintro W5 ⟨pm5, kx, ki, it5, py5, or5, nia⟩
      have hwrW : wr.heap.size + 2 ≤ W5.heap.size := by have := ki.lt; omega
      obtain ⟨gl, gh, x1, x2, x3, x4⟩ : ∃ gl gh, gl ≤ gh ∧ gh ≤ wr.heap.size ∧ ((gl = 0 ∧ gh = 0) ∨ J + 1 ≤ gl) ∧ ∀ k, xa.map (·.block) = some k ↔ gl ≤ k ∧ k < gh := by
        cases haa : xa with
        | none => exact ⟨0, 0, Nat.le_refl _, Nat.zero_le _, .inl ⟨rfl, rfl⟩, fun k => by simp⟩
        | some ad =>
          have q1 := pm5.own.base_le ad.block (by rw [haa]; rfl)
          have q2 := HXLT.out ad.block (by rw [haa]; rfl)
          exact ⟨ad.block, ad.block + 1, by omega, by omega, .inr q1, fun k => by simp; omega⟩
      have HX4 := Lib.hid x4
      have hkn : ¬ (gl ≤ w3.heap.size ∧ w3.heap.size < gh) := fun h => by omega
      have ljl := pm5.blk.lt
      have kxl := kx.lt
      have kil := ki.lt
      clear x4
      apply wp_region_tab [(gl, gh), (J, (J+1))] 7 49 [some 36, some 37, some 38, some 39, some 40, none, some 5] [⟨[7, 8], [], [], []⟩, ⟨[7, 8], [], [], []⟩, ⟨[7, 8], [], [], []⟩, ⟨[2, 7, 8], [2], [2], []⟩, ⟨[1, 2, 3, 7, 8], [1, 3, 7], [1, 3, 7], [7]⟩, ⟨[0, 1, 2, 3, 4, 7, 8], [0, 8], [0, 8], [8]⟩, ⟨[0, 1, 2, 3, 4, 5, 7, 8], [4], [4], []⟩, ⟨[], [], [], []⟩, ⟨[], [], [], []⟩] [0, 1, 2, 3, 4, 5, 6] [4, 5, 6] [psiTrue, psiTrue, psiTrue, psiTrue, (fun f lo hi v b0 b1 W => ∃ (a : Option Addr) (c : Nat), v = .slice a (its.length + im) c ∧ Own W (J+1) 49 3 a (its.length + im) c (itCells (its ++ its2)) ∧ ∀ k, a.map (·.block) = some k → (gl ≤ k ∧ k < gh) ∨ (b0 ≤ k ∧ k < b1)), (fun f lo hi v b0 b1 W => Blk W J 30 #[.bool true, .bool false, .slice ra rn rc, .bool st.garb]), (fun f _ _ v _ _ _ => v = f 4), (fun f lo hi v b0 b1 W => (b0 = gl ∧ b1 = gh) ∧ Own W (J+1) 49 3 xa its.length xc (itCells its)), (fun f lo hi v b0 b1 W => (b0 = J ∧ b1 = (J+1)) ∧ Blk W J 30 #[.bool true, .bool false, .slice sa sn sc, .bool G])] [kVal _, kVal _, kVal _, kVal _, kTrue, kTrue, kTrue]
      · kernel_rfl
      · kernel_rfl
      · rfl
      · rfl
      rotate_left 2
      refine ⟨?oR1_0, ?oR1_1, ?oR1_2, ?oR1_3, ?oR1_4, ?oR1_5, ?oR1_6, trivial⟩
      case hx => exact ⟨⟨by omega, by omega⟩, by simp; omega, ⟨by omega, by omega⟩, by simp, trivial⟩
      case hX => exact ⟨fun _ _ _ _ => ⟨⟨rfl, rfl⟩, pm5.own⟩, fun _ _ _ _ => ⟨⟨rfl, rfl⟩, pm5.blk⟩, trivial⟩
      case oR1_0 =>
        intro f lo hi w hb hx hf hk hrg R hR; (try replace hb := BelX.zero hb); (try simp (decide := true) only [go_sem] at hf); (try simp (decide := true) only [go_sem] at hk)
        have kk := hb.blk kx (fun r hr => by simp at hr; rcases hr with rfl | rfl <;> simp only <;> omega)
        obtain ⟨e0, e1, e2, e3⟩ := kk.four'
        go_simp
        exact hR _ _ (rpost_val rfl rfl (Below.refl _ _) rfl)
      case oR1_1 => intro f lo hi w hb hx hf hk hrg R hR; (try replace hb := BelX.zero hb); (try simp (decide := true) only [go_sem] at hf); (try simp (decide := true) only [go_sem] at hk); go_simp; exact hR _ _ (rpost_val rfl rfl (Below.refl _ _) rfl)
      case oR1_2 => intro f lo hi w hb hx hf hk hrg R hR; (try replace hb := BelX.zero hb); (try simp (decide := true) only [go_sem] at hf); (try simp (decide := true) only [go_sem] at hk); go_simp; exact hR _ _ (rpost_val rfl rfl (Below.refl _ _) rfl)
      case oR1_3 =>
        intro f lo hi w hb hx hf hk hrg R hR; (try replace hb := BelX.zero hb); (try simp (decide := true) only [go_sem] at hf); (try simp (decide := true) only [go_sem] at hk)
        have kk := hb.blk ki (fun r hr => by simp at hr; rcases hr with rfl | rfl <;> simp only <;> omega)
        have e1 := kk.cell 1
        go_simp
        exact hR _ _ (rpost_val rfl rfl (Below.refl _ _) rfl)
      case oR1_4 =>
        intro f lo hi w hb hx hf hk hrg R hR; (try replace hb := BelX.zero hb); (try simp (decide := true) only [go_sem] at hf); (try simp (decide := true) only [go_sem] at hk)
        obtain ⟨-, own⟩ := hf
        have hsz : W5.heap.size ≤ w.heap.size := hb.2.2.2.1
        have hrow := hb.row it5.1 (fun x hx r hr => by have := nia x hx; simp at hr; rcases hr with rfl | rfl <;> simp only <;> omega)
        have h1 := hk.1
        have h2 := hk.2
        refine obl_appIts (J + 1) xa its.length xc its ?_ ia im ic its2 ?_ own hrow him.out (its.length + im) rfl (by omega) (by omega) ?_
        · go_simp
        · go_simp
        intro b2 c2 w2 own2 g2
        refine hR _ _ (rpost_some rfl rfl (Grew.touch g2 fun k hk' => ⟨7, by simp, ?_⟩) ?_)
        · obtain ⟨q1, q2⟩ : lo 7 = gl ∧ hi 7 = gh := XOk.get _ _ hx 0 _ rfl
          have h4 := (HX4.out k).1 hk'
          omega
        (try simp (decide := true) only [go_sem])
        refine ⟨_, _, rfl, own2, fun k hk' => ?_⟩
        rcases g2.2.1 with e | e
        · exact .inl ((HX4.out k).1 (e ▸ hk'))
        · rw [e] at hk'
          exact .inr ⟨by injection hk' with hk'; omega, own2.lt' k (e ▸ hk')⟩
      case oR1_5 =>
        intro f lo hi w hb hx hf hk hrg R hR; (try replace hb := BelX.zero hb); (try simp (decide := true) only [go_sem] at hf); (try simp (decide := true) only [go_sem] at hk)
        obtain ⟨-, kb⟩ := hf
        obtain ⟨e0, e1, e2, e3⟩ := kb.four'
        have fz := kb.frozen
        have p1 : lo 8 = _ := (XOk.get _ _ hx 1 _ rfl).1
        have p2 : hi 8 = _ := (XOk.get _ _ hx 1 _ rfl).2
        go_simp
        refine hR _ _ (rpost_some rfl rfl (Touch.set4 w (List.mem_singleton.2 rfl) (Nat.le_of_eq p1) (by rw [p2]; exact Nat.lt_succ_self _) _ _ _ _) ?_)
        (try simp (decide := true) only [go_sem])
        exact kb.set4 _ _ _ _
      case oR1_6 => intro f lo hi w hb hx hf hk hrg R hR; (try replace hb := BelX.zero hb); (try simp (decide := true) only [go_sem] at hf); (try simp (decide := true) only [go_sem] at hk); go_simp; exact hR _ _ (rpost_none rfl (Below.refl _ _) rfl)
      case hcl =>
        refine ⟨Closed.true _ _ _ _, Closed.true _ _ _ _, Closed.true _ _ _ _, Closed.true _ _ _ _, ?cR1_4, ?cR1_5, ?cR1_6, ?cR1_7, ?cR1_8, trivial⟩
        all_goals first
          | exact fun f lo hi v b0 b1 w w' h hs hB hown hU hX => by
              obtain ⟨a, c, h1, own, lt⟩ := h
              exact ⟨a, c, h1, own.keep fun b hb hl _ => (lt b (by rw [hb]; rfl)).elim (fun h => hX 0 _ rfl (by simp) b h.1 h.2) (fun h => hown b h.1 h.2), lt⟩
          | exact fun f lo hi v b0 b1 w w' h hs hB hown hU hX => (hX 1 _ rfl (by simp) _ (Nat.le_refl _) (Nat.lt_succ_self _)).trans h
          | exact fun f lo hi v b0 b1 w w' h hs hB hown hU hX => by
              obtain ⟨⟨rfl, rfl⟩, own⟩ := h
              exact ⟨⟨rfl, rfl⟩, own.keep fun b hb hl _ => by have := (HX4.out b).1 (by rw [hb]; rfl); exact hown b this.1 this.2⟩
          | exact fun f lo hi v b0 b1 w w' h hs hB hown hU hX => by
              obtain ⟨⟨rfl, rfl⟩, kb⟩ := h
              exact ⟨⟨rfl, rfl⟩, (hown _ (Nat.le_refl _) (Nat.lt_succ_self _)).trans kb⟩
          | exact fun _ _ _ _ _ _ _ _ h _ _ _ _ _ => h
      intro f lo hi W7 hbr hx hf hk hrg; (try replace hbr := BelX.zero hbr); clear hx; (try simp (decide := true) only [go_sem] at hf); (try simp (decide := true) only [go_sem] at hk)
      obtain ⟨⟨xb, xd, h40, own7, -⟩, k7, h7⟩ := hf
      rw [h40] at h7
      have hold : ∀ q, q < W5.heap.size → ¬ (gl ≤ q ∧ q < gh) → q ≠ J → W7.heap[q]? = W5.heap[q]? := fun q h1 h2 h3 => hbr.2.2.2.2 q ⟨h1, fun r hr => by simp at hr; rcases hr with rfl | rfl <;> simp only <;> omega⟩
      have hpay : ∀ (a : Option Addr) (n c : Nat) (xs : List Value), Own W5 0 5 1 a n c xs → Own W7 0 5 1 a n c xs := fun a n c xs h => h.keep fun b hb _ hlt => hold b hlt (fun q => by
          have hx := (HX4.out b).2 q
          exact pm5.own.apart h (by decide) b hx (by rw [hb]; rfl)) (fun e => h.ne_blk pm5.blk (by decide) (by rw [hb, ← e]; rfl))
      have hsz7 : W5.heap.size ≤ W7.heap.size := hbr.2.2.2.1
      have hlo : ∀ q, q < w.heap.size → W7.heap[q]? = W5.heap[q]? := fun q hq => hold q (by omega) (by omega) (by omega)
      have hrn' := hrn.out
      have him' := him.out
      have hrs : rn ≤ 1000000 := by
        have h1 : rn ≤ sb.length := by rw [hrn', List.length_drop]; omega
        have h2 := pm5.ses.small
        rw [pm5.ses.len] at h2
        omega
      have pm7 : WtM w W7 J la ll st.garb (sb.drop st.used) ra rn rc (its ++ its2) xb xd := ⟨k7, ⟨hpay _ _ _ _ or5, hrn', hrs⟩, by rw [List.length_append, ← him']; exact own7, fun x hx => by
        rcases List.mem_append.1 hx with h | h
        · exact hpay _ _ _ _ (pm5.pays x h)
        · exact hpay _ _ _ _ (py5 x h), pm5.byt.keep fun b off e hlt => hold b hlt (fun q => by have := HLAJ.out b (by rw [e]; rfl); omega) (fun q => by have := HLAJ.out b (by rw [e]; rfl); omega), ⟨hbr.1.trans pm5.be.os, hbr.2.1.trans pm5.be.tape, hbr.2.2.1.trans pm5.be.output, Nat.le_trans pm5.be.size hsz7, fun q hq => (hlo q hq).trans (pm5.be.block q hq)⟩, hJw⟩
      have hsb' : (sb.drop st.used) = ll.drop (U + st.used) := by rw [HSB.out, List.drop_drop]
      have hwa' := HWA.out.next (st := st) (by rw [← HSB.out]; exact hst.out)
      have hk' : (its ++ its2).map It.key = ks ++ st.keys := by rw [List.map_append, HK.out, hk2.out]; rfl
      have HSB' := Lib.hid hsb'
      have HWA' := Lib.hid hwa'
      have HK' := Lib.hid hk'
      have HIM := Lib.hid him'
      clear hrg hbr hold hpay own7 k7 pm5 kx ki it5 py5 or5 hlo hsb' hwa' hk' hrn' him'
      go_simp
      clear hk h40 h7
      go_wp2_with fail
      go_roundw
      case rel => exact ⟨i + 1, its ++ its2, xb, xd, st.garb, sb.drop st.used, ra, rn, rc, U + st.used, ks ++ st.keys, line_len (by rw [List.length_append, HIM.out]), by go_num, by omega, pm7, HSB'.out, HK'.out, HWA'.out⟩
      case measure => simp [intOf]; omega
    · obtain rfl : i = 70 := by omega
      have hits : Items wr xa its := items_of wm.own wm.pays
      have hkeys : Hid (its.map It.key = allK ll) := Lib.hid (HK.out.trans (HWA.out.done (by omega)).symm)
      have hnl : la = none → lm = 0 ∧ lc = 0 := HNL.out
      go_wp2_with (first | (go_at_call 13; (with_reducible refine (ref04_All la ll lm lc _ wm.byt hlm.out (by have := hlm.out; omega) (by omega) (fun h => ⟨by have := hlm.out; have := (hnl h).1; omega, (hnl h).2⟩)).mono ?_); rintro e w3 ⟨its2, ia, ic, rfl, hk3, it3, hb3⟩) | (go_at_call 12; (with_reducible refine (same_E xa ia its its2 _ _ _ _ _ (hits.below hb3 (Nat.le_refl _)) it3 rfl rfl (by omega) (by have := congrArg List.length hk3; have h2 := allK_len ll; rw [List.length_map] at this; omega) (hkeys.out.trans hk3.symm)).mono ?_); rintro e w4 ⟨rfl, hb4⟩) | (go_at_call 14; (with_reducible refine (awake_yes _).mono ?_); rintro e w20 ⟨rfl, hb20⟩))
      go_ret
      exact ⟨rfl, (by repeat (first | (with_reducible refine Below.setCell ?_ ?_ _) | (with_reducible refine Below.alloc ?_ ?_ _) | (with_reducible refine Below.drew ?_) | (with_reducible refine below_drewN ?_ _) | (with_reducible exact Below.refl _ _) | (with_reducible refine Below.trans ?_ (Below.mono hb20 ?_)) | (with_reducible refine Below.trans ?_ (Below.mono hb4 ?_)) | (with_reducible refine Below.trans ?_ (Below.mono hb3 ?_)) | (with_reducible refine Below.trans ?_ (Below.mono wm.be ?_)) | (focus (simp; done)) | (focus (simp; omega)) | (focus omega) | (focus (have q0 := Below.size hb20; (try simp at q0); have q1 := Below.size hb4; (try simp at q1); have q2 := Below.size hb3; (try simp at q2); have q3 := Below.size wm.be; (try simp at q3); (try simp); omega))))⟩
end Go.Proofs.Ytlfccoakodnbaaa
