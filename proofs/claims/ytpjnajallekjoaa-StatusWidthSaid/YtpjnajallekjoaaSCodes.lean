/- StatusCodes: the walk -/
import Derived.Test.YtpjnajallekjoaaGrants
namespace Go.Proofs.Ytpjnajallekjoaa
set_option linter.unusedVariables false
open Go.RowKit Go.Sort
set_option maxRecDepth 100000

theorem ref05_SameT {K now : Int} {D : List UInt8} {aa da ba fa : Option Addr} {d1 d2 dc fc : Nat} {w : World} (hm : MsgAt w ⟨K, [], [now], D⟩ none 0 aa da) (hn : MsgAt w ⟨K, [], [now], D⟩ none 0 ba fa) (h1 : Hid (d1 = D.length)) (h2 : Hid (d2 = D.length)) :
    Calls Try.prog 14 #[.agg #[.int .i64 K, .slice none 0 0, .slice aa 1 1, .slice da d1 dc], .agg #[.int .i64 K, .slice none 0 0, .slice ba 1 1, .slice fa d2 fc]] w fun e w' => e = .returned (.bool true) ∧ Below w.heap.size w w' := by
  have := ref05_Same ⟨K, [], [now], D⟩ ⟨K, [], [now], D⟩ none 0 aa da 1 dc none 0 ba fa 1 fc w hm hn (x0 := K) (y0 := K) (x1 := 0) (x2 := 1) (x3 := d1) (y1 := 0) (y2 := 1) (y3 := d2) rfl rfl rfl h1.out rfl rfl rfl h2.out
  rw [sameM_yes rfl] at this
  exact this
set_option maxHeartbeats 16000000 in
theorem statusCodes_walk (rj rp rf rt rs : Int) (a0 : Option Addr) (c0 : Nat) (l0 : List Int) (a1 : Option Addr) (c1 : Nat) (l1 : List Int) (quota now : Int) (w : World) (h0 : Ints w a0 l0) (n0 : l0.length ≤ 9223372036854775807) (h1 : Ints w a1 l1) (n1 : l1.length ≤ 9223372036854775807) :
    Calls Try.prog 4 #[lgAgg rj rp rf rt rs, .slice a0 l0.length c0, .slice a1 l1.length c1, .int .i64 quota, .int .i64 now] w fun e w' => e = .returned (.bool true) ∧ RowKit.Below w.heap.size w w' := by
  obtain ⟨n, HN, hn0, hn1⟩ := modName now 30 (by decide)
  obtain ⟨m3, HM3, hm0, hm3⟩ := modName quota 3 (by decide)
  obtain ⟨ma, HMA, hma0, hma1⟩ := modName rj 6 (by decide)
  obtain ⟨mb, HMB, hmb0, hmb1⟩ := modName rp 10 (by decide)
  obtain ⟨mc, HMC, hmc0, hmc1⟩ := modName rf 9 (by decide)
  obtain ⟨md, HMD, hmd0, hmd1⟩ := modName rt 40 (by decide)
  go_enter Try.func4, Try.ntmps4
  go_upto_region 1 with fail
  obtain ⟨RB, hRB⟩ : ∃ RB, w.heap.size = RB := ⟨_, rfl⟩
  refine wp_named (fun W => Blk W RB 34 #[.int .i64 rj, .int .i64 rp, .int .i64 rf, .int .i64 rt, .int .i64 rs] ∧ RowKit.Below w.heap.size w W ∧ Ints W a0 l0 ∧ Ints W a1 l1 ∧ W.heap.size = RB + 1) ⟨by rw [← hRB]; exact Blk.new _ _ _, (by repeat (first | (with_reducible refine Below.setCell ?_ ?_ _) | (with_reducible refine Below.alloc ?_ ?_ _) | (with_reducible refine Below.drew ?_) | (with_reducible refine below_drewN ?_ _) | (with_reducible exact Below.refl _ _) | (focus (simp; done)) | (focus (simp; omega)) | (focus omega))), h0.alloc _, h1.alloc _, by rw [← hRB]; simp⟩ ?_
  have HO0 := Lib.hid (ints_old h0)
  rw [hRB]
  clear h0 h1
  rintro W ⟨kRB, be, h0, h1, hWs⟩
  have HWS := Lib.hid hWs
  have hRW : RB < W.heap.size := kRB.lt
  clear hWs
  go_upto_region 2 with ((go_at_call 6; (with_reducible refine (mk_New a0 c0 l0 _ h0 n0).mono ?_); rintro e w1 ⟨rfl, hd1, hb1⟩))
  have h1' := h1.below hb1 (Nat.le_refl _)
  have hz1 := hd1.lt
  go_upto_region 4 with (first | (go_at_call 6; (with_reducible refine (mk_New a1 c1 l1 _ h1' n1).mono ?_); rintro e w2 ⟨rfl, hd2, hb2⟩) | (go_at_call 7; (with_reducible refine (law_views _ _ _ _ hd2).mono ?_); rintro e w3 ⟨k3, vn, its, va, vc, rfl, hvn, hv4, -, vd, -, g3⟩) | (go_at_call 8; (with_reducible refine (mk_ModE HN.out _ (by decide) (by decide)).mono ?_); rintro e w4 ⟨rfl, rfl⟩))
  have hz2 := hb1.size
  have hz3 := hb2.size
  have hz4 := g3.size
  have hd1' : DeckAt w3 W.heap.size ⟨a0, c0, l0⟩ 0 := hd1.keepB (B := w1.heap.size) (fun b hb => (g3.block b (by omega) (fun e => by injection e with e; omega)).trans (hb2.block b hb)) hz1 (HO0.out.imp id fun h b hb => by have := h b hb; omega)
  have beW3 : RowKit.Below W.heap.size W w3 := below_grown ((by repeat (first | (with_reducible refine Below.setCell ?_ ?_ _) | (with_reducible refine Below.alloc ?_ ?_ _) | (with_reducible refine Below.drew ?_) | (with_reducible refine below_drewN ?_ _) | (with_reducible exact Below.refl _ _) | (with_reducible refine Below.trans ?_ (Below.mono hb2 ?_)) | (with_reducible refine Below.trans ?_ (Below.mono hb1 ?_)) | (focus (simp; done)) | (focus (simp; omega)) | (focus omega) | (focus (have q0 := Below.size hb2; (try simp at q0); have q1 := Below.size hb1; (try simp at q1); (try simp); omega))))) g3 hz2 (by omega)
  have vd3 := vd
  have hpb : W.heap.size < w2.heap.size := by omega
  have hzz : W.heap.size ≤ w3.heap.size := by omega
  clear hd1 hd2 hb1 hb2 g3 h1' h0 h1 hz1 hz2 hz3 hz4 vd n0 n1
  go_upto_region 5 with ((go_at_call 9; (with_reducible refine (deck_Requests W.heap.size ⟨a0, c0, l0⟩ 0 4 n _ hd1' (by decide) hn0 (by omega)).mono ?_); rintro e w5 ⟨k5, rn, l, ra, rc, rfl, hrn, hl0, il, hd5, g5⟩))
  have HOK : Hid (RqsOk (l.map Rq.key) 4) := Lib.hid (by
    obtain ⟨l00, q1, q2⟩ := hl0.out
    rw [q2]
    exact markM_ok q1 hn0 (by omega))
  have hl4 : l.length ≤ 4 := by have := HOK.out.n.2; simpa using this
  have beW5 : RowKit.Below W.heap.size W w5 := below_grown beW3 g5 (Nat.le_refl _) hzz
  have be5 : RowKit.Below w.heap.size w w5 := (by repeat (first | (with_reducible refine Below.setCell ?_ ?_ _) | (with_reducible refine Below.alloc ?_ ?_ _) | (with_reducible refine Below.drew ?_) | (with_reducible refine below_drewN ?_ _) | (with_reducible exact Below.refl _ _) | (with_reducible refine Below.trans ?_ (Below.mono beW5 ?_)) | (with_reducible refine Below.trans ?_ (Below.mono be ?_)) | (focus (simp; done)) | (focus (simp; omega)) | (focus omega) | (focus (have q0 := Below.size beW5; (try simp at q0); have q1 := Below.size be; (try simp at q1); (try simp); omega))))
  have kR5 := kRB.below beW5 hRW
  have vd5 := (vd3.vwsGrown g5 hpb).l.vws
  have HOKK := Lib.hid (show ∀ v ∈ its, OkK v.key from fun v hv => (vd3.ok v hv).ok)
  have rq5 := il.rqs
  have HLL := Lib.hid (show ∀ r ∈ l, r.legs.length ≤ 1000 from fun r hr => by have := HOK.out.legsLen r hr; omega)
  obtain rfl := hrn.out
  obtain rfl := hvn.out
  clear hd1' beW3 vd3 hd5 g5 il hl0 hzz hpb hrn hvn beW5 be kRB hRW
  go_cut [39, 40, 41] (fun s39 s40 s41 wx => ∃ (b T : Nat), s39 = .slice (some ⟨b, 0, none⟩) 3 3 ∧ s40 = .int .i64 3 ∧ s41 = .int .i64 0 ∧ T ≤ 4 ∧ Blk wx b 3 #[.int .i64 l.length, .int .i64 4, .int .i64 T] ∧ RowKit.Below w5.heap.size w5 wx)
  case first =>
    by_cases hmin : (4 : Int) < (l.length : Int) + m3
    · go_wp2_with ((go_at_call 8; (with_reducible refine (mk_ModE HM3.out _ (by decide) (by decide)).mono ?_); rintro e w4 ⟨rfl, rfl⟩))
      all_goals
        go_meet
        exact ⟨w5.heap.size, 4, rfl, rfl, rfl, by omega, Blk.new _ _ _, (by repeat (first | (with_reducible refine Below.setCell ?_ ?_ _) | (with_reducible refine Below.alloc ?_ ?_ _) | (with_reducible refine Below.drew ?_) | (with_reducible refine below_drewN ?_ _) | (with_reducible exact Below.refl _ _) | (focus (simp; done)) | (focus (simp; omega)) | (focus omega)))⟩
    · obtain ⟨T, hT⟩ : ∃ T : Nat, (l.length : Int) + m3 = (T : Int) := ⟨((l.length : Int) + m3).toNat, by omega⟩
      have hT4 : T ≤ 4 := by omega
      go_wp2_with ((go_at_call 8; (with_reducible refine (mk_ModE HM3.out _ (by decide) (by decide)).mono ?_); rintro e w4 ⟨rfl, rfl⟩))
      all_goals
        go_meet
        first
          | exact ⟨w5.heap.size, T, rfl, rfl, rfl, hT4, Blk.new _ _ _, (by repeat (first | (with_reducible refine Below.setCell ?_ ?_ _) | (with_reducible refine Below.alloc ?_ ?_ _) | (with_reducible refine Below.drew ?_) | (with_reducible refine below_drewN ?_ _) | (with_reducible exact Below.refl _ _) | (focus (simp; done)) | (focus (simp; omega)) | (focus omega)))⟩
          | exact ⟨w5.heap.size, 4, rfl, rfl, rfl, by omega, Blk.new _ _ _, (by repeat (first | (with_reducible refine Below.setCell ?_ ?_ _) | (with_reducible refine Below.alloc ?_ ?_ _) | (with_reducible refine Below.drew ?_) | (with_reducible refine below_drewN ?_ _) | (with_reducible exact Below.refl _ _) | (focus (simp; done)) | (focus (simp; omega)) | (focus omega)))⟩
  case rest =>
    obtain ⟨qbl, T, rfl, rfl, rfl, hT4, kQ, beQ⟩ := hcut
    obtain ⟨CMQ, hCMQ⟩ : ∃ CMQ : Nat → List UInt8, (fun q => codesM (l.map Rq.key) q (its.map Vx.key) n) = CMQ := ⟨_, rfl⟩
    have HCMQ := Lib.hid (fun q => congrFun hCMQ q)
    clear hCMQ
    obtain ⟨BV, hBV⟩ : ∃ BV, bytesOf (its.map Vx.key) = BV := ⟨_, rfl⟩
    have hbe : RowKit.Below w5.heap.size w5 wc := beQ
    go_wp2_with fail
    go_loopw [41] (fun s41 wr => ∃ i : Nat, s41 = .int .i64 i ∧ i ≤ 3 ∧ RowKit.Below wc.heap.size wc wr) (fun s _ => 3 - (intOf s).toNat)
    case atStart => exact ⟨0, rfl, by omega, (by repeat (first | (with_reducible refine Below.setCell ?_ ?_ _) | (with_reducible refine Below.alloc ?_ ?_ _) | (with_reducible refine Below.drew ?_) | (with_reducible refine below_drewN ?_ _) | (with_reducible exact Below.refl _ _) | (focus (simp; done)) | (focus (simp; omega)) | (focus omega)))⟩
    case round =>
      obtain ⟨i, rfl, hi, bz⟩ := hrel
      have be2 : RowKit.Below w5.heap.size w5 wr := (by repeat (first | (with_reducible refine Below.setCell ?_ ?_ _) | (with_reducible refine Below.alloc ?_ ?_ _) | (with_reducible refine Below.drew ?_) | (with_reducible refine below_drewN ?_ _) | (with_reducible exact Below.refl _ _) | (with_reducible refine Below.trans ?_ (Below.mono bz ?_)) | (with_reducible refine Below.trans ?_ (Below.mono beQ ?_)) | (focus (simp; done)) | (focus (simp; omega)) | (focus omega) | (focus (have q0 := Below.size bz; (try simp at q0); have q1 := Below.size beQ; (try simp at q1); (try simp); omega))))
      by_cases hlt : i < 3
      · have kx : (i : Int) < 3 := by omega
        have kq := kQ.below bz kQ.lt
        have kql := kq.lt
        obtain ⟨Q, hQ4, hqc⟩ : ∃ Q : Nat, Q ≤ 4 ∧ wr.cell? ⟨qbl, i, none⟩ = some (.int .i64 Q) := by
          have : i = 0 ∨ i = 1 ∨ i = 2 := by omega
          rcases this with rfl | rfl | rfl
          · exact ⟨l.length, hl4, kq.cell 0⟩
          · exact ⟨4, Nat.le_refl _, kq.cell 1⟩
          · exact ⟨T, hT4, kq.cell 2⟩
        have rqr := rq5.below be2 (Nat.le_refl _)
        have vdr := vd5.below be2 (Nat.le_refl _)
        have hB := HCMQ.out Q
        obtain ⟨CM, hCM⟩ : ∃ CM, CMQ Q = CM := ⟨_, rfl⟩
        rw [hCM] at hB
        have HCM : Hid (codesM (l.map Rq.key) Q (its.map Vx.key) n = CM) := Lib.hid hB
        have HCL : Hid (CM.length ≤ 11000) := Lib.hid (by rw [← HCM.out, codesM_len]; omega)
        clear hB hCM
        go_upto_region 9 with (first | (go_at_call 12; (with_reducible refine (status_CodesE HCM rfl ra l l.length rc va its its.length vc _ rqr rfl vdr rfl (by omega) HLL.out (by omega) (Lib.hid rfl) (Lib.hid rfl)).mono ?_); rintro e w6 ⟨xa, xc, xn, rfl, hxn, ownx, hb6⟩) | (go_at_call 13; (with_reducible refine (ref24_CodesE HCM rfl ra l l.length rc va its its.length vc _ (rqr.below hb6 (Nat.le_refl _)) rfl (vdr.below hb6 (Nat.le_refl _)) rfl (by omega) HLL.out (by omega) (Lib.hid rfl) (Lib.hid rfl)).mono ?_); rintro e w7 ⟨ya, yc, yn, rfl, hyn, owny, hb7⟩))
        have hbx : Byt w7 xa CM := ownx.byt.below hb7 (Nat.le_refl _)
        have hby : Byt w7 ya CM := owny.byt
        have be7 : RowKit.Below wr.heap.size wr w7 := (by repeat (first | (with_reducible refine Below.setCell ?_ ?_ _) | (with_reducible refine Below.alloc ?_ ?_ _) | (with_reducible refine Below.drew ?_) | (with_reducible refine below_drewN ?_ _) | (with_reducible exact Below.refl _ _) | (with_reducible refine Below.trans ?_ (Below.mono hb7 ?_)) | (with_reducible refine Below.trans ?_ (Below.mono hb6 ?_)) | (focus (simp; done)) | (focus (simp; omega)) | (focus omega) | (focus (have q0 := Below.size hb7; (try simp at q0); have q1 := Below.size hb6; (try simp at q1); (try simp); omega))))
        have vd7 := vdr.below be7 (Nat.le_refl _)
        have HYN : Hid (yn ≤ 11000) := Lib.hid (by have := HCL.out; have := hyn.out; omega)
        obtain ⟨S, hS⟩ : ∃ s : ByteArray, s = ⟨CM.toArray⟩ := ⟨_, rfl⟩
        have k1 : (convert 40 9 (.slice xa xn xc)).run Try.prog w7 = .ok (.string S) w7 := by rw [hS]; exact conv_str hbx hxn.out
        have k2 : (convert 40 9 (.slice ya yn yc)).run Try.prog w7 = .ok (.string S) w7 := by rw [hS]; exact conv_str hby hyn.out
        have z1 : (S.toList == S.toList) = true := by simp
        have z2 : (S.toList != S.toList) = false := by simp
        clear hS ownx owny hb6 hb7 hbx hxn rqr kq hqc kql
        go_wp2_with (first | (go_at_call 15; (with_reducible refine (status_Message va its its.length vc n ya CM yn yc _ vd7 rfl HOKK.out (by omega) hby hyn.out HYN.out).mono ?_); rintro e w8 ⟨aa8, da8, dn8, dc8, rfl, hd8, hm8, hb8⟩) | (go_at_call 16; (with_reducible refine (ref24_Message va its its.length vc n ya CM yn yc _ (vd7.below hb8 (Nat.le_refl _)) rfl HOKK.out (by omega) (hby.below hb8 (Nat.le_refl _)) hyn.out HYN.out).mono ?_); rintro e w9 ⟨aa9, da9, dn9, dc9, rfl, hd9, hm9, hb9⟩) | (go_at_call 14; (with_reducible refine (ref05_SameT (hm8.below hb9 (Nat.le_refl _)) hm9 hd8 hd9).mono ?_); rintro e w10 ⟨rfl, hb10⟩))
        go_roundw
        case rel => exact ⟨i + 1, by go_num, by omega, (by repeat (first | (with_reducible refine Below.setCell ?_ ?_ _) | (with_reducible refine Below.alloc ?_ ?_ _) | (with_reducible refine Below.drew ?_) | (with_reducible refine below_drewN ?_ _) | (with_reducible exact Below.refl _ _) | (with_reducible refine Below.trans ?_ (Below.mono hb10 ?_)) | (with_reducible refine Below.trans ?_ (Below.mono hb9 ?_)) | (with_reducible refine Below.trans ?_ (Below.mono hb8 ?_)) | (with_reducible refine Below.trans ?_ (Below.mono be7 ?_)) | (with_reducible refine Below.trans ?_ (Below.mono bz ?_)) | (focus (simp; done)) | (focus (simp; omega)) | (focus omega) | (focus (have q0 := Below.size hb10; (try simp at q0); have q1 := Below.size hb9; (try simp at q1); have q2 := Below.size hb8; (try simp at q2); have q3 := Below.size be7; (try simp at q3); have q4 := Below.size bz; (try simp at q4); (try simp); omega))))⟩
        case measure => simp [intOf]; omega
      · obtain rfl : i = 3 := by omega
        have kR := kR5.below be2 kR5.lt
        have vdr := vd5.below be2 (Nat.le_refl _)
        have e1 : IntKind.i64.wrap (ma - 1) = ma - 1 := by rw [IntKind.wrap_i64]; omega
        have e2 : IntKind.i64.wrap (mb - 1) = mb - 1 := by rw [IntKind.wrap_i64]; omega
        go_upto_region 12 with fail
        clear kQ bz rq5
        apply wp_region_tab [] 19 126 [some 73, some 74, some 75, some 76, some 77, some 78, some 79, some 80, some 81, some 82, some 83, some 84, some 85, some 86, some 87, some 88, some 89, some 90, some 91] [⟨[], [], [], []⟩, ⟨[], [], [], []⟩, ⟨[1], [1], [1], []⟩, ⟨[1, 2], [2], [2], []⟩, ⟨[1, 2, 3], [3], [3], []⟩, ⟨[], [], [], []⟩, ⟨[5], [5], [5], []⟩, ⟨[1, 2, 3, 5, 6], [6], [6], []⟩, ⟨[1, 2, 3, 5, 6, 7], [7], [7], []⟩, ⟨[], [], [], []⟩, ⟨[9], [9], [9], []⟩, ⟨[1, 2, 3, 5, 6, 7, 9, 10], [10], [10], []⟩, ⟨[], [], [], []⟩, ⟨[12], [12], [12], []⟩, ⟨[1, 2, 3, 5, 6, 7, 9, 10, 11, 12, 13], [13], [13], []⟩, ⟨[1, 2, 3, 4, 5, 6, 7, 8, 9, 10, 11, 12, 13, 14], [4, 8, 11, 14], [4, 8, 11, 14], []⟩, ⟨[0, 1, 2, 3, 4, 5, 6, 7, 8, 9, 10, 11, 12, 13, 14, 15], [0, 15], [0, 15], []⟩, ⟨[0, 1, 2, 3, 4, 5, 6, 7, 8, 9, 10, 11, 12, 13, 14, 15, 16], [16], [16], []⟩, ⟨[], [], [], []⟩] [0, 1, 2, 3, 4, 5, 6, 7, 8, 9, 10, 11, 12, 13, 14, 15, 16, 17, 18] [16] [psiTrue, psiTrue, psiTrue, psiTrue, psiTrue, psiTrue, psiTrue, psiTrue, psiTrue, psiTrue, psiTrue, psiTrue, psiTrue, psiTrue, psiTrue, psiTrue, (fun f lo hi v b0 b1 W => ∃ b, v = .slice (some ⟨b, 0, none⟩) 2 2 ∧ b0 ≤ b ∧ b < b1 ∧ Blk W b 34 #[.int .i64 rj, .int .i64 rp, .int .i64 rf, .int .i64 rt, .int .i64 rs, .int .i64 (ma - 1), .int .i64 (mb - 1), .int .i64 mc, .int .i64 md, .int .i64 0]), psiTrue, psiTrue] [kVal _, kVal _, kVal _, kVal _, kVal _, kVal _, kVal _, kVal _, kVal _, kVal _, kVal _, kVal _, kVal _, kVal _, kVal _, kVal _, kTrue, (fun v => v = .int .i64 2), kVal _]
        · kernel_rfl
        · kernel_rfl
        · rfl
        · rfl
        · exact trivial
        · exact trivial
        refine ⟨?oR1_0, ?oR1_1, ?oR1_2, ?oR1_3, ?oR1_4, ?oR1_5, ?oR1_6, ?oR1_7, ?oR1_8, ?oR1_9, ?oR1_10, ?oR1_11, ?oR1_12, ?oR1_13, ?oR1_14, ?oR1_15, ?oR1_16, ?oR1_17, ?oR1_18, trivial⟩
        case oR1_0 => intro f lo hi w hb hx hf hk hrg R hR; (try replace hb := BelX.zero hb); (try simp (decide := true) only [go_sem] at hf); (try simp (decide := true) only [go_sem] at hk); obtain ⟨c0, c1, c2, c3, c4, -, hl⟩ := (Blk.below kR hb (Blk.lt kR)).five; go_simp; exact hR _ _ (rpost_val rfl rfl (Below.refl _ _) rfl)
        case oR1_1 => intro f lo hi w hb hx hf hk hrg R hR; (try replace hb := BelX.zero hb); (try simp (decide := true) only [go_sem] at hf); (try simp (decide := true) only [go_sem] at hk); go_simp; exact hR _ _ (rpost_val rfl rfl (Below.refl _ _) rfl)
        case oR1_2 => intro f lo hi w hb hx hf hk hrg R hR; (try replace hb := BelX.zero hb); (try simp (decide := true) only [go_sem] at hf); (try simp (decide := true) only [go_sem] at hk); obtain ⟨c0, c1, c2, c3, c4, -, hl⟩ := (Blk.below kR hb (Blk.lt kR)).five; go_simp; exact hR _ _ (rpost_val rfl rfl (Below.refl _ _) rfl)
        case oR1_3 => intro f lo hi w hb hx hf hk hrg R hR; (try replace hb := BelX.zero hb); (try simp (decide := true) only [go_sem] at hf); (try simp (decide := true) only [go_sem] at hk); go_simp; (with_reducible refine (mk_ModE HMA.out _ (by decide) (by decide)).mono ?_); rintro e w' ⟨rfl, rfl⟩; exact ⟨_, rfl, hR _ _ (rpost_val rfl rfl (Below.refl _ _) rfl)⟩
        case oR1_4 => intro f lo hi w hb hx hf hk hrg R hR; (try replace hb := BelX.zero hb); (try simp (decide := true) only [go_sem] at hf); (try simp (decide := true) only [go_sem] at hk); go_simp; exact hR _ _ (rpost_val rfl rfl (Below.refl _ _) rfl)
        case oR1_5 => intro f lo hi w hb hx hf hk hrg R hR; (try replace hb := BelX.zero hb); (try simp (decide := true) only [go_sem] at hf); (try simp (decide := true) only [go_sem] at hk); go_simp; exact hR _ _ (rpost_val rfl rfl (Below.refl _ _) rfl)
        case oR1_6 => intro f lo hi w hb hx hf hk hrg R hR; (try replace hb := BelX.zero hb); (try simp (decide := true) only [go_sem] at hf); (try simp (decide := true) only [go_sem] at hk); obtain ⟨c0, c1, c2, c3, c4, -, hl⟩ := (Blk.below kR hb (Blk.lt kR)).five; go_simp; exact hR _ _ (rpost_val rfl rfl (Below.refl _ _) rfl)
        case oR1_7 => intro f lo hi w hb hx hf hk hrg R hR; (try replace hb := BelX.zero hb); (try simp (decide := true) only [go_sem] at hf); (try simp (decide := true) only [go_sem] at hk); go_simp; (with_reducible refine (mk_ModE HMB.out _ (by decide) (by decide)).mono ?_); rintro e w' ⟨rfl, rfl⟩; exact ⟨_, rfl, hR _ _ (rpost_val rfl rfl (Below.refl _ _) rfl)⟩
        case oR1_8 => intro f lo hi w hb hx hf hk hrg R hR; (try replace hb := BelX.zero hb); (try simp (decide := true) only [go_sem] at hf); (try simp (decide := true) only [go_sem] at hk); go_simp; exact hR _ _ (rpost_val rfl rfl (Below.refl _ _) rfl)
        case oR1_9 => intro f lo hi w hb hx hf hk hrg R hR; (try replace hb := BelX.zero hb); (try simp (decide := true) only [go_sem] at hf); (try simp (decide := true) only [go_sem] at hk); go_simp; exact hR _ _ (rpost_val rfl rfl (Below.refl _ _) rfl)
        case oR1_10 => intro f lo hi w hb hx hf hk hrg R hR; (try replace hb := BelX.zero hb); (try simp (decide := true) only [go_sem] at hf); (try simp (decide := true) only [go_sem] at hk); obtain ⟨c0, c1, c2, c3, c4, -, hl⟩ := (Blk.below kR hb (Blk.lt kR)).five; go_simp; exact hR _ _ (rpost_val rfl rfl (Below.refl _ _) rfl)
        case oR1_11 => intro f lo hi w hb hx hf hk hrg R hR; (try replace hb := BelX.zero hb); (try simp (decide := true) only [go_sem] at hf); (try simp (decide := true) only [go_sem] at hk); go_simp; (with_reducible refine (mk_ModE HMC.out _ (by decide) (by decide)).mono ?_); rintro e w' ⟨rfl, rfl⟩; exact ⟨_, rfl, hR _ _ (rpost_val rfl rfl (Below.refl _ _) rfl)⟩
        case oR1_12 => intro f lo hi w hb hx hf hk hrg R hR; (try replace hb := BelX.zero hb); (try simp (decide := true) only [go_sem] at hf); (try simp (decide := true) only [go_sem] at hk); go_simp; exact hR _ _ (rpost_val rfl rfl (Below.refl _ _) rfl)
        case oR1_13 => intro f lo hi w hb hx hf hk hrg R hR; (try replace hb := BelX.zero hb); (try simp (decide := true) only [go_sem] at hf); (try simp (decide := true) only [go_sem] at hk); obtain ⟨c0, c1, c2, c3, c4, -, hl⟩ := (Blk.below kR hb (Blk.lt kR)).five; go_simp; exact hR _ _ (rpost_val rfl rfl (Below.refl _ _) rfl)
        case oR1_14 => intro f lo hi w hb hx hf hk hrg R hR; (try replace hb := BelX.zero hb); (try simp (decide := true) only [go_sem] at hf); (try simp (decide := true) only [go_sem] at hk); go_simp; (with_reducible refine (mk_ModE HMD.out _ (by decide) (by decide)).mono ?_); rintro e w' ⟨rfl, rfl⟩; exact ⟨_, rfl, hR _ _ (rpost_val rfl rfl (Below.refl _ _) rfl)⟩
        case oR1_15 => intro f lo hi w hb hx hf hk hrg R hR; (try replace hb := BelX.zero hb); (try simp (decide := true) only [go_sem] at hf); (try simp (decide := true) only [go_sem] at hk); go_simp; exact hR _ _ (rpost_val rfl rfl (Below.refl _ _) rfl)
        case oR1_16 =>
          intro f lo hi w hb hx hf hk hrg R hR; (try replace hb := BelX.zero hb); (try simp (decide := true) only [go_sem] at hf); (try simp (decide := true) only [go_sem] at hk)
          go_simp
          refine hR _ _ (rpost_none rfl (by repeat (first | (with_reducible refine Below.setCell ?_ ?_ _) | (with_reducible refine Below.alloc ?_ ?_ _) | (with_reducible refine Below.drew ?_) | (with_reducible refine below_drewN ?_ _) | (with_reducible exact Below.refl _ _) | (focus (simp; done)) | (focus (simp; omega)) | (focus omega))) ?_)
          (try simp (decide := true) only [go_sem])
          exact ⟨_, rfl, Nat.le_refl _, by simp, Blk.new _ _ _⟩
        case oR1_17 =>
          intro f lo hi w hb hx hf hk hrg R hR; (try replace hb := BelX.zero hb); (try simp (decide := true) only [go_sem] at hf); (try simp (decide := true) only [go_sem] at hk)
          obtain ⟨b, h89, -⟩ := hf
          go_simp
          exact hR _ _ (rpost_vh rfl rfl (Below.refl _ _))
        case oR1_18 => intro f lo hi w hb hx hf hk hrg R hR; (try replace hb := BelX.zero hb); (try simp (decide := true) only [go_sem] at hf); (try simp (decide := true) only [go_sem] at hk); go_simp; exact hR _ _ (rpost_val rfl rfl (Below.refl _ _) rfl)
        case hcl =>
          refine ⟨Closed.true _ _ _ _, Closed.true _ _ _ _, Closed.true _ _ _ _, Closed.true _ _ _ _, Closed.true _ _ _ _, Closed.true _ _ _ _, Closed.true _ _ _ _, Closed.true _ _ _ _, Closed.true _ _ _ _, Closed.true _ _ _ _, Closed.true _ _ _ _, Closed.true _ _ _ _, Closed.true _ _ _ _, Closed.true _ _ _ _, Closed.true _ _ _ _, Closed.true _ _ _ _, ?cR1_16, Closed.true _ _ _ _, Closed.true _ _ _ _, trivial⟩
          exact fun f lo hi v b0 b1 w w' h hs hB hown hU hX => by
            obtain ⟨b, h1, h2, h3, h4⟩ := h
            exact ⟨b, h1, h2, h3, (hown b h2 h3).trans h4⟩
        intro f lo hi W7 hbr hx hf hk hrg; (try replace hbr := BelX.zero hbr); clear hx; (try simp (decide := true) only [go_sem] at hf); (try simp (decide := true) only [go_sem] at hk)
        obtain ⟨lb, h89, -, -, kL⟩ := hf
        have be7 : RowKit.Below w5.heap.size w5 W7 := (by repeat (first | (with_reducible refine Below.setCell ?_ ?_ _) | (with_reducible refine Below.alloc ?_ ?_ _) | (with_reducible refine Below.drew ?_) | (with_reducible refine below_drewN ?_ _) | (with_reducible exact Below.refl _ _) | (with_reducible refine Below.trans ?_ (Below.mono hbr ?_)) | (with_reducible refine Below.trans ?_ (Below.mono be2 ?_)) | (focus (simp; done)) | (focus (simp; omega)) | (focus omega) | (focus (have q0 := Below.size hbr; (try simp at q0); have q1 := Below.size be2; (try simp at q1); (try simp); omega))))
        clear hrg
        go_simp
        clear hk h89
        go_wp2_with fail
        have vd7 := vd5.below be7 (Nat.le_refl _)
        clear vdr hbr kR be2
        go_loopw [91] (fun s91 wr => ∃ i : Nat, s91 = .int .i64 i ∧ i ≤ 2 ∧ RowKit.Below W7.heap.size W7 wr) (fun s _ => 2 - (intOf s).toNat)
        case atStart => exact ⟨0, rfl, by omega, (by repeat (first | (with_reducible refine Below.setCell ?_ ?_ _) | (with_reducible refine Below.alloc ?_ ?_ _) | (with_reducible refine Below.drew ?_) | (with_reducible refine below_drewN ?_ _) | (with_reducible exact Below.refl _ _) | (focus (simp; done)) | (focus (simp; omega)) | (focus omega)))⟩
        case round =>
          obtain ⟨i, rfl, hi2, bz⟩ := hrel
          have vdw := vd7.below bz (Nat.le_refl _)
          by_cases hlt : i < 2
          · have kx : (i : Int) < 2 := by omega
            have kq := kL.below bz kL.lt
            have kql := kq.lt
            obtain ⟨ju, ph, fr, to_, si, y0, y1, y2, y3, y4⟩ : ∃ ju ph fr to_ si : Int, wr.cell? ⟨lb, i * 5, none⟩ = some (.int .i64 ju) ∧ wr.cell? ⟨lb, i * 5 + 1, none⟩ = some (.int .i64 ph) ∧ wr.cell? ⟨lb, i * 5 + 2, none⟩ = some (.int .i64 fr) ∧ wr.cell? ⟨lb, i * 5 + 3, none⟩ = some (.int .i64 to_) ∧ wr.cell? ⟨lb, i * 5 + 4, none⟩ = some (.int .i64 si) := by
              have : i = 0 ∨ i = 1 := by omega
              rcases this with rfl | rfl
              · exact ⟨_, _, _, _, _, kq.cell 0, kq.cell 1, kq.cell 2, kq.cell 3, kq.cell 4⟩
              · exact ⟨_, _, _, _, _, kq.cell 5, kq.cell 6, kq.cell 7, kq.cell 8, kq.cell 9⟩
            clear kq
            go_upto_region 15 with fail
            obtain ⟨G, hG⟩ : ∃ G, wr.heap.size = G := ⟨_, rfl⟩
            refine wp_named (fun U => Blk U G 34 #[.int .i64 ju, .int .i64 ph, .int .i64 fr, .int .i64 to_, .int .i64 si] ∧ RowKit.Below W7.heap.size W7 U ∧ Vws U va its) ⟨by rw [← hG]; exact Blk.new _ _ _, (by repeat (first | (with_reducible refine Below.setCell ?_ ?_ _) | (with_reducible refine Below.alloc ?_ ?_ _) | (with_reducible refine Below.drew ?_) | (with_reducible refine below_drewN ?_ _) | (with_reducible exact Below.refl _ _) | (with_reducible refine Below.trans ?_ (Below.mono bz ?_)) | (focus (simp; done)) | (focus (simp; omega)) | (focus omega) | (focus (have q0 := Below.size bz; (try simp at q0); (try simp); omega)))), vdw.alloc _⟩ ?_
            rw [hG]
            clear hG y0 y1 y2 y3 y4 kql bz vdw
            rintro U ⟨kG, bz, vdU⟩
            obtain ⟨g0, g1, g2, g3, g4, gf, gl⟩ := kG.five
            have r1 : ∀ (d : Nat) (os : Array Obj) (o : Nat), (grow (redrawn U d) os).cell? ⟨G, o, none⟩ = U.cell? ⟨G, o, none⟩ := fun d os o => cells_regrown _ _ _ _ _ gl
            obtain ⟨C1, hC1⟩ : ∃ C1, codeM ju ph fr to_ (its.map Vx.key) now = C1 := ⟨_, rfl⟩
            obtain ⟨C2, hC2⟩ : ∃ C2, codeM ju ph fr to_ (its.map Vx.key) n = C2 := ⟨_, rfl⟩
            have F1 : Hid (∀ W, RowKit.Below U.heap.size U W → Calls Try.prog 10 #[lgAgg ju ph fr to_ si, .slice va its.length vc, .int .i64 now] W fun e w' => e = .returned (.int .i64 C1) ∧ RowKit.Below W.heap.size W w') := Lib.hid fun W h => by
              have := status_Code ju ph fr to_ si va its its.length vc now W (vdU.below h (Nat.le_refl _)) rfl
              unfold CodeR at this
              rwa [hC1] at this
            have F2 : Hid (∀ W, RowKit.Below U.heap.size U W → Calls Try.prog 10 #[lgAgg ju ph fr to_ si, .slice va its.length vc, .int .i64 n] W fun e w' => e = .returned (.int .i64 C2) ∧ RowKit.Below W.heap.size W w') := Lib.hid fun W h => by
              have := status_Code ju ph fr to_ si va its its.length vc n W (vdU.below h (Nat.le_refl _)) rfl
              unfold CodeR at this
              rwa [hC2] at this
            have F3 : Hid (∀ W, RowKit.Below U.heap.size U W → Calls Try.prog 17 #[lgAgg ju ph fr to_ si, .slice va its.length vc, .int .i64 now] W fun e w' => e = .returned (.int .i64 C1) ∧ RowKit.Below W.heap.size W w') := Lib.hid fun W h => by
              have := ref24_Code ju ph fr to_ si va its its.length vc now W (vdU.below h (Nat.le_refl _)) rfl
              unfold CodeR at this
              rwa [hC1] at this
            have F4 : Hid (∀ W, RowKit.Below U.heap.size U W → Calls Try.prog 17 #[lgAgg ju ph fr to_ si, .slice va its.length vc, .int .i64 n] W fun e w' => e = .returned (.int .i64 C2) ∧ RowKit.Below W.heap.size W w') := Lib.hid fun W h => by
              have := ref24_Code ju ph fr to_ si va its its.length vc n W (vdU.below h (Nat.le_refl _)) rfl
              unfold CodeR at this
              rwa [hC2] at this
            clear hC1 hC2 vdU
            have z1 : (C1 != C1) = false := by simp
            have z2 : (C2 != C2) = false := by simp
            (refine wp_region_quiet_below (by kernel_rfl) (by kernel_rfl) ?_; (repeat (go_big_quiet_step (first | (go_at_call 10; with_reducible exact qb (F1.out _ (below_regrown U _ _))) | (go_at_call 10; with_reducible exact qb (F2.out _ (below_regrown U _ _))) | (go_at_call 17; with_reducible exact qb (F3.out _ (below_regrown U _ _))) | (go_at_call 17; with_reducible exact qb (F4.out _ (below_regrown U _ _)))))); refine wpQuiet_nil ?_; intro wq hwq; have hbq := below_of_regrown hwq; clear hwq)
            go_wp2_with fail
            go_roundw
            case rel => exact ⟨i + 1, by go_num, by omega, (by repeat (first | (with_reducible refine Below.setCell ?_ ?_ _) | (with_reducible refine Below.alloc ?_ ?_ _) | (with_reducible refine Below.drew ?_) | (with_reducible refine below_drewN ?_ _) | (with_reducible exact Below.refl _ _) | (with_reducible refine Below.trans ?_ (Below.mono hbq ?_)) | (with_reducible refine Below.trans ?_ (Below.mono bz ?_)) | (focus (simp; done)) | (focus (simp; omega)) | (focus omega) | (focus (have q0 := Below.size hbq; (try simp at q0); have q1 := Below.size bz; (try simp at q1); (try simp); omega))))⟩
            case measure => simp [intOf]; omega
          · obtain rfl : i = 2 := by omega
            go_wp2_with (first | (go_at_call 18; (with_reducible refine (status_Feed va its its.length vc n _ vdw rfl HOKK.out (by omega)).mono ?_); rintro e w8 ⟨aa8, da8, dn8, dc8, rfl, hd8, hm8, hb8⟩) | (go_at_call 19; (with_reducible refine (ref24_Feed va its its.length vc n _ (vdw.below hb8 (Nat.le_refl _)) rfl HOKK.out (by omega)).mono ?_); rintro e w9 ⟨aa9, da9, dn9, dc9, rfl, hd9, hm9, hb9⟩) | (go_at_call 14; (with_reducible refine (ref05_SameT (hm8.below hb9 (Nat.le_refl _)) hm9 hd8 hd9).mono ?_); rintro e w10 ⟨rfl, hb10⟩) | (go_at_call 11; (with_reducible refine (awake_yes _).mono ?_); rintro e w11 ⟨rfl, hb11⟩))
            go_ret
            exact ⟨rfl, (by repeat (first | (with_reducible refine Below.setCell ?_ ?_ _) | (with_reducible refine Below.alloc ?_ ?_ _) | (with_reducible refine Below.drew ?_) | (with_reducible refine below_drewN ?_ _) | (with_reducible exact Below.refl _ _) | (with_reducible refine Below.trans ?_ (Below.mono hb11 ?_)) | (with_reducible refine Below.trans ?_ (Below.mono hb10 ?_)) | (with_reducible refine Below.trans ?_ (Below.mono hb9 ?_)) | (with_reducible refine Below.trans ?_ (Below.mono hb8 ?_)) | (with_reducible refine Below.trans ?_ (Below.mono bz ?_)) | (with_reducible refine Below.trans ?_ (Below.mono be7 ?_)) | (with_reducible refine Below.trans ?_ (Below.mono be5 ?_)) | (focus (simp; done)) | (focus (simp; omega)) | (focus omega) | (focus (have q0 := Below.size hb11; (try simp at q0); have q1 := Below.size hb10; (try simp at q1); have q2 := Below.size hb9; (try simp at q2); have q3 := Below.size hb8; (try simp at q3); have q4 := Below.size bz; (try simp at q4); have q5 := Below.size be7; (try simp at q5); have q6 := Below.size be5; (try simp at q6); (try simp); omega))))⟩
end Go.Proofs.Ytpjnajallekjoaa
