/- signalbrokerref19.Update -/
import Derived.Test.YtbanejpihdhbdaaRqUpd
namespace Go.Proofs.Ytbanejpihdhbdaa
set_option linter.unusedVariables false
open Go.RowKit Go.Sort
set_option maxRecDepth 100000

set_option maxHeartbeats 8000000 in
theorem ref19_Update (a : Option Addr) (l : List Rq) (n c : Nat) (id : Int) (wa : Option Addr) (ws : List Wn) (wn wc : Nat) (now : Int) (w : World) (h : Rqs w a l) (hn : n = l.length) (l9 : n ≤ 10000) (hl : ∀ r ∈ l, r.legs.length ≤ r.c ∧ r.legs.length ≤ 10000) (hw : Row w wa (wnCells ws)) (hwn : wn = ws.length) (w9 : wn ≤ 10000) :
    Calls Try.prog 25 #[.slice a n c, .int .i64 id, .slice wa wn wc, .int .i64 now] w (LE (updM (l.map Rq.key) id ws now) w) := by
  subst hn
  have HWN := Lib.hid hwn
  clear hwn
  go_enter Try.func25, Try.ntmps25
  by_cases hp : RqsOk (l.map Rq.key) 4
  · have HP := Lib.hid hp
    clear hp
    by_cases ht : tickOk now
    · have HB : now ≤ 1073741824 ∧ 0 ≤ now := ⟨ht.2, ht.1⟩
      have HT := Lib.hid ht
      clear ht
      go_wp2_with (first | (go_at_call 27; (with_reducible refine (Says.y (ref19_Valid a l l.length c 4 _ h rfl (by omega) (fun r hr => ⟨(hl r hr).1, by have := (hl r hr).2; omega⟩)) HP.out).mono ?_); rintro e w1 ⟨rfl, hb1⟩) | (go_at_call 52; (with_reducible refine (ref19_within _ _ _ _).mono ?_); rintro e wz ⟨rfl, rfl⟩) | (go_at_call 51; (with_reducible refine (ref19_Copy a l l.length c _ (h.below hb1 (Nat.le_refl _)) rfl (by omega) (fun r hr => by have := (hl r hr).2; omega)).mono ?_); rintro e w2 ⟨xa, xc, l2, rfl, hk, hn2, il, hb2⟩))
      have be3 : RowKit.Below w.heap.size w w2 := (by repeat (first | (with_reducible refine Below.setCell ?_ ?_ _) | (with_reducible refine Below.alloc ?_ ?_ _) | (with_reducible refine Below.drew ?_) | (with_reducible refine below_drewN ?_ _) | (with_reducible exact Below.refl _ _) | (with_reducible refine Below.trans ?_ (Below.mono hb2 ?_)) | (with_reducible refine Below.trans ?_ (Below.mono hb1 ?_)) | (focus (simp; done)) | (focus (simp; omega)) | (focus omega) | (focus (have q0 := Below.size hb2; (try simp at q0); have q1 := Below.size hb1; (try simp at q1); (try simp); omega))))
      have il := il.mono hb1.size
      have hn2' := hn2.out
      rw [hn2']
      obtain ⟨B, hB⟩ : ∃ B, w.heap.size = B := ⟨_, rfl⟩
      rw [hB] at il be3
      have hok : Hid (RqsOk (l2.map Rq.key) 4 ∧ tickOk now) := Lib.hid ⟨by rw [hk.out]; exact HP.out, HT.out⟩
      clear HB hb1 hb2
      go_loopw [29] (fun s29 wr => ∃ i : Nat, s29 = .int .i64 i ∧ i ≤ l2.length ∧ Hid (∀ k, k < i → ¬ ∃ h : k < l2.length, l2[k].id = id) ∧ RqL wr B l2 xa xc ∧ RowKit.Below B w wr) (fun s _ => l2.length - (intOf s).toNat)
      case atStart => exact ⟨0, rfl, by omega, Lib.hid fun k q => by omega, il, be3⟩
      case round =>
        clear il be3
        obtain ⟨i, rfl, hi, hno, il, be3⟩ := hrel
        by_cases hi2 : i < l2.length
        · have kx : (i : Int) < (l2.length : Int) := by omega
          have HM := Lib.hid (fun hid2 => by have q := updM_all (ws := ws) hok.out hi2 hid2 hno.out; rw [hk.out] at q; exact q)
          have HNX := Lib.hid (show l2[i].id ≠ id → ∀ k, k < i + 1 → ¬ ∃ h : k < l2.length, l2[k].id = id from fun q k hk ⟨h, e⟩ => by
            by_cases z : k = i
            · subst z; exact q e
            · exact hno.out k (by omega) ⟨h, e⟩)
          have hlg := legs_le hk.out (fun r hr => (hl r hr).2) _ (List.getElem_mem hi2)
          obtain ⟨xb, rfl, -, -⟩ := il.own.open_ (by omega)
          obtain ⟨x0, x1, x2, x3, x4, xl⟩ := row_req il.rqs.row i hi2
          simp only [Nat.zero_add] at x0 x1 x2 x3 x4
          have HS0 := Lib.hid (show l2 = l2.set i { l2[i] with legs := upTo now ws l2[i].legs 0 } from set_same hi2 rfl)
          have HI := Lib.hid (show ∀ x, l2[i] = x → x.id = id → l2[i].id = id from fun x e q => by rw [e]; exact q)
          obtain ⟨x, hx⟩ : ∃ x, l2[i] = x := ⟨_, rfl⟩
          rw [hx] at x0 x1 x2 x3 x4 HS0 hlg HNX
          have HM2 := Lib.hid (fun q => HM.out (HI.out _ hx q) _ hx)
          obtain ⟨id', veh, cls, til, lg, la, lc⟩ := x
          simp only at x0 x1 x2 x3 x4 HS0 hlg HM2 HNX
          clear HM HI hx
          go_upto_region 7 with fail
          obtain ⟨V, hV⟩ : ∃ V, wr.heap.size = V := ⟨_, rfl⟩
          refine wp_named (fun Y => Blk Y V 45 #[.int .i64 id', .int .i64 veh, .int .i64 cls, .int .i64 til, .slice la lg.length lc] ∧ RqL Y B l2 (some ⟨xb, 0, none⟩) xc ∧ RowKit.Below B w Y) ⟨by rw [← hV]; exact Blk.new _ _ _, il.alloc _, (by repeat (first | (with_reducible refine Below.setCell ?_ ?_ _) | (with_reducible refine Below.alloc ?_ ?_ _) | (with_reducible refine Below.drew ?_) | (with_reducible refine below_drewN ?_ _) | (with_reducible exact Below.refl _ _) | (with_reducible refine Below.trans ?_ (Below.mono be3 ?_)) | (focus (simp; done)) | (focus (simp; omega)) | (focus omega) | (focus (have q0 := Below.size be3; (try simp at q0); (try simp); omega))))⟩ ?_
          rw [hV]
          have hVB : B ≤ V := by have := be3.size; omega
          clear hV il be3 x0 x1 x2 x3 x4 xl
          rintro Y ⟨kV, il, be3⟩
          obtain ⟨v0, v1, v2, v3, v4, vf, vl⟩ := kV.five
          by_cases hide : id' = id
          · subst hide
            have HML := Lib.hid (HM2.out rfl).1
            have HMB := Lib.hid (HM2.out rfl).2.1
            have HM0 := Lib.hid (HM2.out rfl).2.2
            clear HM2 HNX hno
            by_cases hlen : wn = lg.length
            · subst hlen
              go_wp2_with fail
              rw [HS0.out] at il
              clear HS0 v0 v1 v2 v3 v4 vf vl
              go_loopw [46] (fun s46 wr => ∃ k : Nat, s46 = .int .i64 k ∧ k ≤ lg.length ∧ Hid (∀ j (h1 : j < lg.length) (h2 : j < ws.length), j < k → wnOk now lg[j] ws[j] = true) ∧ Blk wr V 45 #[.int .i64 id', .int .i64 veh, .int .i64 cls, .int .i64 til, .slice la lg.length lc] ∧ RqL wr B (l2.set i ⟨id', veh, cls, til, upTo now ws lg k, la, lc⟩) (some ⟨xb, 0, none⟩) xc ∧ RowKit.Below B w wr) (fun s _ => lg.length - (intOf s).toNat)
              case atStart => exact ⟨0, rfl, by omega, Lib.hid fun j _ _ q => by omega, kV, il, be3⟩
              case round =>
                clear il be3 kV
                obtain ⟨k, rfl, hk1, hall, kV, il, hb⟩ := hrel
                by_cases hkg : k < lg.length
                · have jx2 : (k : Int) < (lg.length : Int) := by omega
                  have hkl : k < ws.length := by rw [← HWN.out]; exact hkg
                  have hil : i < (l2.set i (⟨id', veh, cls, til, upTo now ws lg k, la, lc⟩ : Rq)).length := by rw [List.length_set]; exact hi2
                  have o := il.legs _ (List.getElem_mem hil)
                  rw [List.getElem_set_self] at o
                  simp only [upTo_len] at o
                  obtain ⟨g, rfl, gB, gl⟩ := o.open_ (by omega)
                  obtain ⟨y0, y1, y2, y3, y4, yl⟩ := row_leg o.row k (by rw [upTo_len]; exact hkg)
                  rw [upTo_get _ _ _ _ _ (Nat.le_refl _) hkg] at y0 y1 y2 y3 y4
                  simp only [Nat.zero_add] at y0 y1 y2 y3 y4
                  have HST := Lib.hid (upTo_set (now := now) hkg hkl)
                  obtain ⟨wb, wo, rfl, p0, p1, pl⟩ := row_wn (hw.below (B := w.heap.size) (by rw [hB]; exact hb) (Nat.le_refl _)) k hkl
                  have HOK := Lib.hid (show ∀ b, wMakeOk lg[k].ju lg[k].ph ws[k].1 ws[k].2 now = b → wnOk now lg[k] ws[k] = b from fun b h => h)
                  have HZ0 := Lib.hid (show (upTo now ws lg k)[k]'(by rw [upTo_len]; exact hkg) = lg[k] from upTo_get _ _ _ _ _ (Nat.le_refl _) hkg)
                  obtain ⟨z, hz⟩ : ∃ z, lg[k] = z := ⟨_, rfl⟩
                  obtain ⟨p, hpw⟩ : ∃ p, ws[k] = p := ⟨_, rfl⟩
                  have HBAD := Lib.hid (HMB.out k hkg hkl)
                  have HSTEP := Lib.hid (show wnOk now lg[k] ws[k] = true → ∀ j (h1 : j < lg.length) (h2 : j < ws.length), j < k + 1 → wnOk now lg[j] ws[j] = true from fun q j h1 h2 h3 => by
                    by_cases e : j = k
                    · subst e; exact q
                    · exact hall.out j h1 h2 (by omega))
                  rw [hz, hpw] at HST HBAD HSTEP HOK
                  rw [hz] at y0 y1 y2 y3 y4 HZ0
                  rw [hpw] at p0 p1
                  clear hz hpw
                  obtain ⟨ju, ph, fr, to_, si⟩ := z
                  obtain ⟨pf, pt⟩ := p
                  simp only [upOne] at y0 y1 y2 y3 y4 p0 p1 HST HOK
                  obtain ⟨mj, mp, mf, mt, ms, er, HMK, HYES, HNO⟩ := wMakeV_parts ju ph pf pt now
                  obtain ⟨v0, v1, v2, v3, v4, vf, vl⟩ := kV.five
                  have hgV0 := Lib.hid (show g ≠ V from fun e => by
                    have q := o.past kV (by decide)
                    exact q (by rw [← e]; rfl))
                  go_upto_region 13 with fail
                  obtain ⟨X, hX⟩ : ∃ X, wr.heap.size = X := ⟨_, rfl⟩
                  have hgX : g < X := by rw [← hX]; exact yl
                  refine wp_named (fun Z => Blk Z X 54 #[.int .i64 pf, .int .i64 pt] ∧ Blk Z V 45 #[.int .i64 id', .int .i64 veh, .int .i64 cls, .int .i64 til, .slice (some ⟨g, 0, none⟩) lg.length lc] ∧ RqL Z B (l2.set i ⟨id', veh, cls, til, upTo now ws lg k, some ⟨g, 0, none⟩, lc⟩) (some ⟨xb, 0, none⟩) xc ∧ RowKit.Below B w Z ∧ Row Z (some ⟨g, 0, none⟩) (lgCells (upTo now ws lg k))) ⟨by rw [← hX]; exact Blk.new _ _ _, kV.alloc _, il.alloc _, (by repeat (first | (with_reducible refine Below.setCell ?_ ?_ _) | (with_reducible refine Below.alloc ?_ ?_ _) | (with_reducible refine Below.drew ?_) | (with_reducible refine below_drewN ?_ _) | (with_reducible exact Below.refl _ _) | (with_reducible refine Below.trans ?_ (Below.mono hb ?_)) | (focus (simp; done)) | (focus (simp; omega)) | (focus omega) | (focus (have q0 := Below.size hb; (try simp at q0); (try simp); omega)))), o.row.alloc _⟩ ?_
                  rw [hX]
                  clear hX o il hb y0 y1 y2 y3 y4 yl p0 p1 pl hil gl v0 v1 v2 v3 v4 vf vl kV
                  rintro Z ⟨kX, kV, il, hb, hrow⟩
                  obtain ⟨y0, y1, y2, y3, y4, yl⟩ := row_leg hrow k (by rw [upTo_len]; exact hkg)
                  rw [HZ0.out] at y0 y1 y2 y3 y4
                  simp only [Nat.zero_add] at y0 y1 y2 y3 y4
                  have Y0 := Lib.hid y0
                  have Y1 := Lib.hid y1
                  have vl := kV.lt
                  clear y0 y1 y2 y3 y4 hrow
                  apply wp_region_tab [] 24 92 [some 52, some 53, some 54, some 55, some 56, some 57, some 58, some 59, some 60, some 61, some 62, some 63, some 64, some 65, some 66, some 67, some 68, some 69, some 51, some 70, some 71, some 15, none, some 16] [⟨[], [], [], []⟩, ⟨[0], [0], [0], []⟩, ⟨[], [], [], []⟩, ⟨[0, 1, 2], [1, 2], [1, 2], []⟩, ⟨[0, 1, 2, 3], [3], [3], []⟩, ⟨[0, 1, 2, 3, 4], [4], [4], []⟩, ⟨[], [], [], []⟩, ⟨[6], [6], [6], []⟩, ⟨[], [], [], []⟩, ⟨[6, 7, 8], [7, 8], [7, 8], []⟩, ⟨[6, 7, 8, 9], [9], [9], []⟩, ⟨[6, 7, 8, 9, 10], [10], [10], []⟩, ⟨[], [], [], []⟩, ⟨[12], [12], [12], []⟩, ⟨[], [], [], []⟩, ⟨[14], [14], [14], []⟩, ⟨[], [], [], []⟩, ⟨[0, 1, 2, 3, 4, 5, 6, 7, 8, 9, 10, 11, 12, 13, 14, 15, 16], [5, 11, 13, 15, 16], [5, 11, 13, 15, 16], []⟩, ⟨[0, 1, 2, 3, 4, 5, 6, 7, 8, 9, 10, 11, 12, 13, 14, 15, 16, 17], [17], [17], []⟩, ⟨[0, 1, 2, 3, 4, 5, 6, 7, 8, 9, 10, 11, 12, 13, 14, 15, 16, 17, 18], [18], [18], []⟩, ⟨[0, 1, 2, 3, 4, 5, 6, 7, 8, 9, 10, 11, 12, 13, 14, 15, 16, 17, 18], [18], [18], []⟩, ⟨[], [], [], []⟩, ⟨[0, 1, 2, 3, 4, 5, 6, 7, 8, 9, 10, 11, 12, 13, 14, 15, 16, 17, 18, 19, 21], [19, 21], [19, 21], [21]⟩, ⟨[0, 1, 2, 3, 4, 5, 6, 7, 8, 9, 10, 11, 12, 13, 14, 15, 16, 17, 18, 19, 20, 21, 22], [20], [20], []⟩] [0, 1, 2, 3, 4, 5, 6, 7, 8, 9, 10, 11, 12, 13, 14, 15, 16, 17, 18, 19, 20, 21, 22, 23] [22, 23] [psiTrue, psiTrue, psiTrue, psiTrue, psiTrue, psiTrue, psiTrue, psiTrue, psiTrue, psiTrue, psiTrue, psiTrue, psiTrue, psiTrue, psiTrue, psiTrue, psiTrue, psiTrue, psiTrue, psiTrue, psiTrue, (fun f lo hi v b0 b1 W => ∃ b, v = .pointer (some ⟨b, 0, none⟩) ∧ b0 ≤ b ∧ b < b1 ∧ Blk W b 25 #[.int .i64 0, .int .i64 0, .int .i64 0, .int .i64 0, .int .i64 0]), (fun f lo hi v b0 b1 W => ∃ b, f 21 = .pointer (some ⟨b, 0, none⟩) ∧ lo (21) ≤ b ∧ b < hi (21) ∧ Blk W b 25 #[.int .i64 mj, .int .i64 mp, .int .i64 mf, .int .i64 mt, .int .i64 ms]), psiTrue] [kVal _, kVal _, kVal _, kVal _, kVal _, kVal _, kVal _, kVal _, kVal _, kVal _, kVal _, kVal _, kVal _, kVal _, kVal _, kVal _, kVal _, kVal _, kVal _, kVal _, kVal _, kTrue, kTrue, kVal _]
                  · kernel_rfl
                  · kernel_rfl
                  · rfl
                  · rfl
                  · exact trivial
                  · exact trivial
                  refine ⟨?oR1_0, ?oR1_1, ?oR1_2, ?oR1_3, ?oR1_4, ?oR1_5, ?oR1_6, ?oR1_7, ?oR1_8, ?oR1_9, ?oR1_10, ?oR1_11, ?oR1_12, ?oR1_13, ?oR1_14, ?oR1_15, ?oR1_16, ?oR1_17, ?oR1_18, ?oR1_19, ?oR1_20, ?oR1_21, ?oR1_22, ?oR1_23, trivial⟩
                  case oR1_0 => intro f lo hi w hb hx hf hk hrg R hR; (try replace hb := BelX.zero hb); (try simp (decide := true) only [go_sem] at hf); (try simp (decide := true) only [go_sem] at hk); go_simp; exact hR _ _ (rpost_val rfl rfl (Below.refl _ _) rfl)
                  case oR1_1 =>
                    intro f lo hi w hb hx hf hk hrg R hR; (try replace hb := BelX.zero hb); (try simp (decide := true) only [go_sem] at hf); (try simp (decide := true) only [go_sem] at hk)
                    have kk := kV.below hb vl
                    have e := kk.cell 4
                    have hl := kk.lt
                    go_simp
                    exact hR _ _ (rpost_val rfl rfl (Below.refl _ _) rfl)
                  case oR1_2 => intro f lo hi w hb hx hf hk hrg R hR; (try replace hb := BelX.zero hb); (try simp (decide := true) only [go_sem] at hf); (try simp (decide := true) only [go_sem] at hk); go_simp; exact hR _ _ (rpost_val rfl rfl (Below.refl _ _) rfl)
                  case oR1_3 => intro f lo hi w hb hx hf hk hrg R hR; (try replace hb := BelX.zero hb); (try simp (decide := true) only [go_sem] at hf); (try simp (decide := true) only [go_sem] at hk); go_simp; exact hR _ _ (rpost_val rfl rfl (Below.refl _ _) rfl)
                  case oR1_4 => intro f lo hi w hb hx hf hk hrg R hR; (try replace hb := BelX.zero hb); (try simp (decide := true) only [go_sem] at hf); (try simp (decide := true) only [go_sem] at hk); go_simp; exact hR _ _ (rpost_val rfl rfl (Below.refl _ _) rfl)
                  case oR1_5 =>
                    intro f lo hi w hb hx hf hk hrg R hR; (try replace hb := BelX.zero hb); (try simp (decide := true) only [go_sem] at hf); (try simp (decide := true) only [go_sem] at hk)
                    have e := (hb.cell (p := ⟨g, k * 5, none⟩) yl).trans Y0.out
                    have hl := Nat.lt_of_lt_of_le yl hb.size
                    go_simp
                    exact hR _ _ (rpost_val rfl rfl (Below.refl _ _) rfl)
                  case oR1_6 => intro f lo hi w hb hx hf hk hrg R hR; (try replace hb := BelX.zero hb); (try simp (decide := true) only [go_sem] at hf); (try simp (decide := true) only [go_sem] at hk); go_simp; exact hR _ _ (rpost_val rfl rfl (Below.refl _ _) rfl)
                  case oR1_7 =>
                    intro f lo hi w hb hx hf hk hrg R hR; (try replace hb := BelX.zero hb); (try simp (decide := true) only [go_sem] at hf); (try simp (decide := true) only [go_sem] at hk)
                    have kk := kV.below hb vl
                    have e := kk.cell 4
                    have hl := kk.lt
                    go_simp
                    exact hR _ _ (rpost_val rfl rfl (Below.refl _ _) rfl)
                  case oR1_8 => intro f lo hi w hb hx hf hk hrg R hR; (try replace hb := BelX.zero hb); (try simp (decide := true) only [go_sem] at hf); (try simp (decide := true) only [go_sem] at hk); go_simp; exact hR _ _ (rpost_val rfl rfl (Below.refl _ _) rfl)
                  case oR1_9 => intro f lo hi w hb hx hf hk hrg R hR; (try replace hb := BelX.zero hb); (try simp (decide := true) only [go_sem] at hf); (try simp (decide := true) only [go_sem] at hk); go_simp; exact hR _ _ (rpost_val rfl rfl (Below.refl _ _) rfl)
                  case oR1_10 => intro f lo hi w hb hx hf hk hrg R hR; (try replace hb := BelX.zero hb); (try simp (decide := true) only [go_sem] at hf); (try simp (decide := true) only [go_sem] at hk); go_simp; exact hR _ _ (rpost_val rfl rfl (Below.refl _ _) rfl)
                  case oR1_11 =>
                    intro f lo hi w hb hx hf hk hrg R hR; (try replace hb := BelX.zero hb); (try simp (decide := true) only [go_sem] at hf); (try simp (decide := true) only [go_sem] at hk)
                    have e := (hb.cell (p := ⟨g, k * 5 + 1, none⟩) yl).trans Y1.out
                    have hl := Nat.lt_of_lt_of_le yl hb.size
                    go_simp
                    exact hR _ _ (rpost_val rfl rfl (Below.refl _ _) rfl)
                  case oR1_12 => intro f lo hi w hb hx hf hk hrg R hR; (try replace hb := BelX.zero hb); (try simp (decide := true) only [go_sem] at hf); (try simp (decide := true) only [go_sem] at hk); go_simp; exact hR _ _ (rpost_val rfl rfl (Below.refl _ _) rfl)
                  case oR1_13 =>
                    intro f lo hi w hb hx hf hk hrg R hR; (try replace hb := BelX.zero hb); (try simp (decide := true) only [go_sem] at hf); (try simp (decide := true) only [go_sem] at hk)
                    have kk := kX.below hb kX.lt
                    have e := kk.cell 0
                    have hl := kk.lt
                    go_simp
                    exact hR _ _ (rpost_val rfl rfl (Below.refl _ _) rfl)
                  case oR1_14 => intro f lo hi w hb hx hf hk hrg R hR; (try replace hb := BelX.zero hb); (try simp (decide := true) only [go_sem] at hf); (try simp (decide := true) only [go_sem] at hk); go_simp; exact hR _ _ (rpost_val rfl rfl (Below.refl _ _) rfl)
                  case oR1_15 =>
                    intro f lo hi w hb hx hf hk hrg R hR; (try replace hb := BelX.zero hb); (try simp (decide := true) only [go_sem] at hf); (try simp (decide := true) only [go_sem] at hk)
                    have kk := kX.below hb kX.lt
                    have e := kk.cell 1
                    have hl := kk.lt
                    go_simp
                    exact hR _ _ (rpost_val rfl rfl (Below.refl _ _) rfl)
                  case oR1_16 => intro f lo hi w hb hx hf hk hrg R hR; (try replace hb := BelX.zero hb); (try simp (decide := true) only [go_sem] at hf); (try simp (decide := true) only [go_sem] at hk); go_simp; exact hR _ _ (rpost_val rfl rfl (Below.refl _ _) rfl)
                  case oR1_17 =>
                    intro f lo hi w hb hx hf hk hrg R hR; (try replace hb := BelX.zero hb); (try simp (decide := true) only [go_sem] at hf); (try simp (decide := true) only [go_sem] at hk)
                    go_simp
                    (with_reducible refine (ref18_MakeE HMK.out w).mono ?_)
                    rintro e w' ⟨rfl, hb5⟩
                    exact ⟨_, rfl, hR _ _ (rpost_val rfl rfl hb5 rfl)⟩
                  case oR1_18 => intro f lo hi w hb hx hf hk hrg R hR; (try replace hb := BelX.zero hb); (try simp (decide := true) only [go_sem] at hf); (try simp (decide := true) only [go_sem] at hk); go_simp; exact hR _ _ (rpost_val rfl rfl (Below.refl _ _) rfl)
                  case oR1_19 => intro f lo hi w hb hx hf hk hrg R hR; (try replace hb := BelX.zero hb); (try simp (decide := true) only [go_sem] at hf); (try simp (decide := true) only [go_sem] at hk); go_simp; exact hR _ _ (rpost_val rfl rfl (Below.refl _ _) rfl)
                  case oR1_20 => intro f lo hi w hb hx hf hk hrg R hR; (try replace hb := BelX.zero hb); (try simp (decide := true) only [go_sem] at hf); (try simp (decide := true) only [go_sem] at hk); go_simp; exact hR _ _ (rpost_val rfl rfl (Below.refl _ _) rfl)
                  case oR1_21 =>
                    intro f lo hi w hb hx hf hk hrg R hR; (try replace hb := BelX.zero hb); (try simp (decide := true) only [go_sem] at hf); (try simp (decide := true) only [go_sem] at hk)
                    go_simp
                    refine hR _ _ (rpost_none rfl (by repeat (first | (with_reducible refine Below.setCell ?_ ?_ _) | (with_reducible refine Below.alloc ?_ ?_ _) | (with_reducible refine Below.drew ?_) | (with_reducible refine below_drewN ?_ _) | (with_reducible exact Below.refl _ _) | (focus (simp; done)) | (focus (simp; omega)) | (focus omega))) ?_)
                    (try simp (decide := true) only [go_sem])
                    exact ⟨_, rfl, Nat.le_refl _, by simp, Blk.new _ _ _⟩
                  case oR1_22 =>
                    intro f lo hi w hb hx hf hk hrg R hR; (try replace hb := BelX.zero hb); (try simp (decide := true) only [go_sem] at hf); (try simp (decide := true) only [go_sem] at hk)
                    obtain ⟨b, h1, q1, q2, kb⟩ := hf
                    have H1 := Lib.hid h1
                    obtain ⟨g0, g1, g2, g3, g4, gf, gl⟩ := kb.five
                    have kb2 := Lib.hid (kb.set5 (.int .i64 mj) (.int .i64 mp) (.int .i64 mf) (.int .i64 mt) (.int .i64 ms))
                    go_simp
                    refine hR _ _ (rpost_some rfl rfl ⟨rfl, rfl, rfl, by simp [World.setCell], fun y hb hne => ((((grownBy_set w b 0 _).trans (grownBy_set _ b 1 _)).trans ((grownBy_set _ b 2 _).trans (grownBy_set _ b 3 _))).trans (grownBy_set _ b 4 _)).block y hb (fun e => hne 21 (by simp) (by injection e with e; subst e; exact ⟨q1, q2⟩))⟩ ?_)
                    (try simp (decide := true) only [go_sem])
                    exact ⟨b, H1.out, q1, q2, kb2.out⟩
                  case oR1_23 => intro f lo hi w hb hx hf hk hrg R hR; (try replace hb := BelX.zero hb); (try simp (decide := true) only [go_sem] at hf); (try simp (decide := true) only [go_sem] at hk); go_simp; exact hR _ _ (rpost_val rfl rfl (Below.refl _ _) rfl)
                  case hcl =>
                    refine ⟨Closed.true _ _ _ _, Closed.true _ _ _ _, Closed.true _ _ _ _, Closed.true _ _ _ _, Closed.true _ _ _ _, Closed.true _ _ _ _, Closed.true _ _ _ _, Closed.true _ _ _ _, Closed.true _ _ _ _, Closed.true _ _ _ _, Closed.true _ _ _ _, Closed.true _ _ _ _, Closed.true _ _ _ _, Closed.true _ _ _ _, Closed.true _ _ _ _, Closed.true _ _ _ _, Closed.true _ _ _ _, Closed.true _ _ _ _, Closed.true _ _ _ _, Closed.true _ _ _ _, Closed.true _ _ _ _, ?cR1_21, ?cR1_22, Closed.true _ _ _ _, trivial⟩
                    all_goals first | (intro f lo hi v b0 b1 w w' h hs hB hown hU hX; obtain ⟨b, h1, h2, h3, h4⟩ := h; exact ⟨b, h1, h2, h3, (hown b h2 h3).trans h4⟩) | (intro f lo hi v b0 b1 w w' h hs hB hown hU hX; obtain ⟨b, h1, h2, h3, h4⟩ := h; exact ⟨b, h1, h2, h3, (hU 21 (by simp) b h2 h3).trans h4⟩)
                  intro f lo hi W7 hbr hx hf hk hrg; (try replace hbr := BelX.zero hbr); clear hx; (try simp (decide := true) only [go_sem] at hf); (try simp (decide := true) only [go_sem] at hk)
                  obtain ⟨b, h15, q1, q2, kb⟩ := hf
                  have r15 : Z.heap.size ≤ lo 21 := (hrg.out 21 (by simp)).1
                  have HRZ := Lib.hid il.rlt
                  have il7 := il.below hbr
                  have kV7 := kV.below hbr vl
                  have hb7 : RowKit.Below B w W7 := hb.trans (hbr.mono (by have := hb.size; omega))
                  have hgb : g ≠ b := by have := yl; omega
                  have hVb : V ≠ b := by have := vl; omega
                  have hBb : B ≤ b := by have := yl; omega
                  have hZb : Z.heap.size ≤ b := by omega
                  have gl7 : g < W7.heap.size := Nat.lt_of_lt_of_le yl hbr.size
                  have Y4 := Lib.hid (show W7.cell? ⟨g, k * 5 + 4, none⟩ = some (.int .i64 si) ∧ W7.cell? ⟨xb, i * 5 + 4, none⟩ = some (.slice (some ⟨g, 0, none⟩) lg.length lc) ∧ xb < W7.heap.size by
                    have hil : i < (l2.set i (⟨id', veh, cls, til, upTo now ws lg k, some ⟨g, 0, none⟩, lc⟩ : Rq)).length := by rw [List.length_set]; exact hi2
                    have o := il7.legs _ (List.getElem_mem hil)
                    rw [List.getElem_set_self] at o
                    obtain ⟨-, -, -, -, y4, -⟩ := row_leg o.row k (by rw [upTo_len]; exact hkg)
                    rw [HZ0.out] at y4
                    obtain ⟨-, -, -, -, z4, zl⟩ := row_req il7.rqs.row i hil
                    rw [List.getElem_set_self] at z4
                    simp only [Nat.zero_add, upTo_len] at y4 z4
                    exact ⟨y4, z4, zl⟩)
                  go_simp
                  clear hk h15 hrg hbr il hb kX Y0 Y1 r15 q1 q2 yl hgX kV vl
                  cases hok : wMakeOk ju ph pf pt now with
                  | false =>
                    obtain rfl := HNO.out hok
                    have HF := Lib.hid (HBAD.out (HOK.out _ hok))
                    clear hok
                    go_wp2_with fail
                    refine bodyPost_ret (v := .tuple #[.slice none 0 0, .int .i64 _]) (by simp [results, Try.results25, go_sem]; rfl) rfl ?_
                    exact LE.err HF.out (by rw [hB]; exact hb7)
                  | true =>
                    obtain ⟨rfl, rfl, rfl, rfl, rfl⟩ := HYES.out hok
                    have HGO := Lib.hid (HSTEP.out (HOK.out _ hok))
                    clear hok HYES HNO HMK HBAD HSTEP HOK
                    obtain ⟨v0, v1, v2, v3, v4, vf, vl⟩ := kV7.five
                    obtain ⟨c0, c1, c2, c3, c4, cf, cl⟩ := kb.five
                    obtain ⟨y4, z4, zl⟩ := Y4.out
                    go_upto_region 17 with fail
                    refine wp_named (fun Y => Blk Y b 25 #[.int .i64 mj, .int .i64 mp, .int .i64 (now + pf), .int .i64 (now + pt), .int .i64 si] ∧ Blk Y V 45 #[.int .i64 id', .int .i64 veh, .int .i64 cls, .int .i64 til, .slice (some ⟨g, 0, none⟩) lg.length lc] ∧ RqL Y B (l2.set i ⟨id', veh, cls, til, upTo now ws lg k, some ⟨g, 0, none⟩, lc⟩) (some ⟨xb, 0, none⟩) xc ∧ RowKit.Below B w Y ∧ g < Y.heap.size ∧ xb < Y.heap.size) ⟨kb.set 4 _, kV7.far hVb _, il7.keepIn HRZ.out fun y _ hy => (grownBy_set _ b 4 _).block y (by omega) (fun e => by injection e with e; omega), hb7.grown (grownBy_set _ b 4 _) (by have := hb7.size; omega) (fun k hk => by injection hk with hk; omega), by simpa [World.setCell] using gl7, by simpa [World.setCell] using zl⟩ ?_
                    clear v0 v1 v2 v3 v4 vf vl c0 c1 c2 c3 c4 cf cl y4 z4 zl Y4 HRZ il7 hb7 kb kV7 gl7 hZb
                    rintro Y ⟨kb, kV, il7, hb7, gl7, xl7⟩
                    have bl := kb.lt
                    have vl := kV.lt
                    have il2 := Lib.hid il7
                    have HLT := Lib.hid (RqLt.set il7.rlt (X' := ⟨id', veh, cls, til, upTo now ws lg (k + 1), some ⟨g, 0, none⟩, lc⟩) rfl)
                    clear il7
                    apply wp_region_tab [(g, (g+1))] 9 92 [some 81, some 82, some 83, some 84, some 85, some 86, some 87, some 88, none] [⟨[9], [], [], []⟩, ⟨[9], [], [], []⟩, ⟨[0, 1, 9], [0, 1], [0, 1], []⟩, ⟨[0, 1, 2, 9], [2], [2], []⟩, ⟨[0, 1, 2, 3, 9], [3, 9], [3, 9], []⟩, ⟨[9], [], [], []⟩, ⟨[9], [], [], []⟩, ⟨[0, 1, 2, 3, 4, 5, 6, 9], [4, 5], [4, 5], []⟩, ⟨[0, 1, 2, 3, 4, 5, 6, 7, 9], [6, 7, 9], [6, 7, 9], [9]⟩, ⟨[], [], [], []⟩] [0, 1, 2, 3, 4, 5, 6, 7, 8] [8] [psiTrue, psiTrue, psiTrue, psiTrue, psiTrue, psiTrue, psiTrue, psiTrue, (fun f lo hi v b0 b1 W => RqL W B (l2.set i ⟨id', veh, cls, til, upTo now ws lg (k + 1), some ⟨g, 0, none⟩, lc⟩) (some ⟨xb, 0, none⟩) xc), (fun f lo hi v b0 b1 W => (b0 = g ∧ b1 = (g+1)) ∧ W.heap[g]? = Y.heap[g]?)] [kVal _, kVal _, kVal _, kVal _, kVal _, kVal _, kVal _, kVal _, kTrue]
                    · kernel_rfl
                    · kernel_rfl
                    · rfl
                    · rfl
                    rotate_left 2
                    refine ⟨?oR2_0, ?oR2_1, ?oR2_2, ?oR2_3, ?oR2_4, ?oR2_5, ?oR2_6, ?oR2_7, ?oR2_8, trivial⟩
                    case hx => exact ⟨⟨by omega, by omega⟩, by simp, trivial⟩
                    case hX => exact ⟨fun _ _ _ _ => ⟨⟨rfl, rfl⟩, rfl⟩, trivial⟩
                    case oR2_0 => intro f lo hi w hb hx hf hk hrg R hR; (try replace hb := BelX.zero hb); (try simp (decide := true) only [go_sem] at hf); (try simp (decide := true) only [go_sem] at hk); go_simp; exact hR _ _ (rpost_val rfl rfl (Below.refl _ _) rfl)
                    case oR2_1 => intro f lo hi w hb hx hf hk hrg R hR; (try replace hb := BelX.zero hb); (try simp (decide := true) only [go_sem] at hf); (try simp (decide := true) only [go_sem] at hk); go_simp; exact hR _ _ (rpost_val rfl rfl (Below.refl _ _) rfl)
                    case oR2_2 => intro f lo hi w hb hx hf hk hrg R hR; (try replace hb := BelX.zero hb); (try simp (decide := true) only [go_sem] at hf); (try simp (decide := true) only [go_sem] at hk); go_simp; exact hR _ _ (rpost_val rfl rfl (Below.refl _ _) rfl)
                    case oR2_3 => intro f lo hi w hb hx hf hk hrg R hR; (try replace hb := BelX.zero hb); (try simp (decide := true) only [go_sem] at hf); (try simp (decide := true) only [go_sem] at hk); go_simp; exact hR _ _ (rpost_val rfl rfl (Below.refl _ _) rfl)
                    case oR2_4 =>
                      intro f lo hi w hb hx hf hk hrg R hR; (try replace hb := BelX.zero hb); (try simp (decide := true) only [go_sem] at hf); (try simp (decide := true) only [go_sem] at hk)
                      have ilw : RqL w B _ _ _ := il2.out.keep fun y hlt => by
                        by_cases e : y = g
                        · rw [e]; exact hf.2
                        · exact hb.2.2.2.2 y ⟨hlt, fun r hr => by simp at hr; subst hr; simp only; omega⟩
                      have hil : i < (l2.set i (⟨id', veh, cls, til, upTo now ws lg k, some ⟨g, 0, none⟩, lc⟩ : Rq)).length := by rw [List.length_set]; exact hi2
                      obtain ⟨-, -, -, -, z4, zl⟩ := row_req ilw.rqs.row i hil
                      rw [List.getElem_set_self] at z4
                      simp only [Nat.zero_add, upTo_len] at z4
                      go_simp
                      exact hR _ _ (rpost_val rfl rfl (Below.refl _ _) rfl)
                    case oR2_5 => intro f lo hi w hb hx hf hk hrg R hR; (try replace hb := BelX.zero hb); (try simp (decide := true) only [go_sem] at hf); (try simp (decide := true) only [go_sem] at hk); go_simp; exact hR _ _ (rpost_val rfl rfl (Below.refl _ _) rfl)
                    case oR2_6 =>
                      intro f lo hi w hb hx hf hk hrg R hR; (try replace hb := BelX.zero hb); (try simp (decide := true) only [go_sem] at hf); (try simp (decide := true) only [go_sem] at hk)
                      have k := hb.blk kb (by simp; omega)
                      obtain ⟨c0, c1, c2, c3, c4, -, hl⟩ := k.five
                      go_simp
                      exact hR _ _ (rpost_val rfl rfl (Below.refl _ _) rfl)
                    case oR2_7 => intro f lo hi w hb hx hf hk hrg R hR; (try replace hb := BelX.zero hb); (try simp (decide := true) only [go_sem] at hf); (try simp (decide := true) only [go_sem] at hk); go_simp; exact hR _ _ (rpost_val rfl rfl (Below.refl _ _) rfl)
                    case oR2_8 =>
                      intro f lo hi w hb hx hf hk hrg R hR; (try replace hb := BelX.zero hb); (try simp (decide := true) only [go_sem] at hf); (try simp (decide := true) only [go_sem] at hk)
                      have ilw : RqL w B _ _ _ := il2.out.keep fun y hlt => by
                        by_cases e : y = g
                        · rw [e]; exact hf.2
                        · exact hb.2.2.2.2 y ⟨hlt, fun r hr => by simp at hr; subst hr; simp only; omega⟩
                      have hil : i < (l2.set i (⟨id', veh, cls, til, upTo now ws lg k, some ⟨g, 0, none⟩, lc⟩ : Rq)).length := by rw [List.length_set]; exact hi2
                      have o := ilw.legs _ (List.getElem_mem hil)
                      rw [List.getElem_set_self] at o
                      simp only [upTo_len] at o
                      obtain ⟨y0, y1, y2, y3, y4, yl⟩ := row_leg o.row k (by rw [upTo_len]; exact hkg)
                      simp only [Nat.zero_add] at y0 y1 y2 y3 y4
                      have yf := o.frozen
                      have fin := ilw.setLeg hil (g := g) (by rw [List.getElem_set_self]) (j := k) (by rw [List.getElem_set_self]; simp only [upTo_len]; exact hkg) ⟨mj, mp, now + pf, now + pt, si⟩
                      simp only [List.set_set, List.getElem_set_self, HST.out] at fin
                      have hX0 : lo 9 = g ∧ hi 9 = g + 1 := XOk.get _ _ hx 0 _ rfl
                      go_simp
                      exact hR _ _ (rpost_some rfl rfl (touch_grown ((((grownBy_set _ g _ _).trans (grownBy_set _ g _ _)).trans ((grownBy_set _ g _ _).trans (grownBy_set _ g _ _))).trans (grownBy_set _ g _ _)) (List.mem_singleton.2 rfl) hX0.1 hX0.2) fin)
                    case hcl =>
                      refine ⟨Closed.true _ _ _ _, Closed.true _ _ _ _, Closed.true _ _ _ _, Closed.true _ _ _ _, Closed.true _ _ _ _, Closed.true _ _ _ _, Closed.true _ _ _ _, Closed.true _ _ _ _, ?cR2_8, ?cR2_9, trivial⟩
                      · exact fun f lo hi v b0 b1 w w' h hs hB hown hU hX => h.keepIn HLT.out fun b _ hb => by
                          by_cases e : b = g
                          · rw [e]; exact hX 0 _ rfl (by simp) g (Nat.le_refl _) (Nat.lt_succ_self _)
                          · exact hB b ⟨hb, fun r hr => by simp at hr; subst hr; simp only; omega⟩
                      · exact fun f lo hi v b0 b1 w w' h hs hB hown hU hX => by
                          obtain ⟨⟨rfl, rfl⟩, h⟩ := h
                          exact ⟨⟨rfl, rfl⟩, (hown _ (Nat.le_refl _) (Nat.lt_succ_self _)).trans h⟩
                    intro f lo hi W8 hbr hx hf hk hrg; (try replace hbr := BelX.zero hbr); clear hx; (try simp (decide := true) only [go_sem] at hf); (try simp (decide := true) only [go_sem] at hk)
                    have kV8 := hbr.blk kV (by have := hgV0.out; simp; omega)
                    have hb8 := hbr.below_from hb7 hB.symm gB
                    go_simp
                    clear hk
                    go_wp2_with fail
                    go_roundw
                    case rel => exact ⟨k + 1, by go_num, by omega, HGO, kV8, hf, hb8⟩
                    case measure => simp [intOf]; omega
                · obtain rfl : k = lg.length := by omega
                  have HF := Lib.hid (HM0.out HWN.out.symm (fun j h1 h2 => hall.out j h1 h2 h1))
                  go_wp2_with fail
                  refine bodyPost_ret (v := .tuple #[.slice (some ⟨xb, 0, none⟩) l2.length xc, .int .i64 0]) (by simp [results, Try.results25, go_sem]) rfl ?_
                  exact ⟨_, l2.length, xc, l2.set i ⟨id', veh, cls, til, upTo now ws lg lg.length, la, lc⟩, 0, rfl, Lib.hid (by rw [HF.out, List.map_set, hk.out]; rfl), Lib.hid (by rw [List.length_set]), by rw [hB]; exact il, by rw [hB]; exact hb⟩
            · have HF := Lib.hid (HML.out (by rw [← HWN.out]; exact hlen))
              have hq : ¬ (wn : Int) = (lg.length : Int) := by omega
              go_wp2_with fail
              refine bodyPost_ret (v := .tuple #[.slice none 0 0, .int .i64 _]) (by simp [results, Try.results25, go_sem]; rfl) rfl ?_
              exact LE.err HF.out (by rw [hB]; exact be3)
          · have HNX2 := Lib.hid (HNX.out hide)
            go_wp2_with fail
            go_roundw
            case rel => exact ⟨i + 1, by go_num, by omega, HNX2, il, be3⟩
            case measure => simp [intOf]; omega
        · obtain rfl : i = l2.length := by omega
          have HF : Hid (updM (l.map Rq.key) id ws now = (12, [])) := Lib.hid (by
            rw [← hk.out]
            exact updM_12 hok.out hno.out)
          go_wp2_with fail
          refine bodyPost_ret (v := .tuple #[.slice none 0 0, .int .i64 _]) (by simp [results, Try.results25, go_sem]; rfl) rfl ?_
          exact LE.err HF.out (by rw [hB]; exact be3)
    · have HF := Lib.hid (updM_1 (l := l.map Rq.key) (id := id) (ws := ws) (now := now) (fun q => ht q.2))
      unfold tickOk at ht
      go_wp2_with (first | (go_at_call 27; (with_reducible refine (Says.y (ref19_Valid a l l.length c 4 _ h rfl (by omega) (fun r hr => ⟨(hl r hr).1, by have := (hl r hr).2; omega⟩)) HP.out).mono ?_); rintro e w1 ⟨rfl, hb1⟩) | (go_at_call 52; (with_reducible refine (ref19_within _ _ _ _).mono ?_); rintro e wz ⟨rfl, rfl⟩))
      all_goals first | (refine bodyPost_ret (v := .tuple #[.slice none 0 0, .int .i64 _]) (by simp [results, Try.results25, go_sem]; rfl) rfl ?_; exact LE.err HF.out (by repeat (first | (with_reducible refine Below.setCell ?_ ?_ _) | (with_reducible refine Below.alloc ?_ ?_ _) | (with_reducible refine Below.drew ?_) | (with_reducible refine below_drewN ?_ _) | (with_reducible exact Below.refl _ _) | (with_reducible refine Below.trans ?_ (Below.mono hb1 ?_)) | (focus (simp; done)) | (focus (simp; omega)) | (focus omega) | (focus (have q0 := Below.size hb1; (try simp at q0); (try simp); omega))))) | (exfalso; simp at *; omega)
  · have HP := Lib.hid hp
    have HF := Lib.hid (updM_1 (l := l.map Rq.key) (id := id) (ws := ws) (now := now) (fun q => hp q.1))
    clear hp
    go_wp2_with ((go_at_call 27; (with_reducible refine (Says.n (ref19_Valid a l l.length c 4 _ h rfl (by omega) (fun r hr => ⟨(hl r hr).1, by have := (hl r hr).2; omega⟩)) HP.out).mono ?_); rintro e w1 ⟨rfl, hb1⟩))
    refine bodyPost_ret (v := .tuple #[.slice none 0 0, .int .i64 _]) (by simp [results, Try.results25, go_sem]; rfl) rfl ?_
    exact LE.err HF.out (by repeat (first | (with_reducible refine Below.setCell ?_ ?_ _) | (with_reducible refine Below.alloc ?_ ?_ _) | (with_reducible refine Below.drew ?_) | (with_reducible refine below_drewN ?_ _) | (with_reducible exact Below.refl _ _) | (with_reducible refine Below.trans ?_ (Below.mono hb1 ?_)) | (focus (simp; done)) | (focus (simp; omega)) | (focus omega) | (focus (have q0 := Below.size hb1; (try simp at q0); (try simp); omega))))
end Go.Proofs.Ytbanejpihdhbdaa
