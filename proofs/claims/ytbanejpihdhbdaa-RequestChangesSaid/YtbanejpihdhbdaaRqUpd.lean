/- request.Update -/
import Derived.Test.YtbanejpihdhbdaaUpLaw
namespace Go.Proofs.Ytbanejpihdhbdaa
set_option linter.unusedVariables false
open Go.RowKit Go.Sort
set_option maxRecDepth 100000

theorem Says.of {P : Prop} {f : FuncId} {args : Array Value} {w : World} {b : Bool} (h : Calls Try.prog f args w (Says P w)) (hp : P ↔ b = true) : Calls Try.prog f args w fun e w' => e = .returned (.bool b) ∧ Below w.heap.size w w' := Says.b h (Lib.hid hp.symm)
/-- what the copy says of the list that was copied -/
theorem key_at2 {l l2 : List Rq} (h : l2.map Rq.key = l.map Rq.key) {k : Nat} (h1 : k < l2.length) (h2 : k < l.length) : l2[k].key = l[k].key := by
  have := congrArg (fun m => m[k]?) h
  simpa [h1, h2] using this
section
variable {l l2 : List Rq} {id : Int} {i : Nat}
theorem id_at (h : l2.map Rq.key = l.map Rq.key) {k : Nat} (h1 : k < l2.length) (h2 : k < l.length) : l2[k].id = l[k].id := congrArg (fun r : Rk => r.1) (key_at2 h h1 h2)
theorem first_at (h : l2.map Rq.key = l.map Rq.key) (hP : ∃ h : i < l.length, l[i].id = id) (ho : ∀ k, k < i → ¬ ∃ h : k < l.length, l[k].id = id) : ∃ h : i < l2.length, l2[i].id = id ∧ ∀ k, k < i → ¬ ∃ h : k < l2.length, l2[k].id = id := by
  have hl : l2.length = l.length := by simpa using congrArg List.length h
  obtain ⟨h1, h2⟩ := hP
  refine ⟨by omega, by rw [id_at h (by omega) h1]; exact h2, fun k hk ⟨q, e⟩ => ho k hk ⟨by omega, ?_⟩⟩
  rw [← id_at h q (by omega)]; exact e
end
set_option maxHeartbeats 8000000 in
theorem request_Update (a : Option Addr) (l : List Rq) (n c : Nat) (id : Int) (wa : Option Addr) (ws : List Wn) (wn wc : Nat) (now : Int) (w : World) (h : Rqs w a l) (hn : n = l.length) (l9 : n ≤ 10000) (hl : ∀ r ∈ l, LgOk r ∧ r.legs.length ≤ r.c) (hw : Row w wa (wnCells ws)) (hwn : wn = ws.length) (w9 : wn ≤ 10000) :
    Calls Try.prog 24 #[.slice a n c, .int .i64 id, .slice wa wn wc, .int .i64 now] w (LE (updM (l.map Rq.key) id ws now) w) := by
  subst hn
  have HWN := Lib.hid hwn
  clear hwn
  go_enter Try.func24, Try.ntmps24
  by_cases hp : RqsOk (l.map Rq.key) 4
  · have HP := Lib.hid hp
    clear hp
    by_cases ht : tickOk now
    · have HB : Hid ((decide (0 ≤ now) && decide (now ≤ 1073741824)) = true) := Lib.hid (by rw [decide_eq_true ht.1, decide_eq_true ht.2]; rfl)
      have HT := Lib.hid ht
      clear ht
      go_upto_if 29 with (first | (go_at_call 12; (with_reducible refine (Says.y (request_Valid a l l.length c 4 _ h rfl (by omega) (fun r hr => ⟨(hl r hr).2, by have := (hl r hr).1.1; omega⟩)) HP.out).mono ?_); rintro e w1 ⟨rfl, hb1⟩) | (go_at_call 38; (with_reducible refine (request_tickE HB _).mono ?_); rintro e wz ⟨rfl, rfl⟩) | (go_at_call 40; (with_reducible refine (request_index a l l.length c id _ (h.below hb1 (Nat.le_refl _)) rfl l9).mono ?_); rintro e w2 ⟨r, rfl, hr, hb2⟩))
      have h2 := (h.below hb1 (Nat.le_refl _)).below hb2 (Nat.le_refl _)
      have be2 : RowKit.Below w.heap.size w w2 := (by repeat (first | (with_reducible refine Below.setCell ?_ ?_ _) | (with_reducible refine Below.alloc ?_ ?_ _) | (with_reducible refine Below.drew ?_) | (with_reducible refine below_drewN ?_ _) | (with_reducible exact Below.refl _ _) | (with_reducible refine Below.trans ?_ (Below.mono hb2 ?_)) | (with_reducible refine Below.trans ?_ (Below.mono hb1 ?_)) | (focus (simp; done)) | (focus (simp; omega)) | (focus omega) | (focus (have q0 := Below.size hb2; (try simp at q0); have q1 := Below.size hb1; (try simp at q1); (try simp); omega))))
      clear hb1 hb2
      rcases hr.out with ⟨rfl, hno⟩ | ⟨i, hi, rfl, hP, ho⟩
      · have HF := Lib.hid (updM_12 (ws := ws) ⟨HP.out, HT.out⟩ hno)
        clear hno
        go_wp2_with fail
        refine bodyPost_ret (v := .tuple #[.slice none 0 0, .int .i64 _]) (by simp [results, Try.results24, go_sem]; rfl) rfl ?_
        exact LE.err HF.out (by repeat (first | (with_reducible refine Below.setCell ?_ ?_ _) | (with_reducible refine Below.alloc ?_ ?_ _) | (with_reducible refine Below.drew ?_) | (with_reducible refine below_drewN ?_ _) | (with_reducible exact Below.refl _ _) | (with_reducible refine Below.trans ?_ (Below.mono be2 ?_)) | (focus (simp; done)) | (focus (simp; omega)) | (focus omega) | (focus (have q0 := Below.size be2; (try simp at q0); (try simp); omega))))
      · have HPO := Lib.hid (And.intro hP ho)
        clear hP ho
        go_upto_region 7 with ((go_at_call 43; (with_reducible refine (request_cloneAll a l l.length c _ h2 rfl (by omega) (fun r hr => (hl r hr).1)).mono ?_); rintro e w3 ⟨xa, xc, l2, rfl, hk, hn2, il, hb3⟩))
        have be3 : RowKit.Below w.heap.size w w3 := (by repeat (first | (with_reducible refine Below.setCell ?_ ?_ _) | (with_reducible refine Below.alloc ?_ ?_ _) | (with_reducible refine Below.drew ?_) | (with_reducible refine below_drewN ?_ _) | (with_reducible exact Below.refl _ _) | (with_reducible refine Below.trans ?_ (Below.mono hb3 ?_)) | (with_reducible refine Below.trans ?_ (Below.mono be2 ?_)) | (focus (simp; done)) | (focus (simp; omega)) | (focus omega) | (focus (have q0 := Below.size hb3; (try simp at q0); have q1 := Below.size be2; (try simp at q1); (try simp); omega))))
        have il := il.mono be2.size
        have hn2' := hn2.out
        rw [hn2']
        rw [hn2'] at hi
        obtain ⟨hi2, hid2, ho2⟩ := first_at hk.out HPO.out.1 HPO.out.2
        have hok : RqsOk (l2.map Rq.key) 4 ∧ tickOk now := ⟨by rw [hk.out]; exact HP.out, HT.out⟩
        have HM := Lib.hid (by have q := updM_all (ws := ws) hok hi2 hid2 ho2; rw [hk.out] at q; exact q)
        have hlg := legs_le hk.out (fun r hr => (hl r hr).1.n) _ (List.getElem_mem hi2)
        have kx : (i : Int) < (l2.length : Int) := by omega
        obtain ⟨xb, rfl, -, -⟩ := il.own.open_ (by omega)
        obtain ⟨x0, x1, x2, x3, x4, xl⟩ := row_req il.rqs.row i hi2
        simp only [Nat.zero_add] at x0 x1 x2 x3 x4
        have HS0 := Lib.hid (show l2 = l2.set i { l2[i] with legs := upTo now ws l2[i].legs 0 } from set_same hi2 rfl)
        have hlw := hw.below be3 (Nat.le_refl _)
        obtain ⟨x, hx⟩ : ∃ x, l2[i] = x := ⟨_, rfl⟩
        rw [hx] at x0 x1 x2 x3 x4 HS0 hlg
        have HM2 := HM.out _ hx
        obtain ⟨id', veh, cls, til, lg, la, lc⟩ := x
        simp only at x0 x1 x2 x3 x4 HS0 hlg HM2
        have HML := Lib.hid HM2.1
        have HMB := Lib.hid HM2.2.1
        have HM0 := Lib.hid HM2.2.2
        clear HM HM2 hx hid2 ho2 hok HPO h2 be2 hr hb3 hn2'
        by_cases hlen : wn = lg.length
        · subst hlen
          go_wp2_with fail
          obtain ⟨B, hB⟩ : ∃ B, w.heap.size = B := ⟨_, rfl⟩
          rw [hB] at il be3
          go_loopw [44] (fun s44 wr => ∃ k : Nat, s44 = .int .i64 k ∧ k ≤ lg.length ∧ Hid (∀ j (h1 : j < lg.length) (h2 : j < ws.length), j < k → wnOk now lg[j] ws[j] = true) ∧ RqL wr B (l2.set i ⟨id', veh, cls, til, upTo now ws lg k, la, lc⟩) (some ⟨xb, 0, none⟩) xc ∧ RowKit.Below B w wr) (fun s _ => lg.length - (intOf s).toNat)
          case atStart => exact ⟨0, rfl, by omega, Lib.hid fun j _ _ q => by omega, by rw [← HS0.out]; exact il, be3⟩
          case round =>
            clear il be3 x0 x1 x2 x3 x4 xl hlw
            obtain ⟨k, rfl, hk1, hall, il, hb⟩ := hrel
            by_cases hkg : k < lg.length
            · have jx2 : (k : Int) < (lg.length : Int) := by omega
              have hkl : k < ws.length := by rw [← HWN.out]; exact hkg
              have hil : i < (l2.set i (⟨id', veh, cls, til, upTo now ws lg k, la, lc⟩ : Rq)).length := by rw [List.length_set]; exact hi2
              have o := il.legs _ (List.getElem_mem hil)
              rw [List.getElem_set_self] at o
              simp only [upTo_len] at o
              obtain ⟨g, rfl, gB, gl⟩ := o.open_ (by omega)
              obtain ⟨y0, y1, y2, y3, y4, yl⟩ := row_leg o.row k (by rw [upTo_len]; exact hkg)
              rw [upTo_get _ _ _ _ _ (Nat.le_refl _) hkg] at y0 y1 y2 y3 y4
              simp only [Nat.zero_add] at y0 y1 y2 y3 y4
              have HST := Lib.hid (upTo_set (now := now) hkg hkl)
              obtain ⟨wb, wo, rfl, p0, p1, pl⟩ := row_wn (hw.below (B := w.heap.size) (by rw [hB]; exact hb) (Nat.le_refl _)) k hkl
              have HOK := Lib.hid (show ∀ b, wMakeOk lg[k].ju lg[k].ph ws[k].1 ws[k].2 now = b → wnOk now lg[k] ws[k] = b from fun b h => h)
              have HZ0 := Lib.hid (show (upTo now ws lg k)[k]'(by rw [upTo_len]; exact hkg) = lg[k] from upTo_get _ _ _ _ _ (Nat.le_refl _) hkg)
              obtain ⟨z, hz⟩ : ∃ z, lg[k] = z := ⟨_, rfl⟩
              obtain ⟨p, hpw⟩ : ∃ p, ws[k] = p := ⟨_, rfl⟩
              have HBAD := Lib.hid (HMB.out k hkg hkl)
              have HSTEP := Lib.hid (show wnOk now lg[k] ws[k] = true → ∀ j (h1 : j < lg.length) (h2 : j < ws.length), j < k + 1 → wnOk now lg[j] ws[j] = true from fun q j h1 h2 h3 => by
                by_cases e : j = k
                · subst e; exact q
                · exact hall.out j h1 h2 (by omega))
              rw [hz, hpw] at HST HBAD HSTEP HOK
              rw [hz] at y0 y1 y2 y3 y4 HZ0
              rw [hpw] at p0 p1
              clear hz hpw
              obtain ⟨ju, ph, fr, to_, si⟩ := z
              obtain ⟨pf, pt⟩ := p
              simp only [upOne] at y0 y1 y2 y3 y4 p0 p1 HST HOK
              obtain ⟨mj, mp, mf, mt, ms, er, HMK, HYES, HNO⟩ := wMakeV_parts ju ph pf pt now
              go_upto_region 13 with fail
              obtain ⟨X, hX⟩ : ∃ X, wr.heap.size = X := ⟨_, rfl⟩
              have hgX : g < X := by rw [← hX]; exact yl
              refine wp_named (fun Z => Blk Z X 54 #[.int .i64 pf, .int .i64 pt] ∧ RqL Z B (l2.set i ⟨id', veh, cls, til, upTo now ws lg k, some ⟨g, 0, none⟩, lc⟩) (some ⟨xb, 0, none⟩) xc ∧ RowKit.Below B w Z ∧ Row Z (some ⟨g, 0, none⟩) (lgCells (upTo now ws lg k))) ⟨by rw [← hX]; exact Blk.new _ _ _, il.alloc _, (by repeat (first | (with_reducible refine Below.setCell ?_ ?_ _) | (with_reducible refine Below.alloc ?_ ?_ _) | (with_reducible refine Below.drew ?_) | (with_reducible refine below_drewN ?_ _) | (with_reducible exact Below.refl _ _) | (with_reducible refine Below.trans ?_ (Below.mono hb ?_)) | (focus (simp; done)) | (focus (simp; omega)) | (focus omega) | (focus (have q0 := Below.size hb; (try simp at q0); (try simp); omega)))), o.row.alloc _⟩ ?_
              rw [hX]
              clear hX o il hb y0 y1 y2 y3 y4 yl p0 p1 pl hil gl
              rintro Z ⟨kX, il, hb, hrow⟩
              obtain ⟨y0, y1, y2, y3, y4, yl⟩ := row_leg hrow k (by rw [upTo_len]; exact hkg)
              rw [HZ0.out] at y0 y1 y2 y3 y4
              simp only [Nat.zero_add] at y0 y1 y2 y3 y4
              have Y0 := Lib.hid y0
              have Y1 := Lib.hid y1
              clear y0 y1 y2 y3 y4 hrow
              apply wp_region_tab [] 22 84 [some 50, some 51, some 52, some 53, some 54, some 55, some 56, some 57, some 58, some 59, some 60, some 61, some 62, some 63, some 64, some 65, some 49, some 66, some 67, some 15, none, some 16] [⟨[], [], [], []⟩, ⟨[], [], [], []⟩, ⟨[0, 1], [0, 1], [0, 1], []⟩, ⟨[0, 1, 2], [2], [2], []⟩, ⟨[0, 1, 2, 3], [3], [3], []⟩, ⟨[], [], [], []⟩, ⟨[], [], [], []⟩, ⟨[5, 6], [5, 6], [5, 6], []⟩, ⟨[5, 6, 7], [7], [7], []⟩, ⟨[5, 6, 7, 8], [8], [8], []⟩, ⟨[], [], [], []⟩, ⟨[10], [10], [10], []⟩, ⟨[], [], [], []⟩, ⟨[12], [12], [12], []⟩, ⟨[], [], [], []⟩, ⟨[0, 1, 2, 3, 4, 5, 6, 7, 8, 9, 10, 11, 12, 13, 14], [4, 9, 11, 13, 14], [4, 9, 11, 13, 14], []⟩, ⟨[0, 1, 2, 3, 4, 5, 6, 7, 8, 9, 10, 11, 12, 13, 14, 15], [15], [15], []⟩, ⟨[0, 1, 2, 3, 4, 5, 6, 7, 8, 9, 10, 11, 12, 13, 14, 15, 16], [16], [16], []⟩, ⟨[0, 1, 2, 3, 4, 5, 6, 7, 8, 9, 10, 11, 12, 13, 14, 15, 16], [16], [16], []⟩, ⟨[], [], [], []⟩, ⟨[0, 1, 2, 3, 4, 5, 6, 7, 8, 9, 10, 11, 12, 13, 14, 15, 16, 17, 19], [17, 19], [17, 19], [19]⟩, ⟨[0, 1, 2, 3, 4, 5, 6, 7, 8, 9, 10, 11, 12, 13, 14, 15, 16, 17, 18, 19, 20], [18], [18], []⟩] [0, 1, 2, 3, 4, 5, 6, 7, 8, 9, 10, 11, 12, 13, 14, 15, 16, 17, 18, 19, 20, 21] [20, 21] [psiTrue, psiTrue, psiTrue, psiTrue, psiTrue, psiTrue, psiTrue, psiTrue, psiTrue, psiTrue, psiTrue, psiTrue, psiTrue, psiTrue, psiTrue, psiTrue, psiTrue, psiTrue, psiTrue, (fun f lo hi v b0 b1 W => ∃ b, v = .pointer (some ⟨b, 0, none⟩) ∧ b0 ≤ b ∧ b < b1 ∧ Blk W b 25 #[.int .i64 0, .int .i64 0, .int .i64 0, .int .i64 0, .int .i64 0]), (fun f lo hi v b0 b1 W => ∃ b, f 19 = .pointer (some ⟨b, 0, none⟩) ∧ lo (19) ≤ b ∧ b < hi (19) ∧ Blk W b 25 #[.int .i64 mj, .int .i64 mp, .int .i64 mf, .int .i64 mt, .int .i64 ms]), psiTrue] [kVal _, kVal _, kVal _, kVal _, kVal _, kVal _, kVal _, kVal _, kVal _, kVal _, kVal _, kVal _, kVal _, kVal _, kVal _, kVal _, kVal _, kVal _, kVal _, kTrue, kTrue, kVal _]
              · kernel_rfl
              · kernel_rfl
              · rfl
              · rfl
              · exact trivial
              · exact trivial
              refine ⟨?oR1_0, ?oR1_1, ?oR1_2, ?oR1_3, ?oR1_4, ?oR1_5, ?oR1_6, ?oR1_7, ?oR1_8, ?oR1_9, ?oR1_10, ?oR1_11, ?oR1_12, ?oR1_13, ?oR1_14, ?oR1_15, ?oR1_16, ?oR1_17, ?oR1_18, ?oR1_19, ?oR1_20, ?oR1_21, trivial⟩
              case oR1_0 => intro f lo hi w hb hx hf hk hrg R hR; (try replace hb := BelX.zero hb); (try simp (decide := true) only [go_sem] at hf); (try simp (decide := true) only [go_sem] at hk); go_simp; exact hR _ _ (rpost_val rfl rfl (Below.refl _ _) rfl)
              case oR1_1 => intro f lo hi w hb hx hf hk hrg R hR; (try replace hb := BelX.zero hb); (try simp (decide := true) only [go_sem] at hf); (try simp (decide := true) only [go_sem] at hk); go_simp; exact hR _ _ (rpost_val rfl rfl (Below.refl _ _) rfl)
              case oR1_2 => intro f lo hi w hb hx hf hk hrg R hR; (try replace hb := BelX.zero hb); (try simp (decide := true) only [go_sem] at hf); (try simp (decide := true) only [go_sem] at hk); go_simp; exact hR _ _ (rpost_val rfl rfl (Below.refl _ _) rfl)
              case oR1_3 => intro f lo hi w hb hx hf hk hrg R hR; (try replace hb := BelX.zero hb); (try simp (decide := true) only [go_sem] at hf); (try simp (decide := true) only [go_sem] at hk); go_simp; exact hR _ _ (rpost_val rfl rfl (Below.refl _ _) rfl)
              case oR1_4 =>
                intro f lo hi w hb hx hf hk hrg R hR; (try replace hb := BelX.zero hb); (try simp (decide := true) only [go_sem] at hf); (try simp (decide := true) only [go_sem] at hk)
                have e := (hb.cell (p := ⟨g, k * 5, none⟩) yl).trans Y0.out
                have hl := Nat.lt_of_lt_of_le yl hb.size
                go_simp
                exact hR _ _ (rpost_val rfl rfl (Below.refl _ _) rfl)
              case oR1_5 => intro f lo hi w hb hx hf hk hrg R hR; (try replace hb := BelX.zero hb); (try simp (decide := true) only [go_sem] at hf); (try simp (decide := true) only [go_sem] at hk); go_simp; exact hR _ _ (rpost_val rfl rfl (Below.refl _ _) rfl)
              case oR1_6 => intro f lo hi w hb hx hf hk hrg R hR; (try replace hb := BelX.zero hb); (try simp (decide := true) only [go_sem] at hf); (try simp (decide := true) only [go_sem] at hk); go_simp; exact hR _ _ (rpost_val rfl rfl (Below.refl _ _) rfl)
              case oR1_7 => intro f lo hi w hb hx hf hk hrg R hR; (try replace hb := BelX.zero hb); (try simp (decide := true) only [go_sem] at hf); (try simp (decide := true) only [go_sem] at hk); go_simp; exact hR _ _ (rpost_val rfl rfl (Below.refl _ _) rfl)
              case oR1_8 => intro f lo hi w hb hx hf hk hrg R hR; (try replace hb := BelX.zero hb); (try simp (decide := true) only [go_sem] at hf); (try simp (decide := true) only [go_sem] at hk); go_simp; exact hR _ _ (rpost_val rfl rfl (Below.refl _ _) rfl)
              case oR1_9 =>
                intro f lo hi w hb hx hf hk hrg R hR; (try replace hb := BelX.zero hb); (try simp (decide := true) only [go_sem] at hf); (try simp (decide := true) only [go_sem] at hk)
                have e := (hb.cell (p := ⟨g, k * 5 + 1, none⟩) yl).trans Y1.out
                have hl := Nat.lt_of_lt_of_le yl hb.size
                go_simp
                exact hR _ _ (rpost_val rfl rfl (Below.refl _ _) rfl)
              case oR1_10 => intro f lo hi w hb hx hf hk hrg R hR; (try replace hb := BelX.zero hb); (try simp (decide := true) only [go_sem] at hf); (try simp (decide := true) only [go_sem] at hk); go_simp; exact hR _ _ (rpost_val rfl rfl (Below.refl _ _) rfl)
              case oR1_11 =>
                intro f lo hi w hb hx hf hk hrg R hR; (try replace hb := BelX.zero hb); (try simp (decide := true) only [go_sem] at hf); (try simp (decide := true) only [go_sem] at hk)
                have kk := kX.below hb kX.lt
                have e := kk.cell 0
                have hl := kk.lt
                go_simp
                exact hR _ _ (rpost_val rfl rfl (Below.refl _ _) rfl)
              case oR1_12 => intro f lo hi w hb hx hf hk hrg R hR; (try replace hb := BelX.zero hb); (try simp (decide := true) only [go_sem] at hf); (try simp (decide := true) only [go_sem] at hk); go_simp; exact hR _ _ (rpost_val rfl rfl (Below.refl _ _) rfl)
              case oR1_13 =>
                intro f lo hi w hb hx hf hk hrg R hR; (try replace hb := BelX.zero hb); (try simp (decide := true) only [go_sem] at hf); (try simp (decide := true) only [go_sem] at hk)
                have kk := kX.below hb kX.lt
                have e := kk.cell 1
                have hl := kk.lt
                go_simp
                exact hR _ _ (rpost_val rfl rfl (Below.refl _ _) rfl)
              case oR1_14 => intro f lo hi w hb hx hf hk hrg R hR; (try replace hb := BelX.zero hb); (try simp (decide := true) only [go_sem] at hf); (try simp (decide := true) only [go_sem] at hk); go_simp; exact hR _ _ (rpost_val rfl rfl (Below.refl _ _) rfl)
              case oR1_15 =>
                intro f lo hi w hb hx hf hk hrg R hR; (try replace hb := BelX.zero hb); (try simp (decide := true) only [go_sem] at hf); (try simp (decide := true) only [go_sem] at hk)
                go_simp
                (with_reducible refine (window_MakeE HMK.out w).mono ?_)
                rintro e w' ⟨rfl, hb5⟩
                exact ⟨_, rfl, hR _ _ (rpost_val rfl rfl hb5 rfl)⟩
              case oR1_16 => intro f lo hi w hb hx hf hk hrg R hR; (try replace hb := BelX.zero hb); (try simp (decide := true) only [go_sem] at hf); (try simp (decide := true) only [go_sem] at hk); go_simp; exact hR _ _ (rpost_val rfl rfl (Below.refl _ _) rfl)
              case oR1_17 => intro f lo hi w hb hx hf hk hrg R hR; (try replace hb := BelX.zero hb); (try simp (decide := true) only [go_sem] at hf); (try simp (decide := true) only [go_sem] at hk); go_simp; exact hR _ _ (rpost_val rfl rfl (Below.refl _ _) rfl)
              case oR1_18 => intro f lo hi w hb hx hf hk hrg R hR; (try replace hb := BelX.zero hb); (try simp (decide := true) only [go_sem] at hf); (try simp (decide := true) only [go_sem] at hk); go_simp; exact hR _ _ (rpost_val rfl rfl (Below.refl _ _) rfl)
              case oR1_19 =>
                intro f lo hi w hb hx hf hk hrg R hR; (try replace hb := BelX.zero hb); (try simp (decide := true) only [go_sem] at hf); (try simp (decide := true) only [go_sem] at hk)
                go_simp
                refine hR _ _ (rpost_none rfl (by repeat (first | (with_reducible refine Below.setCell ?_ ?_ _) | (with_reducible refine Below.alloc ?_ ?_ _) | (with_reducible refine Below.drew ?_) | (with_reducible refine below_drewN ?_ _) | (with_reducible exact Below.refl _ _) | (focus (simp; done)) | (focus (simp; omega)) | (focus omega))) ?_)
                (try simp (decide := true) only [go_sem])
                exact ⟨_, rfl, Nat.le_refl _, by simp, Blk.new _ _ _⟩
              case oR1_20 =>
                intro f lo hi w hb hx hf hk hrg R hR; (try replace hb := BelX.zero hb); (try simp (decide := true) only [go_sem] at hf); (try simp (decide := true) only [go_sem] at hk)
                obtain ⟨b, h1, q1, q2, kb⟩ := hf
                have H1 := Lib.hid h1
                obtain ⟨g0, g1, g2, g3, g4, gf, gl⟩ := kb.five
                have kb2 := Lib.hid (kb.set5 (.int .i64 mj) (.int .i64 mp) (.int .i64 mf) (.int .i64 mt) (.int .i64 ms))
                go_simp
                refine hR _ _ (rpost_some rfl rfl ⟨rfl, rfl, rfl, by simp [World.setCell], fun y hb hne => ((((grownBy_set w b 0 _).trans (grownBy_set _ b 1 _)).trans ((grownBy_set _ b 2 _).trans (grownBy_set _ b 3 _))).trans (grownBy_set _ b 4 _)).block y hb (fun e => hne 19 (by simp) (by injection e with e; subst e; exact ⟨q1, q2⟩))⟩ ?_)
                (try simp (decide := true) only [go_sem])
                exact ⟨b, H1.out, q1, q2, kb2.out⟩
              case oR1_21 => intro f lo hi w hb hx hf hk hrg R hR; (try replace hb := BelX.zero hb); (try simp (decide := true) only [go_sem] at hf); (try simp (decide := true) only [go_sem] at hk); go_simp; exact hR _ _ (rpost_val rfl rfl (Below.refl _ _) rfl)
              case hcl =>
                refine ⟨Closed.true _ _ _ _, Closed.true _ _ _ _, Closed.true _ _ _ _, Closed.true _ _ _ _, Closed.true _ _ _ _, Closed.true _ _ _ _, Closed.true _ _ _ _, Closed.true _ _ _ _, Closed.true _ _ _ _, Closed.true _ _ _ _, Closed.true _ _ _ _, Closed.true _ _ _ _, Closed.true _ _ _ _, Closed.true _ _ _ _, Closed.true _ _ _ _, Closed.true _ _ _ _, Closed.true _ _ _ _, Closed.true _ _ _ _, Closed.true _ _ _ _, ?cR1_19, ?cR1_20, Closed.true _ _ _ _, trivial⟩
                all_goals first | (intro f lo hi v b0 b1 w w' h hs hB hown hU hX; obtain ⟨b, h1, h2, h3, h4⟩ := h; exact ⟨b, h1, h2, h3, (hown b h2 h3).trans h4⟩) | (intro f lo hi v b0 b1 w w' h hs hB hown hU hX; obtain ⟨b, h1, h2, h3, h4⟩ := h; exact ⟨b, h1, h2, h3, (hU 19 (by simp) b h2 h3).trans h4⟩)
              intro f lo hi W7 hbr hx hf hk hrg; (try replace hbr := BelX.zero hbr); clear hx; (try simp (decide := true) only [go_sem] at hf); (try simp (decide := true) only [go_sem] at hk)
              obtain ⟨b, h15, q1, q2, kb⟩ := hf
              have r15 : Z.heap.size ≤ lo 19 := (hrg.out 19 (by simp)).1
              have il7 := il.below hbr
              have hb7 : RowKit.Below B w W7 := hb.trans (hbr.mono (by have := hb.size; omega))
              have hgb : g ≠ b := by have := yl; omega
              have gl7 : g < W7.heap.size := Nat.lt_of_lt_of_le yl hbr.size
              go_simp
              clear hk h15 hrg hbr il hb kX Y0 Y1 r15 q1 q2 yl hgX
              cases hok : wMakeOk ju ph pf pt now with
              | false =>
                obtain rfl := HNO.out hok
                have HF := Lib.hid (HBAD.out (HOK.out _ hok))
                clear hok
                go_wp2_with fail
                refine bodyPost_ret (v := .tuple #[.slice none 0 0, .int .i64 _]) (by simp [results, Try.results24, go_sem]; rfl) rfl ?_
                exact LE.err HF.out (by rw [hB]; exact hb7)
              | true =>
                obtain ⟨rfl, rfl, rfl, rfl, rfl⟩ := HYES.out hok
                have HGO := Lib.hid (HSTEP.out (HOK.out _ hok))
                clear hok HYES HNO HMK HBAD HSTEP HOK
                have bl := kb.lt
                go_upto_region 16 with fail
                have il2 := Lib.hid il7
                have HLT := Lib.hid (RqLt.set il7.rlt (X' := ⟨id', veh, cls, til, upTo now ws lg (k + 1), some ⟨g, 0, none⟩, lc⟩) rfl)
                have HLT0 := Lib.hid (RqLt.set il7.rlt (X' := ⟨id', veh, cls, til, (upTo now ws lg k).set k ⟨mj, mp, now + pf, to_, si⟩, some ⟨g, 0, none⟩, lc⟩) rfl)
                clear il7
                apply wp_region_tab [(g, (g+1))] 14 84 [some 70, some 71, some 72, some 73, some 74, some 75, some 76, some 77, some 78, some 79, none, some 80, some 81, none] [⟨[14], [], [], []⟩, ⟨[14], [], [], []⟩, ⟨[14], [], [], []⟩, ⟨[14], [], [], []⟩, ⟨[14], [], [], []⟩, ⟨[4, 14], [4], [4], []⟩, ⟨[14], [], [], []⟩, ⟨[6, 14], [6], [6], []⟩, ⟨[0, 1, 4, 5, 14], [0, 1], [0, 1], []⟩, ⟨[0, 1, 4, 5, 8, 14], [8], [8], []⟩, ⟨[0, 1, 4, 5, 8, 9, 14], [5, 9, 14], [5, 9, 14], [14]⟩, ⟨[0, 1, 2, 3, 4, 5, 6, 7, 8, 9, 10, 14], [2, 3], [2, 3], []⟩, ⟨[0, 1, 2, 3, 4, 5, 6, 7, 8, 9, 10, 11, 14], [11], [11], []⟩, ⟨[0, 1, 2, 3, 4, 5, 6, 7, 8, 9, 10, 11, 12, 14], [7, 10, 12, 14], [7, 10, 12], [14]⟩, ⟨[], [], [], []⟩] [0, 1, 2, 3, 4, 5, 6, 7, 8, 9, 10, 11, 12, 13] [13] [psiTrue, psiTrue, psiTrue, psiTrue, psiTrue, psiTrue, psiTrue, psiTrue, psiTrue, psiTrue, (fun f lo hi v b0 b1 W => RqL W B (l2.set i ⟨id', veh, cls, til, (upTo now ws lg k).set k ⟨mj, mp, now + pf, to_, si⟩, some ⟨g, 0, none⟩, lc⟩) (some ⟨xb, 0, none⟩) xc), psiTrue, psiTrue, (fun f lo hi v b0 b1 W => RqL W B (l2.set i ⟨id', veh, cls, til, upTo now ws lg (k + 1), some ⟨g, 0, none⟩, lc⟩) (some ⟨xb, 0, none⟩) xc), (fun f lo hi v b0 b1 W => (b0 = g ∧ b1 = (g+1)) ∧ W.heap[g]? = W7.heap[g]?)] [kVal _, kVal _, kVal _, kVal _, kVal _, kVal _, kVal _, kVal _, kVal _, kVal _, kTrue, kVal _, kVal _, kTrue]
                · kernel_rfl
                · kernel_rfl
                · rfl
                · rfl
                rotate_left 2
                refine ⟨?oR2_0, ?oR2_1, ?oR2_2, ?oR2_3, ?oR2_4, ?oR2_5, ?oR2_6, ?oR2_7, ?oR2_8, ?oR2_9, ?oR2_10, ?oR2_11, ?oR2_12, ?oR2_13, trivial⟩
                case hx => exact ⟨⟨by omega, by omega⟩, by simp, trivial⟩
                case hX => exact ⟨fun _ _ _ _ => ⟨⟨rfl, rfl⟩, rfl⟩, trivial⟩
                case oR2_0 => intro f lo hi w hb hx hf hk hrg R hR; (try replace hb := BelX.zero hb); (try simp (decide := true) only [go_sem] at hf); (try simp (decide := true) only [go_sem] at hk); go_simp; exact hR _ _ (rpost_val rfl rfl (Below.refl _ _) rfl)
                case oR2_1 => intro f lo hi w hb hx hf hk hrg R hR; (try replace hb := BelX.zero hb); (try simp (decide := true) only [go_sem] at hf); (try simp (decide := true) only [go_sem] at hk); go_simp; exact hR _ _ (rpost_val rfl rfl (Below.refl _ _) rfl)
                case oR2_2 => intro f lo hi w hb hx hf hk hrg R hR; (try replace hb := BelX.zero hb); (try simp (decide := true) only [go_sem] at hf); (try simp (decide := true) only [go_sem] at hk); go_simp; exact hR _ _ (rpost_val rfl rfl (Below.refl _ _) rfl)
                case oR2_3 => intro f lo hi w hb hx hf hk hrg R hR; (try replace hb := BelX.zero hb); (try simp (decide := true) only [go_sem] at hf); (try simp (decide := true) only [go_sem] at hk); go_simp; exact hR _ _ (rpost_val rfl rfl (Below.refl _ _) rfl)
                case oR2_4 => intro f lo hi w hb hx hf hk hrg R hR; (try replace hb := BelX.zero hb); (try simp (decide := true) only [go_sem] at hf); (try simp (decide := true) only [go_sem] at hk); go_simp; exact hR _ _ (rpost_val rfl rfl (Below.refl _ _) rfl)
                case oR2_5 =>
                  intro f lo hi w hb hx hf hk hrg R hR; (try replace hb := BelX.zero hb); (try simp (decide := true) only [go_sem] at hf); (try simp (decide := true) only [go_sem] at hk)
                  have kk := hb.blk kb (by simp; omega)
                  have e := kk.cell 2
                  have hl := kk.lt
                  go_simp
                  exact hR _ _ (rpost_val rfl rfl (Below.refl _ _) rfl)
                case oR2_6 => intro f lo hi w hb hx hf hk hrg R hR; (try replace hb := BelX.zero hb); (try simp (decide := true) only [go_sem] at hf); (try simp (decide := true) only [go_sem] at hk); go_simp; exact hR _ _ (rpost_val rfl rfl (Below.refl _ _) rfl)
                case oR2_7 =>
                  intro f lo hi w hb hx hf hk hrg R hR; (try replace hb := BelX.zero hb); (try simp (decide := true) only [go_sem] at hf); (try simp (decide := true) only [go_sem] at hk)
                  have kk := hb.blk kb (by simp; omega)
                  have e := kk.cell 3
                  have hl := kk.lt
                  go_simp
                  exact hR _ _ (rpost_val rfl rfl (Below.refl _ _) rfl)
                case oR2_8 => intro f lo hi w hb hx hf hk hrg R hR; (try replace hb := BelX.zero hb); (try simp (decide := true) only [go_sem] at hf); (try simp (decide := true) only [go_sem] at hk); go_simp; exact hR _ _ (rpost_val rfl rfl (Below.refl _ _) rfl)
                case oR2_9 => intro f lo hi w hb hx hf hk hrg R hR; (try replace hb := BelX.zero hb); (try simp (decide := true) only [go_sem] at hf); (try simp (decide := true) only [go_sem] at hk); go_simp; exact hR _ _ (rpost_val rfl rfl (Below.refl _ _) rfl)
                case oR2_10 =>
                  intro f lo hi w hb hx hf hk hrg R hR; (try replace hb := BelX.zero hb); (try simp (decide := true) only [go_sem] at hf); (try simp (decide := true) only [go_sem] at hk)
                  have ilw : RqL w B _ _ _ := il2.out.keep fun y hlt => by
                    by_cases e : y = g
                    · rw [e]; exact hf.2
                    · exact hb.2.2.2.2 y ⟨hlt, fun r hr => by simp at hr; subst hr; simp only; omega⟩
                  have hil : i < (l2.set i (⟨id', veh, cls, til, upTo now ws lg k, some ⟨g, 0, none⟩, lc⟩ : Rq)).length := by rw [List.length_set]; exact hi2
                  have o := ilw.legs _ (List.getElem_mem hil)
                  rw [List.getElem_set_self] at o
                  simp only [upTo_len] at o
                  obtain ⟨y0, y1, y2, y3, y4, yl⟩ := row_leg o.row k (by rw [upTo_len]; exact hkg)
                  simp only [Nat.zero_add] at y0 y1 y2 y3 y4
                  have yf := o.frozen
                  have fin := ilw.setOne hil (g := g) (by rw [List.getElem_set_self]) (j := k) (by rw [List.getElem_set_self]; simp only [upTo_len]; exact hkg) ⟨mj, mp, now + pf, to_, si⟩ 2 (.int .i64 (now + pf)) (by decide) (by simp only [List.getElem_set_self, HZ0.out]; rfl)
                  simp only [List.set_set, List.getElem_set_self] at fin
                  have hX0 : lo 14 = g ∧ hi 14 = g + 1 := XOk.get _ _ hx 0 _ rfl
                  clear y0 y1 y3 y4 ilw
                  go_simp
                  exact hR _ _ (rpost_some rfl rfl (touch_grown (grownBy_set _ g _ _) (List.mem_singleton.2 rfl) hX0.1 hX0.2) fin)
                case oR2_11 => intro f lo hi w hb hx hf hk hrg R hR; (try replace hb := BelX.zero hb); (try simp (decide := true) only [go_sem] at hf); (try simp (decide := true) only [go_sem] at hk); go_simp; exact hR _ _ (rpost_val rfl rfl (Below.refl _ _) rfl)
                case oR2_12 => intro f lo hi w hb hx hf hk hrg R hR; (try replace hb := BelX.zero hb); (try simp (decide := true) only [go_sem] at hf); (try simp (decide := true) only [go_sem] at hk); go_simp; exact hR _ _ (rpost_val rfl rfl (Below.refl _ _) rfl)
                case oR2_13 =>
                  intro f lo hi w hb hx hf hk hrg R hR; (try replace hb := BelX.zero hb); (try simp (decide := true) only [go_sem] at hf); (try simp (decide := true) only [go_sem] at hk)
                  have hil : i < (l2.set i (⟨id', veh, cls, til, (upTo now ws lg k).set k ⟨mj, mp, now + pf, to_, si⟩, some ⟨g, 0, none⟩, lc⟩ : Rq)).length := by rw [List.length_set]; exact hi2
                  have o := hf.legs _ (List.getElem_mem hil)
                  rw [List.getElem_set_self] at o
                  simp only [upTo_len, List.length_set] at o
                  obtain ⟨y0, y1, y2, y3, y4, yl⟩ := row_leg o.row k (by rw [List.length_set, upTo_len]; exact hkg)
                  simp only [Nat.zero_add] at y0 y1 y2 y3 y4
                  have yf := o.frozen
                  have fin := hf.setOne hil (g := g) (by rw [List.getElem_set_self]) (j := k) (by rw [List.getElem_set_self]; simp only [upTo_len, List.length_set]; exact hkg) ⟨mj, mp, now + pf, now + pt, si⟩ 3 (.int .i64 (now + pt)) (by decide) (by simp only [List.getElem_set_self]; rfl)
                  simp only [List.set_set, List.getElem_set_self, HST.out] at fin
                  have hX0 : lo 14 = g ∧ hi 14 = g + 1 := XOk.get _ _ hx 0 _ rfl
                  clear y0 y1 y2 y4
                  go_simp
                  exact hR _ _ (rpost_some rfl rfl (touch_grown (grownBy_set _ g _ _) (List.mem_singleton.2 rfl) hX0.1 hX0.2) fin)
                case hcl =>
                  refine ⟨Closed.true _ _ _ _, Closed.true _ _ _ _, Closed.true _ _ _ _, Closed.true _ _ _ _, Closed.true _ _ _ _, Closed.true _ _ _ _, Closed.true _ _ _ _, Closed.true _ _ _ _, Closed.true _ _ _ _, Closed.true _ _ _ _, ?cR2_10, Closed.true _ _ _ _, Closed.true _ _ _ _, ?cR2_13, ?cR2_14, trivial⟩
                  · exact fun f lo hi v b0 b1 w w' h hs hB hown hU hX => h.keepIn HLT0.out fun b _ hb => by
                      by_cases e : b = g
                      · rw [e]; exact hX 0 _ rfl (by simp) g (Nat.le_refl _) (Nat.lt_succ_self _)
                      · exact hB b ⟨hb, fun r hr => by simp at hr; subst hr; simp only; omega⟩
                  · exact fun f lo hi v b0 b1 w w' h hs hB hown hU hX => h.keepIn HLT.out fun b _ hb => by
                      by_cases e : b = g
                      · rw [e]; exact hX 0 _ rfl (by simp) g (Nat.le_refl _) (Nat.lt_succ_self _)
                      · exact hB b ⟨hb, fun r hr => by simp at hr; subst hr; simp only; omega⟩
                  · exact fun f lo hi v b0 b1 w w' h hs hB hown hU hX => by
                      obtain ⟨⟨rfl, rfl⟩, h⟩ := h
                      exact ⟨⟨rfl, rfl⟩, (hown _ (Nat.le_refl _) (Nat.lt_succ_self _)).trans h⟩
                intro f lo hi W8 hbr hx hf hk hrg; (try replace hbr := BelX.zero hbr); clear hx; (try simp (decide := true) only [go_sem] at hf); (try simp (decide := true) only [go_sem] at hk)
                have hb8 := hbr.below_from hb7 hB.symm gB
                go_simp
                clear hk
                go_wp2_with fail
                go_roundw
                case rel => exact ⟨k + 1, by go_num, by omega, HGO, hf, hb8⟩
                case measure => simp [intOf]; omega
            · obtain rfl : k = lg.length := by omega
              have HF := Lib.hid (HM0.out HWN.out.symm (fun j h1 h2 => hall.out j h1 h2 h1))
              go_wp2_with fail
              refine bodyPost_ret (v := .tuple #[.slice (some ⟨xb, 0, none⟩) l2.length xc, .int .i64 0]) (by simp [results, Try.results24, go_sem]) rfl ?_
              exact ⟨_, l2.length, xc, l2.set i ⟨id', veh, cls, til, upTo now ws lg lg.length, la, lc⟩, 0, rfl, Lib.hid (by rw [HF.out, List.map_set, hk.out]; rfl), Lib.hid (by rw [List.length_set]), by rw [hB]; exact il, by rw [hB]; exact hb⟩
        · have HF := Lib.hid (HML.out (by rw [← HWN.out]; exact hlen))
          have hq : ¬ (wn : Int) = (lg.length : Int) := by omega
          go_wp2_with fail
          refine bodyPost_ret (v := .tuple #[.slice none 0 0, .int .i64 _]) (by simp [results, Try.results24, go_sem]; rfl) rfl ?_
          exact LE.err HF.out (by repeat (first | (with_reducible refine Below.setCell ?_ ?_ _) | (with_reducible refine Below.alloc ?_ ?_ _) | (with_reducible refine Below.drew ?_) | (with_reducible refine below_drewN ?_ _) | (with_reducible exact Below.refl _ _) | (with_reducible refine Below.trans ?_ (Below.mono be3 ?_)) | (focus (simp; done)) | (focus (simp; omega)) | (focus omega) | (focus (have q0 := Below.size be3; (try simp at q0); (try simp); omega))))
    · have HB : Hid ((decide (0 ≤ now) && decide (now ≤ 1073741824)) = false) := Lib.hid (by
        unfold tickOk at ht
        by_cases q : 0 ≤ now
        · rw [decide_eq_true q, decide_eq_false (by omega)]; rfl
        · rw [decide_eq_false q]; rfl)
      have HF := Lib.hid (updM_1 (l := l.map Rq.key) (id := id) (ws := ws) (now := now) (fun q => ht q.2))
      clear ht
      go_wp2_with (first | (go_at_call 12; (with_reducible refine (Says.y (request_Valid a l l.length c 4 _ h rfl (by omega) (fun r hr => ⟨(hl r hr).2, by have := (hl r hr).1.1; omega⟩)) HP.out).mono ?_); rintro e w1 ⟨rfl, hb1⟩) | (go_at_call 38; (with_reducible refine (request_tickE HB _).mono ?_); rintro e wz ⟨rfl, rfl⟩))
      refine bodyPost_ret (v := .tuple #[.slice none 0 0, .int .i64 _]) (by simp [results, Try.results24, go_sem]; rfl) rfl ?_
      exact LE.err HF.out (by repeat (first | (with_reducible refine Below.setCell ?_ ?_ _) | (with_reducible refine Below.alloc ?_ ?_ _) | (with_reducible refine Below.drew ?_) | (with_reducible refine below_drewN ?_ _) | (with_reducible exact Below.refl _ _) | (with_reducible refine Below.trans ?_ (Below.mono hb1 ?_)) | (focus (simp; done)) | (focus (simp; omega)) | (focus omega) | (focus (have q0 := Below.size hb1; (try simp at q0); (try simp); omega))))
  · have HP := Lib.hid hp
    have HF := Lib.hid (updM_1 (l := l.map Rq.key) (id := id) (ws := ws) (now := now) (fun q => hp q.1))
    clear hp
    go_wp2_with ((go_at_call 12; (with_reducible refine (Says.n (request_Valid a l l.length c 4 _ h rfl (by omega) (fun r hr => ⟨(hl r hr).2, by have := (hl r hr).1.1; omega⟩)) HP.out).mono ?_); rintro e w1 ⟨rfl, hb1⟩))
    refine bodyPost_ret (v := .tuple #[.slice none 0 0, .int .i64 _]) (by simp [results, Try.results24, go_sem]; rfl) rfl ?_
    exact LE.err HF.out (by repeat (first | (with_reducible refine Below.setCell ?_ ?_ _) | (with_reducible refine Below.alloc ?_ ?_ _) | (with_reducible refine Below.drew ?_) | (with_reducible refine below_drewN ?_ _) | (with_reducible exact Below.refl _ _) | (with_reducible refine Below.trans ?_ (Below.mono hb1 ?_)) | (focus (simp; done)) | (focus (simp; omega)) | (focus omega) | (focus (have q0 := Below.size hb1; (try simp at q0); (try simp); omega))))
end Go.Proofs.Ytbanejpihdhbdaa
