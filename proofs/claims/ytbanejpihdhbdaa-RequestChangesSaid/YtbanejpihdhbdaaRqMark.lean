/- request.Mark -/
import Derived.Test.YtbanejpihdhbdaaRqOps
namespace Go.Proofs.Ytbanejpihdhbdaa
set_option linter.unusedVariables false
open Go.RowKit Go.Sort
set_option maxRecDepth 100000

set_option maxHeartbeats 4000000 in
theorem request_Mark (a : Option Addr) (l : List Rq) (n c : Nat) (now : Int) (w : World) (h : Rqs w a l) (hn : n = l.length) (l9 : n ≤ 10000) (hl : ∀ r ∈ l, LgOk r) :
    Calls Try.prog 33 #[.slice a n c, .int .i64 now] w (MarkR (l.map Rq.key) now n w) := by
  have HN := Lib.hid hn
  clear hn
  go_enter Try.func33, Try.ntmps33
  go_upto_region 2 with ((go_at_call 43; (with_reducible refine (request_cloneAll a l n c _ h HN.out l9 hl).mono ?_); rintro e w2 ⟨xa, xc, l2, rfl, hk, hn2, il, hb⟩))
  obtain rfl := hn2.out
  have hl2 := legs_le hk.out (fun r hr => (hl r hr).n)
  obtain ⟨B, hB⟩ : ∃ B, w.heap.size = B := ⟨_, rfl⟩
  rw [hB] at il hb
  clear hn2 h HN
  go_wp2_with fail
  go_loopw [13] (fun s13 wr => ∃ i : Nat, s13 = .int .i64 i ∧ i ≤ l2.length ∧ RqL wr B (mkTo (Rq.mark now) l2 i) xa xc ∧ RowKit.Below B w wr) (fun s _ => l2.length - (intOf s).toNat)
  case atStart => exact ⟨0, rfl, by omega, by rw [mkTo_zero]; exact il, hb⟩
  case round =>
    clear il hb
    obtain ⟨i, rfl, hi, il, hb⟩ := hrel
    have HLL := Lib.hid (mkTo_len (Rq.mark now) l2 i)
    by_cases hlt : i < l2.length
    · obtain ⟨xb, rfl, -, -⟩ := il.own.open_ (by rw [HLL.out]; omega)
      have hq := il.rqs
      have kx : (i : Int) < (l2.length : Int) := by omega
      obtain ⟨x0, x1, x2, x3, x4, xl⟩ := row_req hq.row i (by rw [HLL.out]; exact hlt)
      rw [mkTo_get _ _ _ hlt] at x0 x1 x2 x3 x4
      simp only [Nat.zero_add] at x0 x1 x2 x3 x4
      have HS0 := Lib.hid (show mkTo (Rq.mark now) l2 i = (mkTo (Rq.mark now) l2 i).set i { l2[i] with legs := mkTo (Lg.mark now) l2[i].legs 0 } from by
        rw [mkTo_zero (Lg.mark now)]
        exact set_same (by rw [mkTo_len]; exact hlt) (mkTo_get _ _ _ hlt))
      have HS1 := Lib.hid (show (mkTo (Rq.mark now) l2 i).set i { l2[i] with legs := mkTo (Lg.mark now) l2[i].legs l2[i].legs.length } = mkTo (Rq.mark now) l2 (i + 1) from by
        rw [← mkTo_set _ _ _ hlt, mkTo_all]; rfl)
      have hlg := hl2 _ (List.getElem_mem hlt)
      obtain ⟨x, hx⟩ : ∃ x, l2[i] = x := ⟨_, rfl⟩
      rw [hx] at x0 x1 x2 x3 x4 HS0 HS1 hlg
      obtain ⟨lq, hlq⟩ : ∃ lq, mkTo (Rq.mark now) l2 i = lq := ⟨_, rfl⟩
      rw [hlq] at il HS0 HS1 HLL
      have hwB := hb.size
      clear hx hlq hq
      obtain ⟨id, veh, cls, til, lg, la, lc⟩ := x
      simp only at x0 x1 x2 x3 x4 HS0 HS1 hlg
      go_upto_region 5 with fail
      obtain ⟨V, hV⟩ : ∃ V, wr.heap.size = V := ⟨_, rfl⟩
      refine wp_named (fun Y => Blk Y V 45 #[.int .i64 id, .int .i64 veh, .int .i64 cls, .int .i64 til, .slice la lg.length lc] ∧ RqL Y B (lq.set i ⟨id, veh, cls, til, mkTo (Lg.mark now) lg 0, la, lc⟩) (some ⟨xb, 0, none⟩) xc ∧ RowKit.Below B w Y) ⟨by rw [← hV]; exact Blk.new _ _ _, by rw [← HS0.out]; exact il.alloc _, (by repeat (first | (with_reducible refine Below.setCell ?_ ?_ _) | (with_reducible refine Below.alloc ?_ ?_ _) | (with_reducible refine Below.drew ?_) | (with_reducible refine below_drewN ?_ _) | (with_reducible exact Below.refl _ _) | (with_reducible refine Below.trans ?_ (Below.mono hb ?_)) | (focus (simp; done)) | (focus (simp; omega)) | (focus omega) | (focus (have q0 := Below.size hb; (try simp at q0); (try simp); omega))))⟩ ?_
      rw [hV]
      have hVB : B ≤ V := by rw [← hV]; omega
      clear hV il hb hwB x0 x1 x2 x3 x4 xl
      rintro Y ⟨kV, il, hb⟩
      obtain ⟨v0, v1, v2, v3, v4, vf, vl⟩ := kV.five
      go_wp2_with fail
      go_loopw [20] (fun s20 wz => ∃ j : Nat, s20 = .int .i64 j ∧ j ≤ lg.length ∧ Blk wz V 45 #[.int .i64 id, .int .i64 veh, .int .i64 cls, .int .i64 til, .slice la lg.length lc] ∧ RqL wz B (lq.set i ⟨id, veh, cls, til, mkTo (Lg.mark now) lg j, la, lc⟩) (some ⟨xb, 0, none⟩) xc ∧ RowKit.Below B w wz) (fun s _ => lg.length - (intOf s).toNat)
      case atStart => exact ⟨0, rfl, by omega, kV, il, hb⟩
      case round =>
        clear kV il hb v0 v1 v2 v3 v4 vf vl
        obtain ⟨j, rfl, hj, kV, il, hb⟩ := hrel
        by_cases hjl : j < lg.length
        · have jx : (j : Int) < (lg.length : Int) := by omega
          have hil : i < (lq.set i (⟨id, veh, cls, til, mkTo (Lg.mark now) lg j, la, lc⟩ : Rq)).length := by rw [List.length_set, HLL.out]; exact hlt
          have o := il.legs _ (List.getElem_mem hil)
          rw [List.getElem_set_self] at o
          simp only [mkTo_len] at o
          obtain ⟨g, rfl, gB, gl⟩ := o.open_ (by omega)
          obtain ⟨y0, y1, y2, y3, y4, yl⟩ := row_leg o.row j (by rw [mkTo_len]; exact hjl)
          rw [mkTo_get _ _ _ hjl] at y0 y1 y2 y3 y4
          simp only [Nat.zero_add] at y0 y1 y2 y3 y4
          have HST := Lib.hid (mkTo_set (Lg.mark now) lg j hjl)
          obtain ⟨z, hz⟩ : ∃ z, lg[j] = z := ⟨_, rfl⟩
          rw [hz] at y0 y1 y2 y3 y4 HST
          have HZ := Lib.hid hz
          clear hz
          obtain ⟨ju, ph, fr, to_, si⟩ := z
          simp only at y0 y1 y2 y3 y4
          obtain ⟨v0, v1, v2, v3, v4, vf, vl⟩ := kV.five
          go_upto_region 8 with fail
          have hgL : g < wr.heap.size := yl
          have hgV := Lib.hid (show g ≠ V from fun e => by
            have q := o.past kV (by decide)
            exact q (by rw [← e]; rfl))
          clear v0 v1 v2 v3 v4 vf vl y0 y1 y2 y3 y4 yl o hil gl
          have vl := kV.lt
          have il2 := Lib.hid il
          have HLT := Lib.hid (RqLt.set il.rlt (X' := ⟨id, veh, cls, til, mkTo (Lg.mark now) lg (j + 1), some ⟨g, 0, none⟩, lc⟩) rfl)
          apply wp_region_tab [(g, (g+1))] 12 37 [some 23, some 24, some 25, some 26, some 27, some 28, some 29, some 30, some 31, some 32, some 33, none] [⟨[12], [], [], []⟩, ⟨[0, 12], [0], [0], []⟩, ⟨[12], [], [], []⟩, ⟨[12], [], [], []⟩, ⟨[3, 12], [3], [3], []⟩, ⟨[12], [], [], []⟩, ⟨[3, 4, 5, 12], [4, 5], [4, 5], []⟩, ⟨[3, 4, 5, 6, 12], [6, 12], [6, 12], []⟩, ⟨[12], [], [], []⟩, ⟨[3, 4, 5, 6, 7, 8, 12], [7, 8], [7, 8], []⟩, ⟨[0, 1, 2, 3, 4, 5, 6, 7, 8, 9, 12], [1, 2], [1, 2], []⟩, ⟨[0, 1, 2, 3, 4, 5, 6, 7, 8, 9, 10, 12], [9, 10, 12], [9, 10, 12], [12]⟩, ⟨[], [], [], []⟩] [0, 1, 2, 3, 4, 5, 6, 7, 8, 9, 10, 11] [11] [psiTrue, psiTrue, psiTrue, psiTrue, psiTrue, psiTrue, psiTrue, psiTrue, psiTrue, psiTrue, psiTrue, (fun f lo hi v b0 b1 W => RqL W B (lq.set i ⟨id, veh, cls, til, mkTo (Lg.mark now) lg (j + 1), some ⟨g, 0, none⟩, lc⟩) (some ⟨xb, 0, none⟩) xc), (fun f lo hi v b0 b1 W => (b0 = g ∧ b1 = (g+1)) ∧ W.heap[g]? = wr.heap[g]?)] [kVal _, kVal _, kVal _, kVal _, kVal _, kVal _, kVal _, kVal _, kVal _, kVal _, kVal _, kTrue]
          · kernel_rfl
          · kernel_rfl
          · rfl
          · rfl
          rotate_left 2
          refine ⟨?oR1_0, ?oR1_1, ?oR1_2, ?oR1_3, ?oR1_4, ?oR1_5, ?oR1_6, ?oR1_7, ?oR1_8, ?oR1_9, ?oR1_10, ?oR1_11, trivial⟩
          case hx => exact ⟨⟨by omega, by omega⟩, by simp, trivial⟩
          case hX => exact ⟨fun _ _ _ _ => ⟨⟨rfl, rfl⟩, rfl⟩, trivial⟩
          case oR1_0 => intro f lo hi w hb hx hf hk hrg R hR; (try replace hb := BelX.zero hb); (try simp (decide := true) only [go_sem] at hf); (try simp (decide := true) only [go_sem] at hk); go_simp; exact hR _ _ (rpost_val rfl rfl (Below.refl _ _) rfl)
          case oR1_1 =>
            intro f lo hi w hb hx hf hk hrg R hR; (try replace hb := BelX.zero hb); (try simp (decide := true) only [go_sem] at hf); (try simp (decide := true) only [go_sem] at hk)
            have k := hb.blk kV (by have := hgV.out; simp; omega)
            have e := k.cell 4
            go_simp
            exact hR _ _ (rpost_val rfl rfl (Below.refl _ _) rfl)
          case oR1_2 => intro f lo hi w hb hx hf hk hrg R hR; (try replace hb := BelX.zero hb); (try simp (decide := true) only [go_sem] at hf); (try simp (decide := true) only [go_sem] at hk); go_simp; exact hR _ _ (rpost_val rfl rfl (Below.refl _ _) rfl)
          case oR1_3 => intro f lo hi w hb hx hf hk hrg R hR; (try replace hb := BelX.zero hb); (try simp (decide := true) only [go_sem] at hf); (try simp (decide := true) only [go_sem] at hk); go_simp; exact hR _ _ (rpost_val rfl rfl (Below.refl _ _) rfl)
          case oR1_4 =>
            intro f lo hi w hb hx hf hk hrg R hR; (try replace hb := BelX.zero hb); (try simp (decide := true) only [go_sem] at hf); (try simp (decide := true) only [go_sem] at hk)
            have k := hb.blk kV (by have := hgV.out; simp; omega)
            have e := k.cell 4
            go_simp
            exact hR _ _ (rpost_val rfl rfl (Below.refl _ _) rfl)
          case oR1_5 => intro f lo hi w hb hx hf hk hrg R hR; (try replace hb := BelX.zero hb); (try simp (decide := true) only [go_sem] at hf); (try simp (decide := true) only [go_sem] at hk); go_simp; exact hR _ _ (rpost_val rfl rfl (Below.refl _ _) rfl)
          case oR1_6 => intro f lo hi w hb hx hf hk hrg R hR; (try replace hb := BelX.zero hb); (try simp (decide := true) only [go_sem] at hf); (try simp (decide := true) only [go_sem] at hk); go_simp; exact hR _ _ (rpost_val rfl rfl (Below.refl _ _) rfl)
          case oR1_7 =>
            intro f lo hi w hb hx hf hk hrg R hR; (try replace hb := BelX.zero hb); (try simp (decide := true) only [go_sem] at hf); (try simp (decide := true) only [go_sem] at hk)
            have ilw : RqL w B _ _ _ := il2.out.keep fun b hlt => by
              by_cases e : b = g
              · rw [e]; exact hf.2
              · exact hb.2.2.2.2 b ⟨hlt, fun r hr => by simp at hr; subst hr; simp only; omega⟩
            have hil : i < (lq.set i (⟨id, veh, cls, til, mkTo (Lg.mark now) lg j, some ⟨g, 0, none⟩, lc⟩ : Rq)).length := by rw [List.length_set, HLL.out]; exact hlt
            have o := ilw.legs _ (List.getElem_mem hil)
            rw [List.getElem_set_self] at o
            simp only [mkTo_len] at o
            obtain ⟨y0, y1, y2, y3, y4, yl⟩ := row_leg o.row j (by rw [mkTo_len]; exact hjl)
            rw [mkTo_get _ _ _ hjl, HZ.out] at y0 y1 y2 y3 y4
            simp only [Nat.zero_add] at y0 y1 y2 y3 y4
            go_simp
            exact hR _ _ (rpost_val rfl rfl (Below.refl _ _) rfl)
          case oR1_8 => intro f lo hi w hb hx hf hk hrg R hR; (try replace hb := BelX.zero hb); (try simp (decide := true) only [go_sem] at hf); (try simp (decide := true) only [go_sem] at hk); go_simp; exact hR _ _ (rpost_val rfl rfl (Below.refl _ _) rfl)
          case oR1_9 =>
            intro f lo hi w hb hx hf hk hrg R hR; (try replace hb := BelX.zero hb); (try simp (decide := true) only [go_sem] at hf); (try simp (decide := true) only [go_sem] at hk)
            go_simp
            (with_reducible refine (window_Mark ju ph fr to_ si now w).mono ?_)
            rintro e w' ⟨rfl, hb5⟩
            exact ⟨_, rfl, hR _ _ (rpost_val rfl rfl hb5 rfl)⟩
          case oR1_10 => intro f lo hi w hb hx hf hk hrg R hR; (try replace hb := BelX.zero hb); (try simp (decide := true) only [go_sem] at hf); (try simp (decide := true) only [go_sem] at hk); go_simp; exact hR _ _ (rpost_val rfl rfl (Below.refl _ _) rfl)
          case oR1_11 =>
            intro f lo hi w hb hx hf hk hrg R hR; (try replace hb := BelX.zero hb); (try simp (decide := true) only [go_sem] at hf); (try simp (decide := true) only [go_sem] at hk)
            have ilw : RqL w B _ _ _ := il2.out.keep fun b hlt => by
              by_cases e : b = g
              · rw [e]; exact hf.2
              · exact hb.2.2.2.2 b ⟨hlt, fun r hr => by simp at hr; subst hr; simp only; omega⟩
            have hil : i < (lq.set i (⟨id, veh, cls, til, mkTo (Lg.mark now) lg j, some ⟨g, 0, none⟩, lc⟩ : Rq)).length := by rw [List.length_set, HLL.out]; exact hlt
            have o := ilw.legs _ (List.getElem_mem hil)
            rw [List.getElem_set_self] at o
            simp only [mkTo_len] at o
            obtain ⟨y0, y1, y2, y3, y4, yl⟩ := row_leg o.row j (by rw [mkTo_len]; exact hjl)
            simp only [Nat.zero_add] at y0 y1 y2 y3 y4
            have yf := o.frozen
            have fin := ilw.setLeg hil (g := g) (by rw [List.getElem_set_self]) (j := j) (by rw [List.getElem_set_self]; simp only [mkTo_len]; exact hjl) (Lg.mark now ⟨ju, ph, fr, to_, si⟩)
            simp only [List.set_set, List.getElem_set_self, HST.out] at fin
            have hX0 : lo 12 = g ∧ hi 12 = g + 1 := XOk.get _ _ hx 0 _ rfl
            go_simp
            exact hR _ _ (rpost_some rfl rfl (touch_grown ((((grownBy_set _ g _ _).trans (grownBy_set _ g _ _)).trans ((grownBy_set _ g _ _).trans (grownBy_set _ g _ _))).trans (grownBy_set _ g _ _)) (List.mem_singleton.2 rfl) hX0.1 hX0.2) fin)
          case hcl =>
            refine ⟨Closed.true _ _ _ _, Closed.true _ _ _ _, Closed.true _ _ _ _, Closed.true _ _ _ _, Closed.true _ _ _ _, Closed.true _ _ _ _, Closed.true _ _ _ _, Closed.true _ _ _ _, Closed.true _ _ _ _, Closed.true _ _ _ _, Closed.true _ _ _ _, ?cR1_11, ?cR1_12, trivial⟩
            · exact fun f lo hi v b0 b1 w w' h hs hB hown hU hX => h.keepIn HLT.out fun b _ hb => by
                by_cases e : b = g
                · rw [e]; exact hX 0 _ rfl (by simp) g (Nat.le_refl _) (Nat.lt_succ_self _)
                · exact hB b ⟨hb, fun r hr => by simp at hr; subst hr; simp only; omega⟩
            · exact fun f lo hi v b0 b1 w w' h hs hB hown hU hX => by
                obtain ⟨⟨rfl, rfl⟩, h⟩ := h
                exact ⟨⟨rfl, rfl⟩, (hown _ (Nat.le_refl _) (Nat.lt_succ_self _)).trans h⟩
          intro f lo hi W7 hbr hx hf hk hrg; (try replace hbr := BelX.zero hbr); clear hx; (try simp (decide := true) only [go_sem] at hf); (try simp (decide := true) only [go_sem] at hk)
          have kV7 := hbr.blk kV (by have := hgV.out; simp; omega)
          have hb7 := hbr.below_from hb hB.symm gB
          go_simp
          clear hk
          go_wp2_with fail
          go_roundw
          case rel => exact ⟨j + 1, by go_num, by omega, kV7, hf, hb7⟩
          case measure => simp [intOf]; omega
        · obtain rfl : j = lg.length := by omega
          rw [HS1.out] at il
          go_wp2_with fail
          go_roundw
          case rel => exact ⟨i + 1, by go_num, by omega, il, hb⟩
          case measure => simp [intOf]; omega
    · obtain rfl : i = l2.length := by omega
      rw [mkTo_all] at il
      go_wp2_with fail
      go_ret
      exact ⟨xa, xc, l2.map (Rq.mark now), rfl, Lib.hid (by rw [mark_key, hk.out]), Lib.hid (by simp), by rw [hB]; exact il, by rw [hB]; exact hb⟩
end Go.Proofs.Ytbanejpihdhbdaa
