/- token.New -/
import Derived.Test.YtgngmmmdhhjbhaaTkNew
import Derived.Test.YtgngmmmdhhjbhaaTkTRev
namespace Go.Proofs.Ytgngmmmdhhjbhaa
set_option linter.unusedVariables false
open Go.RowKit Go.Sort
set_option maxRecDepth 100000

def zeroTk : Tk := ⟨false, [], 0, 0, 0, 0, none, 0⟩
theorem made_8 : madeCells (Value.agg #[.bool false, .slice none 0 0, .int .i64 0, .int .i64 0, .int .i64 0, .int .i64 0]).cells 48 = (tkCells (List.replicate 8 zeroTk)).toArray := by kernel_rfl
theorem wp_make8 {ops : Array Oper} {rest : List Oper} {dst : Option Tmp} {a : Act} {Q : Exit → Act → World → Prop} {w : World} {ty : TypeId} {pos : String} {after : Array Edge} {x y : Operand}
    (hx : a.eval x = .int .i64 8) (hy : a.eval y = .int .i64 8)
    (h : ∀ W B, Hid (B = w.heap.size) → TkL W B (List.replicate 8 zeroTk) (some ⟨B, 0, none⟩) 8 → Below w.heap.size w W → wpList Try.prog ops Q rest (a.put dst (.slice (some ⟨B, 0, none⟩) 8 8)) W) :
    wpList Try.prog ops Q ({ dst, op := .makeSlice 22 x y, type := ty, pos, after, guard := none } :: rest) a w := by
  obtain ⟨i0, hi, hz0, hz1, hz2⟩ := info_parts info_tok
  have hrun := run_make (P := Try.prog) w 22 52 i0 _ Try.underlying22 hi hz0 .i64 .i64 8 8 (by omega) (by omega) (by rw [hz2]; omega) (by omega)
  simp only [hz1] at hrun
  have e : (8 : Int).toNat * 6 = 48 := by decide
  rw [e, made_8] at hrun
  refine wpList_plain rfl fun K hK => ?_
  unfold Oper.wp
  simp only [execOp, hx, hy, Sem.run_bind, Result.andThen_ok, hrun]
  simp [go_sem]
  have own := own_new w (tkCells (List.replicate 8 zeroTk)).toArray 52 6 8 (by simp [tkCells_len]) (by simp only [maxLen]; omega)
  refine hK _ _ (h _ _ (Lib.hid rfl) ⟨by simpa using own, fun t ht => ?_⟩ ((Below.refl _ _).alloc (Nat.le_refl _) _))
  rw [List.eq_of_mem_replicate ht]
  exact Own.nil _ _ _ _
theorem TkL.keepAt {W W' : World} {B g xc : Nat} {l : List Tk} (h : TkL W B l (some ⟨g, 0, none⟩) xc) (hg : W'.heap[g]? = W.heap[g]?) (hs : ∀ t ∈ l, ∀ b, t.a.map (·.block) = some b → W'.heap[b]? = W.heap[b]?) : TkL W' B l (some ⟨g, 0, none⟩) xc :=
  ⟨h.own.keep fun b e _ _ => by injection e with e; injection e with e; subst e; exact hg, fun t ht => (h.sec t ht).keep fun b e _ _ => hs t ht b (by rw [e]; rfl)⟩
set_option maxHeartbeats 4000000 in
theorem token_New (sa : Option Addr) (sec : List UInt8) (sn sc : Nat) (rt cl : Int) (la : Option Addr) (ln lc : Nat) (rq se ra bu : Int) (w : World) (hs : Byt w sa sec) (hsn : sn = sec.length) (hs9 : sn ≤ 100000) (hsnil : sa = none → sn = 0 ∧ sc = 0) :
    Calls Try.prog 26 #[agAgg sa sn sc rt cl la ln lc rq se ra bu] w fun e w' => ∃ (xa : Option Addr) (xc : Nat) (l2 : List Tk), e = .returned (.slice xa 8 xc) ∧ Hid (l2.map Tk.key = newK sec rt cl) ∧ Hid (8 = l2.length) ∧ TkL w' w.heap.size l2 xa xc ∧ Below w.heap.size w w' := by
  have HSN := Lib.hid hsn
  have HSNIL := Lib.hid hsnil
  have HSW := Lib.hid hs
  clear hsn hsnil
  go_enter Try.func26, Try.ntmps26
  go_upto_region 1 with fail
  obtain ⟨V, hV⟩ : ∃ V, w.heap.size = V := ⟨_, rfl⟩
  refine wp_named (fun W => Blk W V 32 #[.slice sa sn sc, .int .i64 rt, .int .i64 cl, .slice la ln lc, .int .i64 rq, .int .i64 se, .int .i64 ra, .int .i64 bu] ∧ Byt W sa sec ∧ RowKit.Below V w W) ⟨by rw [← hV]; exact Blk.new _ _ _, Row.alloc hs _, by rw [← hV]; exact (by repeat (first | (with_reducible refine Below.setCell ?_ ?_ _) | (with_reducible refine Below.alloc ?_ ?_ _) | (with_reducible refine Below.drew ?_) | (with_reducible refine below_drewN ?_ _) | (with_reducible exact Below.refl _ _) | (focus (simp; done)) | (focus (simp; omega)) | (focus omega)))⟩ ?_
  have HV := Lib.hid hV
  rw [hV]
  clear hV hs
  rintro W ⟨kV, hs, be⟩
  go_wp2_with ((with_reducible refine wp_make8 ?_ ?_ ?_); (focus rfl); (focus rfl); intro W0 g hg il hb0)
  have be0 : RowKit.Below V w W0 := be.trans (hb0.mono (by have := be.size; have := HV.out; omega))
  have kV0 := kV.below hb0 kV.lt
  have hVg : V < g := by have := kV.lt; have := hg.out; omega
  clear hg kV hs be hb0
  go_loopw [8] (fun s8 wr => ∃ (i : Nat) (l3 : List Tk), s8 = .int .i64 i ∧ i ≤ 8 ∧ Hid (l3.length = 8) ∧ Hid (∀ k (h : k < l3.length), k < i → l3[k].key = freeK) ∧ (∀ t ∈ l3, t.a = none) ∧ TkL wr g l3 (some ⟨g, 0, none⟩) 8 ∧ Blk wr V 32 #[.slice sa sn sc, .int .i64 rt, .int .i64 cl, .slice la ln lc, .int .i64 rq, .int .i64 se, .int .i64 ra, .int .i64 bu] ∧ RowKit.Below V w wr ∧ g < wr.heap.size) (fun s _ => 8 - (intOf s).toNat)
  case atStart => exact ⟨0, List.replicate 8 zeroTk, rfl, by omega, Lib.hid (by simp), Lib.hid (fun k _ q => by omega), fun t ht => by rw [List.eq_of_mem_replicate ht]; rfl, il, kV0, be0, il.own.lt' g rfl⟩
  case round =>
    clear il kV0 be0
    obtain ⟨i, l3, rfl, hi, h3, hfr, hno, il, kV, be, hgl⟩ := hrel
    by_cases hlt : i < 8
    · have kx : (i : Int) < 8 := by omega
      have hi3 : i < l3.length := by rw [h3.out]; exact hlt
      go_wp2_with ((go_at_call 51; (with_reducible refine (token_free _).mono ?_); rintro e w4 ⟨rfl, hb4⟩; ((have il4 := il.below hb4); (obtain ⟨y0, y1, y2, y3, y4, y5, yl⟩ := row_tok il4.own.row i hi3); (simp only [Nat.zero_add] at y0 y1 y2 y3 y4 y5); (have yf := il4.own.frozen))))
      have fin := il4.setTok hi3 ⟨false, [], -1, 0, 0, 0, none, 0⟩ (Own.nil _ _ _ _)
      have hgb := (((((grownBy_set w4 g (i * 6) (.bool false)).trans (grownBy_set _ g (i * 6 + 1) (.slice none 0 0))).trans (grownBy_set _ g (i * 6 + 2) (.int .i64 (-1)))).trans (grownBy_set _ g (i * 6 + 3) (.int .i64 0))).trans (grownBy_set _ g (i * 6 + 4) (.int .i64 0))).trans (grownBy_set _ g (i * 6 + 5) (.int .i64 0))
      have hVV := HV.out
      have be4 : RowKit.Below V w w4 := be.trans (hb4.mono (by have := be.size; omega))
      have kV4 := (kV.below hb4 kV.lt).grown hgb (by omega)
      go_roundw
      case rel => exact ⟨i + 1, _, by go_num, by omega, Lib.hid (by rw [List.length_set]; exact h3.out), Lib.hid (fun k hk q => by
        by_cases e : k = i
        · subst e; rw [List.getElem_set_self]; rfl
        · rw [List.getElem_set_ne (by omega)]; exact hfr.out k (by simpa using hk) (by omega)), fun t ht => by
        rcases List.mem_or_eq_of_mem_set ht with q | q
        · exact hno t q
        · rw [q], fin, kV4, be4.grown hgb (by have := be4.size; omega) (fun k hk => by injection hk with hk; omega), by have := hgb.size; have := hb4.size; omega⟩
      case measure => simp [intOf]; omega
    · obtain rfl : i = 8 := by omega
      go_upto_region 7 with fail
      have hVV := HV.out
      have hs : Byt wr sa sec := HSW.out.below be (by omega)
      have vl := kV.lt
      have h30 : 0 < l3.length := by rw [h3.out]; decide
      have HIL := Lib.hid (il.mono (Nat.le_of_lt hVg))
      have HNO := Lib.hid hno
      clear il hno
      apply wp_region_tab [(g, (g+1))] 11 27 [some 16, some 17, some 18, some 19, some 20, some 21, some 22, some 23, some 24, some 25, none] [⟨[11], [], [], []⟩, ⟨[11], [], [], []⟩, ⟨[1, 11], [1], [1], []⟩, ⟨[1, 2, 11], [2], [2], []⟩, ⟨[11], [], [], []⟩, ⟨[4, 11], [4], [4], []⟩, ⟨[11], [], [], []⟩, ⟨[6, 11], [6], [6], []⟩, ⟨[1, 2, 3, 4, 5, 6, 7, 11], [3, 5, 7], [3, 5, 7], []⟩, ⟨[0, 1, 2, 3, 4, 5, 6, 7, 8, 11], [0], [0], []⟩, ⟨[0, 1, 2, 3, 4, 5, 6, 7, 8, 9, 11], [3, 8, 9, 11], [3, 8, 9, 11], [11]⟩, ⟨[], [], [], []⟩] [0, 1, 2, 3, 4, 5, 6, 7, 8, 9, 10] [10] [psiTrue, psiTrue, psiTrue, (fun f lo hi v b0 b1 W => ∃ (ca : Option Addr) (cc : Nat), v = .slice ca sn cc ∧ Own W b0 5 1 ca sn cc (sec.map encB) ∧ ∀ y, ca.map (·.block) = some y → y < b1), psiTrue, psiTrue, psiTrue, psiTrue, (fun f lo hi v b0 b1 W => v = .agg #[.bool true, f 3, .int .i64 (-1), .int .i64 rt, .int .i64 cl, .int .i64 0]), psiTrue, (fun f lo hi v b0 b1 W => ∃ (ca : Option Addr) (cc : Nat), (∀ y, ca.map (·.block) = some y → lo (3) ≤ y ∧ y < hi (3)) ∧ TkL W V (l3.set 0 ⟨true, sec, -1, rt, cl, 0, ca, cc⟩) (some ⟨g, 0, none⟩) 8), (fun f lo hi v b0 b1 W => (b0 = g ∧ b1 = (g+1)) ∧ W.heap[g]? = wr.heap[g]?)] [kVal _, kVal _, kVal _, kTrue, kVal _, kVal _, kVal _, kVal _, kTrue, kVal _, kTrue]
      · kernel_rfl
      · kernel_rfl
      · rfl
      · rfl
      rotate_left 2
      refine ⟨?oR1_0, ?oR1_1, ?oR1_2, ?oR1_3, ?oR1_4, ?oR1_5, ?oR1_6, ?oR1_7, ?oR1_8, ?oR1_9, ?oR1_10, trivial⟩
      case hx => exact ⟨⟨by omega, by omega⟩, by simp, trivial⟩
      case hX => exact ⟨fun _ _ _ _ => ⟨⟨rfl, rfl⟩, rfl⟩, trivial⟩
      case oR1_0 => intro f lo hi w hb hx hf hk hrg R hR; (try replace hb := BelX.zero hb); (try simp (decide := true) only [go_sem] at hf); (try simp (decide := true) only [go_sem] at hk); go_simp; exact hR _ _ (rpost_val rfl rfl (Below.refl _ _) rfl)
      case oR1_1 => intro f lo hi w hb hx hf hk hrg R hR; (try replace hb := BelX.zero hb); (try simp (decide := true) only [go_sem] at hf); (try simp (decide := true) only [go_sem] at hk); go_simp; exact hR _ _ (rpost_val rfl rfl (Below.refl _ _) rfl)
      case oR1_2 =>
        intro f lo hi w hb hx hf hk hrg R hR; (try replace hb := BelX.zero hb); (try simp (decide := true) only [go_sem] at hf); (try simp (decide := true) only [go_sem] at hk)
        have kk := hb.blk kV (by simp; omega)
        have e0 := kk.cell 0
        have hl := kk.lt
        go_simp
        exact hR _ _ (rpost_val rfl rfl (Below.refl _ _) rfl)
      case oR1_3 =>
        intro f lo hi w hb hx hf hk hrg R hR; (try replace hb := BelX.zero hb); (try simp (decide := true) only [go_sem] at hf); (try simp (decide := true) only [go_sem] at hk)
        have hsb : Byt w sa sec := by
          rcases HSW.out with q | ⟨b', off', e', hlt', hc'⟩
          · exact .inl q
          · exact hs.keep fun b off e hlt => hb.2.2.2.2 b ⟨hlt, fun r hr => by
              simp at hr; subst hr
              have hbV : b < V := by
                rw [e] at e'; injection e' with e'; injection e' with e1 _ _; subst e1; omega
              simp only; omega⟩
        go_simp
        (with_reducible refine (clone_E sa sn sc sec w hsb HSN.out (by have := HSN.out; omega) HSNIL.out).mono ?_)
        rintro e w' ⟨ca, cc, rfl, own, hb5⟩
        exact ⟨_, rfl, hR _ _ (rpost_none rfl hb5 ⟨ca, cc, rfl, own, own.lt'⟩)⟩
      case oR1_4 => intro f lo hi w hb hx hf hk hrg R hR; (try replace hb := BelX.zero hb); (try simp (decide := true) only [go_sem] at hf); (try simp (decide := true) only [go_sem] at hk); go_simp; exact hR _ _ (rpost_val rfl rfl (Below.refl _ _) rfl)
      case oR1_5 =>
        intro f lo hi w hb hx hf hk hrg R hR; (try replace hb := BelX.zero hb); (try simp (decide := true) only [go_sem] at hf); (try simp (decide := true) only [go_sem] at hk)
        have kk := hb.blk kV (by simp; omega)
        have e0 := kk.cell 1
        have hl := kk.lt
        go_simp
        exact hR _ _ (rpost_val rfl rfl (Below.refl _ _) rfl)
      case oR1_6 => intro f lo hi w hb hx hf hk hrg R hR; (try replace hb := BelX.zero hb); (try simp (decide := true) only [go_sem] at hf); (try simp (decide := true) only [go_sem] at hk); go_simp; exact hR _ _ (rpost_val rfl rfl (Below.refl _ _) rfl)
      case oR1_7 =>
        intro f lo hi w hb hx hf hk hrg R hR; (try replace hb := BelX.zero hb); (try simp (decide := true) only [go_sem] at hf); (try simp (decide := true) only [go_sem] at hk)
        have kk := hb.blk kV (by simp; omega)
        have e0 := kk.cell 2
        have hl := kk.lt
        go_simp
        exact hR _ _ (rpost_val rfl rfl (Below.refl _ _) rfl)
      case oR1_8 =>
        intro f lo hi w hb hx hf hk hrg R hR; (try replace hb := BelX.zero hb); (try simp (decide := true) only [go_sem] at hf); (try simp (decide := true) only [go_sem] at hk)
        obtain ⟨ca, cc, h6, -⟩ := hf
        have H6 := Lib.hid h6
        go_simp
        refine hR _ _ (rpost_none rfl (Below.refl _ _) ?_)
        (try simp (decide := true) only [go_sem])
        rw [H6.out]
      case oR1_9 => intro f lo hi w hb hx hf hk hrg R hR; (try replace hb := BelX.zero hb); (try simp (decide := true) only [go_sem] at hf); (try simp (decide := true) only [go_sem] at hk); go_simp; exact hR _ _ (rpost_val rfl rfl (Below.refl _ _) rfl)
      case oR1_10 =>
        intro f lo hi w hb hx hf hk hrg R hR; (try replace hb := BelX.zero hb); (try simp (decide := true) only [go_sem] at hf); (try simp (decide := true) only [go_sem] at hk)
        obtain ⟨⟨ca, cc, h6, own6, hlt6⟩, h8, hX0, hxw⟩ := hf
        have r3 : wr.heap.size ≤ lo 3 := (hrg.out 3 (by simp)).1.resolve_left (by decide)
        have HLT : Hid (∀ y, ca.map (·.block) = some y → lo 3 ≤ y ∧ y < hi 3) := Lib.hid (fun y e => ⟨own6.base_le y e, hlt6 y e⟩)
        have ilw : TkL w V l3 (some ⟨g, 0, none⟩) 8 := HIL.out.keepAt hxw (fun t ht b q => by rw [HNO.out t ht] at q; cases q)
        have ow := own6.mono (base' := V) (by have := be.size; omega)
        have fin := ilw.setTok h30 ⟨true, sec, -1, rt, cl, 0, ca, cc⟩ (by rw [HSN.out] at ow; exact ow)
        rw [show (⟨true, sec, -1, rt, cl, 0, ca, cc⟩ : Tk).sec.length = sn from HSN.out.symm] at fin
        simp only [Nat.zero_mul, Nat.zero_add] at fin
        obtain ⟨y0, y1, y2, y3, y4, y5, yl⟩ := row_tok ilw.own.row 0 h30
        simp only [Nat.zero_mul, Nat.zero_add] at y0 y1 y2 y3 y4 y5
        have yf := ilw.own.frozen
        have FINH := Lib.hid fin
        have H6 := Lib.hid h6
        rw [h6] at h8
        clear fin h6 own6 hlt6 ow ilw r3 hxw
        go_simp
        refine hR _ _ (rpost_some rfl rfl (touch_grown ((((((grownBy_set _ g _ _).trans (grownBy_set _ g _ _)).trans (grownBy_set _ g _ _)).trans (grownBy_set _ g _ _)).trans (grownBy_set _ g _ _)).trans (grownBy_set _ g _ _)) (List.mem_singleton.2 rfl) hX0.1 hX0.2) ?_)
        (try simp (decide := true) only [go_sem])
        exact ⟨ca, cc, HLT.out, FINH.out⟩
      case hcl =>
        refine ⟨Closed.true _ _ _ _, Closed.true _ _ _ _, Closed.true _ _ _ _, ?cR1_3, Closed.true _ _ _ _, Closed.true _ _ _ _, Closed.true _ _ _ _, Closed.true _ _ _ _, ?cR1_8, Closed.true _ _ _ _, ?cR1_10, ?cR1_11, trivial⟩
        · exact fun f lo hi v b0 b1 w w' h hs hB hown hU hX => by
            obtain ⟨ca, cc, h1, own, lt⟩ := h
            exact ⟨ca, cc, h1, own.keep fun b hb hl _ => hown b hl (lt b (by rw [hb]; rfl)), lt⟩
        · exact fun _ _ _ _ _ _ _ _ h _ _ _ _ _ => h
        · exact fun f lo hi v b0 b1 w w' h hs hB hown hU hX => by
            obtain ⟨ca, cc, h1, h2⟩ := h
            refine ⟨ca, cc, h1, h2.keepAt (hX 0 _ rfl (by simp) g (Nat.le_refl _) (Nat.lt_succ_self _)) fun t ht b q => ?_⟩
            rcases List.mem_or_eq_of_mem_set ht with e | e
            · rw [HNO.out t e] at q; cases q
            · rw [e] at q; exact hU 3 (by simp) b (h1 b q).1 (h1 b q).2
        · exact fun f lo hi v b0 b1 w w' h hs hB hown hU hX => by
            obtain ⟨⟨rfl, rfl⟩, h⟩ := h
            exact ⟨⟨rfl, rfl⟩, (hown _ (Nat.le_refl _) (Nat.lt_succ_self _)).trans h⟩
      intro f lo hi W7 hbr hx hf hk hrg; (try replace hbr := BelX.zero hbr); clear hx; (try simp (decide := true) only [go_sem] at hf); (try simp (decide := true) only [go_sem] at hk)
      obtain ⟨ca, cc, -, fin⟩ := hf
      have hb7 : RowKit.Below V w W7 := ⟨hbr.1.trans be.os, hbr.2.1.trans be.tape, hbr.2.2.1.trans be.output, Nat.le_trans be.size hbr.2.2.2.1, fun k hk => (hbr.2.2.2.2 k ⟨by omega, fun r hr => by simp at hr; subst hr; simp only; omega⟩).trans (be.block k hk)⟩
      have HK : Hid ((l3.set 0 ⟨true, sec, -1, rt, cl, 0, ca, cc⟩).map Tk.key = newK sec rt cl) := Lib.hid (by
        apply List.ext_getElem
        · simp [newK, h3.out]
        · intro k k1 k2
          have hk3 : k < l3.length := by simpa using k1
          have hk8 : k < 8 := by rw [← h3.out]; exact hk3
          simp only [List.getElem_map]
          cases k with
          | zero => rw [List.getElem_set_self]; rfl
          | succ k =>
            rw [List.getElem_set_ne (by omega), hfr.out (k + 1) hk3 hk8]
            show freeK = (List.replicate 7 freeK)[k]'(by simp; omega)
            rw [List.getElem_replicate])
      go_simp
      clear hk
      go_wp2_with fail
      go_ret
      exact ⟨some ⟨g, 0, none⟩, 8, _, rfl, HK, Lib.hid (by rw [List.length_set]; exact h3.out.symm), by rw [hVV]; exact fin, by rw [hVV]; exact hb7⟩
end Go.Proofs.Ytgngmmmdhhjbhaa
