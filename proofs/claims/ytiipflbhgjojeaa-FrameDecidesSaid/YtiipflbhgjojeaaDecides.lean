import Derived.Test.YtiipflbhgjojeaaAwake
import Derived.Test.YtiipflbhgjojeaaSpoilt
namespace Go.Proofs.Ytiipflbhgjojeaa
open Go.RowKit Go.Sort
set_option maxRecDepth 100000

/-- a slice of bytes that lies in a cell -/
def SlAt (w : World) (B j : Nat) : Prop := ∃ (a : Option Addr) (c : Nat) (L : List UInt8), w.cell? ⟨B, j, none⟩ = some (.slice a L.length c) ∧ Byt w a L ∧ L.length ≤ 1000 ∧ L.length ≤ c
theorem SlAt.below {w w' : World} {B j : Nat} (h : SlAt w B j) (hb : Below w.heap.size w w') (hB : B < w.heap.size) : SlAt w' B j := by
  obtain ⟨a, c, L, h1, h2, h3⟩ := h
  exact ⟨a, c, L, by rw [← h1]; exact hb.cell (p := ⟨B, j, none⟩) hB, h2.below hb (Nat.le_refl _), h3⟩

set_option maxHeartbeats 4000000 in
theorem frameDecides_walk (a0 : Option Addr) (c0 : Nat) (l0 : List UInt8) (a1 : Option Addr) (c1 : Nat) (l1 : List UInt8) (a2 : Option Addr) (c2 : Nat) (l2 : List UInt8) (kind at_ by_ cut : Int) (w : World) (h0 : Byt w a0 l0) (n0 : l0.length ≤ 9223372036854775807) (k0 : l0.length ≤ c0)
    (h1 : Byt w a1 l1) (n1 : l1.length ≤ 9223372036854775807) (k1 : l1.length ≤ c1) (h2 : Byt w a2 l2) (n2 : l2.length ≤ 9223372036854775807) (k2 : l2.length ≤ c2) :
    Calls Try.prog 5 #[.slice a0 l0.length c0, .slice a1 l1.length c1, .slice a2 l2.length c2, .int .i64 kind, .int .i64 at_, .int .i64 by_, .int .i64 cut] w fun e w' => e = .returned (.bool true) ∧ Below w.heap.size w w' := by
  by_cases s0 : l0.length ≤ 600
  · by_cases s1 : l1.length ≤ 600
    · by_cases s2 : l2.length ≤ 600
      · obtain ⟨k, Ek, kk0, kk1⟩ := modName kind 30 (by omega)
        obtain ⟨m, hm, hm1, hm2⟩ : ∃ m : Nat, (if 200 < (l1.length : Int) then (200 : Int) else (l1.length : Int)) = (m : Int) ∧ m ≤ 200 ∧ m ≤ l1.length := by
          by_cases h : l1.length ≤ 200
          · exact ⟨_, if_neg (by omega), h, Nat.le_refl _⟩
          · exact ⟨200, if_pos (by omega), by omega, by omega⟩
        have bp : Byt w a1 (l1.take m) := h1.take m
        obtain ⟨p, hp⟩ : ∃ p, l1.take m = p := ⟨_, rfl⟩
        have hpl : p.length = m := by rw [← hp, List.length_take]; omega
        rw [hp] at bp
        have HL := Lib.hid hpl
        have mc : m ≤ c1 := by omega
        clear hp hpl
        have m0 : (0 : Int) ≤ (m : Int) := by omega
        have m1 : (m : Int) ≤ (c1 : Int) := by omega
        have mw : IntKind.i64.wrap (m : Int) = (m : Int) := by rw [IntKind.wrap_i64]; omega
        obtain ⟨r, Er, r0, r1⟩ := modName cut ((m : Int) + 10 + 1) (by omega)
        obtain ⟨r, rfl⟩ := Int.eq_ofNat_of_zero_le r0
        go_enter Try.func5, Try.ntmps5
        go_wp2_with (first | (go_at_call 8; (with_reducible refine (mk_Short _ _ _ _ (by assumption)).mono ?_); rintro e w' ⟨rfl, rfl⟩))
        apply wp_region_tab [] 13 126 [some 40, some 41, some 42, some 43, some 44, some 45, some 46, some 47, some 39, some 48, some 49, some 15, some 16] [⟨[], [], [], []⟩, ⟨[0], [0], [0], []⟩, ⟨[], [], [], []⟩, ⟨[], [], [], []⟩, ⟨[3], [3], [3], []⟩, ⟨[3, 4], [4], [4], []⟩, ⟨[2, 3, 4, 5], [2, 5], [2, 5], []⟩, ⟨[0, 1, 2, 3, 4, 5, 6], [1, 6], [1, 6], []⟩, ⟨[0, 1, 2, 3, 4, 5, 6, 7], [7], [7], []⟩, ⟨[0, 1, 2, 3, 4, 5, 6, 7, 8], [7, 8], [7, 8], []⟩, ⟨[0, 1, 2, 3, 4, 5, 6, 7, 8], [7, 8], [7, 8], []⟩, ⟨[0, 1, 2, 3, 4, 5, 6, 7, 8, 9], [9], [9], []⟩, ⟨[0, 1, 2, 3, 4, 5, 6, 7, 8, 9, 10, 11], [10], [10], []⟩] [0, 1, 2, 3, 4, 5, 6, 7, 8, 9, 10, 11, 12] [7, 9, 11] [psiTrue, psiTrue, psiTrue, psiTrue, psiTrue, psiTrue, psiTrue, (fun f lo hi v b0 b1 W => ∃ a c, v = .tuple #[.slice a (m + 10) c, .int .i64 0] ∧ Own W b0 5 1 a (m + 10) c ((frm k p).map encB) ∧ ∀ x, a.map (·.block) = some x → x < b1), (fun f _ _ v _ _ _ => v = f 7), (fun f lo hi v b0 b1 W => ∃ a c, f 7 = .tuple #[.slice a (m + 10) c, .int .i64 0] ∧ v = .slice a (m + 10) c), psiTrue, (fun f _ _ v _ _ _ => v = f 9), psiTrue] [kVal _, kVal _, kVal _, kVal _, kVal _, kVal _, kVal _, kTrue, kTrue, kTrue, (fun v => v = .int .i64 0), kTrue, kVal _]
        · kernel_rfl
        · kernel_rfl
        · rfl
        · rfl
        · exact trivial
        · exact trivial
        refine ⟨?oR1_0, ?oR1_1, ?oR1_2, ?oR1_3, ?oR1_4, ?oR1_5, ?oR1_6, ?oR1_7, ?oR1_8, ?oR1_9, ?oR1_10, ?oR1_11, ?oR1_12, trivial⟩
        case oR1_0 => intro f lo hi w hb hx hf hk hrg R hR; (try replace hb := BelX.zero hb); (try simp (decide := true) only [go_sem] at hf); (try simp (decide := true) only [go_sem] at hk); go_simp; exact hR _ _ (rpost_val rfl rfl (Below.refl _ _) rfl)
        case oR1_1 => intro f lo hi w hb hx hf hk hrg R hR; (try replace hb := BelX.zero hb); (try simp (decide := true) only [go_sem] at hf); (try simp (decide := true) only [go_sem] at hk); go_simp; (with_reducible refine (mk_ModE Ek.out _ (by omega) (by omega)).mono ?_); rintro e w' ⟨rfl, rfl⟩; exact ⟨_, rfl, hR _ _ (rpost_val rfl rfl (Below.refl _ _) rfl)⟩
        case oR1_2 => intro f lo hi w hb hx hf hk hrg R hR; (try replace hb := BelX.zero hb); (try simp (decide := true) only [go_sem] at hf); (try simp (decide := true) only [go_sem] at hk); go_simp; exact hR _ _ (rpost_val rfl rfl (Below.refl _ _) rfl)
        case oR1_3 => intro f lo hi w hb hx hf hk hrg R hR; (try replace hb := BelX.zero hb); (try simp (decide := true) only [go_sem] at hf); (try simp (decide := true) only [go_sem] at hk); go_simp; exact hR _ _ (rpost_val rfl rfl (Below.refl _ _) rfl)
        case oR1_4 => intro f lo hi w hb hx hf hk hrg R hR; (try replace hb := BelX.zero hb); (try simp (decide := true) only [go_sem] at hf); (try simp (decide := true) only [go_sem] at hk); go_simp; exact hR _ _ (rpost_val rfl rfl (Below.refl _ _) rfl)
        case oR1_5 => intro f lo hi w hb hx hf hk hrg R hR; (try replace hb := BelX.zero hb); (try simp (decide := true) only [go_sem] at hf); (try simp (decide := true) only [go_sem] at hk); go_simp; exact hR _ _ (rpost_val rfl rfl (Below.refl _ _) rfl)
        case oR1_6 => intro f lo hi w hb hx hf hk hrg R hR; (try replace hb := BelX.zero hb); (try simp (decide := true) only [go_sem] at hf); (try simp (decide := true) only [go_sem] at hk); go_simp; exact hR _ _ (rpost_val rfl rfl (Below.refl _ _) rfl)
        case oR1_7 =>
          intro f lo hi w hb hx hf hk hrg R hR; (try replace hb := BelX.zero hb); (try simp (decide := true) only [go_sem] at hf); (try simp (decide := true) only [go_sem] at hk)
          go_simp
          (with_reducible refine (refencode_E k a1 _ p c1 _ (by omega) (by omega) (bp.below hb (Nat.le_refl _)) (by have := HL.out; omega) (by have := HL.out; omega)).mono ?_)
          rintro e w' ⟨a2, c2, rfl, own2, hb2⟩
          rw [HL.out] at own2 ⊢
          exact ⟨_, rfl, hR _ _ (rpost_none rfl hb2 ⟨a2, c2, rfl, own2, own2.lt'⟩)⟩
        case oR1_8 =>
          intro f lo hi w hb hx hf hk hrg R hR; (try replace hb := BelX.zero hb); (try simp (decide := true) only [go_sem] at hf); (try simp (decide := true) only [go_sem] at hk)
          go_simp
          exact hR _ _ (rpost_none rfl (Below.refl _ _) rfl)
        case oR1_9 =>
          intro f lo hi w hb hx hf hk hrg R hR; (try replace hb := BelX.zero hb); (try simp (decide := true) only [go_sem] at hf); (try simp (decide := true) only [go_sem] at hk)
          obtain ⟨⟨a2, c2, h7, -, -⟩, h8⟩ := hf
          rw [h7] at h8
          go_simp
          refine hR _ _ (rpost_none rfl (Below.refl _ _) ?_)
          (try simp (decide := true) only [go_sem])
          exact ⟨a2, c2, h7, rfl⟩
        case oR1_10 =>
          intro f lo hi w hb hx hf hk hrg R hR; (try replace hb := BelX.zero hb); (try simp (decide := true) only [go_sem] at hf); (try simp (decide := true) only [go_sem] at hk)
          obtain ⟨⟨a2, c2, h7, -, -⟩, h8⟩ := hf
          rw [h7] at h8
          go_simp
          exact hR _ _ (rpost_val rfl rfl (Below.refl _ _) rfl)
        case oR1_11 =>
          intro f lo hi w hb hx hf hk hrg R hR; (try replace hb := BelX.zero hb); (try simp (decide := true) only [go_sem] at hf); (try simp (decide := true) only [go_sem] at hk)
          go_simp
          exact hR _ _ (rpost_none rfl (Below.refl _ _) rfl)
        case oR1_12 => intro f lo hi w hb hx hf hk hrg R hR; (try replace hb := BelX.zero hb); (try simp (decide := true) only [go_sem] at hf); (try simp (decide := true) only [go_sem] at hk); go_simp; exact hR _ _ (rpost_val rfl rfl (Below.refl _ _) rfl)
        case hcl =>
          refine ⟨Closed.true _ _ _ _, Closed.true _ _ _ _, Closed.true _ _ _ _, Closed.true _ _ _ _, Closed.true _ _ _ _, Closed.true _ _ _ _, Closed.true _ _ _ _, ?cR1_7, ?cR1_8, ?cR1_9, Closed.true _ _ _ _, ?cR1_11, Closed.true _ _ _ _, trivial⟩
          · intro f lo hi v l h w w' hp _ _ hown _ _
            obtain ⟨a, c, rfl, own, lt⟩ := hp
            exact ⟨a, c, rfl, own.keep fun b hb hl _ => hown b hl (lt b (by rw [hb]; rfl)), lt⟩
          · exact fun _ _ _ _ _ _ _ _ h _ _ _ _ _ => h
          · exact fun _ _ _ _ _ _ _ _ h _ _ _ _ _ => h
          · exact fun _ _ _ _ _ _ _ _ h _ _ _ _ _ => h
        intro f lo hi w1 hbr hx hf hk hrg; (try replace hbr := BelX.zero hbr); clear hx; (try simp (decide := true) only [go_sem] at hf); (try simp (decide := true) only [go_sem] at hk)
        obtain ⟨⟨a3, c3, h7, own3, lt3⟩, ⟨a3', c3', h7', h9⟩, h11⟩ := hf
        obtain ⟨rfl, rfl⟩ : a3 = a3' ∧ c3 = c3' := by
          rw [h7] at h7'
          injection h7' with e
          have e0 := congrArg (·[0]?) e
          simp at e0
          exact e0
        rw [h9] at h11
        have b3 : Byt w1 a3 (frm k p) := own3.byt
        have cl3 := own3.cap_le
        have B1 : Below w.heap.size w w1 := hbr
        have lp := HL.out
        clear h7 h7' h9 lt3 hrg hbr
        go_simp
        clear h11 hk hm
        go_wp2_with (first | (go_at_call 16; (with_reducible refine (mk_Spoilt a3 _ c3 (frm k p) at_ by_ _ b3 (by rw [frm_len]; omega) (by rw [frm_len]; omega)).mono ?_); rintro e w4 ⟨a4, c4, l4, rfl, b4, ll4, lc4, hb4⟩; (rw [frm_len] at ll4)) | (go_at_call 10; (with_reducible refine (mk_ModE Er.out _ (by omega) (by omega)).mono ?_); rintro e w' ⟨rfl, rfl⟩))
        have z4 := hb4.size
        obtain ⟨B, hB⟩ : ∃ B, w4.heap.size = B := ⟨_, rfl⟩
        have B4 : Below w.heap.size w w4 := (by repeat (first | (with_reducible refine Below.setCell ?_ ?_ _) | (with_reducible refine Below.alloc ?_ ?_ _) | (with_reducible refine Below.drew ?_) | (with_reducible refine below_drewN ?_ _) | (with_reducible exact Below.refl _ _) | (with_reducible refine Below.trans ?_ (Below.mono hb4 ?_)) | (with_reducible refine Below.trans ?_ (Below.mono B1 ?_)) | (focus (simp; done)) | (focus (simp; omega)) | (focus omega) | (focus (have q0 := Below.size hb4; (try simp at q0); have q1 := Below.size B1; (try simp at q1); (try simp); omega))))
        have b34 := b3.below hb4 (Nat.le_refl _)
        have h04 := h0.below B4 (Nat.le_refl _)
        go_loopw [65] (fun i wr => ∃ q : Nat, q ≤ 4 ∧ i = .int .i64 q ∧ Below w.heap.size w wr ∧ B < wr.heap.size ∧ ∀ j, j < 4 → SlAt wr B j) (fun i _ => 4 - (intOf i).toNat)
        case atStart =>
          refine ⟨0, by omega, rfl, (by repeat (first | (with_reducible refine Below.setCell ?_ ?_ _) | (with_reducible refine Below.alloc ?_ ?_ _) | (with_reducible refine Below.drew ?_) | (with_reducible refine below_drewN ?_ _) | (with_reducible exact Below.refl _ _) | (with_reducible refine Below.trans ?_ (Below.mono B4 ?_)) | (focus (simp; done)) | (focus (simp; omega)) | (focus omega) | (focus (have q0 := Below.size B4; (try simp at q0); (try simp); omega)))), by simp; omega, fun j hj => ?_⟩
          have kb := Blk.new w4 22 #[.slice a0 l0.length c0, .slice a3 (m + 10) c3, .slice a4 l4.length c4, .slice a3 r c3]
          rw [hB] at kb
          have : j = 0 ∨ j = 1 ∨ j = 2 ∨ j = 3 := by omega
          rcases this with rfl | rfl | rfl | rfl
          · exact ⟨a0, c0, l0, kb.cell 0, h04.alloc _, by omega, k0⟩
          · exact ⟨a3, c3, frm k p, (kb.cell 1).trans (by rw [frm_len, lp]; rfl), b34.alloc _, by rw [frm_len]; omega, by rw [frm_len]; omega⟩
          · exact ⟨a4, c4, l4, kb.cell 2, b4.alloc _, by omega, lc4⟩
          · have hr : ((frm k p).take r).length = r := by rw [List.length_take, frm_len]; omega
            exact ⟨a3, c3, (frm k p).take r, (kb.cell 3).trans (by rw [hr]; rfl), (b34.alloc _).take r, by omega, by omega⟩
        case round =>
          obtain ⟨q, hq, rfl, bel, lB, hS⟩ := hrel
          have HS := Lib.hid hS
          clear hS
          simp only [hB]
          have HB := Lib.hid hB
          clear hB z4 b3 b4 b34 h04 own3
          by_cases hlt : q < 4
          · obtain ⟨a, c, L, q0, bL, L1, Lc⟩ := HS.out q hlt
            obtain ⟨R, hR⟩ : ∃ r, fParse L = r := ⟨_, rfl⟩
            obtain ⟨rc, rk, rp, rn, ro⟩ := R
            have h2w := h2.below bel (Nat.le_refl _)
            cases ro with
            | true =>
              have H2 : Hid (fParse (L ++ l2) = ⟨rc, rk, rp, rn, true⟩) := Lib.hid (by rw [fParse_append l2 (by rw [hR]), hR])
              obtain ⟨g1, g2⟩ := fParse_size (l := L) (by rw [hR])
              rw [hR] at g1 g2
              simp only at g1 g2
              have g1' : (1 : Int) ≤ (rn : Int) := by omega
              have g2' : (rn : Int) ≤ (L.length : Int) := by omega
              have H1 := Lib.hid hR
              clear hR g1 g2
              go_wp2_with (first | (go_at_call 17; (with_reducible refine (parse_E H1 a _ c _ bL rfl (by omega) Lc).mono ?_); rintro e w5 ⟨a5, c5, rfl, b5, hb5⟩; (have k5 := Blk.new w5 36 #[.int .i64 rc, .int .i64 rk, .slice a5 rp.length c5]; have bL5 := (bL.below hb5 (Nat.le_refl _)).alloc (.cells #[.int .i64 rc, .int .i64 rk, .slice a5 rp.length c5] 36); have h25 := (h2w.below hb5 (Nat.le_refl _)).alloc (.cells #[.int .i64 rc, .int .i64 rk, .slice a5 rp.length c5] 36); have b55 := b5.alloc (.cells #[.int .i64 rc, .int .i64 rk, .slice a5 rp.length c5] 36); obtain ⟨W5, hW5⟩ : ∃ W, W = w5.alloc (.cells #[.int .i64 rc, .int .i64 rk, .slice a5 rp.length c5] 36) := ⟨_, rfl⟩; have HW := Lib.hid hW5; clear hW5)) | (at_builtin; refine appB rfl _ _ rfl (w5.heap.size + 1) none 0 0 [] rfl a _ _ L rfl (Own.nil _ _ _ _) bL5 rfl L.length (by omega) (by omega) (by simp) ?_; intro a6 c6 w6 own6 g6 bl6; (have B6 := bl6 _ (Below.refl _ _)); (have h26 := h25.below B6 (by simp))) | (at_builtin; refine appB rfl _ _ rfl (w5.heap.size + 1) a6 _ c6 _ rfl a2 _ _ l2 rfl own6 h26 rfl (L.length + l2.length) (by omega) (by omega) (by have := B6.size; simp at this; omega) ?_; intro a7 c7 w7 own7 g7 bl7; (have B7 := bl7 _ B6); (have cl7 := own7.cap_le); (have b7 : Byt w7 a7 (L ++ l2) := own7.byt)) | (go_at_call 17; (with_reducible refine (parse_E H2 a7 _ c7 _ b7 (by simp) (by simp; omega) (by simp; omega)).mono ?_); rintro e w8 ⟨a8, c8, rfl, b8, hb8⟩; (have k8 := (k5.below B7 (by simp)).below hb8 (by have := B7.size; simp at this; omega); have f0 := k8.cell 0; have f1 := k8.cell 1; have f2 := k8.cell 2; have fl := k8.lt; have b58 := (b55.below B7 (by simp)).below hb8 (Nat.le_refl _))) | (go_at_call 18; (with_reducible refine (same_E _ _ [⟨rc, rk, rp, a5, c5⟩] [⟨rc, rk, rp, a8, c8⟩] _ _ _ _ _ (two_items b58 b8).1 (two_items b58 b8).2 (by simp) (by simp) (by simp) (by simp) rfl).mono ?_); rintro e w9 ⟨rfl, hb9⟩))
              have bq : Below wr.heap.size wr w9 := (by repeat (first | (with_reducible refine Below.setCell ?_ ?_ _) | (with_reducible refine Below.alloc ?_ ?_ _) | (with_reducible refine Below.drew ?_) | (with_reducible refine below_drewN ?_ _) | (with_reducible exact Below.refl _ _) | (with_reducible refine Below.trans ?_ (Below.mono hb9 ?_)) | (with_reducible refine Below.trans ?_ (Below.mono hb8 ?_)) | (with_reducible refine Below.trans ?_ (Below.mono B7 ?_)) | (with_reducible refine Below.trans ?_ (Below.mono hb5 ?_)) | (focus (simp; done)) | (focus (simp; omega)) | (focus omega) | (focus (have q0 := Below.size hb9; (try simp at q0); have q1 := Below.size hb8; (try simp at q1); have q2 := Below.size B7; (try simp at q2); have q3 := Below.size hb5; (try simp at q3); (try simp); omega))))
              go_roundw
              case rel => exact ⟨q + 1, by omega, by go_num, bel.trans (bq.mono bel.size), by have := bq.size; omega, fun j hj => (HS.out j hj).below bq lB⟩
              case measure => simp [intOf]; omega
            | false =>
              have g3 : (L.length : Int) < 210 := by
                by_cases h : L.length < 210
                · omega
                · have := fParse_long (l := L) (by omega); rw [hR] at this; simp at this
              obtain ⟨R2, hR2⟩ : ∃ r, fParse (L ++ l2) = r := ⟨_, rfl⟩
              obtain ⟨sc, sk, sp, sn, so⟩ := R2
              have H1 := Lib.hid hR
              have H2 := Lib.hid hR2
              clear hR hR2
              go_wp2_with (first | (go_at_call 17; (with_reducible refine (parse_E H1 a _ c _ bL rfl (by omega) Lc).mono ?_); rintro e w5 ⟨a5, c5, rfl, b5, hb5⟩; (have bL5 := (bL.below hb5 (Nat.le_refl _)).alloc (.cells #[.int .i64 rc, .int .i64 rk, .slice a5 rp.length c5] 36); have h25 := (h2w.below hb5 (Nat.le_refl _)).alloc (.cells #[.int .i64 rc, .int .i64 rk, .slice a5 rp.length c5] 36))) | (at_builtin; refine appB rfl _ _ rfl (w5.heap.size + 1) none 0 0 [] rfl a _ _ L rfl (Own.nil _ _ _ _) bL5 rfl L.length (by omega) (by omega) (by simp) ?_; intro a6 c6 w6 own6 g6 bl6; (have B6 := bl6 _ (Below.refl _ _)); (have h26 := h25.below B6 (by simp))) | (at_builtin; refine appB rfl _ _ rfl (w5.heap.size + 1) a6 _ c6 _ rfl a2 _ _ l2 rfl own6 h26 rfl (L.length + l2.length) (by omega) (by omega) (by have := B6.size; simp at this; omega) ?_; intro a7 c7 w7 own7 g7 bl7; (have B7 := bl7 _ B6); (have cl7 := own7.cap_le); (have b7 : Byt w7 a7 (L ++ l2) := own7.byt)) | (go_at_call 17; (with_reducible refine (parse_E H2 a7 _ c7 _ b7 (by simp) (by simp; omega) (by simp; omega)).mono ?_); rintro e w8 ⟨a8, c8, rfl, b8, hb8⟩))
              have bq : Below wr.heap.size wr w8 := (by repeat (first | (with_reducible refine Below.setCell ?_ ?_ _) | (with_reducible refine Below.alloc ?_ ?_ _) | (with_reducible refine Below.drew ?_) | (with_reducible refine below_drewN ?_ _) | (with_reducible exact Below.refl _ _) | (with_reducible refine Below.trans ?_ (Below.mono hb8 ?_)) | (with_reducible refine Below.trans ?_ (Below.mono B7 ?_)) | (with_reducible refine Below.trans ?_ (Below.mono hb5 ?_)) | (focus (simp; done)) | (focus (simp; omega)) | (focus omega) | (focus (have q0 := Below.size hb8; (try simp at q0); have q1 := Below.size B7; (try simp at q1); have q2 := Below.size hb5; (try simp at q2); (try simp); omega))))
              go_roundw
              case rel => exact ⟨q + 1, by omega, by go_num, by have b9 := bel.trans (bq.mono bel.size); exact (by repeat (first | (with_reducible refine Below.setCell ?_ ?_ _) | (with_reducible refine Below.alloc ?_ ?_ _) | (with_reducible refine Below.drew ?_) | (with_reducible refine below_drewN ?_ _) | (with_reducible exact Below.refl _ _) | (with_reducible refine Below.trans ?_ (Below.mono b9 ?_)) | (focus (simp; done)) | (focus (simp; omega)) | (focus omega) | (focus (have q0 := Below.size b9; (try simp at q0); (try simp); omega)))), by have := bq.size; simp; omega, fun j hj => ((HS.out j hj).below bq lB).below (by repeat (first | (with_reducible refine Below.setCell ?_ ?_ _) | (with_reducible refine Below.alloc ?_ ?_ _) | (with_reducible refine Below.drew ?_) | (with_reducible refine below_drewN ?_ _) | (with_reducible exact Below.refl _ _) | (focus (simp; done)) | (focus (simp; omega)) | (focus omega))) (by have := bq.size; omega)⟩
              case measure => simp [intOf]; omega
          · go_wp2_with (first | (go_at_call 9; (with_reducible refine (awake_yes _).mono ?_); rintro e w7 ⟨rfl, hb7⟩))
            go_ret
            exact ⟨rfl, (by repeat (first | (with_reducible refine Below.setCell ?_ ?_ _) | (with_reducible refine Below.alloc ?_ ?_ _) | (with_reducible refine Below.drew ?_) | (with_reducible refine below_drewN ?_ _) | (with_reducible exact Below.refl _ _) | (with_reducible refine Below.trans ?_ (Below.mono hb7 ?_)) | (with_reducible refine Below.trans ?_ (Below.mono bel ?_)) | (focus (simp; done)) | (focus (simp; omega)) | (focus omega) | (focus (have q0 := Below.size hb7; (try simp at q0); have q1 := Below.size bel; (try simp at q1); (try simp); omega))))⟩
      · go_enter Try.func5, Try.ntmps5
        go_wp2_with (first | (go_at_call 8; (with_reducible refine (mk_Short _ _ _ _ (by assumption)).mono ?_); rintro e w' ⟨rfl, rfl⟩) | (go_at_call 9; (with_reducible refine (awake_yes _).mono ?_); rintro e w1 ⟨rfl, hb⟩))
        go_ret
        exact ⟨rfl, hb⟩
    · go_enter Try.func5, Try.ntmps5
      go_wp2_with (first | (go_at_call 8; (with_reducible refine (mk_Short _ _ _ _ (by assumption)).mono ?_); rintro e w' ⟨rfl, rfl⟩) | (go_at_call 9; (with_reducible refine (awake_yes _).mono ?_); rintro e w1 ⟨rfl, hb⟩))
      go_ret
      exact ⟨rfl, hb⟩
  · go_enter Try.func5, Try.ntmps5
    go_wp2_with (first | (go_at_call 8; (with_reducible refine (mk_Short _ _ _ _ (by assumption)).mono ?_); rintro e w' ⟨rfl, rfl⟩) | (go_at_call 9; (with_reducible refine (awake_yes _).mono ?_); rintro e w1 ⟨rfl, hb⟩))
    go_ret
    exact ⟨rfl, hb⟩
end Go.Proofs.Ytiipflbhgjojeaa
