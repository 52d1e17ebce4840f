import Derived.Test.YtiipflbhgjojeaaAwake
import Derived.Test.YtiipflbhgjojeaaSpoilt
import Derived.StillTactics
import Derived.StillTailTactics
namespace Go.Proofs.Ytiipflbhgjojeaa
open Go.RowKit Go.Sort
set_option maxRecDepth 100000

theorem lit6b {x y k1 k2 : Int} (h1 : x = k1 % 256) (h2 : y = k2 % 256) : (#[.int .u8 90, .int .u8 165, .int .u8 1, .int .u8 2, .int .u8 x, .int .u8 y] : Array Value).toList = [0x5a, 0xa5, 1, 2, byt k1, byt k2].map encB := by
  rw [enc_byt h1, enc_byt h2]; rfl
set_option maxHeartbeats 4000000 in
theorem frameParses_walk (a0 : Option Addr) (c0 : Nat) (l0 : List UInt8) (a1 : Option Addr) (c1 : Nat) (l1 : List UInt8) (kind at_ by_ : Int) (w : World) (h0 : Byt w a0 l0) (n0 : l0.length ≤ 9223372036854775807) (k0 : l0.length ≤ c0)
    (h1 : Byt w a1 l1) (n1 : l1.length ≤ 9223372036854775807) (k1 : l1.length ≤ c1) :
    Calls Try.prog 4 #[.slice a0 l0.length c0, .slice a1 l1.length c1, .int .i64 kind, .int .i64 at_, .int .i64 by_] w fun e w' => e = .returned (.bool true) ∧ Below w.heap.size w w' := by
  by_cases s0 : l0.length ≤ 600
  · by_cases s1 : l1.length ≤ 600
    · obtain ⟨k, Ek, kk0, kk1⟩ := modName kind 30 (by omega)
      obtain ⟨m, hm, hm1, hm2⟩ : ∃ m : Nat, (if 200 < (l1.length : Int) then (200 : Int) else (l1.length : Int)) = (m : Int) ∧ m ≤ 200 ∧ m ≤ l1.length := by
        by_cases h : l1.length ≤ 200
        · exact ⟨_, if_neg (by omega), h, Nat.le_refl _⟩
        · exact ⟨200, if_pos (by omega), by omega, by omega⟩
      have bp : Byt w a1 (l1.take m) := h1.take m
      obtain ⟨p, hp⟩ : ∃ p, l1.take m = p := ⟨_, rfl⟩
      have hpl : p.length = m := by rw [← hp, List.length_take]; omega
      rw [hp] at bp
      have HL := Lib.hid hpl
      have mc : m ≤ c1 := by omega
      clear hp hpl
      have m0 : (0 : Int) ≤ (m : Int) := by omega
      have m1 : (m : Int) ≤ (c1 : Int) := by omega
      go_enter Try.func4, Try.ntmps4
      go_wp2_with (first | (go_at_call 8; (with_reducible refine (mk_Short _ _ _ _ (by assumption)).mono ?_); rintro e w' ⟨rfl, rfl⟩))
      apply wp_region_tab [] 13 74 [some 24, some 25, some 26, some 27, some 28, some 29, some 30, some 31, some 23, some 32, some 33, some 11, some 12] [⟨[], [], [], []⟩, ⟨[0], [0], [0], []⟩, ⟨[], [], [], []⟩, ⟨[], [], [], []⟩, ⟨[3], [3], [3], []⟩, ⟨[3, 4], [4], [4], []⟩, ⟨[2, 3, 4, 5], [2, 5], [2, 5], []⟩, ⟨[0, 1, 2, 3, 4, 5, 6], [1, 6], [1, 6], []⟩, ⟨[0, 1, 2, 3, 4, 5, 6, 7], [7], [7], []⟩, ⟨[0, 1, 2, 3, 4, 5, 6, 7, 8], [7, 8], [7, 8], []⟩, ⟨[0, 1, 2, 3, 4, 5, 6, 7, 8], [7, 8], [7, 8], []⟩, ⟨[0, 1, 2, 3, 4, 5, 6, 7, 8, 9], [9], [9], []⟩, ⟨[0, 1, 2, 3, 4, 5, 6, 7, 8, 9, 10, 11], [10], [10], []⟩] [0, 1, 2, 3, 4, 5, 6, 7, 8, 9, 10, 11, 12] [7, 9, 11] [psiTrue, psiTrue, psiTrue, psiTrue, psiTrue, psiTrue, psiTrue, (fun f lo hi v b0 b1 W => ∃ a c, v = .tuple #[.slice a (m + 10) c, .int .i64 0] ∧ Own W b0 5 1 a (m + 10) c ((frm k p).map encB) ∧ ∀ x, a.map (·.block) = some x → x < b1), (fun f _ _ v _ _ _ => v = f 7), (fun f lo hi v b0 b1 W => ∃ a c, f 7 = .tuple #[.slice a (m + 10) c, .int .i64 0] ∧ v = .slice a (m + 10) c), psiTrue, (fun f _ _ v _ _ _ => v = f 9), psiTrue] [kVal _, kVal _, kVal _, kVal _, kVal _, kVal _, kVal _, kTrue, kTrue, kTrue, (fun v => v = .int .i64 0), kTrue, kVal _]
      · kernel_rfl
      · kernel_rfl
      · rfl
      · rfl
      · exact trivial
      · exact trivial
      refine ⟨?oR1_0, ?oR1_1, ?oR1_2, ?oR1_3, ?oR1_4, ?oR1_5, ?oR1_6, ?oR1_7, ?oR1_8, ?oR1_9, ?oR1_10, ?oR1_11, ?oR1_12, trivial⟩
      case oR1_0 => intro f lo hi w hb hx hf hk hrg R hR; (try replace hb := BelX.zero hb); (try simp (decide := true) only [go_sem] at hf); (try simp (decide := true) only [go_sem] at hk); go_simp; exact hR _ _ (rpost_val rfl rfl (Below.refl _ _) rfl)
      case oR1_1 => intro f lo hi w hb hx hf hk hrg R hR; (try replace hb := BelX.zero hb); (try simp (decide := true) only [go_sem] at hf); (try simp (decide := true) only [go_sem] at hk); go_simp; (with_reducible refine (mk_ModE Ek.out _ (by omega) (by omega)).mono ?_); rintro e w' ⟨rfl, rfl⟩; exact ⟨_, rfl, hR _ _ (rpost_val rfl rfl (Below.refl _ _) rfl)⟩
      case oR1_2 => intro f lo hi w hb hx hf hk hrg R hR; (try replace hb := BelX.zero hb); (try simp (decide := true) only [go_sem] at hf); (try simp (decide := true) only [go_sem] at hk); go_simp; exact hR _ _ (rpost_val rfl rfl (Below.refl _ _) rfl)
      case oR1_3 => intro f lo hi w hb hx hf hk hrg R hR; (try replace hb := BelX.zero hb); (try simp (decide := true) only [go_sem] at hf); (try simp (decide := true) only [go_sem] at hk); go_simp; exact hR _ _ (rpost_val rfl rfl (Below.refl _ _) rfl)
      case oR1_4 => intro f lo hi w hb hx hf hk hrg R hR; (try replace hb := BelX.zero hb); (try simp (decide := true) only [go_sem] at hf); (try simp (decide := true) only [go_sem] at hk); go_simp; exact hR _ _ (rpost_val rfl rfl (Below.refl _ _) rfl)
      case oR1_5 => intro f lo hi w hb hx hf hk hrg R hR; (try replace hb := BelX.zero hb); (try simp (decide := true) only [go_sem] at hf); (try simp (decide := true) only [go_sem] at hk); go_simp; exact hR _ _ (rpost_val rfl rfl (Below.refl _ _) rfl)
      case oR1_6 => intro f lo hi w hb hx hf hk hrg R hR; (try replace hb := BelX.zero hb); (try simp (decide := true) only [go_sem] at hf); (try simp (decide := true) only [go_sem] at hk); go_simp; exact hR _ _ (rpost_val rfl rfl (Below.refl _ _) rfl)
      case oR1_7 =>
        intro f lo hi w hb hx hf hk hrg R hR; (try replace hb := BelX.zero hb); (try simp (decide := true) only [go_sem] at hf); (try simp (decide := true) only [go_sem] at hk)
        go_simp
        (with_reducible refine (refencode_E k a1 _ p c1 _ (by omega) (by omega) (bp.below hb (Nat.le_refl _)) (by have := HL.out; omega) (by have := HL.out; omega)).mono ?_)
        rintro e w' ⟨a2, c2, rfl, own2, hb2⟩
        rw [HL.out] at own2 ⊢
        exact ⟨_, rfl, hR _ _ (rpost_none rfl hb2 ⟨a2, c2, rfl, own2, own2.lt'⟩)⟩
      case oR1_8 =>
        intro f lo hi w hb hx hf hk hrg R hR; (try replace hb := BelX.zero hb); (try simp (decide := true) only [go_sem] at hf); (try simp (decide := true) only [go_sem] at hk)
        go_simp
        exact hR _ _ (rpost_none rfl (Below.refl _ _) rfl)
      case oR1_9 =>
        intro f lo hi w hb hx hf hk hrg R hR; (try replace hb := BelX.zero hb); (try simp (decide := true) only [go_sem] at hf); (try simp (decide := true) only [go_sem] at hk)
        obtain ⟨⟨a2, c2, h7, -, -⟩, h8⟩ := hf
        rw [h7] at h8
        go_simp
        refine hR _ _ (rpost_none rfl (Below.refl _ _) ?_)
        (try simp (decide := true) only [go_sem])
        exact ⟨a2, c2, h7, rfl⟩
      case oR1_10 =>
        intro f lo hi w hb hx hf hk hrg R hR; (try replace hb := BelX.zero hb); (try simp (decide := true) only [go_sem] at hf); (try simp (decide := true) only [go_sem] at hk)
        obtain ⟨⟨a2, c2, h7, -, -⟩, h8⟩ := hf
        rw [h7] at h8
        go_simp
        exact hR _ _ (rpost_val rfl rfl (Below.refl _ _) rfl)
      case oR1_11 =>
        intro f lo hi w hb hx hf hk hrg R hR; (try replace hb := BelX.zero hb); (try simp (decide := true) only [go_sem] at hf); (try simp (decide := true) only [go_sem] at hk)
        go_simp
        exact hR _ _ (rpost_none rfl (Below.refl _ _) rfl)
      case oR1_12 => intro f lo hi w hb hx hf hk hrg R hR; (try replace hb := BelX.zero hb); (try simp (decide := true) only [go_sem] at hf); (try simp (decide := true) only [go_sem] at hk); go_simp; exact hR _ _ (rpost_val rfl rfl (Below.refl _ _) rfl)
      case hcl =>
        refine ⟨Closed.true _ _ _ _, Closed.true _ _ _ _, Closed.true _ _ _ _, Closed.true _ _ _ _, Closed.true _ _ _ _, Closed.true _ _ _ _, Closed.true _ _ _ _, ?cR1_7, ?cR1_8, ?cR1_9, Closed.true _ _ _ _, ?cR1_11, Closed.true _ _ _ _, trivial⟩
        · intro f lo hi v l h w w' hp _ _ hown _ _
          obtain ⟨a, c, rfl, own, lt⟩ := hp
          exact ⟨a, c, rfl, own.keep fun b hb hl _ => hown b hl (lt b (by rw [hb]; rfl)), lt⟩
        · exact fun _ _ _ _ _ _ _ _ h _ _ _ _ _ => h
        · exact fun _ _ _ _ _ _ _ _ h _ _ _ _ _ => h
        · exact fun _ _ _ _ _ _ _ _ h _ _ _ _ _ => h
      intro f lo hi w1 hbr hx hf hk hrg; (try replace hbr := BelX.zero hbr); clear hx; (try simp (decide := true) only [go_sem] at hf); (try simp (decide := true) only [go_sem] at hk)
      obtain ⟨⟨a2, c2, h7, own2, lt2⟩, ⟨a2', c2', h7', h9⟩, h11⟩ := hf
      obtain ⟨rfl, rfl⟩ : a2 = a2' ∧ c2 = c2' := by
        rw [h7] at h7'
        injection h7' with e
        have e0 := congrArg (·[0]?) e
        simp at e0
        exact e0
      rw [h9] at h11
      have b2 : Byt w1 a2 (frm k p) := own2.byt
      have cl2 := own2.cap_le
      have B1 : Below w.heap.size w w1 := hbr
      have h01 := h0.below B1 (Nat.le_refl _)
      have lp := HL.out
      clear h7 h7' h9 lt2 hrg hbr
      go_simp
      clear h11 hk
      go_wp2_with (first | (at_builtin; refine appB rfl _ _ rfl w1.heap.size (some ⟨w1.heap.size, 0, none⟩) 6 6 [0x5a, 0xa5, 1, 2, byt by_, byt at_] rfl a0 _ _ l0 rfl (own_lit (lit6b (by first | rfl | omega) (by first | rfl | omega))) (h01.alloc _) rfl (l0.length + 6) (by omega) (by omega) (by simp) ?_; intro a3 c3 w3 own3 g3 bl3; (have B3 : Below w1.heap.size w1 w3 := bl3 w1 (by repeat (first | (with_reducible refine Below.setCell ?_ ?_ _) | (with_reducible refine Below.alloc ?_ ?_ _) | (with_reducible refine Below.drew ?_) | (with_reducible refine below_drewN ?_ _) | (with_reducible exact Below.refl _ _) | (focus (simp; done)) | (focus (simp; omega)) | (focus omega)))); (have C3 : Below w.heap.size w w3 := B1.trans (B3.mono B1.size)); (have b3 := own3.byt); (have cl3 := own3.cap_le); (have h03 := h0.below C3 (Nat.le_refl _)); (have b23 := b2.below B3 (Nat.le_refl _))) | (go_at_call 15; (with_reducible refine (same_yes a0 l0 _ c0 _ h03 rfl (by omega) k0).mono ?_); rintro e w4 ⟨rfl, hb4⟩; (have b24 := b23.below hb4 (Nat.le_refl _))) | (go_at_call 15; (with_reducible refine (same_yes a2 (frm k p) _ c2 _ b24 (by rw [frm_len]; omega) (by rw [frm_len]; omega) (by rw [frm_len]; omega)).mono ?_); rintro e w5 ⟨rfl, hb5⟩; (have b25 := b24.below hb5 (Nat.le_refl _))) | (go_at_call 16; (with_reducible refine (mk_Spoilt a2 _ c2 (frm k p) at_ by_ _ b25 (by rw [frm_len]; omega) (by rw [frm_len]; omega)).mono ?_); rintro e w6 ⟨a6, c6, l6, rfl, b6, ll6, lc6, hb6⟩; (have b26 := b25.below hb6 (Nat.le_refl _); rw [frm_len] at ll6)) | (go_at_call 15; (with_reducible refine (same_yes a6 l6 _ c6 _ b6 rfl (by omega) lc6).mono ?_); rintro e w7 ⟨rfl, hb7⟩; (have b27 := b26.below hb7 (Nat.le_refl _); have C7 : Below w.heap.size w w7 := (by repeat (first | (with_reducible refine Below.setCell ?_ ?_ _) | (with_reducible refine Below.alloc ?_ ?_ _) | (with_reducible refine Below.drew ?_) | (with_reducible refine below_drewN ?_ _) | (with_reducible exact Below.refl _ _) | (with_reducible refine Below.trans ?_ (Below.mono hb7 ?_)) | (with_reducible refine Below.trans ?_ (Below.mono hb6 ?_)) | (with_reducible refine Below.trans ?_ (Below.mono hb5 ?_)) | (with_reducible refine Below.trans ?_ (Below.mono hb4 ?_)) | (with_reducible refine Below.trans ?_ (Below.mono C3 ?_)) | (focus (simp; done)) | (focus (simp; omega)) | (focus omega) | (focus (have q0 := Below.size hb7; (try simp at q0); have q1 := Below.size hb6; (try simp at q1); have q2 := Below.size hb5; (try simp at q2); have q3 := Below.size hb4; (try simp at q3); have q4 := Below.size C3; (try simp at q4); (try simp); omega)))); have D7 : Below w3.heap.size w3 w7 := (by repeat (first | (with_reducible refine Below.setCell ?_ ?_ _) | (with_reducible refine Below.alloc ?_ ?_ _) | (with_reducible refine Below.drew ?_) | (with_reducible refine below_drewN ?_ _) | (with_reducible exact Below.refl _ _) | (with_reducible refine Below.trans ?_ (Below.mono hb7 ?_)) | (with_reducible refine Below.trans ?_ (Below.mono hb6 ?_)) | (with_reducible refine Below.trans ?_ (Below.mono hb5 ?_)) | (with_reducible refine Below.trans ?_ (Below.mono hb4 ?_)) | (focus (simp; done)) | (focus (simp; omega)) | (focus omega) | (focus (have q0 := Below.size hb7; (try simp at q0); have q1 := Below.size hb6; (try simp at q1); have q2 := Below.size hb5; (try simp at q2); have q3 := Below.size hb4; (try simp at q3); (try simp); omega)))); have h07 := h0.below C7 (Nat.le_refl _))) | (at_builtin; refine appBG rfl _ _ rfl w7.heap.size none 0 0 [] rfl a2 _ _ (frm k p) rfl (Own.nil _ _ _ _) b27 (by rw [frm_len]; omega) (m + 10) (by omega) (by omega) (Nat.le_refl _) ?_; intro a8 c8 w8 own8 g8 bl8; (have B8 := bl8 w7 (Below.refl _ _)); (have h08 := h07.below B8 (Nat.le_refl _))) | (at_builtin; refine appBG rfl _ _ rfl w7.heap.size a8 _ c8 _ rfl a0 _ _ l0 rfl own8 h08 rfl (m + 10 + l0.length) (by omega) (by omega) B8.size ?_; intro a9 c9 w9 own9 g9 bl9; (have B9 := bl9 w7 B8); (have D9 : Below w3.heap.size w3 w9 := (by repeat (first | (with_reducible refine Below.setCell ?_ ?_ _) | (with_reducible refine Below.alloc ?_ ?_ _) | (with_reducible refine Below.drew ?_) | (with_reducible refine below_drewN ?_ _) | (with_reducible exact Below.refl _ _) | (with_reducible refine Below.trans ?_ (Below.mono B9 ?_)) | (with_reducible refine Below.trans ?_ (Below.mono D7 ?_)) | (focus (simp; done)) | (focus (simp; omega)) | (focus omega) | (focus (have q0 := Below.size B9; (try simp at q0); have q1 := Below.size D7; (try simp at q1); (try simp); omega))))); (have C9 : Below w.heap.size w w9 := (by repeat (first | (with_reducible refine Below.setCell ?_ ?_ _) | (with_reducible refine Below.alloc ?_ ?_ _) | (with_reducible refine Below.drew ?_) | (with_reducible refine below_drewN ?_ _) | (with_reducible exact Below.refl _ _) | (with_reducible refine Below.trans ?_ (Below.mono B9 ?_)) | (with_reducible refine Below.trans ?_ (Below.mono C7 ?_)) | (focus (simp; done)) | (focus (simp; omega)) | (focus omega) | (focus (have q0 := Below.size B9; (try simp at q0); have q1 := Below.size C7; (try simp at q1); (try simp); omega))))); (have cl9 := own9.cap_le)) | (go_at_call 15; (with_reducible refine (same_yes a9 (frm k p ++ l0) _ c9 _ own9.byt (by rw [List.length_append, frm_len]; omega) (by rw [List.length_append, frm_len]; omega) (by rw [List.length_append, frm_len]; omega)).mono ?_); rintro e w10 ⟨rfl, hb10⟩; (have b30 := b3.below (show Below w3.heap.size w3 w10 from (by repeat (first | (with_reducible refine Below.setCell ?_ ?_ _) | (with_reducible refine Below.alloc ?_ ?_ _) | (with_reducible refine Below.drew ?_) | (with_reducible refine below_drewN ?_ _) | (with_reducible exact Below.refl _ _) | (with_reducible refine Below.trans ?_ (Below.mono hb10 ?_)) | (with_reducible refine Below.trans ?_ (Below.mono D9 ?_)) | (focus (simp; done)) | (focus (simp; omega)) | (focus omega) | (focus (have q0 := Below.size hb10; (try simp at q0); have q1 := Below.size D9; (try simp at q1); (try simp); omega))))) (Nat.le_refl _); have C10 : Below w.heap.size w w10 := (by repeat (first | (with_reducible refine Below.setCell ?_ ?_ _) | (with_reducible refine Below.alloc ?_ ?_ _) | (with_reducible refine Below.drew ?_) | (with_reducible refine below_drewN ?_ _) | (with_reducible exact Below.refl _ _) | (with_reducible refine Below.trans ?_ (Below.mono hb10 ?_)) | (with_reducible refine Below.trans ?_ (Below.mono C9 ?_)) | (focus (simp; done)) | (focus (simp; omega)) | (focus omega) | (focus (have q0 := Below.size hb10; (try simp at q0); have q1 := Below.size C9; (try simp at q1); (try simp); omega)))))) | (go_at_call 15; (with_reducible refine (same_yes a3 _ _ c3 _ b30 (by first | (simp; done) | (simp; omega)) (by first | (simp; done) | (simp; omega)) (by first | (simp; done) | (simp; omega))).mono ?_); rintro e w11 ⟨rfl, hb11⟩; (have C11 : Below w.heap.size w w11 := (by repeat (first | (with_reducible refine Below.setCell ?_ ?_ _) | (with_reducible refine Below.alloc ?_ ?_ _) | (with_reducible refine Below.drew ?_) | (with_reducible refine below_drewN ?_ _) | (with_reducible exact Below.refl _ _) | (with_reducible refine Below.trans ?_ (Below.mono hb11 ?_)) | (with_reducible refine Below.trans ?_ (Below.mono C10 ?_)) | (focus (simp; done)) | (focus (simp; omega)) | (focus omega) | (focus (have q0 := Below.size hb11; (try simp at q0); have q1 := Below.size C10; (try simp at q1); (try simp); omega)))); have h011 := h0.below C11 (Nat.le_refl _))) | (at_builtin; refine appBG rfl _ _ rfl w11.heap.size (some ⟨w11.heap.size, 0, none⟩) 2 2 [0x5a, 0xa5] rfl a0 _ _ l0 rfl (own_lit rfl) (h011.alloc _) rfl (l0.length + 2) (by omega) (by omega) (by simp) ?_; intro a12 c12 w12 own12 g12 bl12; (have C12 : Below w.heap.size w w12 := C11.trans ((bl12 w11 (by repeat (first | (with_reducible refine Below.setCell ?_ ?_ _) | (with_reducible refine Below.alloc ?_ ?_ _) | (with_reducible refine Below.drew ?_) | (with_reducible refine below_drewN ?_ _) | (with_reducible exact Below.refl _ _) | (focus (simp; done)) | (focus (simp; omega)) | (focus omega)))).mono C11.size)); (have cl12 := own12.cap_le)) | (go_at_call 15; (with_reducible refine (same_yes a12 _ _ c12 _ own12.byt (by first | (simp; done) | (simp; omega)) (by first | (simp; done) | (simp; omega)) (by first | (simp; done) | (simp; omega))).mono ?_); rintro e w13 ⟨rfl, hb13⟩) | (go_at_call 9; (with_reducible refine (awake_yes _).mono ?_); rintro e w14 ⟨rfl, hb14⟩))
      go_ret
      exact ⟨rfl, (by repeat (first | (with_reducible refine Below.setCell ?_ ?_ _) | (with_reducible refine Below.alloc ?_ ?_ _) | (with_reducible refine Below.drew ?_) | (with_reducible refine below_drewN ?_ _) | (with_reducible exact Below.refl _ _) | (with_reducible refine Below.trans ?_ (Below.mono hb14 ?_)) | (with_reducible refine Below.trans ?_ (Below.mono hb13 ?_)) | (with_reducible refine Below.trans ?_ (Below.mono C12 ?_)) | (focus (simp; done)) | (focus (simp; omega)) | (focus omega) | (focus (have q0 := Below.size hb14; (try simp at q0); have q1 := Below.size hb13; (try simp at q1); have q2 := Below.size C12; (try simp at q2); (try simp); omega))))⟩
    · go_enter Try.func4, Try.ntmps4
      go_wp2_with (first | (go_at_call 8; (with_reducible refine (mk_Short _ _ _ _ (by assumption)).mono ?_); rintro e w' ⟨rfl, rfl⟩) | (go_at_call 9; (with_reducible refine (awake_yes _).mono ?_); rintro e w1 ⟨rfl, hb⟩))
      go_ret
      exact ⟨rfl, hb⟩
  · go_enter Try.func4, Try.ntmps4
    go_wp2_with (first | (go_at_call 8; (with_reducible refine (mk_Short _ _ _ _ (by assumption)).mono ?_); rintro e w' ⟨rfl, rfl⟩) | (go_at_call 9; (with_reducible refine (awake_yes _).mono ?_); rintro e w1 ⟨rfl, hb⟩))
    go_ret
    exact ⟨rfl, hb⟩
end Go.Proofs.Ytiipflbhgjojeaa
