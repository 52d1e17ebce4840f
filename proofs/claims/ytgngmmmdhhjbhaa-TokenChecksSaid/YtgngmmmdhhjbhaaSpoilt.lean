/- signalbrokermake.Spoilt: some bytes come back, at most one more than came in -/
import Derived.Test.YtgngmmmdhhjbhaaApr
import Derived.Test.YtgngmmmdhhjbhaaMk

import Derived.StillTailTactics
namespace Go.Proofs.Ytgngmmmdhhjbhaa
open Go.RowKit
set_option maxRecDepth 100000

theorem slice_from {w : World} {g k cap : Nat} {l : List UInt8} (hb : Byt w (some ⟨g, 0, none⟩) l) (hk : k ≤ l.length) (hn : l.length ≤ cap) :
    ∃ a, (if k = cap then (some (⟨g, 0, none⟩ : Addr)) else some ⟨g, k, none⟩) = a ∧ Byt w a (l.drop k) := by
  refine ⟨_, rfl, ?_⟩
  by_cases h : k = cap
  · rw [if_pos h, List.drop_of_length_le (by omega)]
    exact Byt.nil _ _
  · rw [if_neg h]
    have := hb.drop k
    simpa using this

def RetB (w : World) (n : Nat) (e : Ending) (w' : World) : Prop := ∃ a' cap' l', e = .returned (.slice a' (List.length l') cap') ∧ Byt w' a' l' ∧ l'.length ≤ n ∧ l'.length ≤ cap' ∧ Below w.heap.size w w'

theorem RetB.mk {w w' : World} {n m cap : Nat} {a : Option Addr} (l : List UInt8) (hb : Byt w' a l) (hm : m = l.length) (hl : l.length ≤ n) (hc : m ≤ cap) (bel : Below w.heap.size w w') : RetB w n (.returned (.slice a m cap)) w' :=
  ⟨a, cap, l, by rw [hm], hb, hl, by omega, bel⟩
theorem byte_mod (x : Int) : Value.int .u8 (x % 256) = encB (UInt8.ofNat (x % 256).toNat) := by
  unfold encB
  congr 1
  simp
  omega

set_option maxHeartbeats 4000000 in
theorem mk_Spoilt (a : Option Addr) (n cap : Nat) (l0 : List UInt8) (at_ by_ : Int) (w : World) (hb : Byt w a l0) (hn : n = l0.length) (hl : l0.length ≤ 1000000) :
    Calls Try.prog 37 #[.slice a n cap, .int .i64 at_, .int .i64 by_] w (RetB w (l0.length + 1)) := by
  subst hn
  by_cases h0 : l0 = []
  · subst h0
    go_enter Try.func37, Try.ntmps37
    go_wp2_with (first | (at_builtin; refine appB rfl _ _ rfl w.heap.size none 0 0 [] rfl a _ _ [] rfl (Own.nil _ _ _ _) hb rfl 0 (by omega) (by omega) (Nat.le_refl _) ?_; intro b1 cap1 w1 own1 g1 bl1; have be1 := bl1 w (Below.refl _ _)))
    go_ret
    exact ⟨_, _, [UInt8.ofNat (by_ % 256).toNat], rfl, byt_new (by rw [byte_mod]; rfl), by simp, by simp, (by repeat (first | (with_reducible refine Below.setCell ?_ ?_ _) | (with_reducible refine Below.alloc ?_ ?_ _) | (with_reducible refine Below.drew ?_) | (with_reducible refine below_drewN ?_ _) | (with_reducible exact Below.refl _ _) | (with_reducible refine Below.trans ?_ (Below.mono be1 ?_)) | (focus (simp; done)) | (focus (simp; omega)) | (focus omega) | (focus (have q0 := Below.size be1; (try simp at q0); (try simp); omega))))⟩
  · have hpos : 1 ≤ l0.length := by
      rcases l0 with _ | ⟨x, l0⟩
      · exact absurd rfl h0
      · simp
    clear h0
    obtain ⟨k, Ek, k0, k1⟩ := modName at_ l0.length (by omega)
    obtain ⟨m, Em, m0, m1⟩ := modName (wrap64 (by_.tdiv 256)) 4 (by omega)
    obtain ⟨k, rfl⟩ := Int.eq_ofNat_of_zero_le k0
    have hm : m = 0 ∨ m = 1 ∨ m = 2 ∨ m = 3 := by omega
    have HN : ((l0.length : Int) == 0) = false := by rw [beq_eq_false_iff_ne]; omega
    rcases hm with rfl | rfl | rfl | rfl
    all_goals
      go_enter Try.func37, Try.ntmps37
      go_wp2_with (first | (at_builtin; refine appB rfl _ _ rfl w.heap.size none 0 0 [] rfl a _ _ l0 rfl (Own.nil _ _ _ _) hb rfl l0.length (by omega) (by omega) (Nat.le_refl _) ?_; intro b1 cap1 w1 own1 g1 bl1; have be1 := bl1 w (Below.refl _ _); rw [List.nil_append] at own1; obtain ⟨g, rfl, hg1, hg2⟩ := own1.open_ hpos; have cl := own1.cap_le; have hc := own1.cell k (by simp; omega); have hfz := own1.frozen k; clear g1 bl1) | (go_at_call 17; (with_reducible refine (mk_ModE Ek.out _ (by omega) (by omega)).mono ?_); rintro e w' ⟨rfl, rfl⟩) | (go_at_call 17; (with_reducible refine (mk_ModE Em.out _ (by omega) (by omega)).mono ?_); rintro e w' ⟨rfl, rfl⟩))
    · go_ret
      exact RetB.mk _ ((own1.setB k _ _ (byte_mod by_)).byt) (by simp) (by simp) cl (by repeat (first | (with_reducible refine Below.setCell ?_ ?_ _) | (with_reducible refine Below.alloc ?_ ?_ _) | (with_reducible refine Below.drew ?_) | (with_reducible refine below_drewN ?_ _) | (with_reducible exact Below.refl _ _) | (with_reducible refine Below.trans ?_ (Below.mono be1 ?_)) | (focus (simp; done)) | (focus (simp; omega)) | (focus omega) | (focus (have q0 := Below.size be1; (try simp at q0); (try simp); omega))))
    · have q1 : k ≤ cap1 := by omega
      have q2 : k + 1 ≤ l0.length := by omega
      have q3 : k + 1 ≤ cap1 := by omega
      have q4 : IntKind.i64.wrap ((k : Int) + 1) = (k : Int) + 1 := by rw [IntKind.wrap_i64]; omega
      have q5 : ((k : Int) + 1).toNat = k + 1 := by omega
      have q6 : (0 : Int) ≤ (k : Int) + 1 := by omega
      have q7 : (k : Int) + 1 ≤ (l0.length : Int) := by omega
      have q8 : (k : Int) ≤ (cap1 : Int) := by omega
      by_cases hkc : cap1 = k + 1
      · have hkd : k + 1 = cap1 := hkc.symm
        clear hkc q3
        go_still_tail 7, (by kernel_rfl)
        go_wp2_with (first | (at_builtin; refine appB rfl _ _ rfl w.heap.size (some ⟨g, 0, none⟩) k cap1 (l0.take k) rfl _ _ _ [] rfl (own1.takeB k (by omega)) (Byt.nil _ _) (by first | rfl | (simp; done) | (simp; omega)) k (by first | rfl | omega) (by omega) be1.size ?_; intro b2 cap2 w2 own2 g2 bl2))
        go_ret
        exact RetB.mk _ own2.byt (by simp; omega) (by simp; omega) own2.cap_le (bl2 _ ⟨be1.os, be1.tape, be1.output, be1.size, be1.block⟩)
      · have hkd : k + 1 < cap1 := by omega
        go_still_tail 7, (by kernel_rfl)
        go_wp2_with (first | (at_builtin; refine appB rfl _ _ rfl w.heap.size (some ⟨g, 0, none⟩) k cap1 (l0.take k) rfl (some ⟨g, k + 1, none⟩) (l0.length - (k + 1)) (cap1 - (k + 1)) (l0.drop (k + 1)) rfl (own1.takeB k (by omega)) (by have := own1.byt.drop (k + 1); rw [Nat.zero_add] at this; exact this) (by simp) (l0.length - 1) (by omega) (by omega) be1.size ?_; intro b2 cap2 w2 own2 g2 bl2))
        go_ret
        exact RetB.mk _ own2.byt (by simp; omega) (by simp; omega) own2.cap_le (bl2 _ ⟨be1.os, be1.tape, be1.output, be1.size, be1.block⟩)
    · have q1 : k ≤ cap1 := by omega
      have q8 : (k : Int) ≤ (cap1 : Int) := by omega
      have q9 : (k : Int) ≤ (l0.length : Int) := by omega
      have hkd : k < cap1 := by omega
      obtain ⟨z, hz⟩ : ∃ z : UInt8, Value.int .u8 (IntKind.u8.wrap by_) = encB z := ⟨_, by rw [show IntKind.u8.wrap by_ = by_ % 256 by simp [IntKind.wrap, IntKind.signed, IntKind.bits]]; exact byte_mod by_⟩
      have HZ := Lib.hid hz
      clear hz
      apply wp_region_tab [] 13 59 [some 46, some 47, some 48, some 49, some 50, some 51, some 52, some 53, some 54, some 55, some 56, some 57, some 6] [⟨[], [], [], []⟩, ⟨[], [], [], []⟩, ⟨[0, 1], [0, 1], [0, 1], []⟩, ⟨[0, 1, 2], [2], [2], []⟩, ⟨[], [], [], []⟩, ⟨[4], [4], [4], []⟩, ⟨[4, 5], [5], [5], []⟩, ⟨[0, 1, 2, 3, 4, 5, 6], [3, 6], [3, 6], [3]⟩, ⟨[], [], [], []⟩, ⟨[], [], [], []⟩, ⟨[8, 9], [8, 9], [8, 9], []⟩, ⟨[0, 1, 2, 3, 4, 5, 6, 7, 8, 9, 10], [3, 7, 10], [7, 10], [3, 7]⟩, ⟨[0, 1, 2, 3, 4, 5, 6, 7, 8, 9, 10, 11], [11], [11], []⟩] [0, 1, 2, 3, 4, 5, 6, 7, 8, 9, 10, 11, 12] [11, 12] [psiTrue, psiTrue, psiTrue, (fun f lo hi v l h W => ∃ a c, v = .slice a k c ∧ Own W l 5 1 a k c ((l0.take k).map encB) ∧ ∀ x, a.map (·.block) = some x → x < h), psiTrue, psiTrue, (fun f lo hi v l h W => ∃ b, v = .slice (some ⟨b, 0, none⟩) 1 1 ∧ l ≤ b ∧ b < h ∧ Byt W (some ⟨b, 0, none⟩) [z]), (fun f lo hi v l h W => ∃ a c, v = .slice a (k + 1) c ∧ Own W 0 5 1 a (k + 1) c ((l0.take k ++ [z]).map encB) ∧ ∀ x, a.map (·.block) = some x → (lo (3) ≤ x ∧ x < hi (3)) ∨ (l ≤ x ∧ x < h)), psiTrue, psiTrue, psiTrue, (fun f lo hi v l h W => ∃ a c, v = .slice a (l0.length + 1) c ∧ l0.length + 1 ≤ c ∧ Byt W a (l0.take k ++ [z] ++ l0.drop k) ∧ ∀ x, a.map (·.block) = some x → (lo (3) ≤ x ∧ x < hi (3)) ∨ (lo (7) ≤ x ∧ x < hi (7)) ∨ (l ≤ x ∧ x < h)), (fun f lo hi v l h W => v = f 11)] [kVal _, kVal _, kVal _, kTrue, kVal _, kVal _, kTrue, kTrue, kVal _, kVal _, kVal _, kTrue, kTrue]
      · kernel_rfl
      · kernel_rfl
      · rfl
      · rfl
      · exact trivial
      · exact trivial
      refine ⟨?oR1_0, ?oR1_1, ?oR1_2, ?oR1_3, ?oR1_4, ?oR1_5, ?oR1_6, ?oR1_7, ?oR1_8, ?oR1_9, ?oR1_10, ?oR1_11, ?oR1_12, trivial⟩
      case oR1_0 => intro f lo hi w hb hx hf hk hrg R hR; (try replace hb := BelX.zero hb); (try simp (decide := true) only [go_sem] at hf); (try simp (decide := true) only [go_sem] at hk); go_simp; exact hR _ _ (rpost_val rfl rfl (Below.refl _ _) rfl)
      case oR1_1 => intro f lo hi w hb hx hf hk hrg R hR; (try replace hb := BelX.zero hb); (try simp (decide := true) only [go_sem] at hf); (try simp (decide := true) only [go_sem] at hk); go_simp; exact hR _ _ (rpost_val rfl rfl (Below.refl _ _) rfl)
      case oR1_2 => intro f lo hi w hb hx hf hk hrg R hR; (try replace hb := BelX.zero hb); (try simp (decide := true) only [go_sem] at hf); (try simp (decide := true) only [go_sem] at hk); go_simp; exact hR _ _ (rpost_val rfl rfl (Below.refl _ _) rfl)
      case oR1_3 =>
        intro f lo hi w hb hx hf hk hrg R hR; (try replace hb := BelX.zero hb); (try simp (decide := true) only [go_sem] at hf); (try simp (decide := true) only [go_sem] at hk)
        have hbw := own1.byt.below hb (Nat.le_refl _)
        refine obl_appB w.heap.size none 0 0 [] rfl (some ⟨g, 0, none⟩) k cap1 (l0.take k) ?_ (Own.nil _ _ _ _) (hbw.take k) (by simp; omega) k (by omega) (by omega) (Nat.le_refl _) ?_
        · go_simp
        intro b2 c2 w2 own2 g2 bl2
        refine hR _ _ (rpost_none rfl g2.below0 ?_)
        (try simp (decide := true) only [go_sem])
        exact ⟨_, _, rfl, own2, own2.lt'⟩
      case oR1_4 => intro f lo hi w hb hx hf hk hrg R hR; (try replace hb := BelX.zero hb); (try simp (decide := true) only [go_sem] at hf); (try simp (decide := true) only [go_sem] at hk); go_simp; exact hR _ _ (rpost_val rfl rfl (Below.refl _ _) rfl)
      case oR1_5 => intro f lo hi w hb hx hf hk hrg R hR; (try replace hb := BelX.zero hb); (try simp (decide := true) only [go_sem] at hf); (try simp (decide := true) only [go_sem] at hk); go_simp; exact hR _ _ (rpost_val rfl rfl (Below.refl _ _) rfl)
      case oR1_6 =>
        intro f lo hi w hb hx hf hk hrg R hR; (try replace hb := BelX.zero hb); (try simp (decide := true) only [go_sem] at hf); (try simp (decide := true) only [go_sem] at hk)
        go_simp
        refine hR _ _ (rpost_none rfl (by repeat (first | (with_reducible refine Below.setCell ?_ ?_ _) | (with_reducible refine Below.alloc ?_ ?_ _) | (with_reducible refine Below.drew ?_) | (with_reducible refine below_drewN ?_ _) | (with_reducible exact Below.refl _ _) | (focus (simp; done)) | (focus (simp; omega)) | (focus omega))) ?_)
        (try simp (decide := true) only [go_sem])
        exact ⟨_, rfl, Nat.le_refl _, by simp, byt_new (by rw [HZ.out]; rfl)⟩
      case oR1_7 =>
        intro f lo hi w hb hx hf hk hrg R hR; (try replace hb := BelX.zero hb); (try simp (decide := true) only [go_sem] at hf); (try simp (decide := true) only [go_sem] at hk)
        obtain ⟨⟨a3, c3, h3, own3, lt3⟩, b6, h6, h6a, h6b, byt6⟩ := hf
        refine obl_appB (lo 3) a3 k c3 (l0.take k) ?_ (some ⟨b6, 0, none⟩) 1 1 [z] ?_ own3 byt6 rfl (k + 1) rfl (by omega) (by have := hrg.out 3 (by simp); omega) ?_
        · go_simp
        · go_simp
        intro b2 c2 w2 own2 g2 bl2
        refine hR _ _ (rpost_some rfl rfl (g2.touch fun x hx => ⟨3, by simp, (own3.base_le x hx), lt3 x hx⟩) ?_)
        (try simp (decide := true) only [go_sem])
        refine ⟨_, _, rfl, own2.mono (Nat.zero_le _), fun x hx => ?_⟩
        rcases g2.2.1 with e | e
        · exact .inl ⟨own3.base_le x (e ▸ hx), lt3 x (e ▸ hx)⟩
        · rw [e] at hx
          exact .inr ⟨by injection hx with hx; omega, own2.lt' x (e ▸ hx)⟩
      case oR1_8 => intro f lo hi w hb hx hf hk hrg R hR; (try replace hb := BelX.zero hb); (try simp (decide := true) only [go_sem] at hf); (try simp (decide := true) only [go_sem] at hk); go_simp; exact hR _ _ (rpost_val rfl rfl (Below.refl _ _) rfl)
      case oR1_9 => intro f lo hi w hb hx hf hk hrg R hR; (try replace hb := BelX.zero hb); (try simp (decide := true) only [go_sem] at hf); (try simp (decide := true) only [go_sem] at hk); go_simp; exact hR _ _ (rpost_val rfl rfl (Below.refl _ _) rfl)
      case oR1_10 => intro f lo hi w hb hx hf hk hrg R hR; (try replace hb := BelX.zero hb); (try simp (decide := true) only [go_sem] at hf); (try simp (decide := true) only [go_sem] at hk); go_simp; exact hR _ _ (rpost_val rfl rfl (Below.refl _ _) rfl)
      case oR1_11 =>
        intro f lo hi w hb hx hf hk hrg R hR; (try replace hb := BelX.zero hb); (try simp (decide := true) only [go_sem] at hf); (try simp (decide := true) only [go_sem] at hk)
        obtain ⟨a7, c7, h7, own7, lt7⟩ := hf
        have hbw := own1.byt.below hb (Nat.le_refl _)
        refine obl_appB 0 a7 (k + 1) c7 (l0.take k ++ [z]) ?_ (some ⟨g, k, none⟩) (l0.length - k) (cap1 - k) (l0.drop k) ?_ own7 (by have := hbw.drop k; rw [Nat.zero_add] at this; exact this) (by simp) (l0.length + 1) (by omega) (by omega) (Nat.zero_le _) ?_
        · go_simp
        · go_simp
          omega
        intro b2 c2 w2 own2 g2 bl2
        refine hR _ _ (rpost_some rfl rfl (g2.touch fun x hx => (lt7 x hx).elim (fun h => ⟨3, by simp, h⟩) fun h => ⟨7, by simp, h⟩) ?_)
        (try simp (decide := true) only [go_sem])
        refine ⟨_, _, rfl, own2.cap_le, own2.byt, fun x hx => ?_⟩
        rcases g2.2.1 with e | e
        · exact (lt7 x (e ▸ hx)).elim (fun h => .inl h) fun h => .inr (.inl h)
        · rw [e] at hx
          exact .inr (.inr ⟨by injection hx with hx; omega, own2.lt' x (e ▸ hx)⟩)
      case oR1_12 =>
        intro f lo hi w hb hx hf hk hrg R hR; (try replace hb := BelX.zero hb); (try simp (decide := true) only [go_sem] at hf); (try simp (decide := true) only [go_sem] at hk)
        go_simp
        refine hR _ _ (rpost_none rfl (Below.refl _ _) ?_)
        (try simp (decide := true) only [go_sem])
      case hcl =>
        refine ⟨Closed.true _ _ _ _, Closed.true _ _ _ _, Closed.true _ _ _ _, ?cR1_3, Closed.true _ _ _ _, Closed.true _ _ _ _, ?cR1_6, ?cR1_7, Closed.true _ _ _ _, Closed.true _ _ _ _, Closed.true _ _ _ _, ?cR1_11, ?cR1_12, trivial⟩
        · intro f lo hi v l h w w' hp _ _ hown _ _
          obtain ⟨a, c, rfl, own, lt⟩ := hp
          exact ⟨a, c, rfl, own.keep fun b hb hl _ => hown b hl (lt b (by rw [hb]; rfl)), lt⟩
        · intro f lo hi v l h w w' hp _ _ hown _ _
          obtain ⟨b, rfl, h1, h2, hby⟩ := hp
          exact ⟨b, rfl, h1, h2, Row.keep hby fun b' off e _ => hown b' (by injection e with e; injection e with e; omega) (by injection e with e; injection e with e; omega)⟩
        · intro f lo hi v l h w w' hp _ _ hown hU _
          obtain ⟨a, c, rfl, own, lt⟩ := hp
          exact ⟨a, c, rfl, own.keep fun b hb _ _ => (lt b (by rw [hb]; rfl)).elim (fun q => hU 3 (by simp) b q.1 q.2) fun q => hown b q.1 q.2, lt⟩
        · intro f lo hi v l h w w' hp _ _ hown hU _
          obtain ⟨a, c, rfl, hcl, hby, lt⟩ := hp
          exact ⟨a, c, rfl, hcl, Row.keep hby fun b off e _ => (lt b (by rw [e]; rfl)).elim (fun q => hU 3 (by simp) b q.1 q.2) fun q => q.elim (fun q => hU 7 (by simp) b q.1 q.2) fun q => hown b q.1 q.2, lt⟩
        · exact fun _ _ _ _ _ _ _ _ h _ _ _ _ _ => h
      intro f lo hi W1 hbr hx hf hk hrg; (try replace hbr := BelX.zero hbr); clear hx; (try simp (decide := true) only [go_sem] at hf); (try simp (decide := true) only [go_sem] at hk)
      obtain ⟨⟨a11, c11, h11, cl11, hby, -⟩, h12⟩ := hf
      rw [h11] at h12
      go_simp
      go_wp2
      go_ret
      exact RetB.mk _ hby (by simp; omega) (by simp; omega) cl11 (be1.trans (hbr.mono be1.size))
    · go_ret
      exact RetB.mk (l0.take k) (own1.byt.take k) (by simp; omega) (by simp; omega) (by omega) be1
end Go.Proofs.Ytgngmmmdhhjbhaa
