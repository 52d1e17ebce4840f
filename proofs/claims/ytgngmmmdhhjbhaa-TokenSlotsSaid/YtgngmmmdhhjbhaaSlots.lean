/- signalbrokerlaw14.TokenSlots -/
import Derived.Test.YtgngmmmdhhjbhaaTkSl
namespace Go.Proofs.Ytgngmmmdhhjbhaa
set_option linter.unusedVariables false
open Go.RowKit Go.Sort
set_option maxRecDepth 100000

set_option maxHeartbeats 8000000 in
theorem tokenSlots_walk (a0 : Option Addr) (c0 : Nat) (l0 : List Int) (w1v w2v w3v : Int) (w : World) (h0 : Ints w a0 l0) (n0 : l0.length ≤ 9223372036854775807) :
    Calls Try.prog 7 #[.slice a0 l0.length c0, .int .i64 w1v, .int .i64 w2v, .int .i64 w3v] w fun e w' => e = .returned (.bool true) ∧ RowKit.Below w.heap.size w w' := by
  obtain ⟨p, Ep, p0, p1⟩ := modName w1v 8 (by decide)
  obtain ⟨L, El, L0, L1⟩ := modName w2v 40 (by decide)
  obtain ⟨now, En, now0, now1⟩ := modName w3v 30 (by decide)
  obtain ⟨p, rfl⟩ : ∃ p' : Nat, p = p' := ⟨p.toNat, by omega⟩
  have HR63 : ∀ r : Int, r = 63 ∨ r = 47 ∨ r = 7 → rV r = true := fun r h => by rcases h with rfl | rfl | rfl <;> decide
  have HRV := Lib.hid HR63
  have HS8 : Hid (8 = (secX 1000).length) := Lib.hid rfl
  have HS7 : Hid (8 = (secX 77).length) := Lib.hid rfl
  clear HR63
  go_enter Try.func7, Try.ntmps7
  go_upto_region 2 with (first | (go_at_call 12; (with_reducible refine (mk_New a0 c0 l0 _ h0 n0).mono ?_); rintro e w1 ⟨rfl, hd1, hb1⟩) | (go_at_call 14; (with_reducible refine (law_agency 0 _).mono ?_); rintro e w2 ⟨sa, sc, rt, cl, rfl, hrt, cl0, cl1, own2, hb2⟩; ((have hd2 := hd1.below hb2); (have hrv := HRV.out rt hrt))) | (go_at_call 13; (with_reducible refine (deck_Tokens _ ⟨a0, c0, l0⟩ 0 sa (secX 1000) 8 sc rt cl none 0 0 0 0 0 0 _ hd2 own2.byt HS8.out rfl hrv cl0 cl1).mono ?_); rintro e w3 ⟨kd, l, xa, xc, rfl, hn, hV, il, -, g3⟩))
  have be3 : RowKit.Below w.heap.size w w3 := deck_open (by repeat (first | (with_reducible refine Below.setCell ?_ ?_ _) | (with_reducible refine Below.alloc ?_ ?_ _) | (with_reducible refine Below.drew ?_) | (with_reducible refine below_drewN ?_ _) | (with_reducible exact Below.refl _ _) | (with_reducible refine Below.trans ?_ (Below.mono hb2 ?_)) | (with_reducible refine Below.trans ?_ (Below.mono hb1 ?_)) | (focus (simp; done)) | (focus (simp; omega)) | (focus omega) | (focus (have q0 := Below.size hb2; (try simp at q0); have q1 := Below.size hb1; (try simp at q1); (try simp); omega)))) g3
  have G := il.g hV
  have HL8 : Hid (l.length = 8) := Lib.hid hn.out.symm
  have HL8' : Hid (l.length ≤ 8) := Lib.hid (by rw [HL8.out]; exact Nat.le_refl _)
  clear hb1 hb2 g3 il own2 hd1 hd2 hrt hrv cl0 cl1 h0 HRV HS8
  go_upto_region 3 with ((go_at_call 17; (with_reducible refine (mk_ModE Ep.out _ (by decide) (by decide)).mono ?_); rintro e wz ⟨rfl, rfl⟩))
  go_upto_region 4 with ((go_at_call 17; (with_reducible refine (mk_ModE En.out _ (by decide) (by decide)).mono ?_); rintro e wz ⟨rfl, rfl⟩))
  go_upto_region 5 with (first | (go_at_call 17; (with_reducible refine (mk_ModE El.out _ (by decide) (by decide)).mono ?_); rintro e wz ⟨rfl, rfl⟩) | (go_at_call 16; (with_reducible refine (mk_Secret _ _).mono ?_); rintro e w4 ⟨sa, sc, rfl, own4, hb4⟩; ((have n4 := Lib.hid own4.none_len); (have G4 := G.below hb4))) | (go_at_call 18; (with_reducible refine (token_Derive xa l 8 xc p 0 0 L sa (secX 77) 8 sc now _ G4 hn.out own4.byt HS7.out (by decide) n4.out).mono ?_); rintro e w5 ⟨ya, m, yc, l2, s, er, rfl, hm, hm2, il2, hb5⟩))
  have be5 : RowKit.Below w.heap.size w w5 := (by repeat (first | (with_reducible refine Below.setCell ?_ ?_ _) | (with_reducible refine Below.alloc ?_ ?_ _) | (with_reducible refine Below.drew ?_) | (with_reducible refine below_drewN ?_ _) | (with_reducible exact Below.refl _ _) | (with_reducible refine Below.trans ?_ (Below.mono hb5 ?_)) | (with_reducible refine Below.trans ?_ (Below.mono hb4 ?_)) | (with_reducible refine Below.trans ?_ (Below.mono be3 ?_)) | (focus (simp; done)) | (focus (simp; omega)) | (focus omega) | (focus (have q0 := Below.size hb5; (try simp at q0); have q1 := Below.size hb4; (try simp at q1); have q2 := Below.size be3; (try simp at q2); (try simp); omega))))
  have G5 := G4.below hb5
  clear hb5 hb4 be3 own4 n4 G4 G
  by_cases her : er = 0
  · subst her
    obtain ⟨i, rfl, hi8, -, ⟨hik, hiu⟩, hlo, hy8, ⟨hiy, hpar⟩, hchk, hor⟩ := der0_chk hm.out now0 (by rw [List.length_map, HL8.out]; omega)
    obtain rfl : m = 8 := by rw [hm2.out]; simpa using hy8
    have hil : i < l.length := by simpa using hik
    have HIU : Hid (l[i].us = false) := Lib.hid (by simpa [Tk.key] using hiu)
    have HLO : Hid (∀ j (hj : j < l.length), j < i → l[j].us = true) := Lib.hid (fun j hj hji => by have := hlo j (by simpa using hj) hji; simpa [Tk.key] using this)
    have hil2 : i < l2.length := by simpa using hiy
    have HPA : Hid (l2[i].par = p) := Lib.hid (by simpa [Tk.key] using hpar)
    have T2 := il2.tks
    have HC := Lib.hid hchk
    have HO := Lib.hid hor
    clear hm hik hiu hlo hy8 hiy hpar hchk hor il2
    go_wp2_with fail
    go_loopw [140] (fun s140 wr => ∃ j : Nat, s140 = .int .i64 j ∧ j ≤ i ∧ RowKit.Below w5.heap.size w5 wr) (fun s _ => i - (intOf s).toNat)
    case atStart => exact ⟨0, rfl, by omega, (by repeat (first | (with_reducible refine Below.setCell ?_ ?_ _) | (with_reducible refine Below.alloc ?_ ?_ _) | (with_reducible refine Below.drew ?_) | (with_reducible refine below_drewN ?_ _) | (with_reducible exact Below.refl _ _) | (focus (simp; done)) | (focus (simp; omega)) | (focus omega)))⟩
    case round =>
      obtain ⟨j, rfl, hj, be⟩ := hrel
      have ht := (G5.below be).tks
      by_cases hlt : j < i
      · have kx : (j : Int) < (i : Int) := by omega
        have hjl : j < l.length := by omega
        have hj8 : (j : Int) < 8 := by omega
        obtain ⟨ba, oa, rfl⟩ := ht.open (by omega)
        obtain ⟨x0, -, -, -, -, -, xl⟩ := row_tok ht.row j hjl
        rw [HLO.out j hjl hlt] at x0
        go_wp2_with fail
        go_roundw
        case rel => exact ⟨j + 1, by go_num, by omega, be⟩
        case measure => simp [intOf]; omega
      · obtain rfl : j = i := by omega
        have T2r := T2.below be (Nat.le_refl _)
        go_upto_region 27 with (first | (go_at_call 16; (with_reducible refine (mk_Secret _ _).mono ?_); rintro e w6 ⟨sa, sc, rfl, own6, hb6⟩) | (go_at_call 33; (with_reducible refine (ref14_Bytes 1 j sa 8 sc (secX 77) _ own6.byt HS7.out (by decide)).mono ?_); rintro e w7 ⟨da, N, dc, rfl, hN, N9, own7, hb7⟩; ((have be7 : RowKit.Below w5.heap.size w5 w7 := (by repeat (first | (with_reducible refine Below.setCell ?_ ?_ _) | (with_reducible refine Below.alloc ?_ ?_ _) | (with_reducible refine Below.drew ?_) | (with_reducible refine below_drewN ?_ _) | (with_reducible exact Below.refl _ _) | (with_reducible refine Below.trans ?_ (Below.mono hb7 ?_)) | (with_reducible refine Below.trans ?_ (Below.mono hb6 ?_)) | (with_reducible refine Below.trans ?_ (Below.mono be ?_)) | (focus (simp; done)) | (focus (simp; omega)) | (focus omega) | (focus (have q0 := Below.size hb7; (try simp at q0); have q1 := Below.size hb6; (try simp at q1); have q2 := Below.size be; (try simp at q2); (try simp); omega))))); (have T27 := T2.below be7 (Nat.le_refl _)); (have N9' : N ≤ 1000000 := by omega))) | (go_at_call 32; (with_reducible refine (token_Check ya l2 8 yc 1 da (tkB 1 j (secX 77)) N dc 1 now _ T27 hm2.out own7.byt hN.out own7.cap_le N9').mono ?_); rintro e w8 ⟨i1, f, rfl, hf1, hb8⟩))
        obtain ⟨rfl, rfl⟩ : i1 = (j : Int) ∧ f = 0 := by
          have := hf1.out
          rw [HC.out] at this
          injection this with h1 h2
          exact ⟨h1.symm, h2.symm⟩
        have be8 : RowKit.Below w5.heap.size w5 w8 := (by repeat (first | (with_reducible refine Below.setCell ?_ ?_ _) | (with_reducible refine Below.alloc ?_ ?_ _) | (with_reducible refine Below.drew ?_) | (with_reducible refine below_drewN ?_ _) | (with_reducible exact Below.refl _ _) | (with_reducible refine Below.trans ?_ (Below.mono hb8 ?_)) | (with_reducible refine Below.trans ?_ (Below.mono be7 ?_)) | (focus (simp; done)) | (focus (simp; omega)) | (focus omega) | (focus (have q0 := Below.size hb8; (try simp at q0); have q1 := Below.size be7; (try simp at q1); (try simp); omega))))
        have G8 := G5.below be8
        have T28 := T2.below be8 (Nat.le_refl _)
        clear hb8 be7 hb7 hb6 own7 own6 T27 T2r hf1 be ht hN N9 N9'
        have ht8 := G8.tks
        obtain ⟨ba, oa, rfl⟩ := ht8.open (by omega)
        obtain ⟨bb, ob, rfl⟩ := T28.open (by omega)
        obtain ⟨x0, -, -, -, -, -, xl⟩ := row_tok ht8.row j hil
        obtain ⟨-, -, y2, -, -, -, yl⟩ := row_tok T28.row j hil2
        rw [HIU.out] at x0
        rw [HPA.out] at y2
        have hw := wrap_bit hi8
        have hj8 : (j : Int) < 8 := by omega
        obtain ⟨S1, hS1⟩ : ∃ S, bsum (fun a => dscK (l.map Tk.key) 8 a p) 8 = S := ⟨_, rfl⟩
        obtain ⟨S2, hS2⟩ : ∃ S, bsum (fun a => dscK (l2.map Tk.key) 8 a p) 8 = S := ⟨_, rfl⟩
        have ho := HO.out
        rw [hS1, hS2] at ho
        have HS1 := Lib.hid hS1
        have HS2 := Lib.hid hS2
        obtain ⟨P2, hP2⟩ : ∃ P : Nat, 2 ^ j = P := ⟨_, rfl⟩
        rw [hP2] at ho hw
        clear hP2 hS1 hS2
        have L2 : Hid (l2.length ≤ 8) := Lib.hid (by rw [← hm2.out]; exact Nat.le_refl _)
        have L2e : Hid (l2.length = 8) := Lib.hid hm2.out.symm
        go_wp2_with (first | (with_reducible (go_at_call 31; (with_reducible refine (token_Below (some ⟨bb, ob, none⟩) l2 8 yc p _ T28 hm2.out L2.out).mono ?_); rintro e w9 ⟨rfl, hb9⟩; ((rw [L2e.out, HS2.out]); (have ht9 := ht8.below hb9 (Nat.le_refl _))))) | (go_at_call 31; (with_reducible refine (token_Below (some ⟨ba, oa, none⟩) l 8 xc p _ ht9 hn.out HL8'.out).mono ?_); rintro e w10 ⟨rfl, hb10⟩; (rw [HL8.out, HS1.out])) | (go_at_call 11; (with_reducible refine (law_awake _).mono ?_); rintro e w11 ⟨rfl, hb11⟩))
        go_ret
        exact ⟨rfl, (by repeat (first | (with_reducible refine Below.setCell ?_ ?_ _) | (with_reducible refine Below.alloc ?_ ?_ _) | (with_reducible refine Below.drew ?_) | (with_reducible refine below_drewN ?_ _) | (with_reducible exact Below.refl _ _) | (with_reducible refine Below.trans ?_ (Below.mono hb11 ?_)) | (with_reducible refine Below.trans ?_ (Below.mono hb10 ?_)) | (with_reducible refine Below.trans ?_ (Below.mono hb9 ?_)) | (with_reducible refine Below.trans ?_ (Below.mono be8 ?_)) | (with_reducible refine Below.trans ?_ (Below.mono be5 ?_)) | (focus (simp; done)) | (focus (simp; omega)) | (focus omega) | (focus (have q0 := Below.size hb11; (try simp at q0); have q1 := Below.size hb10; (try simp at q1); have q2 := Below.size hb9; (try simp at q2); have q3 := Below.size be8; (try simp at q3); have q4 := Below.size be5; (try simp at q4); (try simp); omega))))⟩
  · have hpl : p < l.length := by rw [HL8.out]; omega
    have herr := der0_err hm.out hV.out (secX_len 77) now0 (by omega) L0 (by omega) (by rw [List.length_map]; exact hpl) her
    simp only [List.getElem_map, List.length_map, Tk.key] at herr
    have HERR := Lib.hid herr
    have zer : (er == 0) = false := by rw [beq_eq_false_iff_ne]; exact her
    clear herr hm
    go_wp2_with fail
    go_loopw [14, 46] (fun s14 s46 wr => ∃ (j : Nat) (b : Bool), s14 = .bool b ∧ s46 = .int .i64 j ∧ j ≤ 8 ∧ Hid (b = true ↔ ∀ q (hq : q < l.length), q < j → l[q].us = true) ∧ RowKit.Below w5.heap.size w5 wr) (fun _ s _ => 8 - (intOf s).toNat)
    case atStart => exact ⟨0, true, rfl, rfl, by omega, Lib.hid ⟨fun _ q _ h => absurd h (by omega), fun _ => rfl⟩, (by repeat (first | (with_reducible refine Below.setCell ?_ ?_ _) | (with_reducible refine Below.alloc ?_ ?_ _) | (with_reducible refine Below.drew ?_) | (with_reducible refine below_drewN ?_ _) | (with_reducible exact Below.refl _ _) | (focus (simp; done)) | (focus (simp; omega)) | (focus omega)))⟩
    case round =>
      obtain ⟨j, b, rfl, rfl, hj, hB, be⟩ := hrel
      have ht := (G5.below be).tks
      by_cases hlt : j < 8
      · have hjl : j < l.length := by rw [HL8.out]; exact hlt
        have hj8 : (j : Int) < 8 := by omega
        have HB2 : Hid (∀ u, l[j].us = u → ((b && u) = true ↔ ∀ q (hq : q < l.length), q < j + 1 → l[q].us = true)) := Lib.hid (fun u hu => by
          rw [Bool.and_eq_true, hB.out]
          constructor
          · rintro ⟨h1, h2⟩ q hq hqj
            by_cases e : q = j
            · subst e; rw [hu]; exact h2
            · exact h1 q hq (by omega)
          · intro h
            exact ⟨fun q hq hqj => h q hq (by omega), by rw [← hu]; exact h j hjl (by omega)⟩)
        obtain ⟨ba, oa, rfl⟩ := ht.open (by omega)
        obtain ⟨x0, x1, x2, x3, x4, x5, xl⟩ := row_tok ht.row j hjl
        obtain ⟨x, hx⟩ : ∃ x, l[j] = x := ⟨_, rfl⟩
        rw [hx] at x0 x1 x2 x3 x4 x5 HB2
        clear hx
        obtain ⟨us, sec, par, rt, cl, un, la, lc⟩ := x
        simp only at x0 x1 x2 x3 x4 x5 HB2
        have HB3 := Lib.hid (HB2.out us rfl)
        clear HB2 hB
        go_upto_region 10 with fail
        obtain ⟨X, hX⟩ : ∃ X, wr.heap.size = X := ⟨_, rfl⟩
        refine wp_named (fun Y => Blk Y X 52 #[.bool us, .slice la sec.length lc, .int .i64 par, .int .i64 rt, .int .i64 cl, .int .i64 un] ∧ RowKit.Below w5.heap.size w5 Y) ⟨by rw [← hX]; exact Blk.new _ _ _, (by repeat (first | (with_reducible refine Below.setCell ?_ ?_ _) | (with_reducible refine Below.alloc ?_ ?_ _) | (with_reducible refine Below.drew ?_) | (with_reducible refine below_drewN ?_ _) | (with_reducible exact Below.refl _ _) | (with_reducible refine Below.trans ?_ (Below.mono be ?_)) | (focus (simp; done)) | (focus (simp; omega)) | (focus omega) | (focus (have q0 := Below.size be; (try simp at q0); (try simp); omega))))⟩ ?_
        rw [hX]
        clear hX x0 x1 x2 x3 x4 x5 xl be ht
        rintro Y ⟨kX, be⟩
        obtain ⟨v0, v1, v2, v3, v4, v5, vf, vl⟩ := kX.six
        cases b
        · go_wp2_with fail
          go_roundw
          case rel => exact ⟨j + 1, false, rfl, by go_num, by omega, Lib.hid (by simpa using HB3.out), be⟩
          case measure => simp [intOf]; omega
        · go_wp2_with fail
          go_roundw
          case rel => exact ⟨j + 1, us, rfl, by go_num, by omega, Lib.hid (by simpa using HB3.out), be⟩
          case measure => simp [intOf]; omega
      · obtain rfl : j = 8 := by omega
        have HB3 : Hid (∀ (h : ∀ q (hq : q < l.length), l[q].us = true), b = true) := Lib.hid (fun h => hB.out.2 fun q hq _ => h q hq)
        obtain ⟨ba, oa, rfl⟩ := ht.open (by omega)
        obtain ⟨x0, -, -, -, -, x5, xl⟩ := row_tok ht.row p hpl
        have herr := HERR.out
        obtain ⟨us, hus⟩ : ∃ u, l[p].us = u := ⟨_, rfl⟩
        obtain ⟨un, hun⟩ : ∃ u, l[p].un = u := ⟨_, rfl⟩
        rw [hus, hun] at herr
        rw [hus] at x0
        rw [hun] at x5
        clear hus hun hB HERR ht
        have hL40 : (40 : Int) ≠ 0 := by decide
        have hlate : ∀ q, latB (untM L now) un = q → ((L = 0 ∧ latB 0 un = q) ∨ (0 < L ∧ latB (now + L) un = q)) := fun q e => by
          unfold untM at e
          by_cases hq : 0 < L
          · rw [if_pos hq] at e; exact .inr ⟨hq, e⟩
          · rw [if_neg hq] at e; exact .inl ⟨by omega, e⟩
        rcases herr with ⟨rfl, rfl⟩ | ⟨rfl, hl, rfl⟩ | ⟨rfl, hl, hfull, rfl⟩
        · clear hlate HB3
          have hLL : L = 0 ∨ 0 < L := by omega
          rcases hLL with rfl | hLL <;> cases b <;>
            (go_wp2_with (first | (go_at_call 17; (with_reducible refine (mk_ModE El.out _ (by decide) (by decide)).mono ?_); rintro e wz ⟨rfl, rfl⟩) | (go_at_call 11; (with_reducible refine (law_awake _).mono ?_); rintro e w11 ⟨rfl, hb11⟩))
             go_ret
             exact ⟨rfl, (by repeat (first | (with_reducible refine Below.setCell ?_ ?_ _) | (with_reducible refine Below.alloc ?_ ?_ _) | (with_reducible refine Below.drew ?_) | (with_reducible refine below_drewN ?_ _) | (with_reducible exact Below.refl _ _) | (with_reducible refine Below.trans ?_ (Below.mono hb11 ?_)) | (with_reducible refine Below.trans ?_ (Below.mono be ?_)) | (with_reducible refine Below.trans ?_ (Below.mono be5 ?_)) | (focus (simp; done)) | (focus (simp; omega)) | (focus omega) | (focus (have q0 := Below.size hb11; (try simp at q0); have q1 := Below.size be; (try simp at q1); have q2 := Below.size be5; (try simp at q2); (try simp); omega))))⟩)
        · rcases hlate _ hl with ⟨rfl, hl2⟩ | ⟨hLL, hl2⟩
          · have hz : ¬ un = 0 := by rintro rfl; simp [latB] at hl2
            have hz2 : (un == 0) = false := by rw [beq_eq_false_iff_ne]; exact hz
            have hz3 : (un != 0) = true := by rw [bne, hz2]; rfl
            clear hl hl2 hlate HB3
            cases b <;>
            (go_wp2_with (first | (go_at_call 17; (with_reducible refine (mk_ModE El.out _ (by decide) (by decide)).mono ?_); rintro e wz ⟨rfl, rfl⟩) | (go_at_call 11; (with_reducible refine (law_awake _).mono ?_); rintro e w11 ⟨rfl, hb11⟩))
             go_ret
             exact ⟨rfl, (by repeat (first | (with_reducible refine Below.setCell ?_ ?_ _) | (with_reducible refine Below.alloc ?_ ?_ _) | (with_reducible refine Below.drew ?_) | (with_reducible refine below_drewN ?_ _) | (with_reducible exact Below.refl _ _) | (with_reducible refine Below.trans ?_ (Below.mono hb11 ?_)) | (with_reducible refine Below.trans ?_ (Below.mono be ?_)) | (with_reducible refine Below.trans ?_ (Below.mono be5 ?_)) | (focus (simp; done)) | (focus (simp; omega)) | (focus omega) | (focus (have q0 := Below.size hb11; (try simp at q0); have q1 := Below.size be; (try simp at q1); have q2 := Below.size be5; (try simp at q2); (try simp); omega))))⟩)
          · have hz : ¬ un = 0 := by rintro rfl; simp [latB] at hl2
            have hz2 : (un == 0) = false := by rw [beq_eq_false_iff_ne]; exact hz
            have hz3 : (un != 0) = true := by rw [bne, hz2]; rfl
            have hu0 : ¬ (now + L = 0) := by omega
            have hgt : un < now + L := by
              simp [latB, hz, hu0] at hl2
              exact hl2
            clear hl hl2 hlate HB3
            cases b <;>
            (go_wp2_with (first | (go_at_call 17; (with_reducible refine (mk_ModE El.out _ (by decide) (by decide)).mono ?_); rintro e wz ⟨rfl, rfl⟩) | (go_at_call 11; (with_reducible refine (law_awake _).mono ?_); rintro e w11 ⟨rfl, hb11⟩))
             go_ret
             exact ⟨rfl, (by repeat (first | (with_reducible refine Below.setCell ?_ ?_ _) | (with_reducible refine Below.alloc ?_ ?_ _) | (with_reducible refine Below.drew ?_) | (with_reducible refine below_drewN ?_ _) | (with_reducible exact Below.refl _ _) | (with_reducible refine Below.trans ?_ (Below.mono hb11 ?_)) | (with_reducible refine Below.trans ?_ (Below.mono be ?_)) | (with_reducible refine Below.trans ?_ (Below.mono be5 ?_)) | (focus (simp; done)) | (focus (simp; omega)) | (focus omega) | (focus (have q0 := Below.size hb11; (try simp at q0); have q1 := Below.size be; (try simp at q1); have q2 := Below.size be5; (try simp at q2); (try simp); omega))))⟩)
        · obtain rfl : b = true := HB3.out hfull
          clear hfull HB3
          rcases hlate _ hl with ⟨rfl, hl2⟩ | ⟨hLL, hl2⟩
          · obtain rfl : un = 0 := by
              apply Classical.byContradiction
              intro hz
              unfold latB at hl2
              simp [decide_eq_false hz] at hl2
            clear hl hl2 hlate
            go_wp2_with (first | (go_at_call 17; (with_reducible refine (mk_ModE El.out _ (by decide) (by decide)).mono ?_); rintro e wz ⟨rfl, rfl⟩) | (go_at_call 11; (with_reducible refine (law_awake _).mono ?_); rintro e w11 ⟨rfl, hb11⟩))
            go_ret
            exact ⟨rfl, (by repeat (first | (with_reducible refine Below.setCell ?_ ?_ _) | (with_reducible refine Below.alloc ?_ ?_ _) | (with_reducible refine Below.drew ?_) | (with_reducible refine below_drewN ?_ _) | (with_reducible exact Below.refl _ _) | (with_reducible refine Below.trans ?_ (Below.mono hb11 ?_)) | (with_reducible refine Below.trans ?_ (Below.mono be ?_)) | (with_reducible refine Below.trans ?_ (Below.mono be5 ?_)) | (focus (simp; done)) | (focus (simp; omega)) | (focus omega) | (focus (have q0 := Below.size hb11; (try simp at q0); have q1 := Below.size be; (try simp at q1); have q2 := Below.size be5; (try simp at q2); (try simp); omega))))⟩
          · have hu0 : ¬ (now + L = 0) := by omega
            by_cases hz : un = 0
            · subst hz
              clear hl hl2 hlate
              go_wp2_with (first | (go_at_call 17; (with_reducible refine (mk_ModE El.out _ (by decide) (by decide)).mono ?_); rintro e wz ⟨rfl, rfl⟩) | (go_at_call 11; (with_reducible refine (law_awake _).mono ?_); rintro e w11 ⟨rfl, hb11⟩))
              go_ret
              exact ⟨rfl, (by repeat (first | (with_reducible refine Below.setCell ?_ ?_ _) | (with_reducible refine Below.alloc ?_ ?_ _) | (with_reducible refine Below.drew ?_) | (with_reducible refine below_drewN ?_ _) | (with_reducible exact Below.refl _ _) | (with_reducible refine Below.trans ?_ (Below.mono hb11 ?_)) | (with_reducible refine Below.trans ?_ (Below.mono be ?_)) | (with_reducible refine Below.trans ?_ (Below.mono be5 ?_)) | (focus (simp; done)) | (focus (simp; omega)) | (focus omega) | (focus (have q0 := Below.size hb11; (try simp at q0); have q1 := Below.size be; (try simp at q1); have q2 := Below.size be5; (try simp at q2); (try simp); omega))))⟩
            · have hz2 : (un == 0) = false := by rw [beq_eq_false_iff_ne]; exact hz
              have hz3 : (un != 0) = true := by rw [bne, hz2]; rfl
              have hgt : ¬ un < now + L := by
                simp [latB, hz, hu0] at hl2
                omega
              have hg1 : decide (un < now + L) = false := decide_eq_false hgt
              have hu1 : (now + L == 0) = false := by rw [beq_eq_false_iff_ne]; exact hu0
              clear hl hl2 hlate
              go_wp2_with (first | (go_at_call 17; (with_reducible refine (mk_ModE El.out _ (by decide) (by decide)).mono ?_); rintro e wz ⟨rfl, rfl⟩) | (go_at_call 11; (with_reducible refine (law_awake _).mono ?_); rintro e w11 ⟨rfl, hb11⟩))
              go_ret
              exact ⟨rfl, (by repeat (first | (with_reducible refine Below.setCell ?_ ?_ _) | (with_reducible refine Below.alloc ?_ ?_ _) | (with_reducible refine Below.drew ?_) | (with_reducible refine below_drewN ?_ _) | (with_reducible exact Below.refl _ _) | (with_reducible refine Below.trans ?_ (Below.mono hb11 ?_)) | (with_reducible refine Below.trans ?_ (Below.mono be ?_)) | (with_reducible refine Below.trans ?_ (Below.mono be5 ?_)) | (focus (simp; done)) | (focus (simp; omega)) | (focus omega) | (focus (have q0 := Below.size hb11; (try simp at q0); have q1 := Below.size be; (try simp at q1); have q2 := Below.size be5; (try simp at q2); (try simp); omega))))⟩
end Go.Proofs.Ytgngmmmdhhjbhaa
