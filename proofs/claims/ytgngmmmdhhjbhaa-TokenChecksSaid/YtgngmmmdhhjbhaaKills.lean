/- signalbrokerlaw14.TokenKills -/
import Derived.Test.YtgngmmmdhhjbhaaTkDeck
namespace Go.Proofs.Ytgngmmmdhhjbhaa
set_option linter.unusedVariables false
open Go.RowKit Go.Sort
set_option maxRecDepth 100000

theorem bsum_none {f : Int → Bool} (h : ∀ s, f s = false) : ∀ n, bsum f n = 0
  | 0 => rfl
  | n + 1 => by rw [bsum, bsum_none h n, if_neg (by rw [h]; decide)]
theorem bit_val {f : Int → Bool} {n i : Nat} (hn : n ≤ 8) (hi : i < n) : bits .and .i64 (((bsum f n : Nat) : Int) / 2 ^ i) 1 = if f i = true then 1 else 0 := by
  have h1 := bsum_lt f n
  have h3 : 2 ^ n ≤ 256 := Nat.pow_le_pow_right (n := 2) (by decide) hn
  have h2 := bsum_bit f n i hi
  have hc : (((bsum f n : Nat) : Int) / 2 ^ i) = ((bsum f n / 2 ^ i : Nat) : Int) := by simp
  have hle : bsum f n / 2 ^ i ≤ bsum f n := Nat.div_le_self _ _
  rw [hc]
  obtain ⟨x, hx⟩ : ∃ x, bsum f n / 2 ^ i = x := ⟨_, rfl⟩
  rw [hx] at h2 hle ⊢
  have e : bits .and .i64 (x : Int) 1 = ((x % 2 : Nat) : Int) := by
    show IntKind.i64.wrap ((BitVec.ofInt 64 (x : Int) &&& BitVec.ofInt 64 ((1 : Nat) : Int)).toNat : Int) = _
    rw [BitVec.toNat_and, ofInt_i64 x (by omega), ofInt_i64 1 (by omega), Nat.and_one_is_mod, IntKind.wrap_i64]
    omega
  rw [e, h2]
  cases f i <;> rfl
theorem chk_congr {k k' : List TkK} {ag : Int} {x y : UInt8} {sec : List UInt8} {kind now : Int} (h1 : tU k' (y.toNat : Int) = tU k (y.toNat : Int)) (h2 : gK k' (y.toNat : Int) = gK k (y.toNat : Int)) : chkM k' ag (x :: y :: sec) kind now = chkM k ag (x :: y :: sec) kind now := by
  unfold chkM
  simp only [h1, h2]
theorem tkB_byte {i : Nat} (hi : i < 256) : (UInt8.ofNat (((i : Nat) : Int) % 256).toNat).toNat = i := by
  have := byte_of (i : Int)
  omega
section
variable {k : List TkK} {s : Int}
theorem kill_err {er : Int} {y : List TkK} (hv : valK k = true) (h1 : 1 ≤ s) (h8 : s < 8) (h : revM k s = (er, y)) (he : er ≠ 0) : er = 12 ∧ bsum (fun a => dscK k 8 a s) 8 = 0 := by
  unfold revM at h
  rw [if_neg (by rw [hv]; decide), if_neg (by omega)] at h
  split at h
  · rename_i hu
    injection h with e _
    refine ⟨e.symm, bsum_none (fun a => ?_) 8⟩
    cases q : dscK k 8 a s with
    | false => rfl
    | true =>
      rw [dsc_iff] at q
      have := ancK_used q
      rw [hu] at this
      cases this
  · injection h with e _
    exact absurd e.symm he
theorem kill_yes {i : Nat} {sec : List UInt8} {kind now : Int} (hi : i < 8) (hd : dscK k 8 i s = true) : chkM (freeM k fun a => dscK k 8 a s) 2 (tkB 2 i sec) kind now = (0, 9) := by
  refine chk_us ?_
  rw [tkB_byte (by omega), free_tU, hd]
  simp
theorem kill_no {i : Nat} {sec : List UInt8} {kind now : Int} (hi : i < k.length) (h8 : i < 8) (hd : dscK k 8 i s = false) : chkM (freeM k fun a => dscK k 8 a s) 2 (tkB 2 i sec) kind now = chkM k 2 (tkB 2 i sec) kind now := by
  refine chk_congr ?_ ?_
  · rw [tkB_byte (by omega), free_tU, hd]
    simp
  · rw [tkB_byte (by omega)]
    have hi' : i < (freeM k fun a => dscK k 8 a s).length := by rw [free_len]; exact hi
    rw [gK_get hi', gK_get hi, free_get, hd]
    rfl
end
/-- the slots that the law's functions look at, in any later world -/
theorem deck_open {w w1 w2 : World} (hb1 : Below w.heap.size w w1) (g2 : w1.grownBy w2 (some w.heap.size)) : Below w.heap.size w w2 := hb1.grown g2 hb1.size (fun k hk => by injection hk with hk; omega)
set_option maxHeartbeats 8000000 in
theorem tokenKills_walk (a0 : Option Addr) (c0 : Nat) (l0 : List Int) (w1v w2v w3v : Int) (w : World) (h0 : Ints w a0 l0) (n0 : l0.length ≤ 9223372036854775807) :
    Calls Try.prog 6 #[.slice a0 l0.length c0, .int .i64 w1v, .int .i64 w2v, .int .i64 w3v] w fun e w' => e = .returned (.bool true) ∧ RowKit.Below w.heap.size w w' := by
  obtain ⟨s, Es, s0, s1⟩ := modName w1v 7 (by decide)
  obtain ⟨kind, Ek, kind0, kind1⟩ := modName w2v 13 (by decide)
  obtain ⟨now, En, now0, now1⟩ := modName w3v 30 (by decide)
  have HR63 : ∀ r : Int, r = 63 ∨ r = 47 ∨ r = 7 → rV r = true := fun r h => by rcases h with rfl | rfl | rfl <;> decide
  have HRV := Lib.hid HR63
  have HS8 : Hid (8 = (secX 1000).length) := Lib.hid rfl
  clear HR63
  go_enter Try.func6, Try.ntmps6
  go_upto_region 2 with (first | (go_at_call 12; (with_reducible refine (mk_New a0 c0 l0 _ h0 n0).mono ?_); rintro e w1 ⟨rfl, hd1, hb1⟩) | (go_at_call 14; (with_reducible refine (law_agency 0 _).mono ?_); rintro e w2 ⟨sa, sc, rt, cl, rfl, hrt, cl0, cl1, own2, hb2⟩; ((have hd2 := hd1.below hb2); (have hrv := HRV.out rt hrt))) | (go_at_call 13; (with_reducible refine (deck_Tokens _ ⟨a0, c0, l0⟩ 0 sa (secX 1000) 8 sc rt cl none 0 0 0 0 0 0 _ hd2 own2.byt HS8.out rfl hrv cl0 cl1).mono ?_); rintro e w3 ⟨kd, l, xa, xc, rfl, hn, hV, il, -, g3⟩))
  have be3 : RowKit.Below w.heap.size w w3 := deck_open (by repeat (first | (with_reducible refine Below.setCell ?_ ?_ _) | (with_reducible refine Below.alloc ?_ ?_ _) | (with_reducible refine Below.drew ?_) | (with_reducible refine below_drewN ?_ _) | (with_reducible exact Below.refl _ _) | (with_reducible refine Below.trans ?_ (Below.mono hb2 ?_)) | (with_reducible refine Below.trans ?_ (Below.mono hb1 ?_)) | (focus (simp; done)) | (focus (simp; omega)) | (focus omega) | (focus (have q0 := Below.size hb2; (try simp at q0); have q1 := Below.size hb1; (try simp at q1); (try simp); omega)))) g3
  have G := il.g hV
  have HL8 : Hid (l.length = 8) := Lib.hid hn.out.symm
  have HL8' : Hid (l.length ≤ 8) := Lib.hid (by rw [HL8.out]; exact Nat.le_refl _)
  clear hb1 hb2 g3 il own2 hd1 hd2 hrt hrv cl0 cl1 h0 HRV HS8
  go_upto_region 3 with ((go_at_call 17; (with_reducible refine (mk_ModE Es.out _ (by decide) (by decide)).mono ?_); rintro e wz ⟨rfl, rfl⟩))
  go_upto_region 4 with ((go_at_call 31; (with_reducible refine (token_Below xa l 8 xc _ _ G.tks hn.out HL8'.out).mono ?_); rintro e w4 ⟨rfl, hb4⟩))
  have be4 : RowKit.Below w.heap.size w w4 := (by repeat (first | (with_reducible refine Below.setCell ?_ ?_ _) | (with_reducible refine Below.alloc ?_ ?_ _) | (with_reducible refine Below.drew ?_) | (with_reducible refine below_drewN ?_ _) | (with_reducible exact Below.refl _ _) | (with_reducible refine Below.trans ?_ (Below.mono hb4 ?_)) | (with_reducible refine Below.trans ?_ (Below.mono be3 ?_)) | (focus (simp; done)) | (focus (simp; omega)) | (focus omega) | (focus (have q0 := Below.size hb4; (try simp at q0); have q1 := Below.size be3; (try simp at q1); (try simp); omega))))
  have G := G.below hb4
  obtain ⟨S, hS⟩ : ∃ S, bsum (fun a => dscK (l.map Tk.key) 8 a (1 + s)) l.length = S := ⟨_, rfl⟩
  have HS := Lib.hid hS
  rw [hS]
  clear hS hb4 be3
  go_upto_region 5 with ((go_at_call 21; (with_reducible refine (token_Revoke xa l 8 xc (1 + s) _ G hn.out).mono ?_); rintro e w5 ⟨ya, m, yc, l2, er, rfl, hm, hm2, il2, hb5⟩))
  have be5 : RowKit.Below w.heap.size w w5 := (by repeat (first | (with_reducible refine Below.setCell ?_ ?_ _) | (with_reducible refine Below.alloc ?_ ?_ _) | (with_reducible refine Below.drew ?_) | (with_reducible refine below_drewN ?_ _) | (with_reducible exact Below.refl _ _) | (with_reducible refine Below.trans ?_ (Below.mono hb5 ?_)) | (with_reducible refine Below.trans ?_ (Below.mono be4 ?_)) | (focus (simp; done)) | (focus (simp; omega)) | (focus omega) | (focus (have q0 := Below.size hb5; (try simp at q0); have q1 := Below.size be4; (try simp at q1); (try simp); omega))))
  have G := G.below hb5
  clear hb5 be4
  by_cases her : er = 0
  · subst her
    have hrev := rev_val hm.out rfl
    have V2 := Lib.hid hrev.2.1
    have K2 := Lib.hid hrev.2.2.2.2.2
    have HU := Lib.hid hrev.2.2.2.2.1
    have T2 := il2.tks
    obtain rfl : m = 8 := by
      have := (valK_iff.1 V2.out).1
      rw [List.length_map, ← hm2.out] at this
      exact this
    clear hrev il2 hm
    go_upto_region 8 with (first | (go_at_call 17; (with_reducible refine (mk_ModE Ek.out _ (by decide) (by decide)).mono ?_); rintro e wz ⟨rfl, rfl⟩) | (go_at_call 17; (with_reducible refine (mk_ModE En.out _ (by decide) (by decide)).mono ?_); rintro e wz ⟨rfl, rfl⟩))
    go_wp2_with fail
    go_loopw [53] (fun s53 wr => ∃ i : Nat, s53 = .int .i64 i ∧ i ≤ 8 ∧ RowKit.Below w5.heap.size w5 wr) (fun s _ => 8 - (intOf s).toNat)
    case atStart => exact ⟨0, rfl, by omega, (by repeat (first | (with_reducible refine Below.setCell ?_ ?_ _) | (with_reducible refine Below.alloc ?_ ?_ _) | (with_reducible refine Below.drew ?_) | (with_reducible refine below_drewN ?_ _) | (with_reducible exact Below.refl _ _) | (focus (simp; done)) | (focus (simp; omega)) | (focus omega)))⟩
    case round =>
      obtain ⟨i, rfl, hi, be⟩ := hrel
      by_cases hlt : i < 8
      · have hil : i < l.length := by rw [HL8.out]; exact hlt
        have kx : (i : Int) < 8 := by omega
        have Gr := G.below be
        have T2r := T2.below be (Nat.le_refl _)
        have ht := Gr.tks
        obtain ⟨ba, oa, rfl⟩ := ht.open (by omega)
        obtain ⟨x0, x1, x2, x3, x4, x5, xl⟩ := row_tok ht.row i hil
        have hg := ht.sec _ (List.getElem_mem hil)
        have hsl := (Gr.sec _ (List.getElem_mem hil)).2
        have HYES := Lib.hid (fun (h : dscK (l.map Tk.key) 8 i (1 + s) = true) => kill_yes (k := l.map Tk.key) (s := 1 + s) (i := i) (sec := l[i].sec) (kind := kind) (now := now) hlt h)
        have HNO := Lib.hid (fun (h : dscK (l.map Tk.key) 8 i (1 + s) = false) => kill_no (k := l.map Tk.key) (s := 1 + s) (i := i) (sec := l[i].sec) (kind := kind) (now := now) (by rw [List.length_map]; exact hil) hlt h)
        have HBIT := Lib.hid (bit_val (f := fun a => dscK (l.map Tk.key) 8 a (1 + s)) (n := l.length) (i := i) HL8'.out hil)
        obtain ⟨x, hx⟩ : ∃ x, l[i] = x := ⟨_, rfl⟩
        rw [hx] at x0 x1 x2 x3 x4 x5 hg hsl HYES HNO
        clear hx
        obtain ⟨us, sec, par, rt, cl, un, la, lc⟩ := x
        simp only at x0 x1 x2 x3 x4 x5 hg hsl HYES HNO
        go_upto_region 11 with fail
        obtain ⟨X, hX⟩ : ∃ X, wr.heap.size = X := ⟨_, rfl⟩
        refine wp_named (fun Y => Blk Y X 52 #[.bool us, .slice la sec.length lc, .int .i64 par, .int .i64 rt, .int .i64 cl, .int .i64 un] ∧ Byt Y la sec ∧ Tks Y (some ⟨ba, oa, none⟩) l ∧ Tks Y ya l2 ∧ RowKit.Below w5.heap.size w5 Y) ⟨by rw [← hX]; exact Blk.new _ _ _, Row.alloc hg _, ht.alloc _, T2r.alloc _, (by repeat (first | (with_reducible refine Below.setCell ?_ ?_ _) | (with_reducible refine Below.alloc ?_ ?_ _) | (with_reducible refine Below.drew ?_) | (with_reducible refine below_drewN ?_ _) | (with_reducible exact Below.refl _ _) | (with_reducible refine Below.trans ?_ (Below.mono be ?_)) | (focus (simp; done)) | (focus (simp; omega)) | (focus omega) | (focus (have q0 := Below.size be; (try simp at q0); (try simp); omega))))⟩ ?_
        rw [hX]
        clear hX x0 x1 x2 x3 x4 x5 xl be hg ht T2r Gr
        rintro Y ⟨kX, hg, ht, T2r, be⟩
        obtain ⟨v0, v1, v2, v3, v4, v5, vf, vl⟩ := kX.six
        cases us with
        | false =>
          go_wp2_with fail
          go_roundw
          case rel => exact ⟨i + 1, by go_num, by omega, be⟩
          case measure => simp [intOf]; omega
        | true =>
          go_upto_region 13 with (first | (go_at_call 33; (with_reducible refine (ref14_Bytes 2 i la sec.length lc sec _ hg rfl hsl).mono ?_); rintro e w6 ⟨da, N, dc, rfl, hN, N9, own6, hb6⟩; ((have ht6 := ht.below hb6 (Nat.le_refl _)); (have N9' : N ≤ 1000000 := by omega))) | (go_at_call 32; (with_reducible refine (token_Check _ l 8 xc 2 da (tkB 2 i sec) N dc kind now _ ht6 hn.out own6.byt hN.out own6.cap_le N9').mono ?_); rintro e w7 ⟨i1, f, rfl, hf1, hb7⟩))
          have be7 : RowKit.Below Y.heap.size Y w7 := (by repeat (first | (with_reducible refine Below.setCell ?_ ?_ _) | (with_reducible refine Below.alloc ?_ ?_ _) | (with_reducible refine Below.drew ?_) | (with_reducible refine below_drewN ?_ _) | (with_reducible exact Below.refl _ _) | (with_reducible refine Below.trans ?_ (Below.mono hb7 ?_)) | (with_reducible refine Below.trans ?_ (Below.mono hb6 ?_)) | (focus (simp; done)) | (focus (simp; omega)) | (focus omega) | (focus (have q0 := Below.size hb7; (try simp at q0); have q1 := Below.size hb6; (try simp at q1); (try simp); omega))))
          have k7 := kX.below be7 vl
          have hg7 := hg.below be7 (Nat.le_refl _)
          have T27 := T2r.below be7 (Nat.le_refl _)
          have be57 : RowKit.Below w5.heap.size w5 w7 := (by repeat (first | (with_reducible refine Below.setCell ?_ ?_ _) | (with_reducible refine Below.alloc ?_ ?_ _) | (with_reducible refine Below.drew ?_) | (with_reducible refine below_drewN ?_ _) | (with_reducible exact Below.refl _ _) | (with_reducible refine Below.trans ?_ (Below.mono hb7 ?_)) | (with_reducible refine Below.trans ?_ (Below.mono hb6 ?_)) | (with_reducible refine Below.trans ?_ (Below.mono be ?_)) | (focus (simp; done)) | (focus (simp; omega)) | (focus omega) | (focus (have q0 := Below.size hb7; (try simp at q0); have q1 := Below.size hb6; (try simp at q1); have q2 := Below.size be; (try simp at q2); (try simp); omega))))
          obtain ⟨u0, u1, u2, u3, u4, u5, uf, ul⟩ := k7.six
          clear hb7 hb6 own6 ht6 hN v0 v1 v2 v3 v4 v5 vf vl kX hg ht T2r be be7 N9 N9'
          go_upto_region 14 with (first | (go_at_call 33; (with_reducible refine (ref14_Bytes 2 i la sec.length lc sec _ hg7 rfl hsl).mono ?_); rintro e w8 ⟨ea, M, ec, rfl, hM, M9, own8, hb8⟩; ((have T28 := T27.below hb8 (Nat.le_refl _)); (have M9' : M ≤ 1000000 := by omega))) | (go_at_call 32; (with_reducible refine (token_Check ya l2 8 yc 2 ea (tkB 2 i sec) M ec kind now _ T28 hm2.out own8.byt hM.out own8.cap_le M9').mono ?_); rintro e w9 ⟨i2, g, rfl, hg1, hb9⟩))
          have be9 : RowKit.Below w5.heap.size w5 w9 := (by repeat (first | (with_reducible refine Below.setCell ?_ ?_ _) | (with_reducible refine Below.alloc ?_ ?_ _) | (with_reducible refine Below.drew ?_) | (with_reducible refine below_drewN ?_ _) | (with_reducible exact Below.refl _ _) | (with_reducible refine Below.trans ?_ (Below.mono hb9 ?_)) | (with_reducible refine Below.trans ?_ (Below.mono hb8 ?_)) | (with_reducible refine Below.trans ?_ (Below.mono be57 ?_)) | (focus (simp; done)) | (focus (simp; omega)) | (focus omega) | (focus (have q0 := Below.size hb9; (try simp at q0); have q1 := Below.size hb8; (try simp at q1); have q2 := Below.size be57; (try simp at q2); (try simp); omega))))
          clear hb9 hb8 own8 T28 hM T27 hg7 k7 u0 u1 u2 u3 u4 u5 uf ul be57 M9 M9'
          have hbit := HBIT.out
          rw [HS.out] at hbit
          cases hd : dscK (l.map Tk.key) 8 i (1 + s) with
          | true =>
            obtain rfl : g = 9 := by
              have := hg1.out
              rw [K2.out, HYES.out hd] at this
              injection this with _ h
              exact h.symm
            simp only [hd, if_true] at hbit
            clear hd hf1 hg1
            go_wp2_with fail
            go_roundw
            case rel => exact ⟨i + 1, by go_num, by omega, be9⟩
            case measure => simp [intOf]; omega
          | false =>
            obtain rfl : f = g := by
              have := hg1.out
              rw [K2.out, HNO.out hd, hf1.out] at this
              injection this with _ h
            simp only [hd, Bool.false_eq_true, if_false] at hbit
            clear hd hf1 hg1
            go_wp2_with fail
            go_roundw
            case rel => exact ⟨i + 1, by go_num, by omega, be9⟩
            case measure => simp [intOf]; omega
      · obtain rfl : i = 8 := by omega
        have T2r := T2.below be (Nat.le_refl _)
        obtain ⟨s', rfl⟩ : ∃ s' : Nat, s = s' := ⟨s.toNat, by omega⟩
        have hs8 : 1 + s' < l.length := by rw [HL8.out]; omega
        have hbit := bit_val (f := fun a => dscK (l.map Tk.key) 8 a (1 + (s' : Int))) (n := l.length) (i := 1 + s') HL8'.out hs8
        have hself : dscK (l.map Tk.key) 8 ((1 + s' : Nat) : Int) (1 + (s' : Int)) = true := dsc_self (n := 7) (s := 1 + (s' : Int)) HU.out
        rw [HS.out, if_pos hself] at hbit
        clear hself
        go_wp2_with (first | (go_at_call 29; (with_reducible refine (token_ValidE V2 ya 8 yc _ T2r hm2.out).mono ?_); rintro e w6 ⟨rfl, hb6⟩) | (go_at_call 11; (with_reducible refine (law_awake _).mono ?_); rintro e w7 ⟨rfl, hb7⟩))
        go_ret
        exact ⟨rfl, (by repeat (first | (with_reducible refine Below.setCell ?_ ?_ _) | (with_reducible refine Below.alloc ?_ ?_ _) | (with_reducible refine Below.drew ?_) | (with_reducible refine below_drewN ?_ _) | (with_reducible exact Below.refl _ _) | (with_reducible refine Below.trans ?_ (Below.mono hb7 ?_)) | (with_reducible refine Below.trans ?_ (Below.mono hb6 ?_)) | (with_reducible refine Below.trans ?_ (Below.mono be ?_)) | (with_reducible refine Below.trans ?_ (Below.mono be5 ?_)) | (focus (simp; done)) | (focus (simp; omega)) | (focus omega) | (focus (have q0 := Below.size hb7; (try simp at q0); have q1 := Below.size hb6; (try simp at q1); have q2 := Below.size be; (try simp at q2); have q3 := Below.size be5; (try simp at q3); (try simp); omega))))⟩
  · have hke := kill_err hV.out (by omega) (by omega) hm.out her
    obtain ⟨rfl, hz⟩ := hke
    obtain rfl : S = 0 := by rw [← HS.out, HL8.out]; exact hz
    go_wp2_with ((go_at_call 11; (with_reducible refine (law_awake _).mono ?_); rintro e w6 ⟨rfl, hb6⟩))
    go_ret
    exact ⟨rfl, (by repeat (first | (with_reducible refine Below.setCell ?_ ?_ _) | (with_reducible refine Below.alloc ?_ ?_ _) | (with_reducible refine Below.drew ?_) | (with_reducible refine below_drewN ?_ _) | (with_reducible exact Below.refl _ _) | (with_reducible refine Below.trans ?_ (Below.mono hb6 ?_)) | (with_reducible refine Below.trans ?_ (Below.mono be5 ?_)) | (focus (simp; done)) | (focus (simp; omega)) | (focus omega) | (focus (have q0 := Below.size hb6; (try simp at q0); have q1 := Below.size be5; (try simp at q1); (try simp); omega))))⟩
end Go.Proofs.Ytgngmmmdhhjbhaa
