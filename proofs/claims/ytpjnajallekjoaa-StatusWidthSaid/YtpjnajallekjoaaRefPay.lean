/- signalbrokerref05.payload -/
import Derived.Test.YtpjnajallekjoaaEncode
import Derived.Test.YtpjnajallekjoaaSameM
import Derived.Deep.DeepCutAuto
import Derived.Outline
namespace Go.Proofs.Ytpjnajallekjoaa
open Go.RowKit Go.Sort
set_option maxRecDepth 100000

def PayR (m : Msg) (w : World) (e : Ending) (w' : World) : Prop :=
  ∃ a n c, e = .returned (.slice a n c) ∧ n = m.pay.length ∧ Own w' w.heap.size 5 1 a n c (m.pay.map encB) ∧ Below w.heap.size w w'
theorem ref02_EncOk (n : Int) (h0 : 0 ≤ n) (h1 : n ≤ 4294967295) {L : Nat} (hL : Hid (L = (vEnc n.toNat).length)) (w : World) : Calls Try.prog 50 #[.int .i64 n] w fun e w' => ∃ a cap, e = .returned (.tuple #[.slice a L cap, .int .i64 0]) ∧ Own w' w.heap.size 5 1 a L cap ((vEnc n.toNat).map encB) ∧ Below w.heap.size w w' :=
  (ref02_Encode n w).mono fun e w' h => by
    rcases h with ⟨_, _, a, L', cap, he, hl, own, hb⟩ | ⟨h, _⟩
    · obtain rfl : L' = L := by rw [hl, hL.out]
      exact ⟨a, cap, he, own, hb⟩
    · exact absurd ⟨h0, h1⟩ h
theorem ref05_ofE {k tk fx gr lo hi dt : Int} (w : World) (h1 : 1 ≤ k) (h2 : k ≤ 22) (hs : shpOf k = ⟨tk, fx, gr, lo, hi, dt⟩) : Calls Try.prog 34 #[.int .i64 k] w fun e w' => e = .returned (.agg #[.int .i64 fx, .int .i64 gr, .int .i64 lo, .int .i64 hi, .int .i64 dt]) ∧ Below w.heap.size w w' := by
  have := ref05_of k w h1 h2
  rw [hs] at this
  exact this
theorem ofNat_byte {Q : Nat} (h : Q < 256) : (Q : Int) = ((UInt8.ofNat Q).toNat : Int) := by simp; omega

set_option maxHeartbeats 4000000 in
theorem ref05_payload_ok {kind : Int} {tok : List UInt8} {args : List Int} {dat : List UInt8} {tk fx gr lo hi dt : Int} (ta : Option Addr) (tc : Nat) (aa da : Option Addr) (ac dc : Nat) (w : World) (h1 : 1 ≤ kind) (h2 : kind ≤ 22) (hs : shpOf kind = ⟨tk, fx, gr, lo, hi, dt⟩) (htl : tok.length ≤ 10) (hg : grpOk ⟨tk, fx, gr, lo, hi, dt⟩ args.length) (hall : ∀ n ∈ args, argOk n)
    (hat : MsgAt w ⟨kind, tok, args, dat⟩ ta tc aa da) : Calls Try.prog 36 #[.agg #[.int .i64 kind, .slice ta tok.length tc, .slice aa args.length ac, .slice da dat.length dc]] w (PayR ⟨kind, tok, args, dat⟩ w) := by
  have sh := shpOf_ok kind
  rw [hs] at sh
  obtain ⟨g, hgn⟩ : ∃ g, Hid (grpN ⟨tk, fx, gr, lo, hi, dt⟩ args.length = g) := ⟨_, Lib.hid rfl⟩
  obtain ⟨g0, g1⟩ := grpN_bd sh hg
  rw [hgn.out] at g0 g1
  obtain ⟨Q, rfl⟩ := Int.eq_ofNat_of_zero_le g0
  have hA := hat.len.2.1
  have hD := hat.len.2.2
  simp only at hA hD
  have HS := Lib.hid hs
  have HALL := Lib.hid hall
  have s1 := sh.fix
  have s2 := sh.grp
  simp only at s1 s2
  -- the quotient, where groups are
  have HQ : Hid (0 < gr → fx ≤ (args.length : Int) ∧ ((args.length : Int) - fx) / gr = Q) := by
    refine Lib.hid fun h0 => ?_
    have a := hg
    have b := hgn.out
    unfold grpOk at a
    unfold grpN at b
    simp only at a b
    rw [if_neg (by omega)] at a b
    exact ⟨a.1, b⟩
  obtain ⟨bt, ba, bd, hnil, _⟩ := hat
  simp only at bt ba bd hnil
  clear hall hg
  go_enter Try.func36, Try.ntmps36
  go_upto_region 2 with (first | (go_at_call 34; (with_reducible refine (ref05_ofE _ h1 h2 hs).mono ?_); rintro e w1 ⟨rfl, hb1⟩; (have bM : Blk w1 w.heap.size 44 #[.int .i64 kind, .slice ta tok.length tc, .slice aa args.length ac, .slice da dat.length dc] := (Blk.new w _ _).below hb1 (by simp)); (have lM := bM.lt); obtain ⟨m0, m1, m2, m3⟩ := bM.four))
  refine wp_named (fun W => Blk W w.heap.size 44 #[.int .i64 kind, .slice ta tok.length tc, .slice aa args.length ac, .slice da dat.length dc] ∧ Blk W w1.heap.size 77 #[.int .i64 fx, .int .i64 gr, .int .i64 lo, .int .i64 hi, .int .i64 dt] ∧ RowKit.Below w.heap.size w W) ⟨bM.alloc _, Blk.new _ _ _, (by repeat (first | (with_reducible refine Below.setCell ?_ ?_ _) | (with_reducible refine Below.alloc ?_ ?_ _) | (with_reducible refine Below.drew ?_) | (with_reducible refine below_drewN ?_ _) | (with_reducible exact Below.refl _ _) | (with_reducible refine Below.trans ?_ (Below.mono hb1 ?_)) | (focus (simp; done)) | (focus (simp; omega)) | (focus omega) | (focus (have q0 := Below.size hb1; (try simp at q0); (try simp); omega))))⟩ ?_
  rintro W ⟨bM, bS, hb0⟩
  clear m0 m1 m2 m3 lM hb1 hs
  have HT := Lib.hid (bt.below hb0 (Nat.le_refl _))
  have HBD := Lib.hid (bd.below hb0 (Nat.le_refl _))
  have ba' : Ints W aa args := Ints.below ba hb0 (Nat.le_refl _)
  obtain ⟨q0, q1, q2, q3⟩ := bM.four
  have lM := bM.lt
  go_wp2_with (first | (at_builtin; refine appB rfl _ _ rfl W.heap.size none 0 0 [] rfl ta _ tc tok rfl (Own.nil _ _ _ _) HT.out rfl tok.length (by omega) (by omega) (Nat.le_refl _) ?_; intro b2 c2 w2 own2 g2 bl2; (have hb2 := bl2 W (RowKit.Below.refl _ _)); (have bM2 := bM.below hb2 lM); (have lM2 := bM2.lt); obtain ⟨r0, r1, r2, r3⟩ := bM2.four))
  go_loopw [18, 4] (fun i v wr => ∃ (k : Nat) (l : List UInt8) (b : Option Addr) (N cap : Nat), k ≤ args.length ∧ i = .int .i64 k ∧ v = .slice b N cap ∧ Own wr W.heap.size 5 1 b N cap (l.map encB) ∧ RowKit.Below W.heap.size W wr ∧ N ≤ 10 + 6 * k ∧ l ++ encFrom (shpOf kind) Q k (args.drop k) = tok ++ encFrom (shpOf kind) Q 0 args) (fun i _ _ => args.length - (intOf i).toNat)
  case atStart => exact ⟨0, tok, _, _, _, Nat.zero_le _, rfl, rfl, own2, hb2, by omega, rfl⟩
  case round =>
    obtain ⟨k, l, b, N, cap, hk, rfl, rfl, own, hbel, hN, hl⟩ := hrel
    have HL := Lib.hid hl
    clear hl own2 g2 hb2 bM2 lM2 r0 r1 r2 r3 q0 q1 q2 q3
    have fM : ∀ W', RowKit.Below W.heap.size W W' → Blk W' w.heap.size 44 #[.int .i64 kind, .slice ta tok.length tc, .slice aa args.length ac, .slice da dat.length dc] := fun W' h => bM.below h lM
    have fS : ∀ W', RowKit.Below W.heap.size W W' → Blk W' w1.heap.size 77 #[.int .i64 fx, .int .i64 gr, .int .i64 lo, .int .i64 hi, .int .i64 dt] := fun W' h => bS.below h bS.lt
    have bMr := fM _ hbel
    have bSr := fS _ hbel
    have lMr := bMr.lt
    have lSr := bSr.lt
    obtain ⟨u0, u1, u2, u3⟩ := bMr.four
    obtain ⟨v0, v1, v2, v3, v4, -, -⟩ := bSr.five
    have HGC : Hid ((((k : Int) == fx) = true ∧ decide (0 < gr) = true ∧ gCode (shpOf kind) Q k = vEnc (Q : Int).toNat) ∨ (((k : Int) == fx) = true ∧ decide (0 < gr) = false ∧ gCode (shpOf kind) Q k = []) ∨ (((k : Int) == fx) = false ∧ gCode (shpOf kind) Q k = [])) := by
      have := gCode_cases (shpOf kind) Q k
      show _ ∨ _
      rw [HS.out] at this ⊢
      exact this
    have HV : Hid (vEnc (Q : Int).toNat = [UInt8.ofNat Q]) := Lib.hid (by rw [vEnc_lt (by omega)]; rfl)
    have hQ : (Q : Int) = ((UInt8.ofNat Q).toNat : Int) := ofNat_byte (by omega)
    have HQB := Lib.hid hQ
    have e3 : (Q : Int) % 256 = (Q : Int) := Int.emod_eq_of_lt g0 (Int.lt_of_le_of_lt g1 (by decide))
    clear hQ
    have fW : ∀ W', RowKit.Below W.heap.size W W' → RowKit.Below w.heap.size w W' := fun W' h => (by repeat (first | (with_reducible refine Below.setCell ?_ ?_ _) | (with_reducible refine Below.alloc ?_ ?_ _) | (with_reducible refine Below.drew ?_) | (with_reducible refine below_drewN ?_ _) | (with_reducible exact Below.refl _ _) | (with_reducible refine Below.trans ?_ (Below.mono hb0 ?_)) | (with_reducible refine Below.trans ?_ (Below.mono h ?_)) | (focus (simp; done)) | (focus (simp; omega)) | (focus omega) | (focus (have q0 := Below.size hb0; (try simp at q0); have q1 := Below.size h; (try simp at q1); (try simp); omega))))
    by_cases hlt : k < args.length
    · have c1 : (k : Int) < (args.length : Int) := by omega
      rcases ba'.open with rfl | ⟨ab, aoff, rfl, hbl, hc⟩
      · simp at hlt
      obtain ⟨x, hx⟩ : ∃ x, args[k] = x := ⟨_, rfl⟩
      have fX : ∀ W', RowKit.Below W.heap.size W W' → W'.cell? ⟨ab, aoff + k, none⟩ = some (.int .i64 x) := fun W' h => by rw [(bcell h).1 ab _ hbl, hc k hlt, hx]
      have cxr := fX _ hbel
      obtain ⟨x0, x1⟩ : argOk x := hx ▸ HALL.out _ (List.getElem_mem hlt)
      obtain ⟨xL, hxL⟩ : ∃ xL, Hid (xL = (vEnc x.toNat).length) := ⟨_, Lib.hid rfl⟩
      have xl : xL ≤ 5 := by rw [hxL.out]; exact vEnc_len5 (by omega)
      have HE2 : Hid ((l ++ gCode (shpOf kind) Q k) ++ vEnc x.toNat ++ encFrom (shpOf kind) Q (k + 1) (args.drop (k + 1)) = tok ++ encFrom (shpOf kind) Q 0 args) := by
        show _ = _
        rw [← HL.out, List.drop_eq_getElem_cons hlt, hx]
        simp [encFrom]
      clear hx hc
      rcases HGC.out with ⟨y1, y2, y3⟩ | ⟨y1, y2, y3⟩ | ⟨y1, y3⟩
      · have HC := Lib.hid (y3.trans HV.out)
        clear y3
        have gp : 0 < gr := of_decide_eq_true y2
        obtain ⟨z1, z2⟩ := HQ.out gp
        have et : ((args.length : Int) - fx).tdiv gr = (Q : Int) := by rw [Int.tdiv_eq_ediv_of_nonneg (by omega), z2]
        have d0 : (gr == 0) = false := by rw [beq_eq_false_iff_ne]; exact fun q => by rw [q] at gp; exact absurd gp (by decide)
        clear z1 z2
        go_wp2_with (first | (at_builtin; refine app1B rfl _ _ rfl W.heap.size _ _ cap l rfl (UInt8.ofNat Q) _ rfl own HQB.out (N + 1) rfl (by omega) hbel.size ?_; intro b5 cap5 w5 own5 g5 bl5; (have hb25 := bl5 W hbel); rw [← HC.out] at own5; (have bM5 := fM _ hb25); (have bS5 := fS _ hb25); obtain ⟨m0, m1, m2, m3⟩ := bM5.four; obtain ⟨n0, n1, n2, n3, n4, -, -⟩ := bS5.five; (have cx5 := fX _ hb25)) | (go_at_call 50; (with_reducible refine (ref02_EncOk x x0 x1 hxL _).mono ?_); rintro e w6 ⟨ya, yc, rfl, owny, hb6⟩; (have own6 := own5.below hb6 (Nat.le_refl _)); (have byt6 := owny.byt); (have hb26 : RowKit.Below W.heap.size W w6 := (by repeat (first | (with_reducible refine Below.setCell ?_ ?_ _) | (with_reducible refine Below.alloc ?_ ?_ _) | (with_reducible refine Below.drew ?_) | (with_reducible refine below_drewN ?_ _) | (with_reducible exact Below.refl _ _) | (with_reducible refine Below.trans ?_ (Below.mono hb6 ?_)) | (with_reducible refine Below.trans ?_ (Below.mono hb25 ?_)) | (focus (simp; done)) | (focus (simp; omega)) | (focus omega) | (focus (have q0 := Below.size hb6; (try simp at q0); have q1 := Below.size hb25; (try simp at q1); (try simp); omega)))))) | (at_builtin; refine appB rfl _ _ rfl W.heap.size _ _ _ (l ++ gCode (shpOf kind) Q k) rfl ya _ _ (vEnc x.toNat) rfl own6 byt6 hxL.out _ rfl (by omega) hb26.size ?_; intro b7 cap7 w7 own7 g7 bl7; (have hb27 := bl7 W hb26)))
        go_roundw
        case rel => exact ⟨k + 1, (l ++ gCode (shpOf kind) Q k) ++ vEnc x.toNat, _, _, _, by omega, by go_num, rfl, own7, hb27, by omega, HE2.out⟩
        case measure => simp [intOf]; omega
      all_goals
        have HC := Lib.hid y3
        clear y3
        have own5 := own
        have E5 : l.map encB = (l ++ gCode (shpOf kind) Q k).map encB := by rw [HC.out, List.append_nil]
        rw [E5] at own5
        clear E5
        have hb25 := hbel
        go_wp2_with (first | (go_at_call 50; (with_reducible refine (ref02_EncOk x x0 x1 hxL _).mono ?_); rintro e w6 ⟨ya, yc, rfl, owny, hb6⟩; (have own6 := own5.below hb6 (Nat.le_refl _)); (have byt6 := owny.byt); (have hb26 : RowKit.Below W.heap.size W w6 := (by repeat (first | (with_reducible refine Below.setCell ?_ ?_ _) | (with_reducible refine Below.alloc ?_ ?_ _) | (with_reducible refine Below.drew ?_) | (with_reducible refine below_drewN ?_ _) | (with_reducible exact Below.refl _ _) | (with_reducible refine Below.trans ?_ (Below.mono hb6 ?_)) | (with_reducible refine Below.trans ?_ (Below.mono hb25 ?_)) | (focus (simp; done)) | (focus (simp; omega)) | (focus omega) | (focus (have q0 := Below.size hb6; (try simp at q0); have q1 := Below.size hb25; (try simp at q1); (try simp); omega)))))) | (at_builtin; refine appB rfl _ _ rfl W.heap.size _ _ _ (l ++ gCode (shpOf kind) Q k) rfl ya _ _ (vEnc x.toNat) rfl own6 byt6 hxL.out _ rfl (by omega) hb26.size ?_; intro b7 cap7 w7 own7 g7 bl7; (have hb27 := bl7 W hb26)))
        go_roundw
        case rel => exact ⟨k + 1, (l ++ gCode (shpOf kind) Q k) ++ vEnc x.toNat, _, _, _, by omega, by go_num, rfl, own7, hb27, by omega, HE2.out⟩
        case measure => simp [intOf]; omega
    · have c1 : ¬ ((k : Int) < (args.length : Int)) := by omega
      obtain rfl : k = args.length := by omega
      have HE : Hid (l ++ gCode (shpOf kind) Q args.length = tok ++ encFrom (shpOf kind) Q 0 args) := by
        show _ = _
        rw [← HL.out, List.drop_length]
        rfl
      have HF : Hid (Msg.pay ⟨kind, tok, args, dat⟩ = (l ++ gCode (shpOf kind) Q args.length) ++ dat) := Lib.hid (pay_split HS.out hgn.out HE.out)
      clear hlt
      rcases HGC.out with ⟨y1, y2, y3⟩ | ⟨y1, y2, y3⟩ | ⟨y1, y3⟩
      · have HC := Lib.hid (y3.trans HV.out)
        clear y3
        have gp : 0 < gr := of_decide_eq_true y2
        have Q0 : Q = 0 := by
          have := (HQ.out gp).2
          rw [beq_iff_eq] at y1
          rw [y1, Int.sub_self, Int.zero_ediv] at this
          omega
        have HZ : Hid (gCode (shpOf kind) Q args.length = [0]) := by
          show _ = _
          rw [HC.out, Q0]
          rfl
        go_wp2_with (first | (at_builtin; refine app1B rfl _ _ rfl W.heap.size _ _ cap l rfl 0 _ rfl own (by rfl) (N + 1) rfl (by omega) hbel.size ?_; intro b5 cap5 w5 own5 g5 bl5; (have hb25 := bl5 W hbel); rw [← HZ.out] at own5; (have bM5 := fM _ hb25); obtain ⟨m0, m1, m2, m3⟩ := bM5.four) | (at_builtin; refine appB rfl _ _ rfl W.heap.size _ _ _ (l ++ gCode (shpOf kind) Q args.length) rfl da _ _ dat rfl own5 (HBD.out.below hb25 (Nat.le_refl _)) rfl _ rfl (by omega) hb25.size ?_; intro b6 cap6 w6 own6 g6 bl6; (have hb26 := bl6 W hb25)))
        go_ret
        rw [← HF.out] at own6
        exact ⟨b6, _, cap6, rfl, own6.lenB, own6.mono hb0.size, fW _ hb26⟩
      all_goals
        have HC := Lib.hid y3
        clear y3
        have own5 := own
        have E5 : l.map encB = (l ++ gCode (shpOf kind) Q args.length).map encB := by rw [HC.out, List.append_nil]
        rw [E5] at own5
        clear E5
        have hb25 := hbel
        go_wp2_with (first | (at_builtin; refine appB rfl _ _ rfl W.heap.size _ _ _ (l ++ gCode (shpOf kind) Q args.length) rfl da _ _ dat rfl own5 (HBD.out.below hb25 (Nat.le_refl _)) rfl _ rfl (by omega) hb25.size ?_; intro b6 cap6 w6 own6 g6 bl6; (have hb26 := bl6 W hb25)))
        all_goals
          go_ret
          rw [← HF.out] at own6
          exact ⟨b6, _, cap6, rfl, own6.lenB, own6.mono hb0.size, fW _ hb26⟩
end Go.Proofs.Ytpjnajallekjoaa
