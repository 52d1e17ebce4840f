/- law 04: StreamFinds -/
import Derived.Test.YtjnajccobieamaaTakes
namespace Go.Proofs.Ytjnajccobieamaa
set_option linter.unusedVariables false
open Go.RowKit Go.Sort
set_option maxRecDepth 100000

/-! the plain law -/
def FindAt (b : List UInt8) (D : Bool) (ks : List Key) : Prop := ks.length ≤ b.length ∧ ∀ (m : List UInt8) (L : Nat), (b ++ m).length < L → tRun L (b ++ m) ⟨0, false, []⟩ = tRun L (b ++ m) ⟨b.length, D, ks⟩
theorem FindAt.start : FindAt [] false [] := ⟨by simp, fun _ _ _ => rfl⟩
theorem FindAt.step {b : List UInt8} {D : Bool} {ks : List Key} (h : FindAt b D ks) {s : List UInt8} {r : PR} (hr : ∀ m, fParse (s ++ m) = r) (ho : r.ok = true) (hs : r.size = s.length) (h1 : 1 ≤ s.length) :
    FindAt (b ++ s) (tStep ⟨b.length, D, ks⟩ r).garb (tStep ⟨b.length, D, ks⟩ r).keys := by
  refine ⟨?_, fun m L hL => ?_⟩
  · have := h.1
    rw [List.length_append]
    rcases tStep_keys ⟨b.length, D, ks⟩ r with e | e <;> rw [e]
    · simp only; omega
    · simp; omega
  · have q := h.2 (s ++ m) L (by rw [← List.append_assoc]; exact hL)
    rw [← List.append_assoc] at q
    rw [q]
    have e : (b ++ s ++ m).drop b.length = s ++ m := by rw [List.append_assoc, List.drop_left]
    have hp : fParse ((b ++ s ++ m).drop b.length) = r := by rw [e, hr]
    rw [tRun_go (st := ⟨b.length, D, ks⟩) ⟨by have := h.1; simp only; rw [List.length_append, List.length_append] at hL; omega, by simp only; rw [hp]; exact ho⟩]
    simp only [hp]
    have hu := tStep_used ⟨b.length, D, ks⟩ r
    generalize tStep ⟨b.length, D, ks⟩ r = q at hu ⊢
    obtain ⟨u, g, kk⟩ := q
    simp only at hu
    rw [hu, hs, List.length_append]
def wantG (D : Bool) (ks : List Key) : List Key := if D then ks else ks ++ [(2, 0, [])]
theorem FindAt.byte {b : List UInt8} {D : Bool} {ks : List Key} (h : FindAt b D ks) {x : UInt8} (hx : x.toNat ≠ 90) : FindAt (b ++ [x]) true (wantG D ks) := by
  have := h.step (s := [x]) (r := .fault 2 1) (fun m => fp_magic0 (by simp) (by simpa [at_] using hx)) rfl rfl (by simp)
  cases D
  · exact this
  · exact this
theorem FindAt.frame {b : List UInt8} {D : Bool} {ks : List Key} (h : FindAt b D ks) {k : Int} {p : List UInt8} (k1 : 1 ≤ k) (k2 : k ≤ 22) (hp : p.length ≤ 200) : FindAt (b ++ frm k p) false (ks ++ [(0, k, p)]) := by
  have := h.step (s := frm k p) (r := ⟨0, k, p, p.length + 10, true⟩) (fun m => fParse_frm m k1 k2 hp) rfl (frm_len k p).symm (by rw [frm_len]; omega)
  rw [tStep_o (b := false) (by simp) (by simp)] at this
  exact this
theorem FindAt.done {b : List UInt8} {D : Bool} {ks : List Key} (h : FindAt b D ks) : allK b = ks := by
  have := h.2 [] (b.length + 1) (by simp)
  rw [List.append_nil] at this
  unfold allK
  rw [this, tRun_stop (fun q => by have := q.2; simp only at this; rw [List.drop_eq_nil_of_le (Nat.le_refl _), fp_more0 rfl] at this; cases this)]
/-- what has been built so far, in memory -/
structure FM (w W : World) (p B : Nat) (d : Dk) (kd : Nat) (bl : List UInt8) (ba : Option Addr) (bc : Nat) (its : List It) (xa : Option Addr) (xc : Nat) : Prop where
  il : ItL w W B its xa xc
  bo : Own W B 5 1 ba bl.length bc (bl.map encB)
  ap : ∀ x ∈ its, Apart ba x.a
  dk : DeckAt W p d kd
  pB : p < B ∧ w.heap.size ≤ p
section
variable {w W W' : World} {p B : Nat} {d : Dk} {kd k2 : Nat} {bl : List UInt8} {ba : Option Addr} {bc : Nat} {its : List It} {xa : Option Addr} {xc : Nat}
theorem FM.deck (h : FM w W p B d kd bl ba bc its xa xc) (hd : DeckAt W' p d k2) (g : W.grownBy W' (some p)) : FM w W' p B d k2 bl ba bc its xa xc := by
  have hp := h.pB
  refine ⟨⟨h.il.own.grown g hp.1, fun x hx => (h.il.pays x hx).keep fun b hb _ hlt => g.block b hlt (fun e => ?_), h.il.be.grown g h.il.be.size (fun k hk => by injection hk with hk; omega), h.il.sz.1, Nat.le_trans h.il.sz.2 g.size⟩, h.bo.grown g hp.1, h.ap, hd, hp⟩
  injection e with e
  exact (h.il.pays x hx).ne_blk h.dk.1 (by decide) (by rw [hb, ← e]; rfl)
theorem FM.below (h : FM w W p B d kd bl ba bc its xa xc) (hb : RowKit.Below W.heap.size W W') : FM w W' p B d kd bl ba bc its xa xc :=
  ⟨h.il.below hb, h.bo.below hb (Nat.le_refl _), h.ap, h.dk.below hb, h.pB⟩
theorem FM.pushB {w0 : World} {k0 : Nat} (h0 : DeckAt w0 p d k0) (hB : w0.heap.size = B) (h : FM w W p B d kd bl ba bc its xa xc) {bb : Option Addr} {N bd : Nat} {l : List UInt8} (hN : N = (bl ++ l).length) (own : Own W' B 5 1 bb N bd ((bl ++ l).map encB)) (gr : Grew B W W' ba bb) : FM w W' p B d kd (bl ++ l) bb bd its xa xc := by
  subst hN
  have hp := h.pB
  have ob := h.bo.base_le
  refine ⟨⟨h.il.own.grew gr (h.bo.apart h.il.own (by decide)), fun x hx => (h.il.pays x hx).grew gr (h.ap x hx), h.il.be.grown gr.1 h.il.be.size (fun q hq => by have := ob q hq; omega), h.il.sz.1, Nat.le_trans h.il.sz.2 gr.1.size⟩, own, fun x hx => (h.ap x hx).grew (h.il.pays x hx).lt' gr, h.dk.grew h0 gr (by rw [hB]; exact h.il.sz.2) (fun k hk => by rw [hB]; exact ob k hk), hp⟩
theorem FM.pushI {w0 : World} {k0 : Nat} (h0 : DeckAt w0 p d k0) (hB : w0.heap.size = B) (h : FM w W p B d kd bl ba bc its xa xc) {xb : Option Addr} {xd : Nat} {x : It} (il : ItL w W' B (its ++ [x]) xb xd) (gr : Grew B W W' xa xb) (hx : Apart ba x.a) : FM w W' p B d kd bl ba bc (its ++ [x]) xb xd := by
  have hp := h.pB
  have ob := h.il.own.base_le
  refine ⟨il, h.bo.grew gr (h.il.own.apart h.bo (by decide)), fun y hy => ?_, h.dk.grew h0 gr (by rw [hB]; exact h.il.sz.2) (fun k hk => by rw [hB]; exact ob k hk), hp⟩
  rcases List.mem_append.1 hy with hy | hy
  · exact h.ap y hy
  · rw [List.mem_singleton.1 hy]; exact hx
end

set_option maxHeartbeats 4000000 in
theorem streamFinds_walk (a1 : Option Addr) (c1 : Nat) (l1 : List Int) (w : World) (h1 : Ints w a1 l1) (n1 : l1.length ≤ 9223372036854775807) :
    Calls Try.prog 3 #[.slice a1 l1.length c1] w fun e w' => e = .returned (.bool true) ∧ Below w.heap.size w w' := by
  go_enter Try.func3, Try.ntmps3
  go_upto_region 5 with (first | (go_at_call 9; (with_reducible refine (mk_New a1 c1 l1 _ h1 n1).mono ?_); rintro e w1 ⟨rfl, hd1, hb1⟩))
  obtain ⟨d, hdd⟩ : ∃ d : Dk, d = ⟨a1, c1, l1⟩ := ⟨_, rfl⟩
  rw [← hdd] at hd1
  have hpl := hd1.lt
  have fm0 : FM w w1 w.heap.size w1.heap.size d 0 [] none 0 [] none 0 := ⟨⟨Own.nil _ _ _ _, by simp, hb1, by omega, Nat.le_refl _⟩, Own.nil _ _ _ _, by simp, hd1, hpl, Nat.le_refl _⟩
  obtain ⟨P, hP⟩ : ∃ P, P = w.heap.size := ⟨_, rfl⟩
  rw [← hP] at fm0 hd1
  have HD0 := Lib.hid hd1
  rw [← hP]
  clear hd1 hb1 h1 hdd hP hpl
  go_upto_region 6 with ((go_at_call 10; (with_reducible refine (deck_Next P 12 _ d _ fm0.dk (by omega) (by omega)).mono ?_); rintro e w2 ⟨v, rfl, v0, v1, -, hd2, g2⟩; ((try simp only [Int.zero_add]); have fm1 := fm0.deck hd2 g2; clear hd2 g2)))
  obtain ⟨j0, rfl⟩ := Int.eq_ofNat_of_zero_le v0
  clear fm0
  go_loopw [4, 5, 6, 7] (fun s4 s5 s6 s7 wr => ∃ (bl : List UInt8) (ba : Option Addr) (bc : Nat) (its : List It) (xa : Option Addr) (xc : Nat) (D : Bool) (ks : List Key) (kd j : Nat), s4 = .slice ba bl.length bc ∧ s5 = .slice xa its.length xc ∧ s6 = .bool D ∧ s7 = .int .i64 j ∧ FM w wr P w1.heap.size d kd bl ba bc its xa xc ∧ its.map It.key = ks ∧ FindAt bl D ks ∧ bl.length + j * 40 ≤ 480 ∧ its.length + j ≤ 12) (fun _ _ _ s7 _ => (intOf s7).toNat)
  case atStart => exact ⟨[], none, 0, [], none, 0, false, [], _, j0, rfl, rfl, rfl, rfl, fm1, rfl, FindAt.start, by simp; omega, by simp; omega⟩
  case round =>
    obtain ⟨bl, ba, bc, its, xa, xc, D, ks, kd, j, rfl, rfl, rfl, rfl, fm, hk, hfa, hbl, hil⟩ := hrel
    have HK := Lib.hid hk
    have HF := Lib.hid hfa
    clear fm1 hk hfa
    by_cases hj : 0 < j
    · have hjp : (0 : Int) < (j : Int) := by omega
      go_upto_if 23 with ((go_at_call 10; (with_reducible refine (deck_Next P 3 _ d _ fm.dk (by omega) (by omega)).mono ?_); rintro e w3 ⟨v, rfl, v0, v1, -, hd3, g3⟩; ((try simp only [Int.zero_add]); have fm3 := fm.deck hd3 g3; clear hd3 g3)))
      by_cases hv : v = 0
      · have zv : (v == 0) = true := by rw [beq_iff_eq]; exact hv
        go_upto_region 10 with ((go_at_call 11; (with_reducible refine (deck_Range P 1 6 _ d _ fm3.dk (by omega) (by omega) (by omega)).mono ?_); rintro e w4 ⟨n0, rfl, n00, n01, -, hd4, g4⟩; (have fm4 := fm3.deck hd4 g4; clear hd4 g4)))
        obtain ⟨N0, hN0⟩ := Int.eq_ofNat_of_zero_le (show 0 ≤ 1 + n0 by omega)
        rw [hN0]
        have hN1 : 1 ≤ N0 := by omega
        have hN6 : N0 ≤ 6 := by omega
        have HJ := Lib.hid (show 0 < j from hj)
        clear hN0 n00 n01 fm fm3 v0 v1
        go_loopw [4, 8] (fun s4 s8 wy => ∃ (cl : List UInt8) (ca : Option Addr) (cc kk i : Nat), s4 = .slice ca cl.length cc ∧ s8 = .int .i64 i ∧ FM w wy P w1.heap.size d kk cl ca cc its xa xc ∧ i ≤ N0 ∧ cl.length + i = bl.length + N0 ∧ ((i = N0 ∧ cl = bl) ∨ FindAt cl true (wantG D ks))) (fun _ s8 _ => (intOf s8).toNat)
        case atStart => exact ⟨bl, ba, bc, _, N0, rfl, rfl, fm4, Nat.le_refl _, rfl, .inl ⟨rfl, rfl⟩⟩
        case round =>
          obtain ⟨cl, ca, cc, kk, i, rfl, rfl, fmi, hi, hcl, hor⟩ := hrel
          have HOR := Lib.hid hor
          clear fm4 hor
          by_cases hip : 0 < i
          · have hii : (0 : Int) < (i : Int) := by omega
            obtain ⟨i', rfl⟩ : ∃ i', i = i' + 1 := ⟨i - 1, by omega⟩
            go_wp2_with (first | (go_at_call 10; (with_reducible refine (deck_Next P 90 _ d _ fmi.dk (by omega) (by omega)).mono ?_); rintro e w5 ⟨y, rfl, y0, y1, -, hd5, g5⟩; ((try simp only [Int.zero_add]); have fm5 := fmi.deck hd5 g5; clear hd5 g5)) | (at_builtin; refine app1B rfl _ _ rfl w1.heap.size ca _ cc cl rfl (byt y) y rfl fm5.bo (byt_int y0 (by omega)) (cl ++ [byt y]).length (by rw [List.length_append]; rfl) (by rw [List.length_append]; simp; omega) fm5.il.sz.2 ?_; intro cb cd w6 own6 gr6 bl6; have fm6 := (fm5.below (show RowKit.Below w5.heap.size w5 (w5.alloc (.cells #[.int .u8 y] 5)) from (by repeat (first | (with_reducible refine Below.setCell ?_ ?_ _) | (with_reducible refine Below.alloc ?_ ?_ _) | (with_reducible refine Below.drew ?_) | (with_reducible refine below_drewN ?_ _) | (with_reducible exact Below.refl _ _) | (focus (simp; done)) | (focus (simp; omega)) | (focus omega))))).pushB HD0.out rfl rfl own6 gr6))
            have hb90 : (byt y).toNat ≠ 90 := by have := byt_int y0 (show y < 256 by omega); omega
            have hnew : FindAt (cl ++ [byt y]) true (wantG D ks) := by
              rcases HOR.out with ⟨-, rfl⟩ | h
              · exact HF.out.byte hb90
              · have := h.byte hb90
                exact this
            have HNW := Lib.hid hnew
            clear hnew
            go_roundw
            case rel => exact ⟨cl ++ [byt y], cb, cd, _, i', by simp, by go_num, fm6, by omega, by rw [List.length_append]; simp; omega, .inr HNW.out⟩
            case measure => first | (simp [intOf]; done) | (simp [intOf]; omega)
          · obtain rfl : i = 0 := by omega
            have hfa : Hid (FindAt cl true (wantG D ks)) := Lib.hid (by
              rcases HOR.out with ⟨h, _⟩ | h
              · omega
              · exact h)
            obtain ⟨j', rfl⟩ : ∃ j', j = j' + 1 := ⟨j - 1, by have := HJ.out; omega⟩
            cases D with
            | true =>
              go_wp2
              go_roundw
              case rel => exact ⟨cl, ca, cc, its, xa, xc, true, ks, _, j', rfl, rfl, rfl, by go_num, fmi, HK.out, hfa.out, by omega, by omega⟩
              case measure => first | (simp [intOf]; done) | (simp [intOf]; omega)
            | false =>
              go_wp2_with (at_builtin; refine app1It rfl _ _ rfl w1.heap.size xa _ xc its rfl rfl 2 0 [] none _ 0 rfl wr.heap.size rfl rfl fmi.il (Own.nil _ _ _ _) (by omega) ?_; intro xb xd w6 il6 gr6; have fm6 := (fmi.below (show RowKit.Below wr.heap.size wr (wr.alloc (.cells #[.int .i64 2, .int .i64 0, .slice none 0 0] 31)) from (by repeat (first | (with_reducible refine Below.setCell ?_ ?_ _) | (with_reducible refine Below.alloc ?_ ?_ _) | (with_reducible refine Below.drew ?_) | (with_reducible refine below_drewN ?_ _) | (with_reducible exact Below.refl _ _) | (focus (simp; done)) | (focus (simp; omega)) | (focus omega))))).pushI HD0.out rfl il6 gr6 (Apart.none_right _))
              go_roundw
              case rel => exact ⟨cl, ca, cc, its ++ [⟨2, 0, [], none, 0⟩], xb, xd, true, ks ++ [(2, 0, [])], _, j', rfl, by simp, rfl, by go_num, fm6, by rw [List.map_append, HK.out]; rfl, hfa.out, by omega, by simp; omega⟩
              case measure => first | (simp [intOf]; done) | (simp [intOf]; omega)
      · have zv : (v == 0) = false := by rw [beq_eq_false_iff_ne]; exact hv
        obtain ⟨j', rfl⟩ : ∃ j', j = j' + 1 := ⟨j - 1, by omega⟩
        clear fm hv hj
        go_upto_region 18 with (first | (go_at_call 10; (with_reducible refine (deck_Next P 22 _ d _ fm3.dk (by omega) (by omega)).mono ?_); rintro e w4 ⟨u, rfl, u0, u1, -, hd4, g4⟩; ((try simp only [Int.zero_add]); have fm4 := fm3.deck hd4 g4; clear hd4 g4)) | (go_at_call 12; (with_reducible refine (deck_Bytes P 20 _ d _ 20 rfl fm4.dk (by omega)).mono ?_); rintro e w5 ⟨q, k5, pa, pc, rfl, hql, ownq, hd5, g5⟩; (have fm5 := fm4.deck hd5 g5; have apq : Apart ba pa := (fun k ha hk => by have := fm4.bo.lt' k ha; have := ownq.base_le k hk; omega); clear hd5 g5; have hql' : q.length ≤ 20 := hql)) | (go_at_call 13; (with_reducible refine (refencode_E (1 + u) pa _ q pc _ (by omega) (by omega) ownq.byt rfl (by omega)).mono ?_); rintro e w6 ⟨fa, fc, rfl, ownf, hb6⟩; (have fm6 := fm5.below hb6; have oq6 := (ownq.mono (Nat.zero_le _)).below hb6 (Nat.le_refl _))))
        have hfq : (frm (1 + u) q).length = q.length + 10 := frm_no _ _
        have hfa : Hid (FindAt (bl ++ frm (1 + u) q) false (ks ++ [(0, 1 + u, q)])) := Lib.hid (HF.out.frame (by omega) (by omega) (by omega))
        have apw : Apart ba fa := fun k ha hk => by have := fm5.bo.lt' k ha; have := ownf.base_le k hk; omega
        clear fm3 fm4 fm5 hb6
        go_wp2_with (first | (at_builtin; refine appB rfl _ _ rfl w1.heap.size ba _ bc bl rfl fa _ fc (frm (1 + u) q) rfl fm6.bo ownf.byt hfq.symm (bl ++ frm (1 + u) q).length (by rw [List.length_append, hfq]) (by rw [List.length_append]; omega) fm6.il.sz.2 ?_; intro bb bd w7 own7 gr7 bl7; (have fm7 := fm6.pushB HD0.out rfl rfl own7 gr7); (have oq7 := oq6.grew gr7 apq); (have apq7 := apq.grew oq6.lt' gr7)) | (at_builtin; refine app1It rfl _ _ rfl w1.heap.size xa _ xc its rfl rfl 0 (1 + u) q pa _ pc rfl w7.heap.size rfl rfl fm7.il oq7 (by omega) ?_; intro xb xd w8 il8 gr8; have fm8 := (fm7.below (show RowKit.Below w7.heap.size w7 (w7.alloc (.cells #[.int .i64 0, .int .i64 (1 + u), .slice pa q.length pc] 31)) from (by repeat (first | (with_reducible refine Below.setCell ?_ ?_ _) | (with_reducible refine Below.alloc ?_ ?_ _) | (with_reducible refine Below.drew ?_) | (with_reducible refine below_drewN ?_ _) | (with_reducible exact Below.refl _ _) | (focus (simp; done)) | (focus (simp; omega)) | (focus omega))))).pushI HD0.out rfl il8 gr8 apq7))
        go_roundw
        case rel => exact ⟨bl ++ frm (1 + u) q, bb, bd, its ++ [⟨0, 1 + u, q, pa, pc⟩], xb, xd, false, ks ++ [(0, 1 + u, q)], _, j', line_len (by first | rfl | (rw [List.length_append]; omega)), by simp, rfl, by go_num, fm8, by rw [List.map_append, HK.out]; rfl, hfa.out, by rw [List.length_append]; omega, by simp; omega⟩
        case measure => first | (simp [intOf]; done) | (simp [intOf]; omega)
    · obtain rfl : j = 0 := by omega
      have hits : Items wr xa its := items_of fm.il.own fm.il.pays
      have cpb := fm.bo.cap_le
      go_wp2_with (first | (go_at_call 15; (with_reducible refine (stream_All ba bl _ bc _ fm.bo.byt rfl cpb (by omega) (fun h => fm.bo.none_len h)).mono ?_); rintro e w3 ⟨its2, ia, ic, rfl, hk3, it3, hb3⟩) | (go_at_call 14; (with_reducible refine (same_E ia xa its2 its _ _ _ _ _ it3 (hits.below hb3 (Nat.le_refl _)) rfl rfl (by have := congrArg List.length hk3; have h2 := allK_len bl; rw [List.length_map] at this; omega) (by omega) (hk3.trans (HF.out.done.trans HK.out.symm))).mono ?_); rintro e w4 ⟨rfl, hb4⟩) | (go_at_call 16; (with_reducible refine (awake_yes _).mono ?_); rintro e w20 ⟨rfl, hb20⟩))
      go_ret
      exact ⟨rfl, (by repeat (first | (with_reducible refine Below.setCell ?_ ?_ _) | (with_reducible refine Below.alloc ?_ ?_ _) | (with_reducible refine Below.drew ?_) | (with_reducible refine below_drewN ?_ _) | (with_reducible exact Below.refl _ _) | (with_reducible refine Below.trans ?_ (Below.mono hb20 ?_)) | (with_reducible refine Below.trans ?_ (Below.mono hb4 ?_)) | (with_reducible refine Below.trans ?_ (Below.mono hb3 ?_)) | (with_reducible refine Below.trans ?_ (Below.mono fm.il.be ?_)) | (focus (simp; done)) | (focus (simp; omega)) | (focus omega) | (focus (have q0 := Below.size hb20; (try simp at q0); have q1 := Below.size hb4; (try simp at q1); have q2 := Below.size hb3; (try simp at q2); have q3 := Below.size fm.il.be; (try simp at q3); (try simp); omega))))⟩
end Go.Proofs.Ytjnajccobieamaa
