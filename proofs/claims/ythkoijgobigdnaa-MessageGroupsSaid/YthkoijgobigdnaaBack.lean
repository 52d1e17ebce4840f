import Derived.Test.YthkoijgobigdnaaMade
import Derived.Test.YthkoijgobigdnaaAwake
import Derived.Test.YthkoijgobigdnaaSameM
import Derived.Outline
namespace Go.Proofs.Ythkoijgobigdnaa
open Go.RowKit Go.Sort
set_option maxRecDepth 100000

/-- messages of one kind with one payload are one -/
theorem pay_inj {m n : Msg} (hm : m.Ok) (hn : n.Ok) (hk : m.kind = n.kind) (hp : m.pay = n.pay) : m = n := by
  obtain ⟨s, hs⟩ : ∃ s, shpOf m.kind = s := ⟨_, rfl⟩
  obtain ⟨-, -, a1, -, l, m2, r, a2, a3, a4⟩ := dec_back hm hs
  obtain ⟨-, -, b1, -, l', n2, r', b2, b3, b4⟩ := dec_back hn (hk ▸ hs)
  rw [hp] at a1 a3
  have ht : m.tok = n.tok := a1.symm.trans b1
  rw [a3] at b3
  injection b3 with b3
  injection b3 with b3 b3'
  subst b3 b3'
  have key : m2 = n2 ∧ m.dat = n.dat := by
    rcases a4 with ⟨g0, rfl, rfl⟩ | ⟨g0, x, -, -, -, x1, x2⟩
    · rcases b4 with ⟨_, rfl, h⟩ | ⟨g1, _⟩
      · exact ⟨rfl, h⟩
      · omega
    · rcases b4 with ⟨g1, _⟩ | ⟨_, y, -, -, -, y1, y2⟩
      · omega
      · rw [x1] at y1
        injection y1 with y1
        injection y1 with y1 y1'
        injection y1 with y1 _
        subst y1
        rw [y1', y2] at x2
        injection x2 with x2
        injection x2 with x2 x2'
        exact ⟨x2.symm, x2'.symm⟩
  obtain ⟨k, tok, args, dat⟩ := m
  obtain ⟨k', tok', args', dat'⟩ := n
  simp only at hk ht a2 b2 key
  rw [hk, ht, a2, b2, key.1, key.2]
theorem msg_DecodeBack {kind : Int} {tok : List UInt8} {args : List Int} {dat p : List UInt8} (hok : Msg.Ok ⟨kind, tok, args, dat⟩) (hp : Msg.pay ⟨kind, tok, args, dat⟩ = p) {base n : Nat} {a : Option Addr} {c : Nat} (w : World) (own : Own w base 5 1 a n c (p.map encB)) (hn : n = p.length) :
    Calls Try.prog 16 #[.int .i64 kind, .slice a n c] w fun e w' => ∃ ta tc aa ac da dc, e = .returned (.tuple #[.agg #[.int .i64 kind, .slice ta tok.length tc, .slice aa args.length ac, .slice da dat.length dc], .int .i64 0]) ∧ MsgAt w' ⟨kind, tok, args, dat⟩ ta tc aa da ∧ Below w.heap.size w w' := by
  refine (msg_Decode kind a p n c w own.byt hn (by have := own.cap_le; omega) (fun h => by have := own.none_len h; omega)).mono fun e w' h => ?_
  rcases h with ⟨⟨m, h1, h2, h3, v, he, ta, tc, aa, ac, da, dc, hv, hat⟩ | ⟨_, _, h, _⟩ | ⟨h, _⟩, hb⟩
  · have := pay_inj h1 hok h2 (h3.trans hp.symm)
    subst this
    exact ⟨ta, tc, aa, ac, da, dc, by rw [he, hv], hat, hb⟩
  · exact absurd hp (h _ hok rfl)
  · have := hok.kind
    simp only at this
    omega
theorem msg_EncodeN {kind : Int} {tok : List UInt8} {args : List Int} {dat : List UInt8} (hok : ¬ Msg.Ok ⟨kind, tok, args, dat⟩) (ta : Option Addr) (tc : Nat) (aa da : Option Addr) (ac dc : Nat) (w : World) (hat : MsgAt w ⟨kind, tok, args, dat⟩ ta tc aa da) :
    Calls Try.prog 19 #[.agg #[.int .i64 kind, .slice ta tok.length tc, .slice aa args.length ac, .slice da dat.length dc]] w fun e w' => e = .returned (.tuple #[.slice none 0 0, .int .i64 6]) ∧ Below w.heap.size w w' := by
  refine (msg_Encode ⟨kind, tok, args, dat⟩ ta tc aa da ac dc w hat rfl rfl rfl).mono fun e w' h => ?_
  rcases h with ⟨h, _⟩ | ⟨_, he, hb⟩
  · exact absurd h hok
  · exact ⟨he, hb⟩
theorem msg_ValidV {kind : Int} {tok : List UInt8} {args : List Int} {dat : List UInt8} {b : Bool} (hok : b = true ↔ Msg.Ok ⟨kind, tok, args, dat⟩) (ta : Option Addr) (tc : Nat) (aa da : Option Addr) (ac dc : Nat) (w : World) (hat : MsgAt w ⟨kind, tok, args, dat⟩ ta tc aa da) :
    Calls Try.prog 20 #[.agg #[.int .i64 kind, .slice ta tok.length tc, .slice aa args.length ac, .slice da dat.length dc]] w fun e w' => e = .returned (.bool b) ∧ Below w.heap.size w w' := by
  refine (msg_Valid ⟨kind, tok, args, dat⟩ ta tc aa da ac dc w hat rfl rfl rfl).mono fun e w' h => ?_
  rcases h with ⟨⟨h, he⟩ | ⟨h, he⟩, hb⟩
  · exact ⟨by rw [he, hok.2 h], hb⟩
  · refine ⟨?_, hb⟩
    rw [he]
    cases b
    · rfl
    · exact absurd (hok.1 rfl) h
theorem msg_ValidY {kind : Int} {tok : List UInt8} {args : List Int} {dat : List UInt8} (hok : Msg.Ok ⟨kind, tok, args, dat⟩) (ta : Option Addr) (tc : Nat) (aa da : Option Addr) (ac dc : Nat) (w : World) (hat : MsgAt w ⟨kind, tok, args, dat⟩ ta tc aa da) :
    Calls Try.prog 20 #[.agg #[.int .i64 kind, .slice ta tok.length tc, .slice aa args.length ac, .slice da dat.length dc]] w fun e w' => e = .returned (.bool true) ∧ Below w.heap.size w w' :=
  msg_ValidV ⟨fun _ => hok, fun _ => rfl⟩ ta tc aa da ac dc w hat
theorem msg_ValidN {kind : Int} {tok : List UInt8} {args : List Int} {dat : List UInt8} (hok : ¬ Msg.Ok ⟨kind, tok, args, dat⟩) (ta : Option Addr) (tc : Nat) (aa da : Option Addr) (ac dc : Nat) (w : World) (hat : MsgAt w ⟨kind, tok, args, dat⟩ ta tc aa da) :
    Calls Try.prog 20 #[.agg #[.int .i64 kind, .slice ta tok.length tc, .slice aa args.length ac, .slice da dat.length dc]] w fun e w' => e = .returned (.bool false) ∧ Below w.heap.size w w' :=
  msg_ValidV ⟨fun h => absurd h (by simp), fun h => absurd h hok⟩ ta tc aa da ac dc w hat
theorem ref05_SameV {k1 k2 : Int} {t1 t2 d1 d2 : List UInt8} {a1 a2 : List Int} {b : Bool} (h : sameM ⟨k1, t1, a1, d1⟩ ⟨k2, t2, a2, d2⟩ = b) (ta : Option Addr) (tc : Nat) (aa da : Option Addr) (ac dc : Nat) (sa : Option Addr) (sc : Nat) (ba fa : Option Addr) (bc fc : Nat) (w : World) (hm : MsgAt w ⟨k1, t1, a1, d1⟩ ta tc aa da) (hn : MsgAt w ⟨k2, t2, a2, d2⟩ sa sc ba fa) :
    Calls Try.prog 18 #[.agg #[.int .i64 k1, .slice ta t1.length tc, .slice aa a1.length ac, .slice da d1.length dc], .agg #[.int .i64 k2, .slice sa t2.length sc, .slice ba a2.length bc, .slice fa d2.length fc]] w fun e w' => e = .returned (.bool b) ∧ Below w.heap.size w w' := by
  rw [← h]
  exact ref05_Same ⟨k1, t1, a1, d1⟩ ⟨k2, t2, a2, d2⟩ ta tc aa da ac dc sa sc ba fa bc fc w hm hn rfl rfl rfl rfl rfl rfl rfl rfl

/-- the two messages in memory -/
structure Two (w W : World) (J : Nat) (m n : Msg) (ta : Option Addr) (tc : Nat) (aa : Option Addr) (ac : Nat) (da : Option Addr) (dc : Nat) (sa : Option Addr) (sc : Nat) (ba : Option Addr) (bc : Nat) (fa : Option Addr) (fc : Nat) : Prop where
  b1 : Blk W J 27 #[.int .i64 m.kind, .slice ta m.tok.length tc, .slice aa m.args.length ac, .slice da m.dat.length dc]
  b2 : Blk W (J + 1) 27 #[.int .i64 n.kind, .slice sa n.tok.length sc, .slice ba n.args.length bc, .slice fa n.dat.length fc]
  hm : MsgAt W m ta tc aa da
  hn : MsgAt W n sa sc ba fa
  be : RowKit.Below w.heap.size w W
section
variable {w W W' : World} {J : Nat} {m n : Msg} {ta aa da sa ba fa : Option Addr} {tc ac dc sc bc fc : Nat}
theorem Two.below (h : Two w W J m n ta tc aa ac da dc sa sc ba bc fa fc) (hb : RowKit.Below W.heap.size W W') : Two w W' J m n ta tc aa ac da dc sa sc ba bc fa fc :=
  ⟨h.b1.below hb h.b1.lt, h.b2.below hb h.b2.lt, h.hm.below hb (Nat.le_refl _), h.hn.below hb (Nat.le_refl _), h.be.trans (hb.mono h.be.size)⟩
end

set_option maxHeartbeats 4000000 in
theorem messageBack_walk (a0 : Option Addr) (c0 : Nat) (l0 : List Int) (a1 : Option Addr) (c1 : Nat) (l1 : List Int) (w : World) (h0 : Ints w a0 l0) (n0 : l0.length ≤ 9223372036854775807) (h1 : Ints w a1 l1) (n1 : l1.length ≤ 9223372036854775807) :
    Calls Try.prog 6 #[.slice a0 l0.length c0, .slice a1 l1.length c1] w fun e w' => e = .returned (.bool true) ∧ Below w.heap.size w w' := by
  go_enter Try.func6, Try.ntmps6
  go_upto_region 2 with (first | (go_at_call 12; (with_reducible refine (mk_New a0 c0 l0 _ h0 n0).mono ?_); rintro e w1 ⟨rfl, hd1, hb1⟩) | (go_at_call 11; (with_reducible refine (law_made _ _ _ _ hd1).mono ?_); rintro e w2 ⟨m, k2, v, rfl, ⟨ta, tc, aa, ac, da, dc, rfl, hat⟩, mk1, mk2, mok, hd2, g2⟩; ((have be2 : RowKit.Below w.heap.size w w2 := hb1.grown g2 (by have := hb1.size; omega) (fun k hk => by injection hk with hk; omega)); (have h12 : Ints w2 a1 l1 := Ints.below h1 be2 (Nat.le_refl _)))) | (go_at_call 12; (with_reducible refine (mk_New a1 c1 l1 _ h12 n1).mono ?_); rintro e w3 ⟨rfl, hd3, hb3⟩) | (go_at_call 11; (with_reducible refine (law_made _ _ _ _ hd3).mono ?_); rintro e w4 ⟨n, k4, v, rfl, ⟨sa, sc, ba, bc, fa, fc, rfl, han⟩, nk1, nk2, nok, hd4, g4⟩; (have be4 : RowKit.Below w2.heap.size w2 w4 := hb3.grown g4 (by have := hb3.size; omega) (fun k hk => by injection hk with hk; omega))))
  obtain ⟨km, t1, g1, d1⟩ := m
  obtain ⟨kn, t2, g2', d2⟩ := n
  simp only at *
  refine wp_named (fun W => Two w W w4.heap.size ⟨km, t1, g1, d1⟩ ⟨kn, t2, g2', d2⟩ ta tc aa ac da dc sa sc ba bc fa fc) ⟨(Blk.new _ _ _).alloc _, Blk.next _ _ _ _, (hat.below be4 (Nat.le_refl _)).below (B := w4.heap.size) (by repeat (first | (with_reducible refine Below.setCell ?_ ?_ _) | (with_reducible refine Below.alloc ?_ ?_ _) | (with_reducible refine Below.drew ?_) | (with_reducible refine below_drewN ?_ _) | (with_reducible exact Below.refl _ _) | (focus (simp; done)) | (focus (simp; omega)) | (focus omega))) (Nat.le_refl _), han.below (B := w4.heap.size) (by repeat (first | (with_reducible refine Below.setCell ?_ ?_ _) | (with_reducible refine Below.alloc ?_ ?_ _) | (with_reducible refine Below.drew ?_) | (with_reducible refine below_drewN ?_ _) | (with_reducible exact Below.refl _ _) | (focus (simp; done)) | (focus (simp; omega)) | (focus omega))) (Nat.le_refl _), (by repeat (first | (with_reducible refine Below.setCell ?_ ?_ _) | (with_reducible refine Below.alloc ?_ ?_ _) | (with_reducible refine Below.drew ?_) | (with_reducible refine below_drewN ?_ _) | (with_reducible exact Below.refl _ _) | (with_reducible refine Below.trans ?_ (Below.mono be2 ?_)) | (with_reducible refine Below.trans ?_ (Below.mono be4 ?_)) | (focus (simp; done)) | (focus (simp; omega)) | (focus omega) | (focus (have q0 := Below.size be2; (try simp at q0); have q1 := Below.size be4; (try simp at q1); (try simp); omega))))⟩ ?_
  rintro W t
  clear hat han hd1 hd2 hd3 hd4 g2 g4 hb1 hb3 be2 be4 h12 h0 h1
  obtain ⟨u0, u1, u2, u3⟩ := t.b1.four; obtain ⟨v0, v1, v2, v3⟩ := t.b2.four; (have ul := t.b1.lt); (have vl := t.b2.lt)
  by_cases hok : Msg.Ok ⟨km, t1, g1, d1⟩
  · have hsame := sameM_yes (m := ⟨km, t1, g1, d1⟩) rfl
    obtain ⟨pl, hpl⟩ : ∃ pl, Msg.pay ⟨km, t1, g1, d1⟩ = pl := ⟨_, rfl⟩
    obtain ⟨N, hN⟩ : ∃ N, N = pl.length := ⟨_, rfl⟩
    have HPL := Lib.hid hpl
    have HN := Lib.hid hN
    have HOK := Lib.hid hok
    clear hpl hN hok
    by_cases hk : kn = km
    · have hk' := hk.symm
      subst hk'
      clear hk
      have z : (km == km) = true := by simp
      by_cases hnok : Msg.Ok ⟨km, t2, g2', d2⟩
      · obtain ⟨ql, hql⟩ : ∃ ql, Msg.pay ⟨km, t2, g2', d2⟩ = ql := ⟨_, rfl⟩
        obtain ⟨M, hM⟩ : ∃ M, M = ql.length := ⟨_, rfl⟩
        have HQL := Lib.hid hql
        have HM := Lib.hid hM
        have HNOK := Lib.hid hnok
        clear hql hM hnok
        go_upto_region 10 with (first | (go_at_call 19; (with_reducible refine (msg_EncodeE HOK.out HPL.out ta tc aa da ac dc _ t.hm rfl rfl rfl HN.out).mono ?_); rintro e w5 ⟨pa, pc, rfl, own5, hb5⟩; (have t5 := t.below hb5; clear u0 u1 u2 u3 v0 v1 v2 v3 ul vl; obtain ⟨u0, u1, u2, u3⟩ := t5.b1.four; obtain ⟨v0, v1, v2, v3⟩ := t5.b2.four; (have ul := t5.b1.lt); (have vl := t5.b2.lt))) | (go_at_call 20; (with_reducible refine (msg_ValidY HOK.out ta tc aa da ac dc _ t5.hm).mono ?_); rintro e w6 ⟨rfl, hb6⟩; (have t6 := t5.below hb6; clear u0 u1 u2 u3 v0 v1 v2 v3 ul vl; obtain ⟨u0, u1, u2, u3⟩ := t6.b1.four; obtain ⟨v0, v1, v2, v3⟩ := t6.b2.four; (have ul := t6.b1.lt); (have vl := t6.b2.lt))) | (go_at_call 16; (with_reducible refine (msg_DecodeBack HOK.out HPL.out _ (own5.below hb6 (Nat.le_refl _)) HN.out).mono ?_); rintro e w7 ⟨xa, xc, ya, yc, za, zc, rfl, hx, hb7⟩; (have t7 := (t6.below hb7).below (show RowKit.Below w7.heap.size w7 (w7.alloc (.cells #[.int .i64 km, .slice xa t1.length xc, .slice ya g1.length yc, .slice za d1.length zc] 27)) from (by repeat (first | (with_reducible refine Below.setCell ?_ ?_ _) | (with_reducible refine Below.alloc ?_ ?_ _) | (with_reducible refine Below.drew ?_) | (with_reducible refine below_drewN ?_ _) | (with_reducible exact Below.refl _ _) | (focus (simp; done)) | (focus (simp; omega)) | (focus omega)))); (have hx7 := hx.below (show RowKit.Below w7.heap.size w7 (w7.alloc (.cells #[.int .i64 km, .slice xa t1.length xc, .slice ya g1.length yc, .slice za d1.length zc] 27)) from (by repeat (first | (with_reducible refine Below.setCell ?_ ?_ _) | (with_reducible refine Below.alloc ?_ ?_ _) | (with_reducible refine Below.drew ?_) | (with_reducible refine below_drewN ?_ _) | (with_reducible exact Below.refl _ _) | (focus (simp; done)) | (focus (simp; omega)) | (focus omega)))) (Nat.le_refl _)); clear u0 u1 u2 u3 v0 v1 v2 v3 ul vl; obtain ⟨u0, u1, u2, u3⟩ := t7.b1.four; obtain ⟨v0, v1, v2, v3⟩ := t7.b2.four; (have ul := t7.b1.lt); (have vl := t7.b2.lt))) | (go_at_call 18; (with_reducible refine (ref05_SameV hsame xa xc ya za yc zc ta tc aa da ac dc _ hx7 t7.hm).mono ?_); rintro e w8 ⟨rfl, hb8⟩; (have t8 := t7.below hb8; clear u0 u1 u2 u3 v0 v1 v2 v3 ul vl; obtain ⟨u0, u1, u2, u3⟩ := t8.b1.four; obtain ⟨v0, v1, v2, v3⟩ := t8.b2.four; (have ul := t8.b1.lt); (have vl := t8.b2.lt))) | (go_at_call 20; (with_reducible refine (msg_ValidY HNOK.out sa sc ba fa bc fc _ t8.hn).mono ?_); rintro e w9 ⟨rfl, hb9⟩; (have t9 := t8.below hb9; clear u0 u1 u2 u3 v0 v1 v2 v3 ul vl; obtain ⟨u0, u1, u2, u3⟩ := t9.b1.four; obtain ⟨v0, v1, v2, v3⟩ := t9.b2.four; (have ul := t9.b1.lt); (have vl := t9.b2.lt))) | (go_at_call 19; (with_reducible refine (msg_EncodeE HNOK.out HQL.out sa sc ba fa bc fc _ t9.hn rfl rfl rfl HM.out).mono ?_); rintro e w10 ⟨qa, qc, rfl, own10, hb10⟩; (have t10 := t9.below hb10; clear u0 u1 u2 u3 v0 v1 v2 v3 ul vl; obtain ⟨u0, u1, u2, u3⟩ := t10.b1.four; obtain ⟨v0, v1, v2, v3⟩ := t10.b2.four; (have ul := t10.b1.lt); (have vl := t10.b2.lt))))
        obtain ⟨s1, hs1⟩ : ∃ s : ByteArray, s = ⟨pl.toArray⟩ := ⟨_, rfl⟩
        obtain ⟨s2, hs2⟩ : ∃ s : ByteArray, s = ⟨ql.toArray⟩ := ⟨_, rfl⟩
        have HS1 := Lib.hid hs1
        have HS2 := Lib.hid hs2
        have b5 : Byt w10 pa pl := own5.byt.below (show RowKit.Below w5.heap.size w5 w10 from (by repeat (first | (with_reducible refine Below.setCell ?_ ?_ _) | (with_reducible refine Below.alloc ?_ ?_ _) | (with_reducible refine Below.drew ?_) | (with_reducible refine below_drewN ?_ _) | (with_reducible exact Below.refl _ _) | (with_reducible refine Below.trans ?_ (Below.mono hb6 ?_)) | (with_reducible refine Below.trans ?_ (Below.mono hb7 ?_)) | (with_reducible refine Below.trans ?_ (Below.mono hb8 ?_)) | (with_reducible refine Below.trans ?_ (Below.mono hb9 ?_)) | (with_reducible refine Below.trans ?_ (Below.mono hb10 ?_)) | (focus (simp; done)) | (focus (simp; omega)) | (focus omega) | (focus (have q0 := Below.size hb6; (try simp at q0); have q1 := Below.size hb7; (try simp at q1); have q2 := Below.size hb8; (try simp at q2); have q3 := Below.size hb9; (try simp at q3); have q4 := Below.size hb10; (try simp at q4); (try simp); omega))))) (Nat.le_refl _)
        have b10 : Byt w10 qa ql := own10.byt
        obtain ⟨b, hb1, hb2⟩ : ∃ b : Bool, (s1.toList == s2.toList) = b ∧ sameM ⟨km, t1, g1, d1⟩ ⟨km, t2, g2', d2⟩ = b := by
          by_cases hpq : pl = ql
          · exact ⟨true, by rw [hs1, hs2, hpq]; simp, sameM_yes (pay_inj HOK.out HNOK.out rfl (by rw [HPL.out, HQL.out, hpq]))⟩
          · exact ⟨false, by rw [hs1, hs2]; exact str_ne hpq, sameM_no (fun q => hpq (by rw [← HPL.out, ← HQL.out, q]))⟩
        have HB2 := Lib.hid hb2
        have kA : ∀ d os, (convert 22 9 (.slice pa N pc)).run Try.prog (grow (redrawn w10 d) os) = .ok (.string s1) (grow (redrawn w10 d) os) := fun d os => by
          rw [HS1.out]
          exact conv_str (b5.below (below_regrown w10 d os) (Nat.le_refl _)) HN.out
        have kB : ∀ d os, (convert 22 9 (.slice qa M qc)).run Try.prog (grow (redrawn w10 d) os) = .ok (.string s2) (grow (redrawn w10 d) os) := fun d os => by
          rw [HS2.out]
          exact conv_str (b10.below (below_regrown w10 d os) (Nat.le_refl _)) HM.out
        have rr : ∀ (d : Nat) (os : Array Obj) (o : Nat), (grow (redrawn w10 d) os).cell? ⟨w4.heap.size, o, none⟩ = w10.cell? ⟨w4.heap.size, o, none⟩ := fun d os o => cells_regrown _ _ _ _ _ ul
        have rs : ∀ (d : Nat) (os : Array Obj) (o : Nat), (grow (redrawn w10 d) os).cell? ⟨w4.heap.size + 1, o, none⟩ = w10.cell? ⟨w4.heap.size + 1, o, none⟩ := fun d os o => cells_regrown _ _ _ _ _ vl
        have ra : ∀ d os, MsgAt (grow (redrawn w10 d) os) ⟨km, t1, g1, d1⟩ ta tc aa da := fun d os => t10.hm.below (below_regrown w10 d os) (Nat.le_refl _)
        have rb : ∀ d os, MsgAt (grow (redrawn w10 d) os) ⟨km, t2, g2', d2⟩ sa sc ba fa := fun d os => t10.hn.below (below_regrown w10 d os) (Nat.le_refl _)
        have hS := fun W h1 h2 => ref05_SameV HB2.out ta tc aa da ac dc sa sc ba fa bc fc W h1 h2
        have hsame' := Lib.hid hsame
        clear hs1 hs2 hb2 b5 b10 own5 own10 hsame hx hx7 t t5 t6 t7 t8 t9 hb5 hb6 hb7 hb8 hb9
        (refine wp_region_quiet_below (by kernel_rfl) (by kernel_rfl) ?_; (repeat (go_big_quiet_step (first | (go_at_call 18; exact qb (hS _ (ra _ _) (rb _ _))) | (go_at_call 10; exact qb (awake_yes _))))); refine wpQuiet_nil ?_; intro wq hwq; have hbq := below_of_regrown hwq; clear hwq)
        go_wp2
        go_ret
        exact ⟨rfl, t10.be.trans (hbq.mono t10.be.size)⟩
      · have HNOK := Lib.hid hnok
        clear hnok
        go_wp2_with (first | (go_at_call 19; (with_reducible refine (msg_EncodeE HOK.out HPL.out ta tc aa da ac dc _ t.hm rfl rfl rfl HN.out).mono ?_); rintro e w5 ⟨pa, pc, rfl, own5, hb5⟩; (have t5 := t.below hb5; clear u0 u1 u2 u3 v0 v1 v2 v3 ul vl; obtain ⟨u0, u1, u2, u3⟩ := t5.b1.four; obtain ⟨v0, v1, v2, v3⟩ := t5.b2.four; (have ul := t5.b1.lt); (have vl := t5.b2.lt))) | (go_at_call 20; (with_reducible refine (msg_ValidY HOK.out ta tc aa da ac dc _ t5.hm).mono ?_); rintro e w6 ⟨rfl, hb6⟩; (have t6 := t5.below hb6; clear u0 u1 u2 u3 v0 v1 v2 v3 ul vl; obtain ⟨u0, u1, u2, u3⟩ := t6.b1.four; obtain ⟨v0, v1, v2, v3⟩ := t6.b2.four; (have ul := t6.b1.lt); (have vl := t6.b2.lt))) | (go_at_call 16; (with_reducible refine (msg_DecodeBack HOK.out HPL.out _ (own5.below hb6 (Nat.le_refl _)) HN.out).mono ?_); rintro e w7 ⟨xa, xc, ya, yc, za, zc, rfl, hx, hb7⟩; (have t7 := (t6.below hb7).below (show RowKit.Below w7.heap.size w7 (w7.alloc (.cells #[.int .i64 km, .slice xa t1.length xc, .slice ya g1.length yc, .slice za d1.length zc] 27)) from (by repeat (first | (with_reducible refine Below.setCell ?_ ?_ _) | (with_reducible refine Below.alloc ?_ ?_ _) | (with_reducible refine Below.drew ?_) | (with_reducible refine below_drewN ?_ _) | (with_reducible exact Below.refl _ _) | (focus (simp; done)) | (focus (simp; omega)) | (focus omega)))); (have hx7 := hx.below (show RowKit.Below w7.heap.size w7 (w7.alloc (.cells #[.int .i64 km, .slice xa t1.length xc, .slice ya g1.length yc, .slice za d1.length zc] 27)) from (by repeat (first | (with_reducible refine Below.setCell ?_ ?_ _) | (with_reducible refine Below.alloc ?_ ?_ _) | (with_reducible refine Below.drew ?_) | (with_reducible refine below_drewN ?_ _) | (with_reducible exact Below.refl _ _) | (focus (simp; done)) | (focus (simp; omega)) | (focus omega)))) (Nat.le_refl _)); clear u0 u1 u2 u3 v0 v1 v2 v3 ul vl; obtain ⟨u0, u1, u2, u3⟩ := t7.b1.four; obtain ⟨v0, v1, v2, v3⟩ := t7.b2.four; (have ul := t7.b1.lt); (have vl := t7.b2.lt))) | (go_at_call 18; (with_reducible refine (ref05_SameV hsame xa xc ya za yc zc ta tc aa da ac dc _ hx7 t7.hm).mono ?_); rintro e w8 ⟨rfl, hb8⟩; (have t8 := t7.below hb8; clear u0 u1 u2 u3 v0 v1 v2 v3 ul vl; obtain ⟨u0, u1, u2, u3⟩ := t8.b1.four; obtain ⟨v0, v1, v2, v3⟩ := t8.b2.four; (have ul := t8.b1.lt); (have vl := t8.b2.lt))) | (go_at_call 20; (with_reducible refine (msg_ValidN HNOK.out sa sc ba fa bc fc _ t8.hn).mono ?_); rintro e w9 ⟨rfl, hb9⟩; (have t9 := t8.below hb9; clear u0 u1 u2 u3 v0 v1 v2 v3 ul vl; obtain ⟨u0, u1, u2, u3⟩ := t9.b1.four; obtain ⟨v0, v1, v2, v3⟩ := t9.b2.four; (have ul := t9.b1.lt); (have vl := t9.b2.lt))) | (go_at_call 10; (with_reducible refine (awake_yes _).mono ?_); rintro e w20 ⟨rfl, hb20⟩))
        go_ret
        exact ⟨rfl, t9.be.trans (hb20.mono t9.be.size)⟩
    · have z : (kn == km) = false := by rw [beq_eq_false_iff_ne]; exact hk
      go_wp2_with (first | (go_at_call 19; (with_reducible refine (msg_EncodeE HOK.out HPL.out ta tc aa da ac dc _ t.hm rfl rfl rfl HN.out).mono ?_); rintro e w5 ⟨pa, pc, rfl, own5, hb5⟩; (have t5 := t.below hb5; clear u0 u1 u2 u3 v0 v1 v2 v3 ul vl; obtain ⟨u0, u1, u2, u3⟩ := t5.b1.four; obtain ⟨v0, v1, v2, v3⟩ := t5.b2.four; (have ul := t5.b1.lt); (have vl := t5.b2.lt))) | (go_at_call 20; (with_reducible refine (msg_ValidY HOK.out ta tc aa da ac dc _ t5.hm).mono ?_); rintro e w6 ⟨rfl, hb6⟩; (have t6 := t5.below hb6; clear u0 u1 u2 u3 v0 v1 v2 v3 ul vl; obtain ⟨u0, u1, u2, u3⟩ := t6.b1.four; obtain ⟨v0, v1, v2, v3⟩ := t6.b2.four; (have ul := t6.b1.lt); (have vl := t6.b2.lt))) | (go_at_call 16; (with_reducible refine (msg_DecodeBack HOK.out HPL.out _ (own5.below hb6 (Nat.le_refl _)) HN.out).mono ?_); rintro e w7 ⟨xa, xc, ya, yc, za, zc, rfl, hx, hb7⟩; (have t7 := (t6.below hb7).below (show RowKit.Below w7.heap.size w7 (w7.alloc (.cells #[.int .i64 km, .slice xa t1.length xc, .slice ya g1.length yc, .slice za d1.length zc] 27)) from (by repeat (first | (with_reducible refine Below.setCell ?_ ?_ _) | (with_reducible refine Below.alloc ?_ ?_ _) | (with_reducible refine Below.drew ?_) | (with_reducible refine below_drewN ?_ _) | (with_reducible exact Below.refl _ _) | (focus (simp; done)) | (focus (simp; omega)) | (focus omega)))); (have hx7 := hx.below (show RowKit.Below w7.heap.size w7 (w7.alloc (.cells #[.int .i64 km, .slice xa t1.length xc, .slice ya g1.length yc, .slice za d1.length zc] 27)) from (by repeat (first | (with_reducible refine Below.setCell ?_ ?_ _) | (with_reducible refine Below.alloc ?_ ?_ _) | (with_reducible refine Below.drew ?_) | (with_reducible refine below_drewN ?_ _) | (with_reducible exact Below.refl _ _) | (focus (simp; done)) | (focus (simp; omega)) | (focus omega)))) (Nat.le_refl _)); clear u0 u1 u2 u3 v0 v1 v2 v3 ul vl; obtain ⟨u0, u1, u2, u3⟩ := t7.b1.four; obtain ⟨v0, v1, v2, v3⟩ := t7.b2.four; (have ul := t7.b1.lt); (have vl := t7.b2.lt))) | (go_at_call 18; (with_reducible refine (ref05_SameV hsame xa xc ya za yc zc ta tc aa da ac dc _ hx7 t7.hm).mono ?_); rintro e w8 ⟨rfl, hb8⟩; (have t8 := t7.below hb8; clear u0 u1 u2 u3 v0 v1 v2 v3 ul vl; obtain ⟨u0, u1, u2, u3⟩ := t8.b1.four; obtain ⟨v0, v1, v2, v3⟩ := t8.b2.four; (have ul := t8.b1.lt); (have vl := t8.b2.lt))) | (go_at_call 10; (with_reducible refine (awake_yes _).mono ?_); rintro e w20 ⟨rfl, hb20⟩))
      go_ret
      exact ⟨rfl, t8.be.trans (hb20.mono t8.be.size)⟩
  · go_wp2_with (first | (go_at_call 19; (with_reducible refine (msg_EncodeN hok ta tc aa da ac dc _ t.hm).mono ?_); rintro e w5 ⟨rfl, hb5⟩; (have t5 := t.below hb5; clear u0 u1 u2 u3 v0 v1 v2 v3 ul vl; obtain ⟨u0, u1, u2, u3⟩ := t5.b1.four; obtain ⟨v0, v1, v2, v3⟩ := t5.b2.four; (have ul := t5.b1.lt); (have vl := t5.b2.lt))) | (go_at_call 20; (with_reducible refine (msg_ValidN hok ta tc aa da ac dc _ t5.hm).mono ?_); rintro e w6 ⟨rfl, hb6⟩; (have t6 := t5.below hb6; clear u0 u1 u2 u3 v0 v1 v2 v3 ul vl; obtain ⟨u0, u1, u2, u3⟩ := t6.b1.four; obtain ⟨v0, v1, v2, v3⟩ := t6.b2.four; (have ul := t6.b1.lt); (have vl := t6.b2.lt))) | (go_at_call 10; (with_reducible refine (awake_yes _).mono ?_); rintro e w20 ⟨rfl, hb20⟩))
    go_ret
    exact ⟨rfl, t6.be.trans (hb20.mono t6.be.size)⟩
end Go.Proofs.Ythkoijgobigdnaa
