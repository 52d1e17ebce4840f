/- law 05: MessageReads -/
import Derived.Test.YthkoijgobigdnaaRefDec
import Derived.Test.YthkoijgobigdnaaOne
namespace Go.Proofs.Ythkoijgobigdnaa
open Go.RowKit Go.Sort
set_option maxRecDepth 100000

theorem ref05_EncAny2 {kind : Int} {tok : List UInt8} {args : List Int} {dat : List UInt8} (ta : Option Addr) (tc : Nat) (aa da : Option Addr) (ac dc : Nat) (w : World) (hat : MsgAt w ⟨kind, tok, args, dat⟩ ta tc aa da) :
    Calls Try.prog 13 #[.agg #[.int .i64 kind, .slice ta tok.length tc, .slice aa args.length ac, .slice da dat.length dc]] w fun e w' => ∃ (ca : Option Addr) (cl : List UInt8) (cc : Nat) (x : Int), e = .returned (.tuple #[.slice ca cl.length cc, .int .i64 x]) ∧ Byt w' ca cl ∧ cl.length ≤ 200 ∧ cl.length ≤ cc ∧ (ca = none → cl.length = 0 ∧ cc = 0) ∧ Below w.heap.size w w' := by
  refine (ref05_Encode ⟨kind, tok, args, dat⟩ ta tc aa da ac dc w hat rfl rfl rfl).mono fun e w' h => ?_
  rcases h with ⟨hok, a, n, c, he, rfl, own, hb⟩ | ⟨_, he, hb⟩
  · exact ⟨a, _, c, 0, he, own.byt, hok.plen, own.cap_le, fun h => own.none_len h, hb⟩
  · exact ⟨none, [], 0, 6, he, Byt.nil _ _, by simp, by simp, fun _ => ⟨rfl, rfl⟩, hb⟩
theorem msg_DecodeV {k : Int} {p : List UInt8} {mk : Int} {mt : List UInt8} {ma : List Int} {md : List UInt8} {c : Int} (hd : Hid (decP k p = (⟨mk, mt, ma, md⟩, c))) (pa : Option Addr) (pc : Nat) (w : World) (hb : Byt w pa p) (hc : p.length ≤ pc) (hnil : pa = none → p.length = 0 ∧ pc = 0) :
    Calls Try.prog 16 #[.int .i64 k, .slice pa p.length pc] w (DecV ⟨mk, mt, ma, md⟩ c w) :=
  (msg_Decode k pa p p.length pc w hb rfl hc hnil).mono fun _ _ h => decR_V h hd.out
theorem ref05_DecodeV {k : Int} {p : List UInt8} {mk : Int} {mt : List UInt8} {ma : List Int} {md : List UInt8} {c : Int} (hd : Hid (decP k p = (⟨mk, mt, ma, md⟩, c))) (pa : Option Addr) (pc : Nat) (w : World) (hb : Byt w pa p) (hp : p.length ≤ 1000) (hc : p.length ≤ pc) (hnil : pa = none → p.length = 0 ∧ pc = 0) :
    Calls Try.prog 17 #[.int .i64 k, .slice pa p.length pc] w (DecV ⟨mk, mt, ma, md⟩ c w) :=
  (ref05_Decode k pa p p.length pc w hb rfl hp hc hnil).mono fun _ _ h => decR_V h hd.out

set_option maxHeartbeats 4000000 in
theorem messageReads_walk (kind : Int) (a0 : Option Addr) (c0 : Nat) (l0 : List UInt8) (a1 : Option Addr) (c1 : Nat) (l1 : List Int) (at_ by_ : Int) (w : World) (h0 : Byt w a0 l0) (n0 : l0.length ≤ 9223372036854775807) (k0 : l0.length ≤ c0) (x0 : a0 = none → l0.length = 0 ∧ c0 = 0) (h1 : Ints w a1 l1) (n1 : l1.length ≤ 9223372036854775807) :
    Calls Try.prog 3 #[.int .i64 kind, .slice a0 l0.length c0, .slice a1 l1.length c1, .int .i64 at_, .int .i64 by_] w fun e w' => e = .returned (.bool true) ∧ Below w.heap.size w w' := by
  by_cases hs : l0.length ≤ 600
  case neg =>
    have hs' : decide (l0.length ≤ 600) = false := decide_eq_false hs
    clear hs
    go_enter Try.func3, Try.ntmps3
    go_wp2_with (first | (go_at_call 9; (with_reducible refine (mk_Short _ _ _ _ n0).mono ?_); rintro e w' ⟨rfl, rfl⟩) | (go_at_call 10; (with_reducible refine (awake_yes _).mono ?_); rintro e w20 ⟨rfl, hb20⟩))
    go_ret
    exact ⟨rfl, (by repeat (first | (with_reducible refine Below.setCell ?_ ?_ _) | (with_reducible refine Below.alloc ?_ ?_ _) | (with_reducible refine Below.drew ?_) | (with_reducible refine below_drewN ?_ _) | (with_reducible exact Below.refl _ _) | (with_reducible refine Below.trans ?_ (Below.mono hb20 ?_)) | (focus (simp; done)) | (focus (simp; omega)) | (focus omega) | (focus (have q0 := Below.size hb20; (try simp at q0); (try simp); omega))))⟩
  have hs' : decide (l0.length ≤ 600) = true := decide_eq_true hs
  go_enter Try.func3, Try.ntmps3
  go_upto_region 4 with (first | (go_at_call 9; (with_reducible refine (mk_Short _ _ _ _ n0).mono ?_); rintro e w' ⟨rfl, rfl⟩) | (go_at_call 12; (with_reducible refine (mk_New a1 c1 l1 _ h1 n1).mono ?_); rintro e w1 ⟨rfl, hd1, hb1⟩) | (go_at_call 11; (with_reducible refine (law_made _ _ _ _ hd1).mono ?_); rintro e w2 ⟨m, k2, v, rfl, ⟨ta, tc, aa, ac, da, dc, rfl, hat⟩, mk1, mk2, mok, hd2, g2⟩; (have be2 : RowKit.Below w.heap.size w w2 := hb1.grown g2 (by have := hb1.size; omega) (fun k hk => by injection hk with hk; omega))))
  obtain ⟨km, t1, g1, d1⟩ := m
  simp only at mk1 mk2
  refine wp_named (fun W => Blk W w2.heap.size 27 #[.int .i64 km, .slice ta t1.length tc, .slice aa g1.length ac, .slice da d1.length dc] ∧ MsgAt W ⟨km, t1, g1, d1⟩ ta tc aa da ∧ RowKit.Below w.heap.size w W) ⟨Blk.new _ _ _, hat.below (B := w2.heap.size) (by repeat (first | (with_reducible refine Below.setCell ?_ ?_ _) | (with_reducible refine Below.alloc ?_ ?_ _) | (with_reducible refine Below.drew ?_) | (with_reducible refine below_drewN ?_ _) | (with_reducible exact Below.refl _ _) | (focus (simp; done)) | (focus (simp; omega)) | (focus omega))) (Nat.le_refl _), (by repeat (first | (with_reducible refine Below.setCell ?_ ?_ _) | (with_reducible refine Below.alloc ?_ ?_ _) | (with_reducible refine Below.drew ?_) | (with_reducible refine below_drewN ?_ _) | (with_reducible exact Below.refl _ _) | (with_reducible refine Below.trans ?_ (Below.mono be2 ?_)) | (focus (simp; done)) | (focus (simp; omega)) | (focus omega) | (focus (have q0 := Below.size be2; (try simp at q0); (try simp); omega))))⟩ ?_
  rintro W2 ⟨kb, hat2, be3⟩
  clear hat hd1 hd2 g2 hb1 be2 h1 mok
  obtain ⟨u0, u1, u2, u3⟩ := kb.four
  have ul := kb.lt
  go_upto_region 5 with (first | (go_at_call 13; (with_reducible refine (ref05_EncAny2 ta tc aa da ac dc _ hat2).mono ?_); rintro e w3 ⟨ca, cl, cc, x, rfl, hcb, hcl, hcc, hcn, hb3⟩))
  have kb3 := kb.below hb3 ul
  have be4 : RowKit.Below w.heap.size w w3 := (by repeat (first | (with_reducible refine Below.setCell ?_ ?_ _) | (with_reducible refine Below.alloc ?_ ?_ _) | (with_reducible refine Below.drew ?_) | (with_reducible refine below_drewN ?_ _) | (with_reducible exact Below.refl _ _) | (with_reducible refine Below.trans ?_ (Below.mono hb3 ?_)) | (with_reducible refine Below.trans ?_ (Below.mono be3 ?_)) | (focus (simp; done)) | (focus (simp; omega)) | (focus omega) | (focus (have q0 := Below.size hb3; (try simp at q0); have q1 := Below.size be3; (try simp at q1); (try simp); omega))))
  have h03 := h0.below be4 (Nat.le_refl _)
  clear u0 u1 u2 u3 ul hat2 kb be3 h0 hb3
  obtain ⟨u0, u1, u2, u3⟩ := kb3.four
  have ul := kb3.lt
  obtain ⟨n1', Er, m0, m1⟩ := modName kind 24 (by omega)
  go_cut [39, 40, 41] (fun s39 s40 s41 wx => s39 = .slice (some ⟨w3.heap.size, 0, none⟩) 3 3 ∧ s40 = .int .i64 3 ∧ s41 = .int .i64 0 ∧ (∀ j : Nat, j < 3 → ∃ n : Int, wx.cell? ⟨w3.heap.size, j, none⟩ = some (.int .i64 n)) ∧ w3.heap.size < wx.heap.size ∧ RowKit.Below w3.heap.size w3 wx)
  case first =>
    go_region_with (first | (go_at_call 14; (with_reducible refine (mk_ModE Er.out _ (by omega) (by omega)).mono ?_); rintro e w' ⟨rfl, rfl⟩))
    all_goals
      go_wp2_with fail
      go_meet
      refine ⟨rfl, rfl, rfl, fun j hj => ?_, Nat.lt_of_lt_of_eq (Nat.lt_succ_self _) (World.size_alloc _ _).symm, (by repeat (first | (with_reducible refine Below.setCell ?_ ?_ _) | (with_reducible refine Below.alloc ?_ ?_ _) | (with_reducible refine Below.drew ?_) | (with_reducible refine below_drewN ?_ _) | (with_reducible exact Below.refl _ _) | (focus (simp; done)) | (focus (simp; omega)) | (focus omega)))⟩
      have kk := Blk.new w3 3 #[.int .i64 kind, .int .i64 km, .int .i64 n1']
      have hj' : j = 0 ∨ j = 1 ∨ j = 2 := by omega
      rcases hj' with rfl | rfl | rfl
      · exact ⟨_, kk.cell 0⟩
      · exact ⟨_, kk.cell 1⟩
      · exact ⟨_, kk.cell 2⟩
  case rest =>
    obtain ⟨rfl, rfl, rfl, hcj, lj, hbc⟩ := hcut
    have HCJ := Lib.hid hcj
    have beC : RowKit.Below w.heap.size w wc := (by repeat (first | (with_reducible refine Below.setCell ?_ ?_ _) | (with_reducible refine Below.alloc ?_ ?_ _) | (with_reducible refine Below.drew ?_) | (with_reducible refine below_drewN ?_ _) | (with_reducible exact Below.refl _ _) | (with_reducible refine Below.trans ?_ (Below.mono hbc ?_)) | (with_reducible refine Below.trans ?_ (Below.mono be4 ?_)) | (focus (simp; done)) | (focus (simp; omega)) | (focus omega) | (focus (have q0 := Below.size hbc; (try simp at q0); have q1 := Below.size be4; (try simp at q1); (try simp); omega))))
    have H0 := Lib.hid (h03.below hbc (Nat.le_refl _))
    have HC := Lib.hid (hcb.below hbc (Nat.le_refl _))
    clear hcj u0 u1 u2 u3 ul kb3 h03 hcb be4 m0 m1
    go_wp2_with fail
    go_loopw [41] (fun i wr => ∃ k : Nat, k ≤ 3 ∧ i = .int .i64 k ∧ RowKit.Below wc.heap.size wc wr) (fun i _ => 3 - (intOf i).toNat)
    case atStart => exact ⟨0, by omega, rfl, RowKit.Below.refl _ _⟩
    case round =>
      obtain ⟨k, hk, rfl, hbr⟩ := hrel
      by_cases hlt : k < 3
      · have hi : (k : Int) < 3 := by omega
        obtain ⟨kd, hkd⟩ := HCJ.out k hlt
        have hkd' : wr.cell? ⟨w3.heap.size, k, none⟩ = some (.int .i64 kd) := by rw [(bcell hbr).1 _ _ lj]; exact hkd
        have hcr := HC.out.below hbr (Nat.le_refl _)
        have h0r := H0.out.below hbr (Nat.le_refl _)
        clear hkd
        go_upto_region 9 with (first | (go_at_call 15; (with_reducible refine (mk_SpoiltN ca _ cc cl at_ by_ _ hcr rfl (by omega)).mono ?_); rintro e w4 ⟨pa, pc, pl, rfl, hpb, hp1, hp2, hp3, hb4⟩))
        refine wp_named (fun W => (∀ i : Nat, i < 3 → ∃ (xa : Option Addr) (xl : List UInt8) (xc : Nat), W.cell? ⟨w4.heap.size, i, none⟩ = some (.slice xa xl.length xc) ∧ Byt W xa xl ∧ xl.length ≤ 1000 ∧ xl.length ≤ xc ∧ (xa = none → xl.length = 0 ∧ xc = 0)) ∧ w4.heap.size < W.heap.size ∧ RowKit.Below wc.heap.size wc W) ⟨?_, by simp, (by repeat (first | (with_reducible refine Below.setCell ?_ ?_ _) | (with_reducible refine Below.alloc ?_ ?_ _) | (with_reducible refine Below.drew ?_) | (with_reducible refine below_drewN ?_ _) | (with_reducible exact Below.refl _ _) | (with_reducible refine Below.trans ?_ (Below.mono hb4 ?_)) | (with_reducible refine Below.trans ?_ (Below.mono hbr ?_)) | (focus (simp; done)) | (focus (simp; omega)) | (focus omega) | (focus (have q0 := Below.size hb4; (try simp at q0); have q1 := Below.size hbr; (try simp at q1); (try simp); omega))))⟩ ?_
        · intro i hi
          have kk := Blk.new w4 22 #[.slice a0 l0.length c0, .slice ca cl.length cc, .slice pa pl.length pc]
          have hi' : i = 0 ∨ i = 1 ∨ i = 2 := by omega
          rcases hi' with rfl | rfl | rfl
          · exact ⟨a0, l0, c0, kk.cell 0, (h0r.below hb4 (Nat.le_refl _)).alloc _, by omega, k0, x0⟩
          · exact ⟨ca, cl, cc, kk.cell 1, (hcr.below hb4 (Nat.le_refl _)).alloc _, by omega, hcc, hcn⟩
          · exact ⟨pa, pl, pc, kk.cell 2, hpb.alloc _, by omega, hp2, hp3⟩
        rintro WO ⟨hx, lB, be⟩
        have HX := Lib.hid hx
        clear hx hpb hb4 hcr h0r hkd'
        go_loopw [53] (fun i wy => ∃ j : Nat, j ≤ 3 ∧ i = .int .i64 j ∧ RowKit.Below WO.heap.size WO wy) (fun i _ => 3 - (intOf i).toNat)
        case atStart => exact ⟨0, by omega, rfl, RowKit.Below.refl _ _⟩
        case round =>
          obtain ⟨j, hj, rfl, hby⟩ := hrel
          by_cases hjl : j < 3
          · have hij : (j : Int) < 3 := by omega
            obtain ⟨xa, xl, xc, hcn', hxb, hxl, hxc, hxn⟩ := HX.out j hjl
            have hcn2 : wr.cell? ⟨w4.heap.size, j, none⟩ = some (.slice xa xl.length xc) := by rw [(bcell hby).1 _ _ lB]; exact hcn'
            have hxb2 := hxb.below hby (Nat.le_refl _)
            obtain ⟨mk, mt, ma, md, c, hd⟩ : ∃ mk mt ma md c, Hid (decP kd xl = (⟨mk, mt, ma, md⟩, c)) := ⟨_, _, _, _, _, Lib.hid rfl⟩
            have hsame := sameM_yes (m := ⟨mk, mt, ma, md⟩) rfl
            clear hcn' hxb
            go_wp2_with (first | (go_at_call 16; (with_reducible refine (msg_DecodeV hd xa xc _ hxb2 hxc hxn).mono ?_); rintro e w5 ⟨ya, yc, za, zc, va, vc, rfl, hm5, hb5⟩; ((have kn := Blk.new w5 27 #[.int .i64 mk, .slice ya mt.length yc, .slice za ma.length zc, .slice va md.length vc]); (have hb5' : RowKit.Below wr.heap.size wr (w5.alloc (.cells #[.int .i64 mk, .slice ya mt.length yc, .slice za ma.length zc, .slice va md.length vc] 27)) := (by repeat (first | (with_reducible refine Below.setCell ?_ ?_ _) | (with_reducible refine Below.alloc ?_ ?_ _) | (with_reducible refine Below.drew ?_) | (with_reducible refine below_drewN ?_ _) | (with_reducible exact Below.refl _ _) | (with_reducible refine Below.trans ?_ (Below.mono hb5 ?_)) | (focus (simp; done)) | (focus (simp; omega)) | (focus omega) | (focus (have q0 := Below.size hb5; (try simp at q0); (try simp); omega))))); (have hxb3 := hxb2.below hb5' (Nat.le_refl _)))) | (go_at_call 17; (with_reducible refine (ref05_DecodeV hd xa xc _ hxb3 hxl hxc hxn).mono ?_); rintro e w6 ⟨sa, sc, ba, bc, fa, fc, rfl, hm6, hb6⟩; ((have kn6 := kn.below hb6 kn.lt); obtain ⟨q0, q1, q2, q3⟩ := kn6.four; (have ql := kn6.lt))) | (go_at_call 18; (with_reducible refine (ref05_SameV hsame ya yc za va zc vc sa sc ba fa bc fc _ ((hm5.below (B := w5.heap.size) (show RowKit.Below w5.heap.size w5 _ from (by repeat (first | (with_reducible refine Below.setCell ?_ ?_ _) | (with_reducible refine Below.alloc ?_ ?_ _) | (with_reducible refine Below.drew ?_) | (with_reducible refine below_drewN ?_ _) | (with_reducible exact Below.refl _ _) | (with_reducible refine Below.trans ?_ (Below.mono hb6 ?_)) | (focus (simp; done)) | (focus (simp; omega)) | (focus omega) | (focus (have q0 := Below.size hb6; (try simp at q0); (try simp); omega))))) (Nat.le_refl _))) (hm6.below (B := w6.heap.size) (by repeat (first | (with_reducible refine Below.setCell ?_ ?_ _) | (with_reducible refine Below.alloc ?_ ?_ _) | (with_reducible refine Below.drew ?_) | (with_reducible refine below_drewN ?_ _) | (with_reducible exact Below.refl _ _) | (focus (simp; done)) | (focus (simp; omega)) | (focus omega))) (Nat.le_refl _))).mono ?_); rintro e w7 ⟨rfl, hb7⟩))
            go_roundw
            case rel => exact ⟨j + 1, by omega, by go_num, (by repeat (first | (with_reducible refine Below.setCell ?_ ?_ _) | (with_reducible refine Below.alloc ?_ ?_ _) | (with_reducible refine Below.drew ?_) | (with_reducible refine below_drewN ?_ _) | (with_reducible exact Below.refl _ _) | (with_reducible refine Below.trans ?_ (Below.mono hb7 ?_)) | (with_reducible refine Below.trans ?_ (Below.mono hb6 ?_)) | (with_reducible refine Below.trans ?_ (Below.mono hb5 ?_)) | (with_reducible refine Below.trans ?_ (Below.mono hby ?_)) | (focus (simp; done)) | (focus (simp; omega)) | (focus omega) | (focus (have q0 := Below.size hb7; (try simp at q0); have q1 := Below.size hb6; (try simp at q1); have q2 := Below.size hb5; (try simp at q2); have q3 := Below.size hby; (try simp at q3); (try simp); omega))))⟩
            case measure => simp [intOf]; omega
          · obtain rfl : j = 3 := by omega
            go_wp2
            go_roundw
            case rel => exact ⟨k + 1, by omega, by go_num, (by repeat (first | (with_reducible refine Below.setCell ?_ ?_ _) | (with_reducible refine Below.alloc ?_ ?_ _) | (with_reducible refine Below.drew ?_) | (with_reducible refine below_drewN ?_ _) | (with_reducible exact Below.refl _ _) | (with_reducible refine Below.trans ?_ (Below.mono hby ?_)) | (with_reducible refine Below.trans ?_ (Below.mono be ?_)) | (focus (simp; done)) | (focus (simp; omega)) | (focus omega) | (focus (have q0 := Below.size hby; (try simp at q0); have q1 := Below.size be; (try simp at q1); (try simp); omega))))⟩
            case measure => simp [intOf]; omega
      · obtain rfl : k = 3 := by omega
        go_wp2_with (first | (go_at_call 10; (with_reducible refine (awake_yes _).mono ?_); rintro e w20 ⟨rfl, hb20⟩))
        go_ret
        exact ⟨rfl, (by repeat (first | (with_reducible refine Below.setCell ?_ ?_ _) | (with_reducible refine Below.alloc ?_ ?_ _) | (with_reducible refine Below.drew ?_) | (with_reducible refine below_drewN ?_ _) | (with_reducible exact Below.refl _ _) | (with_reducible refine Below.trans ?_ (Below.mono hb20 ?_)) | (with_reducible refine Below.trans ?_ (Below.mono hbr ?_)) | (with_reducible refine Below.trans ?_ (Below.mono beC ?_)) | (focus (simp; done)) | (focus (simp; omega)) | (focus omega) | (focus (have q0 := Below.size hb20; (try simp at q0); have q1 := Below.size hbr; (try simp at q1); have q2 := Below.size beC; (try simp at q2); (try simp); omega))))⟩
end Go.Proofs.Ythkoijgobigdnaa
