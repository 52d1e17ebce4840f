import Derived.Test.YthkoijgobigdnaaBack
import Derived.Test.YthkoijgobigdnaaRefEnc
import Derived.Test.YthkoijgobigdnaaSpoiltN
import Derived.Outline
namespace Go.Proofs.Ythkoijgobigdnaa
open Go.RowKit Go.Sort
set_option maxRecDepth 100000

theorem isRow_nil {k : IntKind} {w : World} {a : Option Addr} {len cap : Nat} {zs : List Int} (h : IsRow k w a len cap zs) : a = none → len = 0 ∧ cap = 0 := by
  rcases h with ⟨_, h1, h2, _⟩ | ⟨x, rfl, _⟩
  · exact fun _ => ⟨h1, h2⟩
  · intro q; cases q
theorem ref05_EncAny {kind : Int} {tok : List UInt8} {args : List Int} {dat : List UInt8} (ta : Option Addr) (tc : Nat) (aa da : Option Addr) (ac dc : Nat) (w : World) (hat : MsgAt w ⟨kind, tok, args, dat⟩ ta tc aa da) :
    Calls Try.prog 13 #[.agg #[.int .i64 kind, .slice ta tok.length tc, .slice aa args.length ac, .slice da dat.length dc]] w fun e w' => ∃ (ca : Option Addr) (cl : List UInt8) (cc : Nat) (x : Int), e = .returned (.tuple #[.slice ca cl.length cc, .int .i64 x]) ∧ Byt w' ca cl ∧ cl.length ≤ 200 ∧ Below w.heap.size w w' := by
  refine (ref05_Encode ⟨kind, tok, args, dat⟩ ta tc aa da ac dc w hat rfl rfl rfl).mono fun e w' h => ?_
  rcases h with ⟨hok, a, n, c, he, rfl, own, hb⟩ | ⟨_, he, hb⟩
  · exact ⟨a, _, c, 0, he, own.byt, hok.plen, hb⟩
  · exact ⟨none, [], 0, 6, he, Byt.nil _ _, by simp, hb⟩
/-- Decode of a kind that is one -/
theorem msg_DecodeK {k : Int} (h1 : 1 ≤ k) (h2 : k ≤ 22) (pa : Option Addr) (p : List UInt8) (pc : Nat) (w : World) (hb : Byt w pa p) (hc : p.length ≤ pc) (hnil : pa = none → p.length = 0 ∧ pc = 0) :
    Calls Try.prog 16 #[.int .i64 k, .slice pa p.length pc] w fun e w' => (∃ tok args dat ta tc aa ac da dc, e = .returned (.tuple #[.agg #[.int .i64 k, .slice ta (List.length tok) tc, .slice aa (List.length args) ac, .slice da (List.length dat) dc], .int .i64 0]) ∧ Msg.Ok ⟨k, tok, args, dat⟩ ∧ Msg.pay ⟨k, tok, args, dat⟩ = p ∧ MsgAt w' ⟨k, tok, args, dat⟩ ta tc aa da ∧ Below w.heap.size w w') ∨
      (e = .returned (.tuple #[.agg #[.int .i64 0, .slice none 0 0, .slice none 0 0, .slice none 0 0], .int .i64 6]) ∧ Below w.heap.size w w') := by
  refine (msg_Decode k pa p p.length pc w hb rfl hc hnil).mono fun e w' h => ?_
  rcases h with ⟨⟨⟨k', tok, args, dat⟩, hok, rfl, hp, v, he, ta, tc, aa, ac, da, dc, rfl, hat⟩ | ⟨_, _, _, he⟩ | ⟨h, _⟩, hbl⟩
  · exact .inl ⟨tok, args, dat, ta, tc, aa, ac, da, dc, he, hok, hp, hat, hbl⟩
  · exact .inr ⟨he, hbl⟩
  · omega

set_option maxHeartbeats 4000000 in
theorem messageOne_walk (kind : Int) (a0 : Option Addr) (c0 : Nat) (l0 : List UInt8) (a1 : Option Addr) (c1 : Nat) (l1 : List Int) (at_ by_ : Int) (w : World) (h0 : Byt w a0 l0) (n0 : l0.length ≤ 9223372036854775807) (k0 : l0.length ≤ c0) (x0 : a0 = none → l0.length = 0 ∧ c0 = 0) (h1 : Ints w a1 l1) (n1 : l1.length ≤ 9223372036854775807) :
    Calls Try.prog 5 #[.int .i64 kind, .slice a0 l0.length c0, .slice a1 l1.length c1, .int .i64 at_, .int .i64 by_] w fun e w' => e = .returned (.bool true) ∧ Below w.heap.size w w' := by
  by_cases hs : l0.length ≤ 600
  case neg =>
    have hs' : decide (l0.length ≤ 600) = false := decide_eq_false hs
    clear hs
    go_enter Try.func5, Try.ntmps5
    go_wp2_with (first | (go_at_call 9; (with_reducible refine (mk_Short _ _ _ _ n0).mono ?_); rintro e w' ⟨rfl, rfl⟩) | (go_at_call 10; (with_reducible refine (awake_yes _).mono ?_); rintro e w20 ⟨rfl, hb20⟩))
    go_ret
    exact ⟨rfl, (by repeat (first | (with_reducible refine Below.setCell ?_ ?_ _) | (with_reducible refine Below.alloc ?_ ?_ _) | (with_reducible refine Below.drew ?_) | (with_reducible refine below_drewN ?_ _) | (with_reducible exact Below.refl _ _) | (with_reducible refine Below.trans ?_ (Below.mono hb20 ?_)) | (focus (simp; done)) | (focus (simp; omega)) | (focus omega) | (focus (have q0 := Below.size hb20; (try simp at q0); (try simp); omega))))⟩
  have hs' : decide (l0.length ≤ 600) = true := decide_eq_true hs
  go_enter Try.func5, Try.ntmps5
  go_upto_region 4 with (first | (go_at_call 9; (with_reducible refine (mk_Short _ _ _ _ n0).mono ?_); rintro e w' ⟨rfl, rfl⟩) | (go_at_call 12; (with_reducible refine (mk_New a1 c1 l1 _ h1 n1).mono ?_); rintro e w1 ⟨rfl, hd1, hb1⟩) | (go_at_call 11; (with_reducible refine (law_made _ _ _ _ hd1).mono ?_); rintro e w2 ⟨m, k2, v, rfl, ⟨ta, tc, aa, ac, da, dc, rfl, hat⟩, mk1, mk2, mok, hd2, g2⟩; (have be2 : RowKit.Below w.heap.size w w2 := hb1.grown g2 (by have := hb1.size; omega) (fun k hk => by injection hk with hk; omega))))
  obtain ⟨km, t1, g1, d1⟩ := m
  simp only at mk1 mk2
  refine wp_named (fun W => Blk W w2.heap.size 27 #[.int .i64 km, .slice ta t1.length tc, .slice aa g1.length ac, .slice da d1.length dc] ∧ MsgAt W ⟨km, t1, g1, d1⟩ ta tc aa da ∧ RowKit.Below w.heap.size w W) ⟨Blk.new _ _ _, hat.below (B := w2.heap.size) (by repeat (first | (with_reducible refine Below.setCell ?_ ?_ _) | (with_reducible refine Below.alloc ?_ ?_ _) | (with_reducible refine Below.drew ?_) | (with_reducible refine below_drewN ?_ _) | (with_reducible exact Below.refl _ _) | (focus (simp; done)) | (focus (simp; omega)) | (focus omega))) (Nat.le_refl _), (by repeat (first | (with_reducible refine Below.setCell ?_ ?_ _) | (with_reducible refine Below.alloc ?_ ?_ _) | (with_reducible refine Below.drew ?_) | (with_reducible refine below_drewN ?_ _) | (with_reducible exact Below.refl _ _) | (with_reducible refine Below.trans ?_ (Below.mono be2 ?_)) | (focus (simp; done)) | (focus (simp; omega)) | (focus omega) | (focus (have q0 := Below.size be2; (try simp at q0); (try simp); omega))))⟩ ?_
  rintro W2 ⟨kb, hat2, be3⟩
  clear hat hd1 hd2 g2 hb1 be2 h1 mok
  obtain ⟨u0, u1, u2, u3⟩ := kb.four
  have ul := kb.lt
  go_upto_region 6 with (first | (go_at_call 13; (with_reducible refine (ref05_EncAny ta tc aa da ac dc _ hat2).mono ?_); rintro e w3 ⟨ca, cl, cc, x, rfl, hcb, hcl, hb3⟩) | (go_at_call 15; (with_reducible refine (mk_SpoiltN ca _ cc cl at_ by_ _ hcb rfl (by omega)).mono ?_); rintro e w4 ⟨pa, pc, pl, rfl, hpb, hp1, hp2, hp3, hb4⟩))
  refine wp_named (fun W => Blk W w2.heap.size 27 #[.int .i64 km, .slice ta t1.length tc, .slice aa g1.length ac, .slice da d1.length dc] ∧ (∀ i : Nat, i < 2 → ∃ (xa : Option Addr) (xl : List UInt8) (xc : Nat), W.cell? ⟨w4.heap.size, i, none⟩ = some (.slice xa xl.length xc) ∧ Byt W xa xl ∧ xl.length ≤ xc ∧ (xa = none → xl.length = 0 ∧ xc = 0)) ∧ w4.heap.size < W.heap.size ∧ RowKit.Below w.heap.size w W) ⟨((kb.below hb3 ul).below hb4 (kb.below hb3 ul).lt).alloc _, ?_, by simp, (by repeat (first | (with_reducible refine Below.setCell ?_ ?_ _) | (with_reducible refine Below.alloc ?_ ?_ _) | (with_reducible refine Below.drew ?_) | (with_reducible refine below_drewN ?_ _) | (with_reducible exact Below.refl _ _) | (with_reducible refine Below.trans ?_ (Below.mono hb4 ?_)) | (with_reducible refine Below.trans ?_ (Below.mono hb3 ?_)) | (with_reducible refine Below.trans ?_ (Below.mono be3 ?_)) | (focus (simp; done)) | (focus (simp; omega)) | (focus omega) | (focus (have q0 := Below.size hb4; (try simp at q0); have q1 := Below.size hb3; (try simp at q1); have q2 := Below.size be3; (try simp at q2); (try simp); omega))))⟩ ?_
  · intro i hi
    have kk := Blk.new w4 22 #[.slice a0 l0.length c0, .slice pa pl.length pc]
    have hby0 : Byt w4 a0 l0 := h0.below (show RowKit.Below w.heap.size w w4 from (by repeat (first | (with_reducible refine Below.setCell ?_ ?_ _) | (with_reducible refine Below.alloc ?_ ?_ _) | (with_reducible refine Below.drew ?_) | (with_reducible refine below_drewN ?_ _) | (with_reducible exact Below.refl _ _) | (with_reducible refine Below.trans ?_ (Below.mono hb4 ?_)) | (with_reducible refine Below.trans ?_ (Below.mono hb3 ?_)) | (with_reducible refine Below.trans ?_ (Below.mono be3 ?_)) | (focus (simp; done)) | (focus (simp; omega)) | (focus omega) | (focus (have q0 := Below.size hb4; (try simp at q0); have q1 := Below.size hb3; (try simp at q1); have q2 := Below.size be3; (try simp at q2); (try simp); omega))))) (Nat.le_refl _)
    have hi' : i = 0 ∨ i = 1 := by omega
    rcases hi' with rfl | rfl
    · exact ⟨a0, l0, c0, kk.cell 0, hby0.alloc _, k0, x0⟩
    · exact ⟨pa, pl, pc, kk.cell 1, hpb.alloc _, hp2, hp3⟩
  rintro W ⟨kb, hx, lB, be⟩
  have HX := Lib.hid hx
  clear hx u0 u1 u2 u3 ul hat2 hcb hpb hb3 hb4 be3 h0 x0 hp3
  go_loopw [41] (fun i wr => ∃ k : Nat, k ≤ 2 ∧ i = .int .i64 k ∧ RowKit.Below W.heap.size W wr) (fun i _ => 2 - (intOf i).toNat)
  case atStart => exact ⟨0, by omega, rfl, RowKit.Below.refl _ _⟩
  case round =>
    obtain ⟨k, hk, rfl, hbr⟩ := hrel
    obtain ⟨wO, rfl⟩ : ∃ W', W' = wr := ⟨_, rfl⟩
    by_cases hlt : k < 2
    · have hi : (k : Int) < 2 := by omega
      obtain ⟨xa, xl, xc, hc, hxb, hxc, hxn⟩ := HX.out k hlt
      have hcr : wO.cell? ⟨w4.heap.size, k, none⟩ = some (.slice xa xl.length xc) := by rw [(bcell hbr).1 _ _ lB]; exact hc
      have kr := kb.below hbr kb.lt
      have r0 := kr.cell 0
      have rl := kr.lt
      have HXB := Lib.hid (hxb.below hbr (Nat.le_refl _))
      clear hc hxb
      obtain ⟨n1', Er, m0, m1⟩ := modName kind 22 (by omega)
      go_upto_region 8 with fail
      go_cut [50, 51, 52] from 45 to 85 (fun s50 s51 s52 wx => s50 = .slice (some ⟨wO.heap.size, 0, none⟩) 2 2 ∧ s51 = .int .i64 2 ∧ s52 = .int .i64 0 ∧ (∀ j : Nat, j < 2 → ∃ n : Int, wx.cell? ⟨wO.heap.size, j, none⟩ = some (.int .i64 n) ∧ 1 ≤ n ∧ n ≤ 22) ∧ wO.heap.size < wx.heap.size ∧ RowKit.Below wO.heap.size wO wx)
      case first =>
        go_region_with (first | (go_at_call 14; (with_reducible refine (mk_ModE Er.out _ (by omega) (by omega)).mono ?_); rintro e w' ⟨rfl, rfl⟩))
        all_goals
          go_wp2_with fail
          go_meet
          refine ⟨rfl, rfl, rfl, fun j hj => ?_, Nat.lt_of_lt_of_eq (Nat.lt_succ_self _) (World.size_alloc _ _).symm, (by repeat (first | (with_reducible refine Below.setCell ?_ ?_ _) | (with_reducible refine Below.alloc ?_ ?_ _) | (with_reducible refine Below.drew ?_) | (with_reducible refine below_drewN ?_ _) | (with_reducible exact Below.refl _ _) | (focus (simp; done)) | (focus (simp; omega)) | (focus omega)))⟩
          have kk := Blk.new wO 3 #[.int .i64 (IntKind.i64.wrap (1 + n1')), .int .i64 km]
          have ew : IntKind.i64.wrap (1 + n1') = 1 + n1' := by rw [IntKind.wrap_i64]; omega
          have hj' : j = 0 ∨ j = 1 := by omega
          rcases hj' with rfl | rfl
          · exact ⟨_, kk.cell 0, by omega, by omega⟩
          · exact ⟨_, kk.cell 1, mk1, mk2⟩
      case rest =>
        obtain ⟨rfl, rfl, rfl, hcj, lj, hbc⟩ := hcut
        have HCJ := Lib.hid hcj
        clear hcj r0 rl
        go_wp2_with fail
        go_loopw [52] (fun i wy => ∃ j : Nat, j ≤ 2 ∧ i = .int .i64 j ∧ RowKit.Below wc.heap.size wc wy) (fun i _ => 2 - (intOf i).toNat)
        case atStart => exact ⟨0, by omega, rfl, RowKit.Below.refl _ _⟩
        case round =>
          obtain ⟨j, hj, rfl, hby⟩ := hrel
          have hbl : RowKit.Below wO.heap.size wO wr := (by repeat (first | (with_reducible refine Below.setCell ?_ ?_ _) | (with_reducible refine Below.alloc ?_ ?_ _) | (with_reducible refine Below.drew ?_) | (with_reducible refine below_drewN ?_ _) | (with_reducible exact Below.refl _ _) | (with_reducible refine Below.trans ?_ (Below.mono hby ?_)) | (with_reducible refine Below.trans ?_ (Below.mono hbc ?_)) | (focus (simp; done)) | (focus (simp; omega)) | (focus omega) | (focus (have q0 := Below.size hby; (try simp at q0); have q1 := Below.size hbc; (try simp at q1); (try simp); omega))))
          by_cases hjl : j < 2
          · have hij : (j : Int) < 2 := by omega
            obtain ⟨n, hcn, q1, q2⟩ := HCJ.out j hjl
            have hcn' : wr.cell? ⟨wO.heap.size, j, none⟩ = some (.int .i64 n) := by rw [(bcell hby).1 _ _ lj]; exact hcn
            have hxb2 := HXB.out.below hbl (Nat.le_refl _)
            obtain ⟨S, hS⟩ : ∃ s : ByteArray, s = ⟨xl.toArray⟩ := ⟨_, rfl⟩
            have HS := Lib.hid hS
            clear hcn hS
            go_wp2_with (first | (go_at_call 16; (with_reducible refine (msg_DecodeK q1 q2 xa xl xc _ hxb2 hxc hxn).mono ?_); rintro e w5 (⟨tok, args, dat, ya, yc, za, zc, va, vc, rfl, hok, hp, hmat, hb5⟩ | ⟨rfl, hb5⟩); ((try (have HP := Lib.hid hp; have HOK := Lib.hid hok; clear hp hok)); skip)) | (go_at_call 19; (with_reducible refine (msg_EncodeE HOK.out HP.out ya yc za va zc vc _ (hmat.below (B := w5.heap.size) (by repeat (first | (with_reducible refine Below.setCell ?_ ?_ _) | (with_reducible refine Below.alloc ?_ ?_ _) | (with_reducible refine Below.drew ?_) | (with_reducible refine below_drewN ?_ _) | (with_reducible exact Below.refl _ _) | (focus (simp; done)) | (focus (simp; omega)) | (focus omega))) (Nat.le_refl _)) rfl rfl rfl (n := xl.length) rfl).mono ?_); rintro e w6 ⟨ba, bc, rfl, own6, hb6⟩; ((have kn : Blk w6 w5.heap.size 27 #[.int .i64 n, .slice ya tok.length yc, .slice za args.length zc, .slice va dat.length vc] := (Blk.new w5 _ _).below hb6 (by simp)); (have kn0 := kn.cell 0); (have hby6 : Byt w6 ba xl := own6.byt); (have hbx6 : Byt w6 xa xl := hxb2.below (show RowKit.Below wr.heap.size wr w6 from (by repeat (first | (with_reducible refine Below.setCell ?_ ?_ _) | (with_reducible refine Below.alloc ?_ ?_ _) | (with_reducible refine Below.drew ?_) | (with_reducible refine below_drewN ?_ _) | (with_reducible exact Below.refl _ _) | (with_reducible refine Below.trans ?_ (Below.mono hb6 ?_)) | (with_reducible refine Below.trans ?_ (Below.mono hb5 ?_)) | (focus (simp; done)) | (focus (simp; omega)) | (focus omega) | (focus (have q0 := Below.size hb6; (try simp at q0); have q1 := Below.size hb5; (try simp at q1); (try simp); omega))))) (Nat.le_refl _)); (have kA : (convert 22 9 (.slice ba xl.length bc)).run Try.prog w6 = .ok (.string S) w6 := by rw [HS.out]; exact conv_str hby6 rfl); (have kB : (convert 22 9 (.slice xa xl.length xc)).run Try.prog w6 = .ok (.string S) w6 := by rw [HS.out]; exact conv_str hbx6 rfl))))
            · go_roundw
              case rel => exact ⟨j + 1, by omega, by go_num, (by repeat (first | (with_reducible refine Below.setCell ?_ ?_ _) | (with_reducible refine Below.alloc ?_ ?_ _) | (with_reducible refine Below.drew ?_) | (with_reducible refine below_drewN ?_ _) | (with_reducible exact Below.refl _ _) | (with_reducible refine Below.trans ?_ (Below.mono hb6 ?_)) | (with_reducible refine Below.trans ?_ (Below.mono hb5 ?_)) | (with_reducible refine Below.trans ?_ (Below.mono hby ?_)) | (focus (simp; done)) | (focus (simp; omega)) | (focus omega) | (focus (have q0 := Below.size hb6; (try simp at q0); have q1 := Below.size hb5; (try simp at q1); have q2 := Below.size hby; (try simp at q2); (try simp); omega))))⟩
              case measure => simp [intOf]; omega
            · go_roundw
              case rel => exact ⟨j + 1, by omega, by go_num, (by repeat (first | (with_reducible refine Below.setCell ?_ ?_ _) | (with_reducible refine Below.alloc ?_ ?_ _) | (with_reducible refine Below.drew ?_) | (with_reducible refine below_drewN ?_ _) | (with_reducible exact Below.refl _ _) | (with_reducible refine Below.trans ?_ (Below.mono hb5 ?_)) | (with_reducible refine Below.trans ?_ (Below.mono hby ?_)) | (focus (simp; done)) | (focus (simp; omega)) | (focus omega) | (focus (have q0 := Below.size hb5; (try simp at q0); have q1 := Below.size hby; (try simp at q1); (try simp); omega))))⟩
              case measure => simp [intOf]; omega
          · obtain rfl : j = 2 := by omega
            go_wp2
            go_roundw
            case rel => exact ⟨k + 1, by omega, by go_num, (by repeat (first | (with_reducible refine Below.setCell ?_ ?_ _) | (with_reducible refine Below.alloc ?_ ?_ _) | (with_reducible refine Below.drew ?_) | (with_reducible refine below_drewN ?_ _) | (with_reducible exact Below.refl _ _) | (with_reducible refine Below.trans ?_ (Below.mono hbl ?_)) | (with_reducible refine Below.trans ?_ (Below.mono hbr ?_)) | (focus (simp; done)) | (focus (simp; omega)) | (focus omega) | (focus (have q0 := Below.size hbl; (try simp at q0); have q1 := Below.size hbr; (try simp at q1); (try simp); omega))))⟩
            case measure => simp [intOf]; omega
    · obtain rfl : k = 2 := by omega
      go_wp2_with (first | (go_at_call 10; (with_reducible refine (awake_yes _).mono ?_); rintro e w20 ⟨rfl, hb20⟩))
      go_ret
      exact ⟨rfl, (by repeat (first | (with_reducible refine Below.setCell ?_ ?_ _) | (with_reducible refine Below.alloc ?_ ?_ _) | (with_reducible refine Below.drew ?_) | (with_reducible refine below_drewN ?_ _) | (with_reducible exact Below.refl _ _) | (with_reducible refine Below.trans ?_ (Below.mono hb20 ?_)) | (with_reducible refine Below.trans ?_ (Below.mono hbr ?_)) | (with_reducible refine Below.trans ?_ (Below.mono be ?_)) | (focus (simp; done)) | (focus (simp; omega)) | (focus omega) | (focus (have q0 := Below.size hb20; (try simp at q0); have q1 := Below.size hbr; (try simp at q1); have q2 := Below.size be; (try simp at q2); (try simp); omega))))⟩
end Go.Proofs.Ythkoijgobigdnaa
