/- law 05: the sanity check -/
import Derived.Test.YthkoijgobigdnaaDec
import Derived.Test.YthkoijgobigdnaaMsgVal
import Derived.Test.YthkoijgobigdnaaStr
import Derived.Outline
namespace Go.Proofs.Ythkoijgobigdnaa
open Go.RowKit Go.Sort
set_option maxRecDepth 20000

theorem MsgAt.lit {w : World} {m : Msg} {a : Option Addr} (h : Ints w a m.args) (ht : m.tok = []) (hd : m.dat = []) (hl : m.args.length ≤ 1000000) : MsgAt w m none 0 a none :=
  ⟨by rw [ht]; exact Byt.nil _ _, h, by rw [hd]; exact Byt.nil _ _, fun _ => ⟨by rw [ht]; rfl, rfl⟩, by rw [ht]; simp, hl, by rw [hd]; simp⟩
theorem msg_EncodeE {kind : Int} {tok : List UInt8} {args : List Int} {dat p : List UInt8} (hok : Msg.Ok ⟨kind, tok, args, dat⟩) (hp : Msg.pay ⟨kind, tok, args, dat⟩ = p) (ta : Option Addr) (tc : Nat) (aa da : Option Addr) (ac dc : Nat) (w : World) (hat : MsgAt w ⟨kind, tok, args, dat⟩ ta tc aa da) {tn an dn : Nat} (h1 : tn = tok.length) (h2 : an = args.length) (h3 : dn = dat.length) {n : Nat} (hn : n = p.length) :
    Calls Try.prog 19 #[.agg #[.int .i64 kind, .slice ta tn tc, .slice aa an ac, .slice da dn dc]] w fun e w' => ∃ a c, e = .returned (.tuple #[.slice a n c, .int .i64 0]) ∧ Own w' w.heap.size 5 1 a n c (p.map encB) ∧ Below w.heap.size w w' := by
  refine (msg_Encode ⟨kind, tok, args, dat⟩ ta tc aa da ac dc w hat h1 h2 h3).mono fun e w' h => ?_
  rcases h with ⟨_, a, n', c, he, hn', own, hb⟩ | ⟨hno, _⟩
  · rw [hp, ← hn] at hn'
    subst hn'
    rw [hp] at own
    exact ⟨a, c, he, own, hb⟩
  · exact absurd hok hno
theorem pay_ack : Msg.pay ⟨14, [], [6, 300], []⟩ = [6, 172, 2] := by
  have e300 : vEnc 300 = [172, 2] := by rw [vEnc_ge (by omega), vEnc_lt (by omega)]; rfl
  have e6 : vEnc 6 = [6] := by rw [vEnc_lt (by omega)]; rfl
  simp [Msg.pay, encFrom, gCode, shpOf, e300, e6, fixN]
theorem ok_ack : Msg.Ok ⟨14, [], [6, 300], []⟩ := ⟨by decide, by decide, by decide, by decide, by decide, by decide, by rw [pay_ack]; decide⟩
theorem pay_hold : Msg.pay ⟨19, [], [5, 9], []⟩ = [1, 5, 9] := by
  have e1 : vEnc 1 = [1] := by rw [vEnc_lt (by omega)]; rfl
  have e5 : vEnc 5 = [5] := by rw [vEnc_lt (by omega)]; rfl
  have e9 : vEnc 9 = [9] := by rw [vEnc_lt (by omega)]; rfl
  simp [Msg.pay, encFrom, gCode, grpN, shpOf, e1, e5, e9]
theorem ok_hold : Msg.Ok ⟨19, [], [5, 9], []⟩ := ⟨by decide, by decide, by decide, by decide, by decide, by decide, by rw [pay_hold]; decide⟩
theorem len_hold {m : Msg} (hm : m.Ok) (hk : m.kind = 19) (hp : m.pay = [1, 5, 9]) : m.args.length = 2 := by
  obtain ⟨_, _, _, _, l, m2, r, h1, h2, h3⟩ := dec_back hm (s := ⟨0, 0, 2, 0, 4, 0⟩) (by rw [hk]; rfl)
  rw [hp] at h2
  have e0 : rdN 0 ([1, 5, 9] : List UInt8) = some ([], [1, 5, 9]) := rfl
  simp at h2
  rw [e0] at h2
  injection h2 with h2
  injection h2 with h2 h2'
  subst h2 h2'
  rcases h3 with ⟨h, _⟩ | ⟨_, x, _, _, _, h4, h5⟩
  · exact absurd h (by decide)
  · have e1 : rdN 1 ([1, 5, 9] : List UInt8) = some ([1], [5, 9]) := by decide +kernel
    rw [e1] at h4
    injection h4 with h4
    injection h4 with h4 _
    injection h4 with h4 _
    subst h4
    have := (rdN_only _ _ _ _ h5).1
    rw [h1]
    simpa using this
/-- Decode where the message is known to be there -/
theorem msg_DecodeHold (a : Option Addr) (c : Nat) (w : World) (hb : Byt w a [1, 5, 9]) (hc : 3 ≤ c) (ha : a ≠ none) : Calls Try.prog 16 #[.int .i64 19, .slice a 3 c] w fun e w' => ∃ ta tn tc aa ac da dn dc, e = .returned (.tuple #[.agg #[.int .i64 19, .slice ta tn tc, .slice aa 2 ac, .slice da dn dc], .int .i64 0]) ∧ Below w.heap.size w w' := by
  refine (msg_Decode 19 a [1, 5, 9] 3 c w hb rfl hc (fun h => absurd h ha)).mono fun e w' h => ?_
  rcases h with ⟨⟨m, h1, h2, h3, v, he, ta, tc, aa, ac, da, dc, hv, _⟩ | ⟨_, _, h, _⟩ | ⟨h, _⟩, hb⟩
  · rw [len_hold h1 h2 h3, h2] at hv
    exact ⟨ta, _, tc, aa, ac, da, _, dc, by rw [he, hv], hb⟩
  · exact absurd pay_hold (h _ ok_hold rfl)
  · omega
theorem ints_lit {w : World} {C : Array Value} {e : TypeId} (l : List Int) (h : C.toList = l.map encI) : Ints (w.alloc (.cells C e)) (some ⟨w.heap.size, 0, none⟩) l := by
  unfold Ints
  rw [← h]
  exact row_new w C e (0, 0)
set_option maxHeartbeats 1000000 in
theorem awake_yes (w : World) : Calls Try.prog 10 #[] w fun e w' => e = .returned (.bool true) ∧ Below w.heap.size w w' := by
  have F12 : forSrv 12 = true := by decide
  have F13 : forSrv 13 = false := by decide
  have HS := fun (w : World) (a : Option Addr) (n c : Nat) (hb : Byt w a [6, 172, 2]) (hn : n = 3) => conv_str (w := w) (a := a) (l := [6, 172, 2]) (n := n) (cap := c) hb hn
  have M0 : ∀ w : World, MsgAt (w.alloc (.cells #[.int .i64 6, .int .i64 300] 3)) ⟨14, [], [6, 300], []⟩ none 0 (some ⟨w.heap.size, 0, none⟩) none := fun w => MsgAt.lit (ints_lit [6, 300] rfl) rfl rfl (by simp)
  go_enter Try.func10, Try.ntmps10
  go_wp2_with (first | (go_at_call 19; (with_reducible refine (msg_EncodeE ok_ack pay_ack none 0 _ none _ 0 _ (M0 _) (by simp) (by simp) (by simp) (n := 3) (by simp)).mono ?_); rintro e w1 ⟨a1, c1, rfl, own1, hb1⟩; (have b9 := byt_new (w := w1) (C := #[.int .u8 1, .int .u8 5, .int .u8 9]) (e := 5) (m := (0, 0)) (l := [1, 5, 9]) rfl)) | (go_at_call 16; (with_reducible refine (msg_DecodeHold _ _ _ b9 (Nat.le_refl _) (by simp)).mono ?_); rintro e w2 ⟨ta, tn, tc, aa, ac, da, dn, dc, rfl, hb2⟩; (have kS := (HS (w2.alloc (.cells #[.int .i64 19, .slice ta tn tc, .slice aa 2 ac, .slice da dn dc] 27)) a1 3 c1 ((own1.byt.below (show RowKit.Below w1.heap.size w1 w2 from (by repeat (first | (with_reducible refine Below.setCell ?_ ?_ _) | (with_reducible refine Below.alloc ?_ ?_ _) | (with_reducible refine Below.drew ?_) | (with_reducible refine below_drewN ?_ _) | (with_reducible exact Below.refl _ _) | (with_reducible refine Below.trans ?_ (Below.mono hb2 ?_)) | (focus (simp; done)) | (focus (simp; omega)) | (focus omega) | (focus (have q0 := Below.size hb2; (try simp at q0); (try simp); omega))))) (Nat.le_refl _)).alloc _) rfl))) | (go_at_call 21; (with_reducible refine (msg_ForServer _ _).mono ?_); rintro e w' ⟨rfl, rfl⟩))
  go_ret
  exact ⟨ret_bool rfl, (by repeat (first | (with_reducible refine Below.setCell ?_ ?_ _) | (with_reducible refine Below.alloc ?_ ?_ _) | (with_reducible refine Below.drew ?_) | (with_reducible refine below_drewN ?_ _) | (with_reducible exact Below.refl _ _) | (with_reducible refine Below.trans ?_ (Below.mono hb1 ?_)) | (with_reducible refine Below.trans ?_ (Below.mono hb2 ?_)) | (focus (simp; done)) | (focus (simp; omega)) | (focus omega) | (focus (have q0 := Below.size hb1; (try simp at q0); have q1 := Below.size hb2; (try simp at q1); (try simp); omega))))⟩
end Go.Proofs.Ythkoijgobigdnaa
