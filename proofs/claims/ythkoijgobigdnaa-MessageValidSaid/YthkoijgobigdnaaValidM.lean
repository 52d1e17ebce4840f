/- law 05: MessageValid -/
import Derived.Test.YthkoijgobigdnaaFrameR
import Derived.Outline
namespace Go.Proofs.Ythkoijgobigdnaa
open Go.RowKit Go.Sort
set_option maxRecDepth 100000

def InR (b0 b1 : Nat) (a : Option Addr) : Prop := ∀ q, a.map (·.block) = some q → b0 ≤ q ∧ q < b1
theorem Row.keepIn {w w' : World} {a : Option Addr} {xs : List Value} {b0 b1 : Nat} (h : Row w a xs) (hi : InR b0 b1 a) (hk : ∀ b, b0 ≤ b → b < b1 → w'.heap[b]? = w.heap[b]?) : Row w' a xs :=
  h.keep fun b off e _ => by have := hi b (by rw [e]; rfl); exact hk b this.1 this.2
theorem MsgAt.keepIn {w w' : World} {m : Msg} {ta : Option Addr} {tc : Nat} {aa da : Option Addr} {b0 b1 : Nat} (h : MsgAt w m ta tc aa da) (i1 : InR b0 b1 ta) (i2 : InR b0 b1 aa) (i3 : InR b0 b1 da) (hk : ∀ b, b0 ≤ b → b < b1 → w'.heap[b]? = w.heap[b]?) : MsgAt w' m ta tc aa da :=
  ⟨h.tok.keepIn i1 hk, h.args.keepIn i2 hk, h.dat.keepIn i3 hk, h.nil, h.len⟩
theorem law_lightV {b : Bool} (kind : Int) (ta aa da : Option Addr) (n1 n2 n3 tc ac dc : Nat) (w : World) (h1 : n1 ≤ 9223372036854775807) (h2 : n2 ≤ 9223372036854775807) (h3 : n3 ≤ 9223372036854775807) (hb : Hid (decide (n1 ≤ 60 ∧ n2 ≤ 200 ∧ n3 ≤ 600) = b)) :
    Calls Try.prog 22 #[.agg #[.int .i64 kind, .slice ta n1 tc, .slice aa n2 ac, .slice da n3 dc]] w fun e w' => e = .returned (.bool b) ∧ Below w.heap.size w w' :=
  (law_light kind ta aa da n1 n2 n3 tc ac dc w h1 h2 h3).mono fun _ _ h => ⟨by rw [h.1, hb.out], h.2⟩

theorem msg_ForServerV {k : Int} {b : Bool} (h : forSrv k = b) (w : World) : Calls Try.prog 21 #[.int .i64 k] w fun e w' => e = .returned (.bool b) ∧ w = w' := by rw [← h]; exact msg_ForServer k w
theorem still_bel {f : FuncId} {args : Array Value} {w : World} {v : Value} (h : Calls Try.prog f args w fun e w' => e = .returned v ∧ w = w') : Calls Try.prog f args w fun e w' => e = .returned v ∧ Below w.heap.size w w' := h.mono fun _ _ ⟨he, hw⟩ => ⟨he, hw ▸ Below.refl _ _⟩
/-- the message of a round, in memory -/
structure VMid (W0 W : World) (J : Nat) (k : Int) (s1 : List UInt8) (s2 : List Int) (s3 : List UInt8) (sa : Option Addr) (sc : Nat) (ba : Option Addr) (bc : Nat) (fa : Option Addr) (fc : Nat) : Prop where
  b : Blk W J 27 #[.int .i64 k, .slice sa s1.length sc, .slice ba s2.length bc, .slice fa s3.length fc]
  hm : MsgAt W ⟨k, s1, s2, s3⟩ sa sc ba fa
  be : RowKit.Below W0.heap.size W0 W
theorem VMid.below {W0 W W' : World} {J : Nat} {k : Int} {s1 : List UInt8} {s2 : List Int} {s3 : List UInt8} {sa ba fa : Option Addr} {sc bc fc : Nat} (h : VMid W0 W J k s1 s2 s3 sa sc ba bc fa fc) (hb : RowKit.Below W.heap.size W W') : VMid W0 W' J k s1 s2 s3 sa sc ba bc fa fc :=
  ⟨h.b.below hb h.b.lt, h.hm.below hb (Nat.le_refl _), h.be.trans (hb.mono h.be.size)⟩

set_option maxHeartbeats 4000000 in
theorem messageValid_walk (k0 : Int) (ta : Option Addr) (tok : List UInt8) (tc : Nat) (aa : Option Addr) (args : List Int) (ac : Nat) (da : Option Addr) (dat : List UInt8) (dc : Nat) (a1 : Option Addr) (c1 : Nat) (l1 : List Int) (w_0 : World)
    (hT : Byt w_0 ta tok) (hA : Ints w_0 aa args) (hD : Byt w_0 da dat) (n1 : tok.length ≤ 9223372036854775807) (n2 : args.length ≤ 9223372036854775807) (n3 : dat.length ≤ 9223372036854775807) (hnil : ta = none → tok.length = 0 ∧ tc = 0) (h1 : Ints w_0 a1 l1) (n4 : l1.length ≤ 9223372036854775807) :
    Calls Try.prog 8 #[.agg #[.int .i64 k0, .slice ta tok.length tc, .slice aa args.length ac, .slice da dat.length dc], .slice a1 l1.length c1] w_0 fun e w' => e = .returned (.bool true) ∧ Below w_0.heap.size w_0 w' := by
  by_cases hs : tok.length ≤ 60 ∧ args.length ≤ 200 ∧ dat.length ≤ 600
  case neg =>
    have hs' := Lib.hid (decide_eq_false hs)
    clear hs
    go_enter Try.func8, Try.ntmps8
    go_wp2_with (first | (go_at_call 22; (with_reducible refine (law_lightV k0 ta aa da _ _ _ tc ac dc _ n1 n2 n3 hs').mono ?_); rintro e w5 ⟨rfl, hb5⟩) | (go_at_call 10; (with_reducible refine (awake_yes _).mono ?_); rintro e w20 ⟨rfl, hb20⟩))
    go_ret
    exact ⟨rfl, (by repeat (first | (with_reducible refine Below.setCell ?_ ?_ _) | (with_reducible refine Below.alloc ?_ ?_ _) | (with_reducible refine Below.drew ?_) | (with_reducible refine below_drewN ?_ _) | (with_reducible exact Below.refl _ _) | (with_reducible refine Below.trans ?_ (Below.mono hb20 ?_)) | (with_reducible refine Below.trans ?_ (Below.mono hb5 ?_)) | (focus (simp; done)) | (focus (simp; omega)) | (focus omega) | (focus (have q0 := Below.size hb20; (try simp at q0); have q1 := Below.size hb5; (try simp at q1); (try simp); omega))))⟩
  have hs' := Lib.hid (decide_eq_true hs)
  obtain ⟨s1, s2, s3⟩ := hs
  have hat0 : MsgAt w_0 ⟨k0, tok, args, dat⟩ ta tc aa da := ⟨hT, hA, hD, hnil, by simp only; omega⟩
  clear hT hA hD hnil
  go_enter Try.func8, Try.ntmps8
  go_upto_region 4 with (first | (go_at_call 22; (with_reducible refine (law_lightV k0 ta aa da _ _ _ tc ac dc _ n1 n2 n3 hs').mono ?_); rintro e w5 ⟨rfl, hb5⟩; ((have be5 : RowKit.Below w_0.heap.size w_0 w5 := (by repeat (first | (with_reducible refine Below.setCell ?_ ?_ _) | (with_reducible refine Below.alloc ?_ ?_ _) | (with_reducible refine Below.drew ?_) | (with_reducible refine below_drewN ?_ _) | (with_reducible exact Below.refl _ _) | (with_reducible refine Below.trans ?_ (Below.mono hb5 ?_)) | (focus (simp; done)) | (focus (simp; omega)) | (focus omega) | (focus (have q0 := Below.size hb5; (try simp at q0); (try simp); omega))))); (have h15 : Ints w5 a1 l1 := Ints.below h1 be5 (Nat.le_refl _)); (have kr := (Blk.new w_0 27 #[.int .i64 k0, .slice ta tok.length tc, .slice aa args.length ac, .slice da dat.length dc]).below hb5 (by simp)))) | (go_at_call 12; (with_reducible refine (mk_New a1 c1 l1 _ h15 n4).mono ?_); rintro e w1 ⟨rfl, hd1, hb1⟩))
  have kr1 := kr.below hb1 kr.lt
  have be1 : RowKit.Below w_0.heap.size w_0 w1 := (by repeat (first | (with_reducible refine Below.setCell ?_ ?_ _) | (with_reducible refine Below.alloc ?_ ?_ _) | (with_reducible refine Below.drew ?_) | (with_reducible refine below_drewN ?_ _) | (with_reducible exact Below.refl _ _) | (with_reducible refine Below.trans ?_ (Below.mono hb1 ?_)) | (with_reducible refine Below.trans ?_ (Below.mono be5 ?_)) | (focus (simp; done)) | (focus (simp; omega)) | (focus omega) | (focus (have q0 := Below.size hb1; (try simp at q0); have q1 := Below.size be5; (try simp at q1); (try simp); omega))))
  have HAT0 := Lib.hid hat0
  have sz5 := be5.size
  have krl := kr.lt
  obtain ⟨p, hp⟩ : ∃ p, p = w5.heap.size := ⟨_, rfl⟩
  rw [← hp] at hd1 krl ⊢
  have hpl := hd1.lt
  clear hat0 h15 kr h1 be5 hp
  apply wp_region_tab [(p, (p+1))] 8 93 [some 22, some 23, some 24, some 25, some 26, some 27, some 28, some 29] [⟨[8], [], [], []⟩, ⟨[8], [], [], []⟩, ⟨[1, 8], [1, 8], [1, 8], [8]⟩, ⟨[8], [], [], []⟩, ⟨[1, 2, 3, 8], [2, 3, 8], [2, 3], [8]⟩, ⟨[0, 1, 2, 3, 4, 8], [0, 2, 4], [0, 4], []⟩, ⟨[0, 1, 2, 3, 4, 5, 8], [5], [5], []⟩, ⟨[8], [], [], []⟩, ⟨[], [], [], []⟩] [0, 1, 2, 3, 4, 5, 6, 7] [4, 5, 6, 7] [psiTrue, psiTrue, (fun f lo hi v b0 b1 W => ∃ (m : Msg) (ta : Option Addr) (tc : Nat) (aa : Option Addr) (ac : Nat) (da : Option Addr) (dc : Nat), v = .agg #[.int .i64 m.kind, .slice ta m.tok.length tc, .slice aa m.args.length ac, .slice da m.dat.length dc] ∧ MsgAt W m ta tc aa da ∧ InR b0 b1 ta ∧ InR b0 b1 aa ∧ InR b0 b1 da ∧ ∃ k, DeckAt W p ⟨a1, c1, l1⟩ k), psiTrue, (fun f lo hi v b0 b1 W => ∃ (m : Msg) (ta : Option Addr) (tc : Nat) (aa : Option Addr) (ac : Nat) (da : Option Addr) (dc : Nat) (n : Msg) (sa : Option Addr) (sc : Nat) (ba : Option Addr) (bc : Nat) (fa : Option Addr) (fc : Nat), f 2 = .agg #[.int .i64 m.kind, .slice ta m.tok.length tc, .slice aa m.args.length ac, .slice da m.dat.length dc] ∧ MsgAt W m ta tc aa da ∧ InR (lo 2) (hi 2) ta ∧ InR (lo 2) (hi 2) aa ∧ InR (lo 2) (hi 2) da ∧ v = .agg #[.int .i64 n.kind, .slice sa n.tok.length sc, .slice ba n.args.length bc, .slice fa n.dat.length fc] ∧ MsgAt W n sa sc ba fa ∧ InR b0 b1 sa ∧ InR b0 b1 ba ∧ InR b0 b1 fa), (fun f lo hi v b0 b1 W => ∃ (b : Nat) (u0 u1 u2 u3 v0 v1 v2 v3 : Value), v = .slice (some ⟨b, 0, none⟩) 3 3 ∧ b0 ≤ b ∧ b < b1 ∧ f 2 = .agg #[u0, u1, u2, u3] ∧ f 4 = .agg #[v0, v1, v2, v3] ∧ Blk W b 27 #[.int .i64 k0, .slice ta tok.length tc, .slice aa args.length ac, .slice da dat.length dc, u0, u1, u2, u3, v0, v1, v2, v3]), psiTrue, psiTrue, (fun f lo hi v b0 b1 W => (b0 = p ∧ b1 = (p+1)) ∧ ∃ k, DeckAt W p ⟨a1, c1, l1⟩ k)] [kVal _, kVal _, kTrue, kVal _, kTrue, kTrue, kVal _, kVal _]
  · kernel_rfl
  · kernel_rfl
  · rfl
  · rfl
  rotate_left 2
  refine ⟨?oR1_0, ?oR1_1, ?oR1_2, ?oR1_3, ?oR1_4, ?oR1_5, ?oR1_6, ?oR1_7, trivial⟩
  case hx => exact ⟨⟨by omega, by omega⟩, by simp, trivial⟩
  case hX => exact ⟨fun _ _ _ _ => ⟨⟨rfl, rfl⟩, _, hd1⟩, trivial⟩
  case oR1_0 =>
    intro f lo hi w hb hx hf hk hrg R hR; (try replace hb := BelX.zero hb); (try simp (decide := true) only [go_sem] at hf); (try simp (decide := true) only [go_sem] at hk)
    obtain ⟨q0, q1, q2, q3⟩ := (hb.blk kr1 (fun r hr => by simp at hr; subst hr; simp only; omega)).four
    go_simp
    exact hR _ _ (rpost_val rfl rfl (Below.refl _ _) rfl)
  case oR1_1 => intro f lo hi w hb hx hf hk hrg R hR; (try replace hb := BelX.zero hb); (try simp (decide := true) only [go_sem] at hf); (try simp (decide := true) only [go_sem] at hk); go_simp; exact hR _ _ (rpost_val rfl rfl (Below.refl _ _) rfl)
  case oR1_2 =>
    intro f lo hi w hb hx hf hk hrg R hR; (try replace hb := BelX.zero hb); (try simp (decide := true) only [go_sem] at hf); (try simp (decide := true) only [go_sem] at hk)
    obtain ⟨-, k1, hd⟩ := hf
    go_simp
    (with_reducible refine (law_madeO p _ k1 _ hd).mono ?_)
    rintro e w' ⟨m, k2, xa, xc, ya, yc, za, zc, rfl, hat, i1, i2, i3, -, -, -, hd', g'⟩
    refine ⟨_, rfl, hR _ _ (rpost_some rfl rfl (touch_grown g' (List.mem_singleton.2 rfl) (XOk.get _ _ hx 0 _ rfl).1 (XOk.get _ _ hx 0 _ rfl).2) ?_)⟩
    (try simp (decide := true) only [go_sem])
    exact ⟨m, xa, xc, ya, yc, za, zc, rfl, hat, i1, i2, i3, _, hd'⟩
  case oR1_3 => intro f lo hi w hb hx hf hk hrg R hR; (try replace hb := BelX.zero hb); (try simp (decide := true) only [go_sem] at hf); (try simp (decide := true) only [go_sem] at hk); go_simp; exact hR _ _ (rpost_val rfl rfl (Below.refl _ _) rfl)
  case oR1_4 =>
    intro f lo hi w hb hx hf hk hrg R hR; (try replace hb := BelX.zero hb); (try simp (decide := true) only [go_sem] at hf); (try simp (decide := true) only [go_sem] at hk)
    obtain ⟨m, xa, xc, ya, yc, za, zc, h24, hat, i1, i2, i3, k1, hd⟩ := hf
    have hsz : w1.heap.size ≤ w.heap.size := hb.2.2.2.1
    have hr2 := hrg.out 2 (by simp)
    go_simp
    (with_reducible refine (law_madeO p _ k1 _ hd).mono ?_)
    rintro e w' ⟨n, k2, xa', xc', ya', yc', za', zc', rfl, hat', i1', i2', i3', -, -, -, hd', g'⟩
    refine ⟨_, rfl, hR _ _ (rpost_some rfl rfl (touch_grown g' (List.mem_singleton.2 rfl) (XOk.get _ _ hx 0 _ rfl).1 (XOk.get _ _ hx 0 _ rfl).2) ?_)⟩
    (try simp (decide := true) only [go_sem])
    refine ⟨m, xa, xc, ya, yc, za, zc, n, xa', xc', ya', yc', za', zc', h24, hat.keepIn i1 i2 i3 (fun b h1 h2 => g'.block b (by omega) (fun e => by injection e with e; omega)), i1, i2, i3, rfl, hat', i1', i2', i3'⟩
  case oR1_5 =>
    intro f lo hi w hb hx hf hk hrg R hR; (try replace hb := BelX.zero hb); (try simp (decide := true) only [go_sem] at hf); (try simp (decide := true) only [go_sem] at hk)
    obtain ⟨m, xa, xc, ya, yc, za, zc, n, xa', xc', ya', yc', za', zc', h24, -, -, -, -, h26, -⟩ := hf
    go_simp
    refine hR _ _ (rpost_none rfl (by repeat (first | (with_reducible refine Below.setCell ?_ ?_ _) | (with_reducible refine Below.alloc ?_ ?_ _) | (with_reducible refine Below.drew ?_) | (with_reducible refine below_drewN ?_ _) | (with_reducible exact Below.refl _ _) | (focus (simp; done)) | (focus (simp; omega)) | (focus omega))) ?_)
    (try simp (decide := true) only [go_sem])
    exact ⟨_, _, _, _, _, _, _, _, _, rfl, Nat.le_refl _, by simp, h24, h26, Blk.new _ _ _⟩
  case oR1_6 =>
    intro f lo hi w hb hx hf hk hrg R hR; (try replace hb := BelX.zero hb); (try simp (decide := true) only [go_sem] at hf); (try simp (decide := true) only [go_sem] at hk)
    obtain ⟨b, u0, u1, u2, u3, v0, v1, v2, v3, h27, -⟩ := hf
    go_simp
    exact hR _ _ (rpost_val rfl rfl (Below.refl _ _) rfl)
  case oR1_7 => intro f lo hi w hb hx hf hk hrg R hR; (try replace hb := BelX.zero hb); (try simp (decide := true) only [go_sem] at hf); (try simp (decide := true) only [go_sem] at hk); go_simp; exact hR _ _ (rpost_val rfl rfl (Below.refl _ _) rfl)
  case hcl =>
    refine ⟨Closed.true _ _ _ _, Closed.true _ _ _ _, ?cR1_2, Closed.true _ _ _ _, ?cR1_4, ?cR1_5, Closed.true _ _ _ _, Closed.true _ _ _ _, ?cR1_8, trivial⟩
    · exact fun f lo hi v b0 b1 w w' h hs hB hown hU hX => by
        obtain ⟨m, xa, xc, ya, yc, za, zc, h24, hat, i1, i2, i3, k1, hd⟩ := h
        exact ⟨m, xa, xc, ya, yc, za, zc, h24, hat.keepIn i1 i2 i3 hown, i1, i2, i3, k1, DeckAt.closed hd hd1 (fun hl b hb h1 h2 => hB b ⟨h1, fun r hr => by have := hd1.arr.resolve_left hl b hb; simp at hr; subst hr; simp only; omega⟩) (hX 0 _ rfl (by simp) p (Nat.le_refl _) (Nat.lt_succ_self _))⟩
    · exact fun f lo hi v b0 b1 w w' h hs hB hown hU hX => by
        obtain ⟨m, xa, xc, ya, yc, za, zc, n, xa', xc', ya', yc', za', zc', h24, hat, i1, i2, i3, h26, hat', i1', i2', i3'⟩ := h
        exact ⟨m, xa, xc, ya, yc, za, zc, n, xa', xc', ya', yc', za', zc', h24, hat.keepIn i1 i2 i3 (hU 2 (by simp)), i1, i2, i3, h26, hat'.keepIn i1' i2' i3' hown, i1', i2', i3'⟩
    · exact fun f lo hi v b0 b1 w w' h hs hB hown hU hX => by
        obtain ⟨b, u0, u1, u2, u3, v0, v1, v2, v3, h1, h2, h3, h4, h5, h6⟩ := h
        exact ⟨b, u0, u1, u2, u3, v0, v1, v2, v3, h1, h2, h3, h4, h5, (hown b h2 h3).trans h6⟩
    · exact fun f lo hi v b0 b1 w w' h hs hB hown hU hX => by
        obtain ⟨⟨rfl, rfl⟩, k1, hd⟩ := h
        exact ⟨⟨rfl, rfl⟩, k1, DeckAt.closed hd hd1 (fun hl b hb h1 h2 => hB b ⟨h1, fun r hr => by have := hd1.arr.resolve_left hl b hb; simp at hr; subst hr; simp only; omega⟩) (hown b0 (by omega) (by omega))⟩
  intro f lo hi W7 hbr hx hf hk hrg; (try replace hbr := BelX.zero hbr); clear hx; (try simp (decide := true) only [go_sem] at hf); (try simp (decide := true) only [go_sem] at hk)
  obtain ⟨⟨m, xa, xc, ya, yc, za, zc, n, xa', xc', ya', yc', za', zc', h24, hatm, -, -, -, h26, hatn, -⟩, b, u0, u1, u2, u3, v0, v1, v2, v3, h27, hb0, hb1', h24', h26', kb⟩ := hf
  obtain ⟨km, t1, g1, d1⟩ := m
  obtain ⟨kn, t2, g2, d2⟩ := n
  simp only at h24 h26
  rw [h24] at h24'
  rw [h26] at h26'
  injection h24' with h24'
  injection h26' with h26'
  have e0 := congrArg (·[0]?) h24'
  have e1 := congrArg (·[1]?) h24'
  have e2 := congrArg (·[2]?) h24'
  have e3 := congrArg (·[3]?) h24'
  have e0' := congrArg (·[0]?) h26'
  have e1' := congrArg (·[1]?) h26'
  have e2' := congrArg (·[2]?) h26'
  have e3' := congrArg (·[3]?) h26'
  simp at e0 e1 e2 e3 e0' e1' e2' e3'
  subst e0 e1 e2 e3 e0' e1' e2' e3'
  have be7 : RowKit.Below w_0.heap.size w_0 W7 := ⟨hbr.1.trans be1.os, hbr.2.1.trans be1.tape, hbr.2.2.1.trans be1.output, Nat.le_trans be1.size hbr.2.2.2.1, fun q hq => (hbr.2.2.2.2 q ⟨Nat.lt_of_lt_of_le hq be1.size, fun r hr => by simp at hr; subst hr; simp only; omega⟩).trans (be1.block q hq)⟩
  have hat7 : MsgAt W7 ⟨k0, tok, args, dat⟩ ta tc aa da := HAT0.out.below be7 (Nat.le_refl _)
  have HX : Hid (∀ i : Nat, i < 3 → ∃ (k : Int) (sa : Option Addr) (s1 : List UInt8) (sc : Nat) (ba : Option Addr) (s2 : List Int) (bc : Nat) (fa : Option Addr) (s3 : List UInt8) (fc : Nat),
      W7.cell? ⟨b, i * 4, none⟩ = some (.int .i64 k) ∧ W7.cell? ⟨b, i * 4 + 1, none⟩ = some (.slice sa s1.length sc) ∧ W7.cell? ⟨b, i * 4 + 2, none⟩ = some (.slice ba s2.length bc) ∧ W7.cell? ⟨b, i * 4 + 3, none⟩ = some (.slice fa s3.length fc) ∧ MsgAt W7 ⟨k, s1, s2, s3⟩ sa sc ba fa) := by
    refine Lib.hid fun i hi => ?_
    have hi' : i = 0 ∨ i = 1 ∨ i = 2 := by omega
    rcases hi' with rfl | rfl | rfl
    · exact ⟨_, _, _, _, _, _, _, _, _, _, kb.cell 0, kb.cell 1, kb.cell 2, kb.cell 3, hat7⟩
    · exact ⟨_, _, _, _, _, _, _, _, _, _, kb.cell 4, kb.cell 5, kb.cell 6, kb.cell 7, hatm⟩
    · exact ⟨_, _, _, _, _, _, _, _, _, _, kb.cell 8, kb.cell 9, kb.cell 10, kb.cell 11, hatn⟩
  have lb := kb.lt
  clear hrg hbr hat7 hatm hatn h24' h26' kb hb0 hb1' kr1 be1 hd1 hpl
  go_simp
  clear hk h24 h26 h27
  go_wp2_with fail
  go_loopw [29] (fun i wr => ∃ k : Nat, k ≤ 3 ∧ i = .int .i64 k ∧ RowKit.Below W7.heap.size W7 wr) (fun i _ => 3 - (intOf i).toNat)
  case atStart => exact ⟨0, by omega, rfl, RowKit.Below.refl _ _⟩
  case round =>
    obtain ⟨k, hk, rfl, hbr⟩ := hrel
    by_cases hlt : k < 3
    · have hi : (k : Int) < 3 := by omega
      obtain ⟨kk, sa, s1, sc, ba, s2, bc, fa, s3, fc, y0, y1, y2, y3, hm⟩ := HX.out k hlt
      have z0 : wr.cell? ⟨b, k * 4, none⟩ = some (.int .i64 kk) := by rw [(bcell hbr).1 _ _ lb]; exact y0
      have z1 : wr.cell? ⟨b, k * 4 + 1, none⟩ = some (.slice sa s1.length sc) := by rw [(bcell hbr).1 _ _ lb]; exact y1
      have z2 : wr.cell? ⟨b, k * 4 + 2, none⟩ = some (.slice ba s2.length bc) := by rw [(bcell hbr).1 _ _ lb]; exact y2
      have z3 : wr.cell? ⟨b, k * 4 + 3, none⟩ = some (.slice fa s3.length fc) := by rw [(bcell hbr).1 _ _ lb]; exact y3
      have hmr := hm.below hbr (Nat.le_refl _)
      clear y0 y1 y2 y3 hm
      obtain ⟨el, ec, HE⟩ : ∃ el ec, Hid (encP ⟨kk, s1, s2, s3⟩ = (el, ec)) := ⟨_, _, Lib.hid rfl⟩
      obtain ⟨rl, rc, HF⟩ : ∃ el ec, Hid (frmP ⟨kk, s1, s2, s3⟩ = (el, ec)) := ⟨_, _, Lib.hid rfl⟩
      obtain ⟨vb, HV⟩ : ∃ vb, Hid (okB ⟨kk, s1, s2, s3⟩ = vb) := ⟨_, Lib.hid rfl⟩
      obtain ⟨fb, hfb⟩ : ∃ fb, forSrv kk = fb := ⟨_, rfl⟩
      have HFB := Lib.hid hfb
      clear hfb
      go_upto_region 7 with fail
      refine wp_named (fun W => VMid W7 W wr.heap.size kk s1 s2 s3 sa sc ba bc fa fc) ⟨Blk.new _ _ _, hmr.below (B := wr.heap.size) (by repeat (first | (with_reducible refine Below.setCell ?_ ?_ _) | (with_reducible refine Below.alloc ?_ ?_ _) | (with_reducible refine Below.drew ?_) | (with_reducible refine below_drewN ?_ _) | (with_reducible exact Below.refl _ _) | (focus (simp; done)) | (focus (simp; omega)) | (focus omega))) (Nat.le_refl _), (by repeat (first | (with_reducible refine Below.setCell ?_ ?_ _) | (with_reducible refine Below.alloc ?_ ?_ _) | (with_reducible refine Below.drew ?_) | (with_reducible refine below_drewN ?_ _) | (with_reducible exact Below.refl _ _) | (with_reducible refine Below.trans ?_ (Below.mono hbr ?_)) | (focus (simp; done)) | (focus (simp; omega)) | (focus omega) | (focus (have q0 := Below.size hbr; (try simp at q0); (try simp); omega))))⟩ ?_
      rintro W1 t1'
      clear z0 z1 z2 z3 hmr
      obtain ⟨u0, u1, u2, u3⟩ := t1'.b.four
      have ul := t1'.b.lt
      go_upto_region 11 with (first | (go_at_call 19; (with_reducible refine (msg_EncodeV sa sc ba fa bc fc _ t1'.hm HE).mono ?_); rintro e w2 ⟨ea, ek, rfl, be2, hb2⟩; (have t2' := t1'.below hb2; clear u0 u1 u2 u3 ul; obtain ⟨u0, u1, u2, u3⟩ := t2'.b.four; (have ul := t2'.b.lt))) | (go_at_call 13; (with_reducible refine (ref05_EncodeV sa sc ba fa bc fc _ t2'.hm HE).mono ?_); rintro e w3 ⟨ga, gk, rfl, be3, hb3⟩; (have t3' := t2'.below hb3; clear u0 u1 u2 u3 ul; obtain ⟨u0, u1, u2, u3⟩ := t3'.b.four; (have ul := t3'.b.lt))) | (go_at_call 23; (with_reducible refine (msg_FrameV sa sc ba fa bc fc _ t3'.hm HF).mono ?_); rintro e w4 ⟨ha, hk', rfl, be4, hb4⟩; (have t4' := t3'.below hb4; clear u0 u1 u2 u3 ul; obtain ⟨u0, u1, u2, u3⟩ := t4'.b.four; (have ul := t4'.b.lt))) | (go_at_call 24; (with_reducible refine (ref05_FrameV sa sc ba fa bc fc _ t4'.hm HF).mono ?_); rintro e w5 ⟨ja, jk, rfl, be5, hb5⟩; (have t5' := t4'.below hb5; clear u0 u1 u2 u3 ul; obtain ⟨u0, u1, u2, u3⟩ := t5'.b.four; (have ul := t5'.b.lt))))
      have q2 := be2.below (show RowKit.Below w2.heap.size w2 w5 from (by repeat (first | (with_reducible refine Below.setCell ?_ ?_ _) | (with_reducible refine Below.alloc ?_ ?_ _) | (with_reducible refine Below.drew ?_) | (with_reducible refine below_drewN ?_ _) | (with_reducible exact Below.refl _ _) | (with_reducible refine Below.trans ?_ (Below.mono hb3 ?_)) | (with_reducible refine Below.trans ?_ (Below.mono hb4 ?_)) | (with_reducible refine Below.trans ?_ (Below.mono hb5 ?_)) | (focus (simp; done)) | (focus (simp; omega)) | (focus omega) | (focus (have q0 := Below.size hb3; (try simp at q0); have q1 := Below.size hb4; (try simp at q1); have q2 := Below.size hb5; (try simp at q2); (try simp); omega))))) (Nat.le_refl _)
      have q3 := be3.below (show RowKit.Below w3.heap.size w3 w5 from (by repeat (first | (with_reducible refine Below.setCell ?_ ?_ _) | (with_reducible refine Below.alloc ?_ ?_ _) | (with_reducible refine Below.drew ?_) | (with_reducible refine below_drewN ?_ _) | (with_reducible exact Below.refl _ _) | (with_reducible refine Below.trans ?_ (Below.mono hb4 ?_)) | (with_reducible refine Below.trans ?_ (Below.mono hb5 ?_)) | (focus (simp; done)) | (focus (simp; omega)) | (focus omega) | (focus (have q0 := Below.size hb4; (try simp at q0); have q1 := Below.size hb5; (try simp at q1); (try simp); omega))))) (Nat.le_refl _)
      have q4 := be4.below hb5 (Nat.le_refl _)
      obtain ⟨S1, hS1⟩ : ∃ s : ByteArray, s = ⟨el.toArray⟩ := ⟨_, rfl⟩
      obtain ⟨S2, hS2⟩ : ∃ s : ByteArray, s = ⟨rl.toArray⟩ := ⟨_, rfl⟩
      have HS1 := Lib.hid hS1
      have HS2 := Lib.hid hS2
      have kA : ∀ d os, (convert 22 9 (.slice ea el.length ek)).run Try.prog (grow (redrawn w5 d) os) = .ok (.string S1) (grow (redrawn w5 d) os) := fun d os => by
        rw [HS1.out]; exact conv_str (q2.below (below_regrown w5 d os) (Nat.le_refl _)) rfl
      have kB : ∀ d os, (convert 22 9 (.slice ga el.length gk)).run Try.prog (grow (redrawn w5 d) os) = .ok (.string S1) (grow (redrawn w5 d) os) := fun d os => by
        rw [HS1.out]; exact conv_str (q3.below (below_regrown w5 d os) (Nat.le_refl _)) rfl
      have kC : ∀ d os, (convert 22 9 (.slice ha rl.length hk')).run Try.prog (grow (redrawn w5 d) os) = .ok (.string S2) (grow (redrawn w5 d) os) := fun d os => by
        rw [HS2.out]; exact conv_str (q4.below (below_regrown w5 d os) (Nat.le_refl _)) rfl
      have kD : ∀ d os, (convert 22 9 (.slice ja rl.length jk)).run Try.prog (grow (redrawn w5 d) os) = .ok (.string S2) (grow (redrawn w5 d) os) := fun d os => by
        rw [HS2.out]; exact conv_str (be5.below (below_regrown w5 d os) (Nat.le_refl _)) rfl
      have rr : ∀ (d : Nat) (os : Array Obj) (o : Nat), (grow (redrawn w5 d) os).cell? ⟨wr.heap.size, o, none⟩ = w5.cell? ⟨wr.heap.size, o, none⟩ := fun d os o => cells_regrown _ _ _ _ _ ul
      have ra : ∀ d os, MsgAt (grow (redrawn w5 d) os) ⟨kk, s1, s2, s3⟩ sa sc ba fa := fun d os => t5'.hm.below (below_regrown w5 d os) (Nat.le_refl _)
      have x1 : (vb != vb) = false := by simp
      have x2 : (fb != fb) = false := by simp
      have x3 : (ec != ec) = false := by simp
      have x4 : (rc != rc) = false := by simp
      have x5 : (S1.toList == S1.toList) = true := by simp
      have x6 : (S2.toList == S2.toList) = true := by simp
      have t5b := t5'.be
      have t5l : W7.heap.size ≤ w5.heap.size := t5b.size
      clear hS1 hS2 be2 be3 be4 be5 q2 q3 q4 t1' t2' t3' t4' t5' hb2 hb3 hb4 hb5
      (refine wp_region_quiet_below (by kernel_rfl) (by kernel_rfl) ?_; (repeat (go_big_quiet_step (first | (go_at_call 20; exact qb (msg_ValidB sa sc ba fa bc fc _ (ra _ _) HV)) | (go_at_call 25; exact qb (ref05_ValidB sa sc ba fa bc fc _ (ra _ _) HV)) | (go_at_call 21; exact qb (still_bel (msg_ForServerV HFB.out _))) | (go_at_call 26; exact qb (still_bel (ref05_ForServerV HFB.out _)))))); refine wpQuiet_nil ?_; intro wq hwq; have hbq := below_of_regrown hwq; clear hwq)
      go_wp2
      go_roundw
      case rel => exact ⟨k + 1, by omega, by go_num, t5b.trans (hbq.mono t5l)⟩
      case measure => simp [intOf]; omega
    · obtain rfl : k = 3 := by omega
      go_wp2_with (first | (go_at_call 10; (with_reducible refine (awake_yes _).mono ?_); rintro e w20 ⟨rfl, hb20⟩))
      go_ret
      exact ⟨rfl, (by repeat (first | (with_reducible refine Below.setCell ?_ ?_ _) | (with_reducible refine Below.alloc ?_ ?_ _) | (with_reducible refine Below.drew ?_) | (with_reducible refine below_drewN ?_ _) | (with_reducible exact Below.refl _ _) | (with_reducible refine Below.trans ?_ (Below.mono hb20 ?_)) | (with_reducible refine Below.trans ?_ (Below.mono hbr ?_)) | (with_reducible refine Below.trans ?_ (Below.mono be7 ?_)) | (focus (simp; done)) | (focus (simp; omega)) | (focus omega) | (focus (have q0 := Below.size hb20; (try simp at q0); have q1 := Below.size hbr; (try simp at q1); have q2 := Below.size be7; (try simp at q2); (try simp); omega))))⟩
end Go.Proofs.Ythkoijgobigdnaa
