/- signalbrokerlaw14.TokenChecks -/
import Derived.Test.YtgngmmmdhhjbhaaTkRChk
import Derived.Test.YtgngmmmdhhjbhaaTkRExp
import Derived.Test.YtgngmmmdhhjbhaaTkSame
import Derived.Test.YtgngmmmdhhjbhaaTkBent
import Derived.Test.YtgngmmmdhhjbhaaKills
import Derived.Test.YtgngmmmdhhjbhaaOpenT
import Derived.Test.YtgngmmmdhhjbhaaSpoilt
import Derived.Deep.CutBlock
namespace Go.Proofs.Ytgngmmmdhhjbhaa
set_option linter.unusedVariables false
open Go.RowKit Go.Sort
set_option maxRecDepth 100000

/-- slots under a literal's cell -/
def TokAt (W : World) (B i : Nat) : Prop := ∃ (a : Option Addr) (l : List Tk) (n c : Nat), W.cell? ⟨B, i, none⟩ = some (.slice a n c) ∧ Hid (n = l.length) ∧ TkG W a l c
/-- bytes under a literal's cell -/
def BytAt (W : World) (B i : Nat) : Prop := ∃ (a : Option Addr) (l : List UInt8) (n c : Nat), W.cell? ⟨B, i, none⟩ = some (.slice a n c) ∧ Hid (n = l.length) ∧ Byt W a l ∧ n ≤ 1000000 ∧ n ≤ c
theorem cell_below {W W' : World} {B o : Nat} {v : Value} (h : W.cell? ⟨B, o, none⟩ = some v) (hb : Below W.heap.size W W') : W'.cell? ⟨B, o, none⟩ = some v := by
  have hl := World.block_lt_of_cell? W _ h
  rw [(bcell hb).1 B o hl]
  exact h
theorem TokAt.below {W W' : World} {B i : Nat} (h : TokAt W B i) (hb : Below W.heap.size W W') : TokAt W' B i := by
  obtain ⟨a, l, n, c, h1, h2, h3⟩ := h
  exact ⟨a, l, n, c, cell_below h1 hb, h2, h3.below hb⟩
theorem BytAt.below {W W' : World} {B i : Nat} (h : BytAt W B i) (hb : Below W.heap.size W W') : BytAt W' B i := by
  obtain ⟨a, l, n, c, h1, h2, h3, h4, h5⟩ := h
  exact ⟨a, l, n, c, cell_below h1 hb, h2, h3.below hb (Nat.le_refl _), h4, h5⟩
def IntAt (W : World) (B o : Nat) : Prop := ∃ v : Int, W.cell? ⟨B, o, none⟩ = some (.int .i64 v)
theorem IntAt.below {W W' : World} {B i : Nat} (h : IntAt W B i) (hb : Below W.heap.size W W') : IntAt W' B i := by
  obtain ⟨v, h1⟩ := h
  exact ⟨v, cell_below h1 hb⟩
set_option maxHeartbeats 8000000 in
theorem tokenChecks_walk (xR : Option Addr) (cR : Nat) (lR : List Tk) (a0 : Option Addr) (c0 : Nat) (l0 : List Int) (aS : Option Addr) (cS : Nat) (lS : List UInt8) (which by_ kind now : Int) (w : World)
    (hR : RawT w xR lR cR) (h0 : Ints w a0 l0) (n0 : l0.length ≤ 9223372036854775807) (hS : Byt w aS lS) (nS : lS.length ≤ 9223372036854775807) (kS : lS.length ≤ cS) :
    Calls Try.prog 8 #[.slice xR lR.length cR, .slice a0 l0.length c0, .slice aS lS.length cS, .int .i64 which, .int .i64 by_, .int .i64 kind, .int .i64 now] w fun e w' => e = .returned (.bool true) ∧ RowKit.Below w.heap.size w w' := by
  by_cases h600 : lS.length ≤ 600
  case neg =>
    have d600 : decide (lS.length ≤ 600) = false := decide_eq_false h600
    go_enter Try.func8, Try.ntmps8
    go_upto_region 1 with fail
    go_wp2_with (first | (go_at_call 9; (with_reducible refine (law_light xR lR lR.length cR _ hR.tks rfl hR.n).mono ?_); rintro e w1 ⟨b, rfl, hb, hb1⟩; (cases b)) | (go_at_call 10; (with_reducible refine (mk_Short _ _ _ _ nS).mono ?_); rintro e w' ⟨rfl, rfl⟩) | (go_at_call 11; (with_reducible refine (law_awake _).mono ?_); rintro e w2 ⟨rfl, hb2⟩))
    all_goals
      go_ret
      exact ⟨rfl, (by repeat (first | (with_reducible refine Below.setCell ?_ ?_ _) | (with_reducible refine Below.alloc ?_ ?_ _) | (with_reducible refine Below.drew ?_) | (with_reducible refine below_drewN ?_ _) | (with_reducible exact Below.refl _ _) | (with_reducible refine Below.trans ?_ (Below.mono hb2 ?_)) | (with_reducible refine Below.trans ?_ (Below.mono hb1 ?_)) | (focus (simp; done)) | (focus (simp; omega)) | (focus omega) | (focus (have q0 := Below.size hb2; (try simp at q0); have q1 := Below.size hb1; (try simp at q1); (try simp); omega))))⟩
  have d600 : decide (lS.length ≤ 600) = true := decide_eq_true h600
  have HR63 : ∀ r : Int, r = 63 ∨ r = 47 ∨ r = 7 → rV r = true := fun r h => by rcases h with rfl | rfl | rfl <;> decide
  have HRV := Lib.hid HR63
  have HS8 : Hid (8 = (secX 1000).length) := Lib.hid rfl
  clear HR63
  have HRX := Lib.hid hR
  clear hR
  go_enter Try.func8, Try.ntmps8
  go_upto_region 1 with fail
  go_upto_if 36 with (first | (go_at_call 9; (with_reducible refine (law_light xR lR lR.length cR _ HRX.out.tks rfl HRX.out.n).mono ?_); rintro e w1 ⟨b, rfl, hbL, hb1⟩; (cases b)) | (go_at_call 10; (with_reducible refine (mk_Short _ _ _ _ nS).mono ?_); rintro e w' ⟨rfl, rfl⟩))
  · go_wp2_with ((go_at_call 11; (with_reducible refine (law_awake _).mono ?_); rintro e w2 ⟨rfl, hb2⟩))
    go_ret
    exact ⟨rfl, (by repeat (first | (with_reducible refine Below.setCell ?_ ?_ _) | (with_reducible refine Below.alloc ?_ ?_ _) | (with_reducible refine Below.drew ?_) | (with_reducible refine below_drewN ?_ _) | (with_reducible exact Below.refl _ _) | (with_reducible refine Below.trans ?_ (Below.mono hb2 ?_)) | (with_reducible refine Below.trans ?_ (Below.mono hb1 ?_)) | (focus (simp; done)) | (focus (simp; omega)) | (focus omega) | (focus (have q0 := Below.size hb2; (try simp at q0); have q1 := Below.size hb1; (try simp at q1); (try simp); omega))))⟩
  · have GR : TkG w xR lR cR := ⟨HRX.out.tks, HRX.out.nil, fun t ht => ⟨HRX.out.sec t ht, by have := (hbL.out (by first | rfl | trivial)).2 t ht; omega⟩, (hbL.out (by first | rfl | trivial)).1⟩
    go_upto_region 4 with ((go_at_call 14; (with_reducible refine (law_agency _ _).mono ?_); rintro e w2 ⟨sa, sc, rt, cl, rfl, hrt, cl0, cl1, own2, hb2⟩))
    obtain ⟨T, hT⟩ : ∃ T, w2.heap.size = T := ⟨_, rfl⟩
    refine wp_named (fun Y => Blk Y T 32 #[.slice sa 8 sc, .int .i64 rt, .int .i64 cl, .slice none 0 0, .int .i64 0, .int .i64 0, .int .i64 0, .int .i64 0] ∧ Byt Y sa (secX 1000) ∧ TkG Y xR lR cR ∧ Ints Y a0 l0 ∧ Byt Y aS lS ∧ RowKit.Below w.heap.size w Y) ⟨by rw [← hT]; exact Blk.new _ _ _, own2.byt.alloc _, ((GR.below hb1).below hb2).alloc _, ((h0.below hb1 (Nat.le_refl _)).below hb2 (Nat.le_refl _)).alloc _, ((hS.below hb1 (Nat.le_refl _)).below hb2 (Nat.le_refl _)).alloc _, (by repeat (first | (with_reducible refine Below.setCell ?_ ?_ _) | (with_reducible refine Below.alloc ?_ ?_ _) | (with_reducible refine Below.drew ?_) | (with_reducible refine below_drewN ?_ _) | (with_reducible exact Below.refl _ _) | (with_reducible refine Below.trans ?_ (Below.mono hb2 ?_)) | (with_reducible refine Below.trans ?_ (Below.mono hb1 ?_)) | (focus (simp; done)) | (focus (simp; omega)) | (focus omega) | (focus (have q0 := Below.size hb2; (try simp at q0); have q1 := Below.size hb1; (try simp at q1); (try simp); omega))))⟩ ?_
    have n2 := Lib.hid own2.none_len
    have hrv := HRV.out rt hrt
    rw [hT]
    clear hT GR h0 hS hb1 hb2 own2 HRX hbL HRV hrt d600
    rintro Y ⟨kT, hsec, GR, h0, hS, beY⟩
    obtain ⟨t0, t1, t2, t3, t4, t5, t6, t7⟩ := kT.eight
    have tl := kT.lt
    go_cut [16] (fun s16 wx => ∃ (l : List Tk) (xa : Option Addr) (xc : Nat), s16 = .slice xa 8 xc ∧ Hid (8 = l.length) ∧ Hid (valK (l.map Tk.key) = true) ∧ TkG wx xa l xc ∧ RowKit.Below Y.heap.size Y wx)
    case first =>
      go_region_with (first | (go_at_call 12; (with_reducible refine (mk_New a0 c0 l0 _ (h0.below (by repeat (first | (with_reducible refine Below.setCell ?_ ?_ _) | (with_reducible refine Below.alloc ?_ ?_ _) | (with_reducible refine Below.drew ?_) | (with_reducible refine below_drewN ?_ _) | (with_reducible exact Below.refl _ _) | (focus (simp; done)) | (focus (simp; omega)) | (focus omega))) (Nat.le_refl _)) n0).mono ?_); rintro e w3 ⟨rfl, hd3, hb3⟩; ((have be3 : RowKit.Below Y.heap.size Y w3 := (by repeat (first | (with_reducible refine Below.setCell ?_ ?_ _) | (with_reducible refine Below.alloc ?_ ?_ _) | (with_reducible refine Below.drew ?_) | (with_reducible refine below_drewN ?_ _) | (with_reducible exact Below.refl _ _) | (with_reducible refine Below.trans ?_ (Below.mono hb3 ?_)) | (focus (simp; done)) | (focus (simp; omega)) | (focus omega) | (focus (have q0 := Below.size hb3; (try simp at q0); (try simp); omega))))); (have kT3 := kT.below be3 tl); (obtain ⟨q0, q1, q2, q3, q4, q5, q6, q7⟩ := kT3.eight); (have ql := kT3.lt); (have hsec3 := hsec.below be3 (Nat.le_refl _)); (have hd3' : DeckAt w3 Y.heap.size ⟨a0, c0, l0⟩ 0 := hd3))) | (go_at_call 13; (with_reducible refine (deck_Tokens _ ⟨a0, c0, l0⟩ 0 sa (secX 1000) 8 sc rt cl none 0 0 0 0 0 0 _ hd3' hsec3 HS8.out rfl hrv cl0 cl1).mono ?_); rintro e w4 ⟨kd, l, xa, xc, rfl, hn, hV, il, -, g4⟩))
      all_goals
        go_wp2_with fail
        go_meet
        exact ⟨l, xa, xc, rfl, hn, hV, il.g hV, deck_open be3 g4⟩
    case rest =>
      obtain ⟨l, xa, xc, rfl, hn, hV, il, be4⟩ := hcut
      have HL8 : Hid (l.length = 8) := Lib.hid hn.out.symm
      have hTl := Nat.lt_of_lt_of_le tl be4.size
      go_upto_region 5 with fail
      refine wp_named (fun Z => Blk Z T 32 #[.slice sa 8 sc, .int .i64 rt, .int .i64 cl, .slice none 0 0, .int .i64 0, .int .i64 0, .int .i64 0, .int .i64 0] ∧ Byt Z sa (secX 1000) ∧ TkG Z xR lR cR ∧ TkG Z xa l xc ∧ Byt Z aS lS ∧ RowKit.Below w.heap.size w Z) ⟨kT.below be4 tl, hsec.below be4 (Nat.le_refl _), GR.below be4, il, hS.below be4 (Nat.le_refl _), (by repeat (first | (with_reducible refine Below.setCell ?_ ?_ _) | (with_reducible refine Below.alloc ?_ ?_ _) | (with_reducible refine Below.drew ?_) | (with_reducible refine below_drewN ?_ _) | (with_reducible exact Below.refl _ _) | (with_reducible refine Below.trans ?_ (Below.mono be4 ?_)) | (with_reducible refine Below.trans ?_ (Below.mono beY ?_)) | (focus (simp; done)) | (focus (simp; omega)) | (focus omega) | (focus (have q0 := Below.size be4; (try simp at q0); have q1 := Below.size beY; (try simp at q1); (try simp); omega))))⟩ ?_
      clear kT hsec GR h0 hS beY t0 t1 t2 t3 t4 t5 t6 t7 tl il be4 hTl
      rintro Z ⟨kT, hsec, GR, G, hS, beZ⟩
      have G0 := G.tks
      have HZ := Lib.hid (show Blk Z T _ _ from kT)
      have tl := kT.lt
      go_cut [54] (fun s54 wx => s54 = .bool false ∧ RowKit.Below Z.heap.size Z wx)
      case first =>
        apply wp_region_tab [] 11 176 [some 44, some 45, some 46, some 47, some 48, some 49, some 50, some 51, some 52, some 53, some 54] [⟨[], [], [], []⟩, ⟨[0], [0], [0], []⟩, ⟨[], [], [], []⟩, ⟨[0, 1, 2], [2], [2], []⟩, ⟨[0, 1, 2, 3], [1, 3], [1, 3], []⟩, ⟨[0, 1, 2, 3, 4], [4], [4], []⟩, ⟨[0, 1, 2, 3, 4, 5], [5], [5], []⟩, ⟨[0, 1, 2, 3, 4, 5, 6], [6], [6], []⟩, ⟨[0, 1, 2, 3, 4, 5, 6, 7], [6, 7], [6, 7], []⟩, ⟨[0, 1, 2, 3, 4, 5, 6, 7, 8], [6, 8], [6, 8], []⟩, ⟨[0, 1, 2, 3, 4, 5, 6, 7, 8, 9], [6, 9], [6, 9], []⟩] [0, 1, 2, 3, 4, 5, 6, 7, 8, 9, 10] [10] [psiTrue, (fun f lo hi v b0 b1 W => ∃ (xa : Option Addr) (xc : Nat) (l2 : List Tk), v = .slice xa 8 xc ∧ Hid (l2.map Tk.key = newK (secX 1000) rt cl) ∧ Hid (8 = l2.length) ∧ TkL W b0 l2 xa xc ∧ TkLt l2 xa b1), psiTrue, (fun f lo hi v b0 b1 W => ∃ (xa : Option Addr) (xc : Nat) (l2 : List Tk), v = .slice xa 8 xc ∧ Hid (l2.map Tk.key = newK (secX 1000) rt cl) ∧ Hid (8 = l2.length) ∧ TkL W b0 l2 xa xc ∧ TkLt l2 xa b1), psiTrue, psiTrue, psiTrue, psiTrue, psiTrue, psiTrue, psiTrue] [kVal _, kTrue, kVal _, kTrue, (fun v => v = .bool true), (fun v => v = .bool false), (fun v => v = .bool false), kVal _, (fun v => v = .bool true), (fun v => v = .bool false), (fun v => v = .bool false)]
        · kernel_rfl
        · kernel_rfl
        · rfl
        · rfl
        · exact trivial
        · exact trivial
        refine ⟨?oR1_0, ?oR1_1, ?oR1_2, ?oR1_3, ?oR1_4, ?oR1_5, ?oR1_6, ?oR1_7, ?oR1_8, ?oR1_9, ?oR1_10, trivial⟩
        case oR1_0 => intro f lo hi w hb hx hf hk hrg R hR; (try replace hb := BelX.zero hb); (try simp (decide := true) only [go_sem] at hf); (try simp (decide := true) only [go_sem] at hk); obtain ⟨q0, q1, q2, q3, q4, q5, q6, q7⟩ := (HZ.out.below hb tl).eight; have ql := (HZ.out.below hb tl).lt; go_simp; exact hR _ _ (rpost_val rfl rfl (Below.refl _ _) rfl)
        case oR1_1 =>
          intro f lo hi w hb hx hf hk hrg R hR; (try replace hb := BelX.zero hb); (try simp (decide := true) only [go_sem] at hf); (try simp (decide := true) only [go_sem] at hk)
          go_simp
          (with_reducible refine (token_New sa (secX 1000) 8 sc rt cl none 0 0 0 0 0 0 _ (hsec.below hb (Nat.le_refl _)) HS8.out (by decide) n2.out).mono ?_)
          rintro e w' ⟨ya, yc, l2, rfl, hk, hn2, il2, hb2⟩
          exact ⟨_, rfl, hR _ _ (rpost_none rfl hb2 ⟨ya, yc, l2, rfl, hk, hn2, il2, il2.rlt⟩)⟩
        case oR1_2 => intro f lo hi w hb hx hf hk hrg R hR; (try replace hb := BelX.zero hb); (try simp (decide := true) only [go_sem] at hf); (try simp (decide := true) only [go_sem] at hk); obtain ⟨q0, q1, q2, q3, q4, q5, q6, q7⟩ := (HZ.out.below hb tl).eight; have ql := (HZ.out.below hb tl).lt; go_simp; exact hR _ _ (rpost_val rfl rfl (Below.refl _ _) rfl)
        case oR1_3 =>
          intro f lo hi w hb hx hf hk hrg R hR; (try replace hb := BelX.zero hb); (try simp (decide := true) only [go_sem] at hf); (try simp (decide := true) only [go_sem] at hk)
          go_simp
          (with_reducible refine (ref14_New sa (secX 1000) 8 sc rt cl none 0 0 0 0 0 0 _ (hsec.below hb (Nat.le_refl _)) HS8.out (by decide)).mono ?_)
          rintro e w' ⟨ya, yc, l2, rfl, hk, hn2, il2, hb2⟩
          exact ⟨_, rfl, hR _ _ (rpost_none rfl hb2 ⟨ya, yc, l2, rfl, hk, hn2, il2, il2.rlt⟩)⟩
        case oR1_4 =>
          intro f lo hi w hb hx hf hk hrg R hR; (try replace hb := BelX.zero hb); (try simp (decide := true) only [go_sem] at hf); (try simp (decide := true) only [go_sem] at hk)
          obtain ⟨⟨ya, yc, y, h1, hk1, hn1, il1, -⟩, za, zc, z, h3, hk3, hn3, il3, -⟩ := hf
          have ty := il1.tks
          have tz := il3.tks
          have hkk : y.map Tk.key = z.map Tk.key := hk1.out.trans hk3.out.symm
          go_simp
          (with_reducible refine (ref14_Same ya za y z 8 yc 8 zc _ ty tz hn1.out hn3.out hkk (by decide)).mono ?_)
          rintro e w' ⟨rfl, hb5⟩
          exact ⟨_, rfl, hR _ _ (rpost_vh rfl rfl hb5)⟩
        case oR1_5 => intro f lo hi w hb hx hf hk hrg R hR; (try replace hb := BelX.zero hb); (try simp (decide := true) only [go_sem] at hf); (try simp (decide := true) only [go_sem] at hk); go_simp; exact hR _ _ (rpost_vh rfl rfl (Below.refl _ _))
        case oR1_6 => intro f lo hi w hb hx hf hk hrg R hR; (try replace hb := BelX.zero hb); (try simp (decide := true) only [go_sem] at hf); (try simp (decide := true) only [go_sem] at hk); go_simp; exact hR _ _ (rpost_vh rfl rfl (Below.refl _ _))
        case oR1_7 => intro f lo hi w hb hx hf hk hrg R hR; (try replace hb := BelX.zero hb); (try simp (decide := true) only [go_sem] at hf); (try simp (decide := true) only [go_sem] at hk); go_simp; exact hR _ _ (rpost_val rfl rfl (Below.refl _ _) rfl)
        case oR1_8 =>
          intro f lo hi w hb hx hf hk hrg R hR; (try replace hb := BelX.zero hb); (try simp (decide := true) only [go_sem] at hf); (try simp (decide := true) only [go_sem] at hk)
          have tg := G0.below hb (Nat.le_refl _)
          go_simp
          (with_reducible refine (token_ValidE hV xa 8 xc _ tg hn.out).mono ?_)
          rintro e w' ⟨rfl, hb5⟩
          exact ⟨_, rfl, hR _ _ (rpost_vh rfl rfl hb5)⟩
        case oR1_9 => intro f lo hi w hb hx hf hk hrg R hR; (try replace hb := BelX.zero hb); (try simp (decide := true) only [go_sem] at hf); (try simp (decide := true) only [go_sem] at hk); go_simp; exact hR _ _ (rpost_vh rfl rfl (Below.refl _ _))
        case oR1_10 => intro f lo hi w hb hx hf hk hrg R hR; (try replace hb := BelX.zero hb); (try simp (decide := true) only [go_sem] at hf); (try simp (decide := true) only [go_sem] at hk); go_simp; exact hR _ _ (rpost_vh rfl rfl (Below.refl _ _))
        case hcl =>
          refine ⟨Closed.true _ _ _ _, ?cR1_1, Closed.true _ _ _ _, ?cR1_3, Closed.true _ _ _ _, Closed.true _ _ _ _, Closed.true _ _ _ _, Closed.true _ _ _ _, Closed.true _ _ _ _, Closed.true _ _ _ _, Closed.true _ _ _ _, trivial⟩
          all_goals first | (intro f lo hi v b0 b1 w w' h hs hB hown hU hX; obtain ⟨ya, yc, l2, h1, h2, h3, h4, h5⟩ := h; exact ⟨ya, yc, l2, h1, h2, h3, h4.keepIn h5 hown, h5⟩) | (exact fun _ _ _ _ _ _ _ _ h _ _ _ _ _ => h)
        intro f lo hi W7 hbr hx hf hk hrg; (try replace hbr := BelX.zero hbr); clear hx; (try simp (decide := true) only [go_sem] at hf); (try simp (decide := true) only [go_sem] at hk)
        have e10 := hk
        repeat (replace e10 := e10.2)
        replace e10 : f 10 = .bool false := e10
        clear hrg hk hf
        go_simp
        clear e10
        go_wp2_with fail
        go_meet
        exact ⟨rfl, hbr⟩
      case rest =>
        obtain ⟨rfl, be5⟩ := hcut
        have HVS : Hid (∀ t ∈ l, t.sec.length ≤ 8) := Lib.hid (fun t ht => val_sec hV.out t.key (List.mem_map_of_mem ht))
        have G5 := G.below be5
        have GR5 := GR.below be5
        have hS5 := hS.below be5 (Nat.le_refl _)
        have beW : RowKit.Below w.heap.size w wc := (by repeat (first | (with_reducible refine Below.setCell ?_ ?_ _) | (with_reducible refine Below.alloc ?_ ?_ _) | (with_reducible refine Below.drew ?_) | (with_reducible refine below_drewN ?_ _) | (with_reducible exact Below.refl _ _) | (with_reducible refine Below.trans ?_ (Below.mono be5 ?_)) | (with_reducible refine Below.trans ?_ (Below.mono beZ ?_)) | (focus (simp; done)) | (focus (simp; omega)) | (focus omega) | (focus (have q0 := Below.size be5; (try simp at q0); have q1 := Below.size beZ; (try simp at q1); (try simp); omega))))
        clear kT hsec GR G hS beZ G0 HZ tl be5
        go_upto_region 8 with ((go_at_call 15; (with_reducible refine (law_bent xa l 8 xc which by_ _ G5.tks hn.out HL8.out HVS.out).mono ?_); rintro e w5 ⟨ba, lb, bn, bc, rfl, hbn, GB, hb5⟩))
        obtain ⟨B, hB⟩ : ∃ B, w5.heap.size = B := ⟨_, rfl⟩
        refine wp_named (fun Z => (∀ i, i < 3 → TokAt Z B i) ∧ Byt Z aS lS ∧ RowKit.Below w.heap.size w Z ∧ B < Z.heap.size) ⟨fun i hi => ?_, (hS5.below hb5 (Nat.le_refl _)).alloc _, (by repeat (first | (with_reducible refine Below.setCell ?_ ?_ _) | (with_reducible refine Below.alloc ?_ ?_ _) | (with_reducible refine Below.drew ?_) | (with_reducible refine below_drewN ?_ _) | (with_reducible exact Below.refl _ _) | (with_reducible refine Below.trans ?_ (Below.mono hb5 ?_)) | (with_reducible refine Below.trans ?_ (Below.mono beW ?_)) | (focus (simp; done)) | (focus (simp; omega)) | (focus omega) | (focus (have q0 := Below.size hb5; (try simp at q0); have q1 := Below.size beW; (try simp at q1); (try simp); omega)))), by rw [← hB]; simp⟩ ?_
        · have k := Blk.new w5 22 #[.slice xR lR.length cR, .slice xa 8 xc, .slice ba bn bc]
          rw [hB] at k
          have hi3 : i = 0 ∨ i = 1 ∨ i = 2 := by omega
          rcases hi3 with rfl | rfl | rfl
          · exact ⟨xR, lR, lR.length, cR, k.cell 0, Lib.hid rfl, (GR5.below hb5).alloc _⟩
          · exact ⟨xa, l, 8, xc, k.cell 1, hn, (G5.below hb5).alloc _⟩
          · exact ⟨ba, lb, bn, bc, k.cell 2, hbn, GB.alloc _⟩
        rw [hB]
        clear hB G5 GR5 hS5 beW GB hb5
        rintro Z ⟨hT, hS, beZ, hBZ⟩
        have HT := Lib.hid hT
        clear hT
        go_wp2_with fail
        go_loopw [63] (fun s63 wr => ∃ i : Nat, s63 = .int .i64 i ∧ i ≤ 3 ∧ RowKit.Below Z.heap.size Z wr) (fun s _ => 3 - (intOf s).toNat)
        case atStart => exact ⟨0, rfl, by omega, (by repeat (first | (with_reducible refine Below.setCell ?_ ?_ _) | (with_reducible refine Below.alloc ?_ ?_ _) | (with_reducible refine Below.drew ?_) | (with_reducible refine below_drewN ?_ _) | (with_reducible exact Below.refl _ _) | (focus (simp; done)) | (focus (simp; omega)) | (focus omega)))⟩
        case round =>
          obtain ⟨i, rfl, hi, be⟩ := hrel
          by_cases hlt : i < 3
          · have i3 : (i : Int) < 3 := by omega
            obtain ⟨xa, x, xn, xc, hx, hxn, GX⟩ := (HT.out i hlt).below be
            have hBw := Nat.lt_of_lt_of_le hBZ be.size
            have hSr := hS.below be (Nat.le_refl _)
            have TX := GX.tks
            obtain ⟨vk, hvk⟩ : ∃ vk, valK (x.map Tk.key) = vk := ⟨_, rfl⟩
            have HV := Lib.hid hvk
            clear hvk
            cases vk with
            | false =>
              go_wp2_with (first | (go_at_call 29; (with_reducible refine (token_ValidE HV xa xn xc _ TX hxn.out).mono ?_); rintro e w6 ⟨rfl, hb6⟩; (have TX6 := TX.below hb6 (Nat.le_refl _))) | (go_at_call 35; (with_reducible refine (ref14_ValidE HV xa xn xc _ TX6 hxn.out).mono ?_); rintro e w7 ⟨rfl, hb7⟩; (have TX7 := TX6.below hb7 (Nat.le_refl _))) | (go_at_call 35; (with_reducible refine (ref14_ValidE HV xa xn xc _ TX7 hxn.out).mono ?_); rintro e w8 ⟨rfl, hb8⟩))
              go_roundw
              case rel => exact ⟨i + 1, by go_num, by omega, (by repeat (first | (with_reducible refine Below.setCell ?_ ?_ _) | (with_reducible refine Below.alloc ?_ ?_ _) | (with_reducible refine Below.drew ?_) | (with_reducible refine below_drewN ?_ _) | (with_reducible exact Below.refl _ _) | (with_reducible refine Below.trans ?_ (Below.mono hb8 ?_)) | (with_reducible refine Below.trans ?_ (Below.mono hb7 ?_)) | (with_reducible refine Below.trans ?_ (Below.mono hb6 ?_)) | (with_reducible refine Below.trans ?_ (Below.mono be ?_)) | (focus (simp; done)) | (focus (simp; omega)) | (focus omega) | (focus (have q0 := Below.size hb8; (try simp at q0); have q1 := Below.size hb7; (try simp at q1); have q2 := Below.size hb6; (try simp at q2); have q3 := Below.size be; (try simp at q3); (try simp); omega))))⟩
              case measure => simp [intOf]; omega
            | true =>
              have hx8 : x.length = 8 := by have := (valK_iff.1 HV.out).1; rw [List.length_map] at this; exact this
              obtain rfl : xn = 8 := by rw [hxn.out]; exact hx8
              go_upto_region 13 with (first | (go_at_call 29; (with_reducible refine (token_ValidE HV xa 8 xc _ TX hxn.out).mono ?_); rintro e w6 ⟨rfl, hb6⟩; (have TX6 := TX.below hb6 (Nat.le_refl _))) | (go_at_call 35; (with_reducible refine (ref14_ValidE HV xa 8 xc _ TX6 hxn.out).mono ?_); rintro e w7 ⟨rfl, hb7⟩; (have TX7 := TX6.below hb7 (Nat.le_refl _))) | (go_at_call 35; (with_reducible refine (ref14_ValidE HV xa 8 xc _ TX7 hxn.out).mono ?_); rintro e w8 ⟨rfl, hb8⟩))
              refine wp_named (fun U => TkG U xa x xc ∧ Byt U aS lS ∧ RowKit.Below Z.heap.size Z U) ⟨((GX.below hb6).below hb7).below hb8, ((hSr.below hb6 (Nat.le_refl _)).below hb7 (Nat.le_refl _)).below hb8 (Nat.le_refl _), (by repeat (first | (with_reducible refine Below.setCell ?_ ?_ _) | (with_reducible refine Below.alloc ?_ ?_ _) | (with_reducible refine Below.drew ?_) | (with_reducible refine below_drewN ?_ _) | (with_reducible exact Below.refl _ _) | (with_reducible refine Below.trans ?_ (Below.mono hb8 ?_)) | (with_reducible refine Below.trans ?_ (Below.mono hb7 ?_)) | (with_reducible refine Below.trans ?_ (Below.mono hb6 ?_)) | (with_reducible refine Below.trans ?_ (Below.mono be ?_)) | (focus (simp; done)) | (focus (simp; omega)) | (focus omega) | (focus (have q0 := Below.size hb8; (try simp at q0); have q1 := Below.size hb7; (try simp at q1); have q2 := Below.size hb6; (try simp at q2); have q3 := Below.size be; (try simp at q3); (try simp); omega))))⟩ ?_
              clear hx hBw hSr TX TX6 TX7 hb6 hb7 hb8 be GX
              have HX8 := Lib.hid hx8
              clear hx8
              rintro U ⟨GX, hSU, be⟩
              go_wp2_with fail
              go_loopw [19] (fun s19 wr => ∃ s : Int, s19 = .int .i64 s ∧ -1 ≤ s ∧ s ≤ 9 ∧ RowKit.Below U.heap.size U wr) (fun s _ => (9 - intOf s).toNat)
              case atStart => exact ⟨-1, rfl, by omega, by omega, (by repeat (first | (with_reducible refine Below.setCell ?_ ?_ _) | (with_reducible refine Below.alloc ?_ ?_ _) | (with_reducible refine Below.drew ?_) | (with_reducible refine below_drewN ?_ _) | (with_reducible exact Below.refl _ _) | (focus (simp; done)) | (focus (simp; omega)) | (focus omega)))⟩
              case round =>
                obtain ⟨s, rfl, hs0, hs9, be2⟩ := hrel
                by_cases hlt2 : s < 9
                · have Gr := GX.below be2
                  have Tr := Gr.tks
                  have hSr := hSU.below be2 (Nat.le_refl _)
                  obtain ⟨Sx, hSx⟩ : ∃ S, bsum (fun a => dscK (x.map Tk.key) 8 a s) x.length = S := ⟨_, rfl⟩
                  have HSX := Lib.hid hSx
                  clear hSx
                  have HL8 : Hid (x.length ≤ 8) := Lib.hid (by rw [HX8.out]; exact Nat.le_refl _)
                  go_upto_region 19 with (first | (go_at_call 31; (with_reducible refine (token_Below xa x 8 xc s _ Tr hxn.out HL8.out).mono ?_); rintro e w6 ⟨rfl, hb6⟩; ((rw [HSX.out]); (have Tr6 := Tr.below hb6 (Nat.le_refl _)))) | (go_at_call 36; (with_reducible refine (ref14_BelowE xa x 8 xc s _ Tr6 hxn.out HX8.out).mono ?_); rintro e w7 ⟨S2, rfl, hS2, hb7⟩; (obtain rfl : S2 = Sx := hS2.out.trans HSX.out)) | (go_at_call 16; (with_reducible refine (mk_Secret _ _).mono ?_); rintro e w8 ⟨sb, sd, rfl, own8, hb8⟩))
                  refine wp_named (fun V => TkG V xa x xc ∧ Byt V aS lS ∧ Byt V sb (secX by_) ∧ RowKit.Below U.heap.size U V) ⟨((Gr.below hb6).below hb7).below hb8, ((hSr.below hb6 (Nat.le_refl _)).below hb7 (Nat.le_refl _)).below hb8 (Nat.le_refl _), own8.byt, (by repeat (first | (with_reducible refine Below.setCell ?_ ?_ _) | (with_reducible refine Below.alloc ?_ ?_ _) | (with_reducible refine Below.drew ?_) | (with_reducible refine below_drewN ?_ _) | (with_reducible exact Below.refl _ _) | (with_reducible refine Below.trans ?_ (Below.mono hb8 ?_)) | (with_reducible refine Below.trans ?_ (Below.mono hb7 ?_)) | (with_reducible refine Below.trans ?_ (Below.mono hb6 ?_)) | (with_reducible refine Below.trans ?_ (Below.mono be2 ?_)) | (focus (simp; done)) | (focus (simp; omega)) | (focus omega) | (focus (have q0 := Below.size hb8; (try simp at q0); have q1 := Below.size hb7; (try simp at q1); have q2 := Below.size hb6; (try simp at q2); have q3 := Below.size be2; (try simp at q3); (try simp); omega))))⟩ ?_
                  clear Gr Tr Tr6 hSr hb6 hb7 hb8 own8 be2 hS2
                  rintro V ⟨Gr, hSr, hsb, be2⟩
                  go_cut [102] from 88 to 102 (fun s102 wx => ∃ q : Bool, s102 = .bool q ∧ Hid (q = true → ∃ j : Nat, s = j ∧ ∃ hj : j < x.length, x[j].us = true) ∧ V = wx)
                  case first =>
                    have HN : Hid (∀ q : Bool, q = false → (q = true → ∃ j : Nat, s = j ∧ ∃ hj : j < x.length, x[j].us = true)) := Lib.hid (fun q h1 h2 => by rw [h1] at h2; cases h2)
                    by_cases hs : s < 0
                    · have hs2 : ¬ (0 : Int) ≤ s := by omega
                      go_wp2_with fail
                      go_meet
                      exact ⟨false, rfl, Lib.hid (HN.out _ rfl), rfl⟩
                    · obtain ⟨j, rfl⟩ : ∃ j : Nat, s = j := ⟨s.toNat, by omega⟩
                      by_cases hj8 : j < 8
                      · have jl : j < x.length := by rw [HX8.out]; exact hj8
                        have j8 : (j : Int) < 8 := by omega
                        have Tr := Gr.tks
                        obtain ⟨ga, oa, rfl⟩ := Tr.open (by omega)
                        obtain ⟨x0, -, -, -, -, -, xl⟩ := row_tok Tr.row j jl
                        have HUS : Hid (x[j].us = true → ∃ j' : Nat, (j : Int) = j' ∧ ∃ hj : j' < x.length, x[j'].us = true) := Lib.hid (fun h => ⟨j, rfl, jl, h⟩)
                        obtain ⟨q, hq⟩ : ∃ q, x[j].us = q := ⟨_, rfl⟩
                        rw [hq] at x0 HUS
                        clear hq
                        go_wp2_with fail
                        go_meet
                        exact ⟨q, rfl, HUS, rfl⟩
                      · have j8 : ¬ (j : Int) < 8 := by omega
                        go_wp2_with fail
                        go_meet
                        exact ⟨false, rfl, Lib.hid (HN.out _ rfl), rfl⟩
                  case rest =>
                    obtain ⟨q, rfl, HQ, rfl⟩ := hcut
                    go_upto_if 102 with fail
                    go_cut [20] (fun s20 wx => ∃ (a : Option Addr) (m : List UInt8) (n c : Nat), s20 = .slice a n c ∧ Hid (n = m.length) ∧ n ≤ 100000 ∧ Byt wx a m ∧ V = wx)
                    case first =>
                      cases q with
                      | false =>
                        go_wp2_with fail
                        go_meet
                        exact ⟨sb, secX by_, 8, sd, rfl, Lib.hid (secX_len _).symm, by decide, hsb, rfl⟩
                      | true =>
                        obtain ⟨j, rfl, hj, hu⟩ := HQ.out (by first | rfl | trivial)
                        have Tr := Gr.tks
                        have hm := Tr.sec _ (List.getElem_mem hj)
                        have hm9 := (Gr.sec _ (List.getElem_mem hj)).2
                        have j8 : (j : Int) < 8 := by have := HX8.out; omega
                        obtain ⟨ga, oa, rfl⟩ := Tr.open (by omega)
                        obtain ⟨-, x1, -, -, -, -, xl⟩ := row_tok Tr.row j hj
                        clear HQ hu
                        obtain ⟨t, ht⟩ : ∃ t, x[j] = t := ⟨_, rfl⟩
                        rw [ht] at x1 hm hm9
                        clear ht
                        go_wp2_with fail
                        go_meet
                        exact ⟨t.a, t.sec, t.sec.length, t.c, rfl, Lib.hid rfl, hm9, hm, rfl⟩
                    case rest =>
                      obtain ⟨ma, m, mn, mc, rfl, hmn, mn9, hm, rfl⟩ := hcut
                      clear hsb HQ
                      obtain ⟨r, Er, r0, r1⟩ := modName by_ 3 (by decide)
                      go_upto_region 22 with (first | (go_at_call 17; (with_reducible refine (mk_ModE Er.out _ (by decide) (by decide)).mono ?_); rintro e wz ⟨rfl, rfl⟩) | (with_reducible (go_at_call 33; (with_reducible refine (ref14_Bytes r s ma mn mc m _ hm hmn.out mn9).mono ?_); rintro e w6 ⟨ya, yn, yc, rfl, hyn, yn9, own6, hb6⟩; (have hm6 := hm.below hb6 (Nat.le_refl _)))) | (go_at_call 33; (with_reducible refine (ref14_Bytes 1 s ma mn mc m _ hm6 hmn.out mn9).mono ?_); rintro e w7 ⟨za, zn, zc, rfl, hzn, zn9, own7, hb7⟩; ((have hz9 : (tkB 1 s m).length ≤ 1000000 := by rw [← hzn.out]; omega); (have hzb := own7.byt))) | (go_at_call 37; (with_reducible refine (mk_Spoilt za zn zc (tkB 1 s m) by_ which _ hzb hzn.out hz9).mono ?_); rintro e w8 ⟨pa, pc, p, rfl, hpb, pn9, ppc, hb8⟩))
                      obtain ⟨D, hD⟩ : ∃ D, w8.heap.size = D := ⟨_, rfl⟩
                      have kD := Blk.new w8 24 #[.slice aS lS.length cS, .slice ya yn yc, .slice pa p.length pc]
                      rw [hD] at kD
                      have b8 : RowKit.Below V.heap.size V w8 := (by repeat (first | (with_reducible refine Below.setCell ?_ ?_ _) | (with_reducible refine Below.alloc ?_ ?_ _) | (with_reducible refine Below.drew ?_) | (with_reducible refine below_drewN ?_ _) | (with_reducible exact Below.refl _ _) | (with_reducible refine Below.trans ?_ (Below.mono hb8 ?_)) | (with_reducible refine Below.trans ?_ (Below.mono hb7 ?_)) | (with_reducible refine Below.trans ?_ (Below.mono hb6 ?_)) | (focus (simp; done)) | (focus (simp; omega)) | (focus omega) | (focus (have q0 := Below.size hb8; (try simp at q0); have q1 := Below.size hb7; (try simp at q1); have q2 := Below.size hb6; (try simp at q2); (try simp); omega))))
                      have y8 := (own6.byt.below hb7 (Nat.le_refl _)).below hb8 (Nat.le_refl _)
                      have yc8 := own6.cap_le
                      refine wp_named (fun X => (∀ i, i < 3 → BytAt X D i) ∧ TkG X xa x xc ∧ Byt X aS lS ∧ Byt X ma m ∧ RowKit.Below U.heap.size U X ∧ D < X.heap.size) ⟨fun i hi => ?_, (Gr.below b8).alloc _, (hSr.below b8 (Nat.le_refl _)).alloc _, (hm.below b8 (Nat.le_refl _)).alloc _, (by repeat (first | (with_reducible refine Below.setCell ?_ ?_ _) | (with_reducible refine Below.alloc ?_ ?_ _) | (with_reducible refine Below.drew ?_) | (with_reducible refine below_drewN ?_ _) | (with_reducible exact Below.refl _ _) | (with_reducible refine Below.trans ?_ (Below.mono b8 ?_)) | (with_reducible refine Below.trans ?_ (Below.mono be2 ?_)) | (focus (simp; done)) | (focus (simp; omega)) | (focus omega) | (focus (have q0 := Below.size b8; (try simp at q0); have q1 := Below.size be2; (try simp at q1); (try simp); omega)))), by rw [← hD]; simp⟩ ?_
                      · have hi3 : i = 0 ∨ i = 1 ∨ i = 2 := by omega
                        rcases hi3 with rfl | rfl | rfl
                        · exact ⟨aS, lS, lS.length, cS, kD.cell 0, Lib.hid rfl, (hSr.below b8 (Nat.le_refl _)).alloc _, by omega, kS⟩
                        · exact ⟨ya, _, yn, yc, kD.cell 1, hyn, y8.alloc _, by omega, yc8⟩
                        · exact ⟨pa, p, p.length, pc, kD.cell 2, Lib.hid rfl, hpb.alloc _, by rw [← hzn.out] at pn9; omega, ppc⟩
                      rw [hD]
                      clear hD kD b8 y8 yc8 Gr hSr hm hm6 own6 own7 hzb hb6 hb7 hb8 hpb be2 r0 r1 pn9 hz9
                      rintro X ⟨hY, Gr, hSr, hm, be2, hDX⟩
                      have HY := Lib.hid hY
                      clear hY
                      go_wp2_with fail
                      go_loopw [122] (fun s122 wr => ∃ j : Nat, s122 = .int .i64 j ∧ j ≤ 3 ∧ RowKit.Below X.heap.size X wr) (fun s _ => 3 - (intOf s).toNat)
                      case atStart => exact ⟨0, rfl, by omega, (by repeat (first | (with_reducible refine Below.setCell ?_ ?_ _) | (with_reducible refine Below.alloc ?_ ?_ _) | (with_reducible refine Below.drew ?_) | (with_reducible refine below_drewN ?_ _) | (with_reducible exact Below.refl _ _) | (focus (simp; done)) | (focus (simp; omega)) | (focus omega)))⟩
                      case round =>
                        obtain ⟨j, rfl, hj, be3⟩ := hrel
                        by_cases hlt3 : j < 3
                        · have j3 : (j : Int) < 3 := by omega
                          obtain ⟨ya, y, yn, yc, hy, hyn, BY, yn9, ync⟩ := (HY.out j hlt3).below be3
                          have hDw := Nat.lt_of_lt_of_le hDX be3.size
                          obtain ⟨r, Er, r0, r1⟩ := modName now 30 (by decide)
                          go_upto_region 25 with ((go_at_call 17; (with_reducible refine (mk_ModE Er.out _ (by decide) (by decide)).mono ?_); rintro e wz ⟨rfl, rfl⟩))
                          obtain ⟨C, hC⟩ : ∃ C, wr.heap.size = C := ⟨_, rfl⟩
                          have kC := Blk.new wr 3 #[.int .i64 now, .int .i64 r]
                          rw [hC] at kC
                          refine wp_named (fun P => (∀ i, i < 2 → IntAt P C i) ∧ TkG P xa x xc ∧ Byt P ya y ∧ RowKit.Below X.heap.size X P ∧ C < P.heap.size) ⟨fun i hi => ?_, (Gr.below be3).alloc _, BY.alloc _, (by repeat (first | (with_reducible refine Below.setCell ?_ ?_ _) | (with_reducible refine Below.alloc ?_ ?_ _) | (with_reducible refine Below.drew ?_) | (with_reducible refine below_drewN ?_ _) | (with_reducible exact Below.refl _ _) | (with_reducible refine Below.trans ?_ (Below.mono be3 ?_)) | (focus (simp; done)) | (focus (simp; omega)) | (focus omega) | (focus (have q0 := Below.size be3; (try simp at q0); (try simp); omega)))), by rw [← hC]; simp⟩ ?_
                          · have hi2 : i = 0 ∨ i = 1 := by omega
                            rcases hi2 with rfl | rfl <;> exact ⟨_, kC.cell _⟩
                          rw [hC]
                          clear hC kC be3 hy BY hDw r0 r1
                          rintro P ⟨hI, GP, BY, be3, hCP⟩
                          have HI := Lib.hid hI
                          clear hI
                          go_wp2_with fail
                          go_loopw [131] (fun s131 wr => ∃ k : Nat, s131 = .int .i64 k ∧ k ≤ 2 ∧ RowKit.Below P.heap.size P wr) (fun s _ => 2 - (intOf s).toNat)
                          case atStart => exact ⟨0, rfl, by omega, (by repeat (first | (with_reducible refine Below.setCell ?_ ?_ _) | (with_reducible refine Below.alloc ?_ ?_ _) | (with_reducible refine Below.drew ?_) | (with_reducible refine below_drewN ?_ _) | (with_reducible exact Below.refl _ _) | (focus (simp; done)) | (focus (simp; omega)) | (focus omega)))⟩
                          case round =>
                            obtain ⟨k, rfl, hk, be4⟩ := hrel
                            by_cases hlt4 : k < 2
                            · have k2 : (k : Int) < 2 := by omega
                              obtain ⟨v, c0'⟩ := (HI.out k hlt4).below be4
                              have hCw := Nat.lt_of_lt_of_le hCP be4.size
                              have Tr := (GP.below be4).tks
                              have BYr := BY.below be4 (Nat.le_refl _)
                              obtain ⟨kd, Ek, kd0, kd1⟩ := modName kind 14 (by decide)
                              go_upto_region 28 with (first | (go_at_call 17; (with_reducible refine (mk_ModE Ek.out _ (by decide) (by decide)).mono ?_); rintro e wz ⟨rfl, rfl⟩) | (go_at_call 32; (with_reducible refine (token_Check xa x 8 xc 1 ya y yn yc kd v _ Tr hxn.out BYr hyn.out ync yn9).mono ?_); rintro e w6 ⟨i1, f1, rfl, hf1, hb6⟩; ((have Tr6 := Tr.below hb6 (Nat.le_refl _)); (have BY6 := BYr.below hb6 (Nat.le_refl _)))))
                              go_upto_region 29 with (first | (go_at_call 17; (with_reducible refine (mk_ModE Ek.out _ (by decide) (by decide)).mono ?_); rintro e wz ⟨rfl, rfl⟩) | (go_at_call 38; (with_reducible refine (ref14_Check xa x 8 xc 1 ya y yn yc kd v _ Tr6 hxn.out BY6 hyn.out ync yn9).mono ?_); rintro e w7 ⟨i2, f2, rfl, hf2, hb7⟩))
                              obtain ⟨rfl, rfl⟩ : i2 = i1 ∧ f2 = f1 := by
                                have := hf2.out
                                rw [hf1.out] at this
                                injection this with h1 h2
                                exact ⟨h1.symm, h2.symm⟩
                              have be7 : RowKit.Below P.heap.size P w7 := (by repeat (first | (with_reducible refine Below.setCell ?_ ?_ _) | (with_reducible refine Below.alloc ?_ ?_ _) | (with_reducible refine Below.drew ?_) | (with_reducible refine below_drewN ?_ _) | (with_reducible exact Below.refl _ _) | (with_reducible refine Below.trans ?_ (Below.mono hb7 ?_)) | (with_reducible refine Below.trans ?_ (Below.mono hb6 ?_)) | (with_reducible refine Below.trans ?_ (Below.mono be4 ?_)) | (focus (simp; done)) | (focus (simp; omega)) | (focus omega) | (focus (have q0 := Below.size hb7; (try simp at q0); have q1 := Below.size hb6; (try simp at q1); have q2 := Below.size be4; (try simp at q2); (try simp); omega))))
                              clear Tr Tr6 BYr BY6 hf1 hf2 hb6 hb7 be4 c0' hCw kd0 kd1
                              go_wp2_with fail
                              go_roundw
                              case rel => exact ⟨k + 1, by go_num, by omega, be7⟩
                              case measure => simp [intOf]; omega
                            · obtain rfl : k = 2 := by omega
                              go_wp2_with fail
                              go_roundw
                              case rel => exact ⟨j + 1, by go_num, by omega, (by repeat (first | (with_reducible refine Below.setCell ?_ ?_ _) | (with_reducible refine Below.alloc ?_ ?_ _) | (with_reducible refine Below.drew ?_) | (with_reducible refine below_drewN ?_ _) | (with_reducible exact Below.refl _ _) | (with_reducible refine Below.trans ?_ (Below.mono be4 ?_)) | (with_reducible refine Below.trans ?_ (Below.mono be3 ?_)) | (focus (simp; done)) | (focus (simp; omega)) | (focus omega) | (focus (have q0 := Below.size be4; (try simp at q0); have q1 := Below.size be3; (try simp at q1); (try simp); omega))))⟩
                              case measure => simp [intOf]; omega
                        · obtain rfl : j = 3 := by omega
                          have hmr := hm.below be3 (Nat.le_refl _)
                          go_upto_region 33 with fail
                          obtain ⟨S, hS⟩ : ∃ S, (⟨(tkB by_ s m).toArray⟩ : ByteArray) = S := ⟨_, rfl⟩
                          have HSS := Lib.hid hS
                          clear hS
                          apply wp_region_tab [] 11 176 [some 163, some 164, some 165, some 166, some 167, some 168, some 169, some 170, some 171, some 172, some 173] [⟨[], [], [], []⟩, ⟨[], [], [], []⟩, ⟨[], [], [], []⟩, ⟨[0, 1, 2], [0, 1, 2], [0, 1, 2], []⟩, ⟨[0, 1, 2, 3], [3], [3], []⟩, ⟨[], [], [], []⟩, ⟨[], [], [], []⟩, ⟨[], [], [], []⟩, ⟨[0, 1, 2, 3, 5, 6, 7], [5, 6, 7], [5, 6, 7], []⟩, ⟨[0, 1, 2, 3, 5, 6, 7, 8], [8], [8], []⟩, ⟨[0, 1, 2, 3, 4, 5, 6, 7, 8, 9], [4, 9], [4, 9], []⟩] [0, 1, 2, 3, 4, 5, 6, 7, 8, 9, 10] [10] [psiTrue, psiTrue, psiTrue, (fun f lo hi v b0 b1 W => ∃ (ya : Option Addr) (yn yc : Nat), v = .slice ya yn yc ∧ Hid (yn = (tkB by_ s m).length) ∧ Own W b0 5 1 ya yn yc ((tkB by_ s m).map encB) ∧ ∀ y, ya.map (·.block) = some y → y < b1), psiTrue, psiTrue, psiTrue, psiTrue, (fun f lo hi v b0 b1 W => ∃ (ya : Option Addr) (yn yc : Nat), v = .slice ya yn yc ∧ Hid (yn = (tkB by_ s m).length) ∧ Own W b0 5 1 ya yn yc ((tkB by_ s m).map encB) ∧ ∀ y, ya.map (·.block) = some y → y < b1), psiTrue, psiTrue] [kVal _, kVal _, kVal _, kTrue, (fun v => v = .string S), kVal _, kVal _, kVal _, kTrue, (fun v => v = .string S), (fun v => v = .bool false)]
                          · kernel_rfl
                          · kernel_rfl
                          · rfl
                          · rfl
                          · exact trivial
                          · exact trivial
                          refine ⟨?oR2_0, ?oR2_1, ?oR2_2, ?oR2_3, ?oR2_4, ?oR2_5, ?oR2_6, ?oR2_7, ?oR2_8, ?oR2_9, ?oR2_10, trivial⟩
                          case oR2_0 => intro f lo hi w hb hx hf hk hrg R hR; (try replace hb := BelX.zero hb); (try simp (decide := true) only [go_sem] at hf); (try simp (decide := true) only [go_sem] at hk); go_simp; exact hR _ _ (rpost_val rfl rfl (Below.refl _ _) rfl)
                          case oR2_1 => intro f lo hi w hb hx hf hk hrg R hR; (try replace hb := BelX.zero hb); (try simp (decide := true) only [go_sem] at hf); (try simp (decide := true) only [go_sem] at hk); go_simp; exact hR _ _ (rpost_val rfl rfl (Below.refl _ _) rfl)
                          case oR2_2 => intro f lo hi w hb hx hf hk hrg R hR; (try replace hb := BelX.zero hb); (try simp (decide := true) only [go_sem] at hf); (try simp (decide := true) only [go_sem] at hk); go_simp; exact hR _ _ (rpost_val rfl rfl (Below.refl _ _) rfl)
                          case oR2_3 =>
                            intro f lo hi w hb hx hf hk hrg R hR; (try replace hb := BelX.zero hb); (try simp (decide := true) only [go_sem] at hf); (try simp (decide := true) only [go_sem] at hk)
                            go_simp
                            (with_reducible refine (token_Bytes by_ s ma mn mc m _ (hmr.below hb (Nat.le_refl _)) hmn.out mn9).mono ?_)
                            rintro e w' ⟨ya, yn, yc, rfl, hyn, -, own, hb2⟩
                            exact ⟨_, rfl, hR _ _ (rpost_none rfl hb2 ⟨ya, yn, yc, rfl, hyn, own, own.lt'⟩)⟩
                          case oR2_4 =>
                            intro f lo hi w hb hx hf hk hrg R hR; (try replace hb := BelX.zero hb); (try simp (decide := true) only [go_sem] at hf); (try simp (decide := true) only [go_sem] at hk)
                            obtain ⟨ya, yn, yc, h1, hyn, own, -⟩ := hf
                            have kA := conv_str (cap := yc) own.byt hyn.out
                            rw [HSS.out] at kA
                            go_simp
                            exact hR _ _ (rpost_vh rfl rfl (Below.refl _ _))
                          case oR2_5 => intro f lo hi w hb hx hf hk hrg R hR; (try replace hb := BelX.zero hb); (try simp (decide := true) only [go_sem] at hf); (try simp (decide := true) only [go_sem] at hk); go_simp; exact hR _ _ (rpost_val rfl rfl (Below.refl _ _) rfl)
                          case oR2_6 => intro f lo hi w hb hx hf hk hrg R hR; (try replace hb := BelX.zero hb); (try simp (decide := true) only [go_sem] at hf); (try simp (decide := true) only [go_sem] at hk); go_simp; exact hR _ _ (rpost_val rfl rfl (Below.refl _ _) rfl)
                          case oR2_7 => intro f lo hi w hb hx hf hk hrg R hR; (try replace hb := BelX.zero hb); (try simp (decide := true) only [go_sem] at hf); (try simp (decide := true) only [go_sem] at hk); go_simp; exact hR _ _ (rpost_val rfl rfl (Below.refl _ _) rfl)
                          case oR2_8 =>
                            intro f lo hi w hb hx hf hk hrg R hR; (try replace hb := BelX.zero hb); (try simp (decide := true) only [go_sem] at hf); (try simp (decide := true) only [go_sem] at hk)
                            go_simp
                            (with_reducible refine (ref14_Bytes by_ s ma mn mc m _ (hmr.below hb (Nat.le_refl _)) hmn.out mn9).mono ?_)
                            rintro e w' ⟨ya, yn, yc, rfl, hyn, -, own, hb2⟩
                            exact ⟨_, rfl, hR _ _ (rpost_none rfl hb2 ⟨ya, yn, yc, rfl, hyn, own, own.lt'⟩)⟩
                          case oR2_9 =>
                            intro f lo hi w hb hx hf hk hrg R hR; (try replace hb := BelX.zero hb); (try simp (decide := true) only [go_sem] at hf); (try simp (decide := true) only [go_sem] at hk)
                            obtain ⟨ya, yn, yc, h1, hyn, own, -⟩ := hf
                            have kA := conv_str (cap := yc) own.byt hyn.out
                            rw [HSS.out] at kA
                            go_simp
                            exact hR _ _ (rpost_vh rfl rfl (Below.refl _ _))
                          case oR2_10 =>
                            intro f lo hi w hb hx hf hk hrg R hR; (try replace hb := BelX.zero hb); (try simp (decide := true) only [go_sem] at hf); (try simp (decide := true) only [go_sem] at hk)
                            go_simp
                            exact hR _ _ (rpost_vh (by first | rfl | simp) rfl (Below.refl _ _))
                          case hcl =>
                            refine ⟨Closed.true _ _ _ _, Closed.true _ _ _ _, Closed.true _ _ _ _, ?cR2_3, Closed.true _ _ _ _, Closed.true _ _ _ _, Closed.true _ _ _ _, Closed.true _ _ _ _, ?cR2_8, Closed.true _ _ _ _, Closed.true _ _ _ _, trivial⟩
                            all_goals first | (intro f lo hi v b0 b1 w w' h hs hB hown hU hX; obtain ⟨ca, cn, cc, h1, h2, own, lt⟩ := h; exact ⟨ca, cn, cc, h1, h2, own.keep fun b hb hl _ => hown b hl (lt b (by rw [hb]; rfl)), lt⟩) | (exact fun _ _ _ _ _ _ _ _ h _ _ _ _ _ => h)
                          intro f lo hi W7 hbr hx hf hk hrg; (try replace hbr := BelX.zero hbr); clear hx; (try simp (decide := true) only [go_sem] at hf); (try simp (decide := true) only [go_sem] at hk)
                          have e10 := hk
                          repeat (replace e10 := e10.2)
                          replace e10 : f 10 = .bool false := e10
                          have be7 : RowKit.Below U.heap.size U W7 := (by repeat (first | (with_reducible refine Below.setCell ?_ ?_ _) | (with_reducible refine Below.alloc ?_ ?_ _) | (with_reducible refine Below.drew ?_) | (with_reducible refine below_drewN ?_ _) | (with_reducible exact Below.refl _ _) | (with_reducible refine Below.trans ?_ (Below.mono hbr ?_)) | (with_reducible refine Below.trans ?_ (Below.mono be3 ?_)) | (with_reducible refine Below.trans ?_ (Below.mono be2 ?_)) | (focus (simp; done)) | (focus (simp; omega)) | (focus omega) | (focus (have q0 := Below.size hbr; (try simp at q0); have q1 := Below.size be3; (try simp at q1); have q2 := Below.size be2; (try simp at q2); (try simp); omega))))
                          clear hrg hk hf hbr
                          go_simp
                          clear e10
                          go_wp2_with fail
                          go_roundw
                          case rel => exact ⟨s + 1, by first | rfl | (congr 1; omega), by omega, by omega, be7⟩
                          case measure => simp [intOf]; omega
                · obtain rfl : s = 9 := by omega
                  go_wp2_with fail
                  go_roundw
                  case rel => exact ⟨i + 1, by go_num, by omega, (by repeat (first | (with_reducible refine Below.setCell ?_ ?_ _) | (with_reducible refine Below.alloc ?_ ?_ _) | (with_reducible refine Below.drew ?_) | (with_reducible refine below_drewN ?_ _) | (with_reducible exact Below.refl _ _) | (with_reducible refine Below.trans ?_ (Below.mono be2 ?_)) | (with_reducible refine Below.trans ?_ (Below.mono be ?_)) | (focus (simp; done)) | (focus (simp; omega)) | (focus omega) | (focus (have q0 := Below.size be2; (try simp at q0); have q1 := Below.size be; (try simp at q1); (try simp); omega))))⟩
                  case measure => simp [intOf]; omega
          · obtain rfl : i = 3 := by omega
            go_wp2_with ((go_at_call 11; (with_reducible refine (law_awake _).mono ?_); rintro e w6 ⟨rfl, hb6⟩))
            go_ret
            exact ⟨rfl, (by repeat (first | (with_reducible refine Below.setCell ?_ ?_ _) | (with_reducible refine Below.alloc ?_ ?_ _) | (with_reducible refine Below.drew ?_) | (with_reducible refine below_drewN ?_ _) | (with_reducible exact Below.refl _ _) | (with_reducible refine Below.trans ?_ (Below.mono hb6 ?_)) | (with_reducible refine Below.trans ?_ (Below.mono be ?_)) | (with_reducible refine Below.trans ?_ (Below.mono beZ ?_)) | (focus (simp; done)) | (focus (simp; omega)) | (focus omega) | (focus (have q0 := Below.size hb6; (try simp at q0); have q1 := Below.size be; (try simp at q1); have q2 := Below.size beZ; (try simp at q2); (try simp); omega))))⟩
end Go.Proofs.Ytgngmmmdhhjbhaa
