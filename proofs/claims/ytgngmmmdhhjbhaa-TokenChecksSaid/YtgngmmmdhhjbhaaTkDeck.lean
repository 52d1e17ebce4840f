/- signalbrokermake.Deck.Tokens -/
import Derived.Test.YtgngmmmdhhjbhaaTkAg
import Derived.Test.YtgngmmmdhhjbhaaDeck
namespace Go.Proofs.Ytgngmmmdhhjbhaa
set_option linter.unusedVariables false
open Go.RowKit Go.Sort
set_option maxRecDepth 100000

def TkLt (l : List Tk) (a : Option Addr) (b1 : Nat) : Prop := (∀ x, a.map (·.block) = some x → x < b1) ∧ ∀ r ∈ l, ∀ x, r.a.map (·.block) = some x → x < b1
theorem TkL.rlt {W : World} {B : Nat} {l : List Tk} {xa : Option Addr} {xc : Nat} (h : TkL W B l xa xc) : TkLt l xa W.heap.size := ⟨h.own.lt', fun r hr => (h.sec r hr).lt'⟩
theorem TkL.keepIn {W W' : World} {B b1 : Nat} {l : List Tk} {xa : Option Addr} {xc : Nat} (h : TkL W B l xa xc) (hl : TkLt l xa b1) (hb : ∀ b, B ≤ b → b < b1 → W'.heap[b]? = W.heap[b]?) : TkL W' B l xa xc :=
  ⟨h.own.keep fun b e hB _ => hb b hB (hl.1 b (by rw [e]; rfl)), fun v hv => (h.sec v hv).keep fun b e hB _ => hb b hB (hl.2 v hv b (by rw [e]; rfl))⟩
theorem TkL.grown {W W' : World} {B p : Nat} {l : List Tk} {xa : Option Addr} {xc : Nat} (h : TkL W B l xa xc) (g : W.grownBy W' (some p)) (hp : p < B) : TkL W' B l xa xc :=
  ⟨h.own.grown g hp, fun r hr => (h.sec r hr).grown g hp⟩
theorem rpost_vh {rows : List RDat} {ψs : List Psi} {ks : List (Value → Prop)} {f : Nat → Value} {lo hi : Nat → Nat} {i : Nat} {w w' : World} {v : Value} (hk : (ks.getD i kTrue) v) (hψ : ψs.getD i psiTrue = psiTrue) (hb : Below w.heap.size w w') : RPost rows ψs f lo hi ks i w v w' := by
  unfold RPost
  rw [hψ]
  exact ⟨.of_below hb, hk, trivial⟩
/-- the tokens of a deck: made by the call, valid -/
def TokensR (p : Nat) (d : Dk) (w : World) (e : Ending) (w' : World) : Prop :=
  ∃ (k : Nat) (l : List Tk) (xa : Option Addr) (xc : Nat), e = .returned (.slice xa 8 xc) ∧ Hid (8 = l.length) ∧ Hid (valK (l.map Tk.key) = true) ∧ TkL w' w.heap.size l xa xc ∧ DeckAt w' p d k ∧ w.grownBy w' (some p)
set_option maxHeartbeats 8000000 in
theorem deck_Tokens (p : Nat) (d : Dk) (k : Nat) (sa : Option Addr) (sec : List UInt8) (sn sc : Nat) (rt cl : Int) (la : Option Addr) (ln lc : Nat) (rq se ra bu : Int) (Z : World) (hd : DeckAt Z p d k) (hs : Byt Z sa sec) (hsn : sn = sec.length) (hsec : sec.length = 8) (hrt : rV rt = true) (hcl0 : 0 ≤ cl) (hcl : cl ≤ 3) :
    Calls Try.prog 13 #[.pointer (some ⟨p, 0, none⟩), agAgg sa sn sc rt cl la ln lc rq se ra bu] Z (TokensR p d Z) := by
  have hpw := hd.lt
  have HD0 := Lib.hid hd
  have HSN := Lib.hid hsn
  have hs9 : sn ≤ 100000 := by omega
  have HV0 := Lib.hid (new_val hsec hrt hcl0 hcl)
  clear hsn hsec hrt hcl0 hcl
  go_enter Try.func13, Try.ntmps13
  go_upto_region 1 with fail
  obtain ⟨G, hG⟩ : ∃ G, Z.heap.size = G := ⟨_, rfl⟩
  refine wp_named (fun W => Blk W G 32 #[.slice sa sn sc, .int .i64 rt, .int .i64 cl, .slice la ln lc, .int .i64 rq, .int .i64 se, .int .i64 ra, .int .i64 bu] ∧ Byt W sa sec ∧ DeckAt W p d k ∧ RowKit.Below Z.heap.size Z W) ⟨by rw [← hG]; exact Blk.new _ _ _, Row.alloc hs _, hd.alloc _, (by repeat (first | (with_reducible refine Below.setCell ?_ ?_ _) | (with_reducible refine Below.alloc ?_ ?_ _) | (with_reducible refine Below.drew ?_) | (with_reducible refine below_drewN ?_ _) | (with_reducible exact Below.refl _ _) | (focus (simp; done)) | (focus (simp; omega)) | (focus omega)))⟩ ?_
  have HG := Lib.hid hG
  rw [hG]
  clear hG hs hd
  rintro W1 ⟨kG, hs, hd, be1⟩
  have hGp : G ≠ p := by have := HG.out; omega
  have gz1 : Z.grownBy W1 (some p) := (show RowKit.Below Z.heap.size Z W1 by rw [HG.out]; exact be1).grown_any (some p)
  obtain ⟨g0, g1, g2, g3, g4, g5, g6, g7⟩ := kG.eight
  have gl := kG.lt
  go_upto_region 2 with ((go_at_call 34; (with_reducible refine (ref14_New sa sec sn sc rt cl la ln lc rq se ra bu _ hs HSN.out hs9).mono ?_); rintro e w2 ⟨xa, xc, l2, rfl, hk2, hn2, il2, hb2⟩))
  have kG2 := kG.below hb2 gl
  have hd2 := hd.below hb2
  have gz2 := gz1.trans (hb2.grown_any (some p))
  have V2 : Hid (valK (l2.map Tk.key) = true) := Lib.hid (by rw [hk2.out]; exact HV0.out)
  have il2 := il2.mono (show G ≤ W1.heap.size by omega)
  clear g0 g1 g2 g3 g4 g5 g6 g7 gl kG hd hs be1 gz1 hb2 hk2
  go_upto_region 3 with ((go_at_call 28; (with_reducible refine (deck_Next p 10 _ d _ hd2 (by decide) (by decide)).mono ?_); rintro e w3 ⟨v3, rfl, p3, q3, -, hd3, gg3⟩))
  have kG3 := kG2.grown gg3 hGp
  have gz3 := gz2.trans gg3
  have il3 := il2.grown gg3 (show p < G by have := HG.out; omega)
  clear kG2 hd2 gz2 il2 gg3
  go_wp2_with fail
  go_loopw [5, 6] (fun s5 s6 wr => ∃ (kk : Int) (kd : Nat) (l : List Tk) (xa : Option Addr) (xc : Nat), s5 = .slice xa 8 xc ∧ s6 = .int .i64 kk ∧ 0 ≤ kk ∧ kk ≤ 10 ∧ Hid (8 = l.length) ∧ Hid (valK (l.map Tk.key) = true) ∧ TkL wr G l xa xc ∧ Blk wr G 32 #[.slice sa sn sc, .int .i64 rt, .int .i64 cl, .slice la ln lc, .int .i64 rq, .int .i64 se, .int .i64 ra, .int .i64 bu] ∧ DeckAt wr p d kd ∧ Z.grownBy wr (some p)) (fun _ s _ => (intOf s).toNat)
  case atStart => exact ⟨v3, _, l2, xa, xc, rfl, by simp, by omega, by omega, hn2, V2, il3, kG3, hd3, gz3⟩
  case round =>
    clear hd3 gz3 il3 kG3 V2 hn2
    obtain ⟨kk, kd, l, xa, xc, rfl, rfl, hk0, hk1, hn, hV, il, kG, hd, g⟩ := hrel
    have hGs := HG.out
    have hpG : p < G := by omega
    have HGs := Lib.hid hGs
    clear hGs
    by_cases hlt : 0 < kk
    · have hzs := g.size
      go_upto_region 5 with fail
      go_upto_if 23 with ((go_at_call 28; (with_reducible refine (deck_Next p 5 _ d _ hd (by decide) (by decide)).mono ?_); rintro e w2 ⟨v5, rfl, p5, q5, -, hd2, gg2⟩))
      have il2 := il.grown gg2 hpG
      have kG2 := kG.grown gg2 hGp
      have gz2 := g.trans gg2
      clear il kG g hd gg2 hzs
      by_cases hv4 : v5 = 4
      · subst hv4
        go_wp2_with (first | (go_at_call 40; (with_reducible refine (deck_Range p 1 7 _ d _ hd2 (by decide) (by decide) (by decide)).mono ?_); rintro e w4 ⟨v4, rfl, p4, q4, -, hd4, gg4⟩; ((have il4 := il2.grown gg4 hpG); (have kG4 := kG2.grown gg4 hGp); (have gz4 := gz2.trans gg4); (have gl4 := il4.g hV))) | (go_at_call 22; (with_reducible refine (ref14_Revoke xa l 8 xc _ _ gl4 hn.out).mono ?_); rintro e w6 ⟨ya, m, yc, l2, er, rfl, hm, hn2, il6, hb6⟩; ((have il46 := il4.below hb6); (have kG6 := kG4.below hb6 kG4.lt); (have hd6 := hd4.below hb6); (have gz6 := gz4.trans (hb6.grown_any (some p))); (have gz6s := gz4.size); (have il6 := il6.mono (show G ≤ w4.heap.size by have := HGs.out; omega)); (have HE : Hid (er = 0 → valK (l2.map Tk.key) = true) := Lib.hid (fun q => (rev_val hm.out q).2.1)); clear hm; by_cases her : er = 0)))
        · subst her
          have HV2 := Lib.hid (HE.out rfl)
          obtain rfl : m = 8 := by
            have := (valK_iff.1 HV2.out).1
            rw [List.length_map, ← hn2.out] at this
            exact this
          go_wp2_with fail
          go_roundw
          case rel => exact ⟨kk - 1, _, l2, ya, yc, rfl, by go_num, by omega, by omega, hn2, HV2, il6, kG6, hd6, gz6⟩
          case measure => simp [intOf]; omega
        · have zer : (er == 0) = false := by rw [beq_eq_false_iff_ne]; exact her
          go_wp2_with fail
          go_roundw
          case rel => exact ⟨kk - 1, _, l, xa, xc, rfl, by go_num, by omega, by omega, hn, hV, il46, kG6, hd6, gz6⟩
          case measure => simp [intOf]; omega
      have hv5 : (v5 == 4) = false := by rw [beq_eq_false_iff_ne]; exact hv4
      go_upto_region 9 with fail
      refine wp_named (fun W => TkL W G l xa xc ∧ Blk W G 32 #[.slice sa sn sc, .int .i64 rt, .int .i64 cl, .slice la ln lc, .int .i64 rq, .int .i64 se, .int .i64 ra, .int .i64 bu] ∧ (∃ k, DeckAt W p d k) ∧ Z.grownBy W (some p)) ⟨il2, kG2, ⟨_, hd2⟩, gz2⟩ ?_
      clear hd2 il2 kG2 gz2 hv4 hv5
      rintro W ⟨il, kG, ⟨kd', hd⟩, g⟩
      have hWs := g.size
      have HIL := Lib.hid il
      clear il
      apply wp_region_tab [(p, (p+1))] 8 65 [some 34, some 35, some 36, some 37, some 38, some 39, some 40, some 9] [⟨[8], [], [], []⟩, ⟨[0, 8], [0], [0], []⟩, ⟨[0, 1, 8], [1], [1], []⟩, ⟨[8], [], [], []⟩, ⟨[3, 8], [3, 8], [3, 8], [8]⟩, ⟨[0, 1, 2, 3, 4, 8], [2, 4], [2, 4], []⟩, ⟨[0, 1, 2, 3, 4, 5, 8], [2, 5], [2, 5], []⟩, ⟨[0, 1, 2, 3, 4, 5, 6, 8], [6], [6], []⟩, ⟨[], [], [], []⟩] [0, 1, 2, 3, 4, 5, 6, 7] [4, 7] [psiTrue, psiTrue, (fun f lo hi v b0 b1 W => ∃ g : Nat, v = .slice (some ⟨g, 0, none⟩) 6 6 ∧ b0 ≤ g ∧ g < b1 ∧ Blk W g 3 #[.int .i64 rt, .int .i64 1, .int .i64 3, .int .i64 7, .int .i64 15, .int .i64 0]), psiTrue, (fun f lo hi v b0 b1 W => ∃ k, DeckAt W p d k), (fun f lo hi v b0 b1 W => ∃ g x : Nat, f 2 = .slice (some ⟨g, 0, none⟩) 6 6 ∧ v = .pointer (some ⟨g, x, none⟩) ∧ x < 6), psiTrue, psiTrue, (fun f lo hi v b0 b1 W => (b0 = p ∧ b1 = (p+1)) ∧ ∃ k, DeckAt W p d k)] [kVal _, kVal _, kTrue, kVal _, (fun v => ∃ x : Int, v = .int .i64 x ∧ 0 ≤ x ∧ x < 6), kTrue, (fun v => ∃ x : Int, v = .int .i64 x), (fun v => ∃ x : Int, v = .int .i64 x)]
      · kernel_rfl
      · kernel_rfl
      · rfl
      · rfl
      rotate_left 2
      refine ⟨?oR1_0, ?oR1_1, ?oR1_2, ?oR1_3, ?oR1_4, ?oR1_5, ?oR1_6, ?oR1_7, trivial⟩
      case hx => exact ⟨⟨by omega, by omega⟩, by simp, trivial⟩
      case hX => exact ⟨fun _ _ _ _ => ⟨⟨rfl, rfl⟩, _, hd⟩, trivial⟩
      case oR1_0 => intro f lo hi w hb hx hf hk hrg R hR; (try replace hb := BelX.zero hb); (try simp (decide := true) only [go_sem] at hf); (try simp (decide := true) only [go_sem] at hk); go_simp; exact hR _ _ (rpost_val rfl rfl (Below.refl _ _) rfl)
      case oR1_1 =>
        intro f lo hi w hb hx hf hk hrg R hR; (try replace hb := BelX.zero hb); (try simp (decide := true) only [go_sem] at hf); (try simp (decide := true) only [go_sem] at hk)
        have kk := hb.blk kG (by simp; omega)
        have c1 := kk.cell 1
        have hl := kk.lt
        go_simp
        exact hR _ _ (rpost_val rfl rfl (Below.refl _ _) rfl)
      case oR1_2 =>
        intro f lo hi w hb hx hf hk hrg R hR; (try replace hb := BelX.zero hb); (try simp (decide := true) only [go_sem] at hf); (try simp (decide := true) only [go_sem] at hk)
        go_simp
        refine hR _ _ (rpost_none rfl (by repeat (first | (with_reducible refine Below.setCell ?_ ?_ _) | (with_reducible refine Below.alloc ?_ ?_ _) | (with_reducible refine Below.drew ?_) | (with_reducible refine below_drewN ?_ _) | (with_reducible exact Below.refl _ _) | (focus (simp; done)) | (focus (simp; omega)) | (focus omega))) ?_)
        (try simp (decide := true) only [go_sem])
        exact ⟨_, rfl, Nat.le_refl _, by simp, Blk.new _ _ _⟩
      case oR1_3 => intro f lo hi w hb hx hf hk hrg R hR; (try replace hb := BelX.zero hb); (try simp (decide := true) only [go_sem] at hf); (try simp (decide := true) only [go_sem] at hk); go_simp; exact hR _ _ (rpost_val rfl rfl (Below.refl _ _) rfl)
      case oR1_4 =>
        intro f lo hi w hb hx hf hk hrg R hR; (try replace hb := BelX.zero hb); (try simp (decide := true) only [go_sem] at hf); (try simp (decide := true) only [go_sem] at hk)
        obtain ⟨-, k1, hd1⟩ := hf
        go_simp
        (with_reducible refine (deck_Next p 6 _ d k1 hd1 (by omega) (by omega)).mono ?_)
        rintro e w' ⟨v, rfl, v0, v1, -, hd', g'⟩
        exact ⟨_, rfl, hR _ _ (rpost_both ⟨0 + v, rfl, by omega, by omega⟩ rfl (touch_grown g' (List.mem_singleton.2 rfl) (XOk.get _ _ hx 0 _ rfl).1 (XOk.get _ _ hx 0 _ rfl).2) ⟨_, hd'⟩)⟩
      case oR1_5 =>
        intro f lo hi w hb hx hf hk hrg R hR; (try replace hb := BelX.zero hb); (try simp (decide := true) only [go_sem] at hf); (try simp (decide := true) only [go_sem] at hk)
        obtain ⟨⟨g, h4, -, -, kk⟩, -⟩ := hf
        obtain ⟨x, h6, hx0, hx1⟩ := hk
        obtain ⟨y, rfl⟩ : ∃ y : Nat, x = y := ⟨x.toNat, by omega⟩
        have kc := kk.cell 0
        have kl := kk.lt
        go_simp
        refine hR _ _ (rpost_none rfl (Below.refl _ _) ?_)
        (try simp (decide := true) only [go_sem])
        exact ⟨g, y, h4, by simp, by omega⟩
      case oR1_6 =>
        intro f lo hi w hb hx hf hk hrg R hR; (try replace hb := BelX.zero hb); (try simp (decide := true) only [go_sem] at hf); (try simp (decide := true) only [go_sem] at hk)
        obtain ⟨⟨g, h4, -, -, kk⟩, g', x, h4', h7, hx6⟩ := hf
        obtain rfl : g = g' := by
          rw [h4] at h4'
          injection h4' with e1
          injection e1 with e1
          injection e1 with e1
        obtain ⟨y, hy⟩ : ∃ y : Int, w.cell? ⟨g, x, none⟩ = some (.int .i64 y) := by
          have : x = 0 ∨ x = 1 ∨ x = 2 ∨ x = 3 ∨ x = 4 ∨ x = 5 := by omega
          rcases this with rfl | rfl | rfl | rfl | rfl | rfl
          · exact ⟨_, kk.cell 0⟩
          · exact ⟨_, kk.cell 1⟩
          · exact ⟨_, kk.cell 2⟩
          · exact ⟨_, kk.cell 3⟩
          · exact ⟨_, kk.cell 4⟩
          · exact ⟨_, kk.cell 5⟩
        have kl := kk.lt
        go_simp
        exact hR _ _ (rpost_vh ⟨_, rfl⟩ rfl (Below.refl _ _))
      case oR1_7 =>
        intro f lo hi w hb hx hf hk hrg R hR; (try replace hb := BelX.zero hb); (try simp (decide := true) only [go_sem] at hf); (try simp (decide := true) only [go_sem] at hk)
        obtain ⟨y, h⟩ := hk
        go_simp
        exact hR _ _ (rpost_vh ⟨_, rfl⟩ rfl (Below.refl _ _))
      case hcl =>
        refine ⟨Closed.true _ _ _ _, Closed.true _ _ _ _, ?cR1_2, Closed.true _ _ _ _, ?cR1_4, ?cR1_5, Closed.true _ _ _ _, Closed.true _ _ _ _, ?cR1_8, trivial⟩
        all_goals first | (intro f lo hi v b0 b1 w w' h hs hB hown hU hX; obtain ⟨k1, h⟩ := h; exact ⟨k1, DeckAt.closed h hd (fun hl b hb h1 h2 => hB b ⟨h1, fun r hr => by simp at hr; subst hr; simp only; omega⟩) (hX 0 _ rfl (by simp) p (Nat.le_refl _) (Nat.lt_succ_self _))⟩) | (intro f lo hi v b0 b1 w w' h hs hB hown hU hX; obtain ⟨g, h1, h2, h3, h4⟩ := h; exact ⟨g, h1, h2, h3, (hown g h2 h3).trans h4⟩) | (intro f lo hi v b0 b1 w w' h hs hB hown hU hX; obtain ⟨ca, cc, h1, own, lt⟩ := h; exact ⟨ca, cc, h1, own.keep fun b hb hl _ => hown b hl (lt b (by rw [hb]; rfl)), lt⟩) | (intro f lo hi v b0 b1 w w' h hs hB hown hU hX; obtain ⟨ya, m2, yc, l2, s, er, h1, h2, h3, h4, h5⟩ := h; exact ⟨ya, m2, yc, l2, s, er, h1, h2, h3, h4.keepIn h5 hown, h5⟩) | (intro f lo hi v b0 b1 w w' h hs hB hown hU hX; obtain ⟨⟨rfl, rfl⟩, k1, h⟩ := h; exact ⟨⟨rfl, rfl⟩, k1, DeckAt.closed h hd (fun hl b hb h1 h2 => hB b ⟨h1, fun r hr => by simp at hr; subst hr; simp only; omega⟩) (hown _ (Nat.le_refl _) (Nat.lt_succ_self _))⟩) | (exact fun _ _ _ _ _ _ _ _ h _ _ _ _ _ => h)
      intro f lo hi W7 hbr hx hf hk hrg; (try replace hbr := BelX.zero hbr); clear hx; (try simp (decide := true) only [go_sem] at hf); (try simp (decide := true) only [go_sem] at hk)
      obtain ⟨k7, hd7⟩ := hf
      obtain ⟨-, -, -, -, -, y, h7⟩ := hk
      have gz7 : Z.grownBy W7 (some p) := g.trans hbr.one
      have il7 : TkL W7 G l xa xc := HIL.out.keepIn HIL.out.rlt fun b h1 h2 => hbr.2.2.2.2 b ⟨h2, fun r hr => by simp at hr; subst hr; simp only; omega⟩
      have kG7 : Blk W7 G 32 #[.slice sa sn sc, .int .i64 rt, .int .i64 cl, .slice la ln lc, .int .i64 rq, .int .i64 se, .int .i64 ra, .int .i64 bu] := (hbr.2.2.2.2 G ⟨kG.lt, fun r hr => by simp at hr; subst hr; simp only; omega⟩).trans kG
      have e7 : f 7 = .int .i64 y := h7
      clear hrg hbr HIL kG hd g
      go_simp
      clear e7 h7
      go_upto_region 10 with fail
      refine wp_named (fun W => TkL W G l xa xc ∧ Blk W G 32 #[.slice sa sn sc, .int .i64 rt, .int .i64 cl, .slice la ln lc, .int .i64 rq, .int .i64 se, .int .i64 ra, .int .i64 bu] ∧ (∃ k, DeckAt W p d k) ∧ Z.grownBy W (some p)) ⟨il7, kG7, ⟨_, hd7⟩, gz7⟩ ?_
      clear hd7 il7 kG7 gz7
      rintro W ⟨il, kG, ⟨kd2, hd⟩, g⟩
      have hWs := g.size
      have HIL := Lib.hid il
      clear il
      apply wp_region_tab [(p, (p+1))] 23 65 [some 42, some 43, some 44, some 45, some 46, some 47, some 48, some 49, some 50, some 51, some 52, some 53, some 54, some 55, some 56, some 57, some 41, some 58, some 59, some 60, some 10, some 11, some 12] [⟨[23], [], [], []⟩, ⟨[23], [], [], []⟩, ⟨[1, 23], [1, 23], [1, 23], [23]⟩, ⟨[23], [], [], []⟩, ⟨[23], [], [], []⟩, ⟨[1, 2, 4, 23], [2, 4, 23], [2, 4], [23]⟩, ⟨[23], [], [], []⟩, ⟨[23], [], [], []⟩, ⟨[1, 2, 4, 5, 7, 23], [2, 5, 7, 23], [5, 7], [23]⟩, ⟨[1, 2, 4, 5, 6, 7, 8, 23], [6, 8], [6], []⟩, ⟨[1, 2, 4, 5, 6, 7, 8, 9, 23], [6, 9], [6, 9], []⟩, ⟨[23], [], [], []⟩, ⟨[1, 2, 4, 5, 7, 8, 11, 23], [11], [11], []⟩, ⟨[23], [], [], []⟩, ⟨[1, 2, 4, 5, 7, 8, 11, 12, 13, 23], [2, 5, 8, 13, 23], [8, 13], [23]⟩, ⟨[0, 1, 2, 3, 4, 5, 6, 7, 8, 9, 10, 11, 12, 13, 14, 23], [0, 2, 3, 5, 10, 12, 14], [0, 3, 10, 12, 14], []⟩, ⟨[0, 1, 2, 3, 4, 5, 6, 7, 8, 9, 10, 11, 12, 13, 14, 15, 23], [15], [15], []⟩, ⟨[0, 1, 2, 3, 4, 5, 6, 7, 8, 9, 10, 11, 12, 13, 14, 15, 16, 23], [15, 16], [15, 16], []⟩, ⟨[0, 1, 2, 3, 4, 5, 6, 7, 8, 9, 10, 11, 12, 13, 14, 15, 16, 23], [15, 16], [15, 16], []⟩, ⟨[0, 1, 2, 3, 4, 5, 6, 7, 8, 9, 10, 11, 12, 13, 14, 15, 16, 23], [15, 16], [15, 16], []⟩, ⟨[0, 1, 2, 3, 4, 5, 6, 7, 8, 9, 10, 11, 12, 13, 14, 15, 16, 17, 23], [15, 17], [15, 17], []⟩, ⟨[0, 1, 2, 3, 4, 5, 6, 7, 8, 9, 10, 11, 12, 13, 14, 15, 16, 17, 18, 20, 23], [15, 18], [15, 18], []⟩, ⟨[0, 1, 2, 3, 4, 5, 6, 7, 8, 9, 10, 11, 12, 13, 14, 15, 16, 17, 18, 19, 20, 21, 23], [15, 19], [15, 19], []⟩, ⟨[], [], [], []⟩] [0, 1, 2, 3, 4, 5, 6, 7, 8, 9, 10, 11, 12, 13, 14, 15, 16, 17, 18, 19, 20, 21, 22] [14, 15, 20, 21, 22] [psiTrue, psiTrue, (fun f lo hi v b0 b1 W => ∃ k, DeckAt W p d k), psiTrue, psiTrue, (fun f lo hi v b0 b1 W => ∃ k, DeckAt W p d k), (fun f lo hi v b0 b1 W => ∃ g : Nat, v = .slice (some ⟨g, 0, none⟩) 3 3 ∧ b0 ≤ g ∧ g < b1 ∧ Blk W g 3 #[.int .i64 0, .int .i64 3, .int .i64 20]), psiTrue, (fun f lo hi v b0 b1 W => ∃ k, DeckAt W p d k), (fun f lo hi v b0 b1 W => ∃ g x : Nat, f 6 = .slice (some ⟨g, 0, none⟩) 3 3 ∧ v = .pointer (some ⟨g, x, none⟩) ∧ x < 3), psiTrue, psiTrue, (fun f lo hi v b0 b1 W => ∃ (ca : Option Addr) (cc : Nat), v = .slice ca 8 cc ∧ Own W b0 5 1 ca 8 cc ((secX kk).map encB) ∧ ∀ y, ca.map (·.block) = some y → y < b1), psiTrue, (fun f lo hi v b0 b1 W => ∃ k, DeckAt W p d k), (fun f lo hi v b0 b1 W => ∃ (ya : Option Addr) (m yc : Nat) (l2 : List Tk) (s er : Int), v = .tuple #[.slice ya m yc, .int .i64 s, .int .i64 er] ∧ (er = 0 → valK (l2.map Tk.key) = true) ∧ Hid (m = l2.length) ∧ TkL W b0 l2 ya yc ∧ TkLt l2 ya b1), (fun f lo hi v b0 b1 W => v = f 15), (fun f lo hi v b0 b1 W => ∃ s er, f 15 = .tuple #[v, s, er]), (fun f lo hi v b0 b1 W => ∃ l er, f 15 = .tuple #[l, v, er]), (fun f lo hi v b0 b1 W => ∃ l s, f 15 = .tuple #[l, s, v]), (fun f lo hi v b0 b1 W => ∃ s er, f 15 = .tuple #[v, s, er]), (fun f lo hi v b0 b1 W => ∃ l er, f 15 = .tuple #[l, v, er]), (fun f lo hi v b0 b1 W => ∃ l s, f 15 = .tuple #[l, s, v]), (fun f lo hi v b0 b1 W => (b0 = p ∧ b1 = (p+1)) ∧ ∃ k, DeckAt W p d k)] [kVal _, kVal _, (fun v => ∃ x : Int, v = .int .i64 x ∧ 0 ≤ x ∧ x < 4), kVal _, kVal _, (fun v => ∃ x : Int, v = .int .i64 x ∧ 0 ≤ x ∧ x < 4), kTrue, kVal _, (fun v => ∃ x : Int, v = .int .i64 x ∧ 0 ≤ x ∧ x < 3), kTrue, (fun v => ∃ x : Int, v = .int .i64 x), kVal _, kTrue, kVal _, (fun v => ∃ x : Int, v = .int .i64 x ∧ 0 ≤ x ∧ x < 4), kTrue, kTrue, kTrue, kTrue, kTrue, kTrue, kTrue, kTrue]
      · kernel_rfl
      · kernel_rfl
      · rfl
      · rfl
      rotate_left 2
      refine ⟨?oR2_0, ?oR2_1, ?oR2_2, ?oR2_3, ?oR2_4, ?oR2_5, ?oR2_6, ?oR2_7, ?oR2_8, ?oR2_9, ?oR2_10, ?oR2_11, ?oR2_12, ?oR2_13, ?oR2_14, ?oR2_15, ?oR2_16, ?oR2_17, ?oR2_18, ?oR2_19, ?oR2_20, ?oR2_21, ?oR2_22, trivial⟩
      case hx => exact ⟨⟨by omega, by omega⟩, by simp, trivial⟩
      case hX => exact ⟨fun _ _ _ _ => ⟨⟨rfl, rfl⟩, _, hd⟩, trivial⟩
      case oR2_0 => intro f lo hi w hb hx hf hk hrg R hR; (try replace hb := BelX.zero hb); (try simp (decide := true) only [go_sem] at hf); (try simp (decide := true) only [go_sem] at hk); go_simp; exact hR _ _ (rpost_val rfl rfl (Below.refl _ _) rfl)
      case oR2_1 => intro f lo hi w hb hx hf hk hrg R hR; (try replace hb := BelX.zero hb); (try simp (decide := true) only [go_sem] at hf); (try simp (decide := true) only [go_sem] at hk); go_simp; exact hR _ _ (rpost_val rfl rfl (Below.refl _ _) rfl)
      case oR2_2 =>
        intro f lo hi w hb hx hf hk hrg R hR; (try replace hb := BelX.zero hb); (try simp (decide := true) only [go_sem] at hf); (try simp (decide := true) only [go_sem] at hk)
        obtain ⟨-, k1, hd1⟩ := hf
        go_simp
        (with_reducible refine (deck_Next p 4 _ d k1 hd1 (by omega) (by omega)).mono ?_)
        rintro e w' ⟨v, rfl, v0, v1, -, hd', g'⟩
        exact ⟨_, rfl, hR _ _ (rpost_both ⟨0 + v, rfl, by omega, by omega⟩ rfl (touch_grown g' (List.mem_singleton.2 rfl) (XOk.get _ _ hx 0 _ rfl).1 (XOk.get _ _ hx 0 _ rfl).2) ⟨_, hd'⟩)⟩
      case oR2_3 => intro f lo hi w hb hx hf hk hrg R hR; (try replace hb := BelX.zero hb); (try simp (decide := true) only [go_sem] at hf); (try simp (decide := true) only [go_sem] at hk); go_simp; exact hR _ _ (rpost_val rfl rfl (Below.refl _ _) rfl)
      case oR2_4 => intro f lo hi w hb hx hf hk hrg R hR; (try replace hb := BelX.zero hb); (try simp (decide := true) only [go_sem] at hf); (try simp (decide := true) only [go_sem] at hk); go_simp; exact hR _ _ (rpost_val rfl rfl (Below.refl _ _) rfl)
      case oR2_5 =>
        intro f lo hi w hb hx hf hk hrg R hR; (try replace hb := BelX.zero hb); (try simp (decide := true) only [go_sem] at hf); (try simp (decide := true) only [go_sem] at hk)
        obtain ⟨k1, hd1⟩ := hf
        go_simp
        (with_reducible refine (deck_Next p 4 _ d k1 hd1 (by omega) (by omega)).mono ?_)
        rintro e w' ⟨v, rfl, v0, v1, -, hd', g'⟩
        exact ⟨_, rfl, hR _ _ (rpost_both ⟨0 + v, rfl, by omega, by omega⟩ rfl (touch_grown g' (List.mem_singleton.2 rfl) (XOk.get _ _ hx 0 _ rfl).1 (XOk.get _ _ hx 0 _ rfl).2) ⟨_, hd'⟩)⟩
      case oR2_6 =>
        intro f lo hi w hb hx hf hk hrg R hR; (try replace hb := BelX.zero hb); (try simp (decide := true) only [go_sem] at hf); (try simp (decide := true) only [go_sem] at hk)
        go_simp
        refine hR _ _ (rpost_none rfl (by repeat (first | (with_reducible refine Below.setCell ?_ ?_ _) | (with_reducible refine Below.alloc ?_ ?_ _) | (with_reducible refine Below.drew ?_) | (with_reducible refine below_drewN ?_ _) | (with_reducible exact Below.refl _ _) | (focus (simp; done)) | (focus (simp; omega)) | (focus omega))) ?_)
        (try simp (decide := true) only [go_sem])
        exact ⟨_, rfl, Nat.le_refl _, by simp, Blk.new _ _ _⟩
      case oR2_7 => intro f lo hi w hb hx hf hk hrg R hR; (try replace hb := BelX.zero hb); (try simp (decide := true) only [go_sem] at hf); (try simp (decide := true) only [go_sem] at hk); go_simp; exact hR _ _ (rpost_val rfl rfl (Below.refl _ _) rfl)
      case oR2_8 =>
        intro f lo hi w hb hx hf hk hrg R hR; (try replace hb := BelX.zero hb); (try simp (decide := true) only [go_sem] at hf); (try simp (decide := true) only [go_sem] at hk)
        obtain ⟨k1, hd1⟩ := hf
        go_simp
        (with_reducible refine (deck_Next p 3 _ d k1 hd1 (by omega) (by omega)).mono ?_)
        rintro e w' ⟨v, rfl, v0, v1, -, hd', g'⟩
        exact ⟨_, rfl, hR _ _ (rpost_both ⟨0 + v, rfl, by omega, by omega⟩ rfl (touch_grown g' (List.mem_singleton.2 rfl) (XOk.get _ _ hx 0 _ rfl).1 (XOk.get _ _ hx 0 _ rfl).2) ⟨_, hd'⟩)⟩
      case oR2_9 =>
        intro f lo hi w hb hx hf hk hrg R hR; (try replace hb := BelX.zero hb); (try simp (decide := true) only [go_sem] at hf); (try simp (decide := true) only [go_sem] at hk)
        obtain ⟨g, h4, -, -, kb⟩ := hf
        obtain ⟨x, h6, hx0, hx1⟩ := hk
        obtain ⟨z, rfl⟩ : ∃ z : Nat, x = z := ⟨x.toNat, by omega⟩
        have kc := kb.cell 0
        have kl := kb.lt
        go_simp
        refine hR _ _ (rpost_none rfl (Below.refl _ _) ?_)
        (try simp (decide := true) only [go_sem])
        exact ⟨g, z, h4, by simp, by omega⟩
      case oR2_10 =>
        intro f lo hi w hb hx hf hk hrg R hR; (try replace hb := BelX.zero hb); (try simp (decide := true) only [go_sem] at hf); (try simp (decide := true) only [go_sem] at hk)
        obtain ⟨⟨g, h4, -, -, kb⟩, g', x, h4', h7, hx6⟩ := hf
        obtain rfl : g = g' := by
          rw [h4] at h4'
          injection h4' with e1
          injection e1 with e1
          injection e1 with e1
        obtain ⟨z, hz⟩ : ∃ z : Int, w.cell? ⟨g, x, none⟩ = some (.int .i64 z) := by
          have : x = 0 ∨ x = 1 ∨ x = 2 := by omega
          rcases this with rfl | rfl | rfl
          · exact ⟨_, kb.cell 0⟩
          · exact ⟨_, kb.cell 1⟩
          · exact ⟨_, kb.cell 2⟩
        have kl := kb.lt
        go_simp
        exact hR _ _ (rpost_vh ⟨_, rfl⟩ rfl (Below.refl _ _))
      case oR2_11 => intro f lo hi w hb hx hf hk hrg R hR; (try replace hb := BelX.zero hb); (try simp (decide := true) only [go_sem] at hf); (try simp (decide := true) only [go_sem] at hk); go_simp; exact hR _ _ (rpost_val rfl rfl (Below.refl _ _) rfl)
      case oR2_12 =>
        intro f lo hi w hb hx hf hk hrg R hR; (try replace hb := BelX.zero hb); (try simp (decide := true) only [go_sem] at hf); (try simp (decide := true) only [go_sem] at hk)
        go_simp
        refine (mk_Secret _ _).mono ?_
        rintro e w' ⟨a, c', rfl, own, hb'⟩
        exact ⟨_, rfl, hR _ _ (rpost_none rfl hb' ⟨a, c', rfl, own, own.lt'⟩)⟩
      case oR2_13 => intro f lo hi w hb hx hf hk hrg R hR; (try replace hb := BelX.zero hb); (try simp (decide := true) only [go_sem] at hf); (try simp (decide := true) only [go_sem] at hk); go_simp; exact hR _ _ (rpost_val rfl rfl (Below.refl _ _) rfl)
      case oR2_14 =>
        intro f lo hi w hb hx hf hk hrg R hR; (try replace hb := BelX.zero hb); (try simp (decide := true) only [go_sem] at hf); (try simp (decide := true) only [go_sem] at hk)
        obtain ⟨k1, hd1⟩ := hf
        go_simp
        (with_reducible refine (deck_Next p 4 _ d k1 hd1 (by omega) (by omega)).mono ?_)
        rintro e w' ⟨v, rfl, v0, v1, -, hd', g'⟩
        exact ⟨_, rfl, hR _ _ (rpost_both ⟨0 + v, rfl, by omega, by omega⟩ rfl (touch_grown g' (List.mem_singleton.2 rfl) (XOk.get _ _ hx 0 _ rfl).1 (XOk.get _ _ hx 0 _ rfl).2) ⟨_, hd'⟩)⟩
      case oR2_15 =>
        intro f lo hi w hb hx hf hk hrg R hR; (try replace hb := BelX.zero hb); (try simp (decide := true) only [go_sem] at hf); (try simp (decide := true) only [go_sem] at hk)
        obtain ⟨⟨ca, cc, h12, own, -⟩, -⟩ := hf
        obtain ⟨h0, ⟨x2, h2, -, -⟩, h3, ⟨x5, h5, -, -⟩, ⟨x10, h10⟩, x14, h14, -, -⟩ := hk
        have ilw : TkL w G l xa xc := HIL.out.keepIn HIL.out.rlt fun b h1 h2 => hb.2.2.2.2 b ⟨h2, fun r hr => by simp at hr; subst hr; simp only; omega⟩
        go_simp
        (with_reducible refine (ref14_Derive xa l 8 xc x2 y x5 x10 ca (secX kk) 8 cc x14 w (ilw.g hV) hn.out own.byt (secX_len kk).symm (by decide) own.none_len).mono ?_)
        rintro e w' ⟨ya, m2, yc, l2, s, er, rfl, hm, hm2, il2, hb2⟩
        exact ⟨_, rfl, hR _ _ (rpost_none rfl hb2 ⟨ya, m2, yc, l2, s, er, rfl, fun e => (der_val hm.out e).2.1, hm2, il2, il2.rlt⟩)⟩
      case oR2_16 => intro f lo hi w hb hx hf hk hrg R hR; (try replace hb := BelX.zero hb); (try simp (decide := true) only [go_sem] at hf); (try simp (decide := true) only [go_sem] at hk); go_simp; exact hR _ _ (rpost_none rfl (Below.refl _ _) rfl)
      case oR2_17 =>
        intro f lo hi w hb hx hf hk hrg R hR; (try replace hb := BelX.zero hb); (try simp (decide := true) only [go_sem] at hf); (try simp (decide := true) only [go_sem] at hk)
        obtain ⟨⟨ya, m2, yc, l2, s, er, h15, -⟩, h16⟩ := hf
        rw [h15] at h16
        go_simp
        refine hR _ _ (rpost_none rfl (Below.refl _ _) ?_)
        (try simp (decide := true) only [go_sem])
        exact ⟨_, _, h15⟩
      case oR2_18 =>
        intro f lo hi w hb hx hf hk hrg R hR; (try replace hb := BelX.zero hb); (try simp (decide := true) only [go_sem] at hf); (try simp (decide := true) only [go_sem] at hk)
        obtain ⟨⟨ya, m2, yc, l2, s, er, h15, -⟩, h16⟩ := hf
        rw [h15] at h16
        go_simp
        refine hR _ _ (rpost_none rfl (Below.refl _ _) ?_)
        (try simp (decide := true) only [go_sem])
        exact ⟨_, _, h15⟩
      case oR2_19 =>
        intro f lo hi w hb hx hf hk hrg R hR; (try replace hb := BelX.zero hb); (try simp (decide := true) only [go_sem] at hf); (try simp (decide := true) only [go_sem] at hk)
        obtain ⟨⟨ya, m2, yc, l2, s, er, h15, -⟩, h16⟩ := hf
        rw [h15] at h16
        go_simp
        refine hR _ _ (rpost_none rfl (Below.refl _ _) ?_)
        (try simp (decide := true) only [go_sem])
        exact ⟨_, _, h15⟩
      case oR2_20 =>
        intro f lo hi w hb hx hf hk hrg R hR; (try replace hb := BelX.zero hb); (try simp (decide := true) only [go_sem] at hf); (try simp (decide := true) only [go_sem] at hk)
        obtain ⟨-, u1, u2, h17⟩ := hf
        go_simp
        refine hR _ _ (rpost_none rfl (Below.refl _ _) ?_)
        (try simp (decide := true) only [go_sem])
        exact ⟨_, _, h17⟩
      case oR2_21 =>
        intro f lo hi w hb hx hf hk hrg R hR; (try replace hb := BelX.zero hb); (try simp (decide := true) only [go_sem] at hf); (try simp (decide := true) only [go_sem] at hk)
        obtain ⟨-, u1, u2, h17⟩ := hf
        go_simp
        refine hR _ _ (rpost_none rfl (Below.refl _ _) ?_)
        (try simp (decide := true) only [go_sem])
        exact ⟨_, _, h17⟩
      case oR2_22 =>
        intro f lo hi w hb hx hf hk hrg R hR; (try replace hb := BelX.zero hb); (try simp (decide := true) only [go_sem] at hf); (try simp (decide := true) only [go_sem] at hk)
        obtain ⟨-, u1, u2, h17⟩ := hf
        go_simp
        refine hR _ _ (rpost_none rfl (Below.refl _ _) ?_)
        (try simp (decide := true) only [go_sem])
        exact ⟨_, _, h17⟩
      case hcl =>
        refine ⟨Closed.true _ _ _ _, Closed.true _ _ _ _, ?cR2_2, Closed.true _ _ _ _, Closed.true _ _ _ _, ?cR2_5, ?cR2_6, Closed.true _ _ _ _, ?cR2_8, ?cR2_9, Closed.true _ _ _ _, Closed.true _ _ _ _, ?cR2_12, Closed.true _ _ _ _, ?cR2_14, ?cR2_15, ?cR2_16, ?cR2_17, ?cR2_18, ?cR2_19, ?cR2_20, ?cR2_21, ?cR2_22, ?cR2_23, trivial⟩
        all_goals first | (intro f lo hi v b0 b1 w w' h hs hB hown hU hX; obtain ⟨k1, h⟩ := h; exact ⟨k1, DeckAt.closed h hd (fun hl b hb h1 h2 => hB b ⟨h1, fun r hr => by simp at hr; subst hr; simp only; omega⟩) (hX 0 _ rfl (by simp) p (Nat.le_refl _) (Nat.lt_succ_self _))⟩) | (intro f lo hi v b0 b1 w w' h hs hB hown hU hX; obtain ⟨g, h1, h2, h3, h4⟩ := h; exact ⟨g, h1, h2, h3, (hown g h2 h3).trans h4⟩) | (intro f lo hi v b0 b1 w w' h hs hB hown hU hX; obtain ⟨ca, cc, h1, own, lt⟩ := h; exact ⟨ca, cc, h1, own.keep fun b hb hl _ => hown b hl (lt b (by rw [hb]; rfl)), lt⟩) | (intro f lo hi v b0 b1 w w' h hs hB hown hU hX; obtain ⟨ya, m2, yc, l2, s, er, h1, h2, h3, h4, h5⟩ := h; exact ⟨ya, m2, yc, l2, s, er, h1, h2, h3, h4.keepIn h5 hown, h5⟩) | (intro f lo hi v b0 b1 w w' h hs hB hown hU hX; obtain ⟨⟨rfl, rfl⟩, k1, h⟩ := h; exact ⟨⟨rfl, rfl⟩, k1, DeckAt.closed h hd (fun hl b hb h1 h2 => hB b ⟨h1, fun r hr => by simp at hr; subst hr; simp only; omega⟩) (hown _ (Nat.le_refl _) (Nat.lt_succ_self _))⟩) | (exact fun _ _ _ _ _ _ _ _ h _ _ _ _ _ => h)
      intro f lo hi W7 hbr hx hf hk hrg; (try replace hbr := BelX.zero hbr); clear hx; (try simp (decide := true) only [go_sem] at hf); (try simp (decide := true) only [go_sem] at hk)
      obtain ⟨⟨k7, hd7⟩, ⟨ya, m2, yc, l2, sl, er, h15, hok2, hm2, il2, lt2⟩, ⟨v1, v2, h20⟩, ⟨v3, v4, h21⟩, v5', v6, h22⟩ := hf
      have hr15 := (hrg.out 15 (by simp)).1
      have e20 : f 20 = .slice ya m2 yc := by rw [h15] at h20; injection h20 with h; injection h with h; injection h with h; exact h.symm
      have e21 : f 21 = .int .i64 sl := by rw [h15] at h21; injection h21 with h; injection h with h; injection h with _ h; injection h with h; exact h.symm
      have e22 : f 22 = .int .i64 er := by rw [h15] at h22; injection h22 with h; injection h with h; injection h with _ h; injection h with _ h; injection h with h; exact h.symm
      have HOK2 := Lib.hid hok2
      have gz7 : Z.grownBy W7 (some p) := g.trans hbr.one
      have il7 : TkL W7 G l xa xc := HIL.out.keepIn HIL.out.rlt fun b h1 h2 => hbr.2.2.2.2 b ⟨h2, fun r hr => by simp at hr; subst hr; simp only; omega⟩
      have kG7 : Blk W7 G 32 #[.slice sa sn sc, .int .i64 rt, .int .i64 cl, .slice la ln lc, .int .i64 rq, .int .i64 se, .int .i64 ra, .int .i64 bu] := (hbr.2.2.2.2 G ⟨kG.lt, fun r hr => by simp at hr; subst hr; simp only; omega⟩).trans kG
      have hGW := kG.lt
      have il2' := il2.mono (show G ≤ lo 15 by omega)
      clear hrg hbr h15 h20 h21 h22 hok2 il2 lt2 hr15 hGW
      go_simp
      clear hk
      by_cases her : er = 0
      · subst her
        have HV2 := Lib.hid (HOK2.out (by first | rfl | trivial))
        obtain rfl : m2 = 8 := by
          have := (valK_iff.1 HV2.out).1
          rw [List.length_map, ← hm2.out] at this
          exact this
        go_wp2_with fail
        go_roundw
        case rel => exact ⟨kk - 1, k7, l2, ya, yc, rfl, by go_num, by omega, by omega, hm2, HV2, il2', kG7, hd7, gz7⟩
        case measure => simp [intOf]; omega
      · have zer : (er == 0) = false := by rw [beq_eq_false_iff_ne]; exact her
        go_wp2_with fail
        go_roundw
        case rel => exact ⟨kk - 1, k7, l, xa, xc, rfl, by go_num, by omega, by omega, hn, hV, il7, kG7, hd7, gz7⟩
        case measure => simp [intOf]; omega
    · obtain rfl : kk = 0 := by omega
      go_wp2_with fail
      go_ret
      exact ⟨kd, l, xa, xc, rfl, hn, hV, by rw [HGs.out]; exact il, hd, g⟩
end Go.Proofs.Ytgngmmmdhhjbhaa
