/- law 25: InboxTold -/
import Derived.Test.YtlfccoakodnbaaaWaits
namespace Go.Proofs.Ytlfccoakodnbaaa
set_option linter.unusedVariables false
open Go.RowKit Go.Sort
set_option maxRecDepth 100000

theorem mk_Few (a : Option Addr) (n cap : Nat) (w : World) (hn : n ≤ 9223372036854775807) :
    Calls Try.prog 18 #[.slice a n cap] w fun e w' => e = .returned (.bool (decide (n ≤ 300))) ∧ w = w' := by
  go_enter Try.func18, Try.ntmps18
  go_wp2
  go_ret
  exact ⟨ret_bool (by first | rfl | (rw [Bool.eq_iff_iff]; simp; done) | (rw [Bool.eq_iff_iff]; simp; omega)), rfl⟩
theorem fParse_code (l : List UInt8) : (fParse l).code ≠ 15 := by
  unfold fParse
  repeat' split
  all_goals (intro h; simp [PR.more, PR.fault] at h)
theorem tRun_codes (lim : Nat) (l : List UInt8) : ∀ st : TS, (∀ k ∈ st.keys, k.1 ≠ 15) → ∀ k ∈ (tRun lim l st).keys, k.1 ≠ 15 := by
  intro st
  induction st using (tRun.induct lim l) with
  | case1 st h ih =>
    intro hk
    rw [tRun_go h]
    refine ih fun k hm => ?_
    rcases tStep_keys st (fParse (l.drop st.used)) with e | e <;> rw [e] at hm
    · exact hk k hm
    · rcases List.mem_append.1 hm with hm | hm
      · exact hk k hm
      · rw [List.mem_singleton.1 hm]; exact fParse_code _
  | case2 st h => intro hk; rw [tRun_stop h]; exact hk
/-- zeros come in -/
theorem inbox_ReceiveZ (dr g : Bool) (sb : List UInt8) (sa : Option Addr) (sn sc : Nat) (ba : Option Addr) (n : Nat) (dr' : Bool) (N : Nat) (hdr : (dr || !decide (sn + n ≤ 256)) = dr') (hN : min (sn + n) 256 = N) (w : World) (hs : SOwn w sb sa sn sc) (hle : sn ≤ 256) (hb : Byt w ba (List.replicate n 0)) (h6 : n ≤ 1000000) :
    Calls Try.prog 9 #[.agg #[.bool true, .bool dr, .slice sa sn sc, .bool g], .slice ba n n] w fun e w' => ∃ (sb' : List UInt8) (a : Option Addr) (c : Nat), e = .returned (.agg #[.bool true, .bool dr', .slice a N c, .bool g]) ∧ N = sb'.length ∧ Own w' w.heap.size 5 1 a N c (sb'.map encB) ∧ Below w.heap.size w w' := by
  refine (inbox_Receive true dr g sb sa sn sc ba (List.replicate n 0) n n w hs.at hb (by simp) hle (Nat.le_refl _) h6).mono fun e w' h => ?_
  have e1 : Ses.rcv ⟨true, dr, sb, g⟩ (List.replicate n 0) = ⟨true, dr', putL sb (List.replicate n 0), g⟩ := by
    have : (sb.length + (List.replicate n (0 : UInt8)).length) = sn + n := by rw [hs.len]; simp
    simp only [Ses.rcv, if_true, this, hdr]
  rw [e1] at h
  obtain ⟨a, c, m, hm, rfl, own, hb'⟩ := h
  have hl := putL_len sb (List.replicate n 0) (by rw [← hs.len]; exact hle)
  rw [List.length_replicate, ← hs.len, hN] at hl
  have hm := hm.out
  simp only at hm
  rw [hl] at hm
  subst hm
  exact ⟨_, a, c, rfl, hl.symm, own, hb'⟩
structure TdM (w W : World) (J P : Nat) (d : Dk) (kk : Nat) (dr g : Bool) (sb : List UInt8) (sa : Option Addr) (sn sc : Nat) : Prop where
  blk : Blk W J 30 #[.bool true, .bool dr, .slice sa sn sc, .bool g]
  ses : SOwn W sb sa sn sc
  le : sn ≤ 256
  dk : DeckAt W P d kk
  arr : d.l = [] ∨ ∀ b, d.a.map (·.block) = some b → b < w.heap.size
  be : Below w.heap.size w W
  sz : w.heap.size ≤ P ∧ P < J
section
variable {w W W' : World} {J P : Nat} {d : Dk} {kk : Nat} {dr g : Bool} {sb : List UInt8} {sa : Option Addr} {sn sc : Nat}
theorem TdM.below (h : TdM w W J P d kk dr g sb sa sn sc) (hb : Below W.heap.size W W') : TdM w W' J P d kk dr g sb sa sn sc :=
  ⟨h.blk.below hb h.blk.lt, h.ses.below hb (Nat.le_refl _), h.le, h.dk.below hb, h.arr, h.be.trans (hb.mono h.be.size), h.sz⟩
theorem TdM.draw (h : TdM w W J P d kk dr g sb sa sn sc) (hg : W.grownBy W' (some P)) {k' : Nat} (hd : DeckAt W' P d k') : TdM w W' J P d k' dr g sb sa sn sc :=
  ⟨h.blk.grown hg (by have := h.sz; omega), ⟨h.ses.own.keep fun b e _ q => hg.block b q (fun e' => h.ses.own.ne_blk h.dk.1 (by decide) (by rw [e]; injection e' with e'; rw [← e']; rfl)), h.ses.len, h.ses.small⟩, h.le, hd, h.arr, h.be.grown hg h.be.size (fun k hk => by injection hk with hk; have := h.sz; omega), h.sz⟩
theorem TdM.put (h : TdM w W J P d kk dr g sb sa sn sc) {dr' g' : Bool} {sb' : List UInt8} {sa' : Option Addr} {sn' sc' : Nat} (hk : Blk W' J 30 #[.bool true, .bool dr', .slice sa' sn' sc', .bool g']) (hs : SOwn W' sb' sa' sn' sc') (hle : sn' ≤ 256) (hz : W.heap.size ≤ W'.heap.size) (hh : ∀ q, q < W.heap.size → q ≠ J → W'.heap[q]? = W.heap[q]?)
    (ho : W'.os = W.os ∧ W'.tape = W.tape ∧ W'.output = W.output) : TdM w W' J P d kk dr' g' sb' sa' sn' sc' := by
  have hsz := h.sz
  have hbs := h.be.size
  refine ⟨hk, hs, hle, ⟨(hh P h.dk.lt (by omega)).trans h.dk.1, ?_, h.dk.2.2⟩, h.arr, ⟨ho.1.trans h.be.os, ho.2.1.trans h.be.tape, ho.2.2.trans h.be.output, Nat.le_trans h.be.size hz, fun q hq => (hh q (by omega) (by omega)).trans (h.be.block q hq)⟩, h.sz⟩
  rcases h.arr with ha | ha
  · rw [ha]; exact Ints.nil _ _
  · exact Row.keep h.dk.2.1 fun b off e q => hh b q (by have := ha b (by rw [e]; rfl); omega)
end

set_option maxHeartbeats 8000000 in
theorem inboxTold_walk (a0 : Option Addr) (c0 : Nat) (l0 : List Int) (w : World) (h0 : Ints w a0 l0) (n0 : l0.length ≤ 9223372036854775807) :
    Calls Try.prog 5 #[.slice a0 l0.length c0] w fun e w' => e = .returned (.bool true) ∧ Below w.heap.size w w' := by
  by_cases hs : l0.length ≤ 300
  case neg =>
    have hs' : decide (l0.length ≤ 300) = false := decide_eq_false (by omega)
    clear hs
    go_enter Try.func5, Try.ntmps5
    go_wp2_with (first | (go_at_call 18; (with_reducible refine (mk_Few _ _ _ _ n0).mono ?_); rintro e w' ⟨rfl, rfl⟩) | (go_at_call 14; (with_reducible refine (awake_yes _).mono ?_); rintro e w20 ⟨rfl, hb20⟩))
    go_ret
    exact ⟨rfl, (by repeat (first | (with_reducible refine Below.setCell ?_ ?_ _) | (with_reducible refine Below.alloc ?_ ?_ _) | (with_reducible refine Below.drew ?_) | (with_reducible refine below_drewN ?_ _) | (with_reducible exact Below.refl _ _) | (with_reducible refine Below.trans ?_ (Below.mono hb20 ?_)) | (focus (simp; done)) | (focus (simp; omega)) | (focus omega) | (focus (have q0 := Below.size hb20; (try simp at q0); (try simp); omega))))⟩
  have hs' : decide (l0.length ≤ 300) = true := decide_eq_true (by omega)
  have harr : l0 = [] ∨ ∀ b, a0.map (·.block) = some b → b < w.heap.size := by
    rcases h0.open with h | ⟨b, off, rfl, hlt, _⟩
    · exact .inl h
    · exact .inr fun k hk => by simp at hk; omega
  have HAR := Lib.hid harr
  clear harr
  go_enter Try.func5, Try.ntmps5
  go_upto_region 5 with (first | (go_at_call 18; (with_reducible refine (mk_Few _ _ _ _ n0).mono ?_); rintro e w' ⟨rfl, rfl⟩) | (go_at_call 8; (with_reducible refine (mk_New a0 c0 l0 _ (h0.below (B := w.heap.size) (by repeat (first | (with_reducible refine Below.setCell ?_ ?_ _) | (with_reducible refine Below.alloc ?_ ?_ _) | (with_reducible refine Below.drew ?_) | (with_reducible refine below_drewN ?_ _) | (with_reducible exact Below.refl _ _) | (focus (simp; done)) | (focus (simp; omega)) | (focus omega))) (Nat.le_refl _)) n0).mono ?_); rintro e w1 ⟨rfl, hd1, hb1⟩) | (go_at_call 10; (with_reducible refine (inbox_Open0 _).mono ?_); rintro e w3 ⟨rfl, hb3⟩))
  have z1 := hd1.lt
  have z3 := hb3.size
  have zz := hb1.size
  obtain ⟨J, hJJ⟩ : ∃ J, w3.heap.size = J := ⟨_, rfl⟩
  refine wp_named (fun W => TdM w W J w.heap.size ⟨a0, c0, l0⟩ 0 false false [] none 0 0) ⟨by rw [← hJJ]; exact Blk.new _ _ _, ⟨Own.nil _ _ _ _, rfl, by omega⟩, by omega, (hd1.below hb3).alloc _, HAR.out, (by repeat (first | (with_reducible refine Below.setCell ?_ ?_ _) | (with_reducible refine Below.alloc ?_ ?_ _) | (with_reducible refine Below.drew ?_) | (with_reducible refine below_drewN ?_ _) | (with_reducible exact Below.refl _ _) | (with_reducible refine Below.trans ?_ (Below.mono hb3 ?_)) | (with_reducible refine Below.trans ?_ (Below.mono hb1 ?_)) | (focus (simp; done)) | (focus (simp; omega)) | (focus omega) | (focus (have q0 := Below.size hb3; (try simp at q0); have q1 := Below.size hb1; (try simp at q1); (try simp); omega)))), by omega⟩ ?_
  rw [hJJ] at *
  clear hd1 hb1 hb3 z1 z3 zz h0 hJJ
  rintro W wm
  go_wp2_with fail
  go_loopw [5, 6, 22] (fun s5 s6 s22 wr => ∃ (i R : Nat) (g : Bool) (sb : List UInt8) (sa : Option Addr) (sn sc kk : Nat), s5 = .int .i64 R ∧ s6 = .bool false ∧ s22 = .int .i64 i ∧ i ≤ 30 ∧ R + sn = 256 ∧ TdM w wr J w.heap.size ⟨a0, c0, l0⟩ kk false g sb sa sn sc) (fun _ _ s _ => 30 - (intOf s).toNat)
  case atStart => exact ⟨0, 256, false, [], none, 0, 0, 0, rfl, rfl, rfl, by omega, by omega, wm⟩
  case round =>
    obtain ⟨i, R, g, sb, sa, sn, sc, kk, rfl, rfl, rfl, hi, hR, wm⟩ := hrel
    by_cases hlt : i < 30
    · have hii : (i : Int) < 30 := by omega
      go_wp2_with ((go_at_call 19; (with_reducible refine (deck_Next _ 4 _ _ kk wm.dk (by omega) (by omega)).mono ?_); rintro e w4 ⟨v, rfl, v0, v1, -, hd4, g4⟩; ((try simp only [Int.zero_add]); have wm4 := wm.draw g4 hd4)))
      obtain ⟨V, rfl⟩ := Int.eq_ofNat_of_zero_le v0
      obtain ⟨wO, rfl⟩ : ∃ W', W' = w4 := ⟨_, rfl⟩
      go_loopw [5, 6, 7] (fun s5 s6 s7 wy => ∃ (j R : Nat) (dr : Bool) (sb : List UInt8) (sa : Option Addr) (sn sc kk : Nat), s5 = .int .i64 R ∧ s6 = .bool dr ∧ s7 = .int .i64 j ∧ j ≤ 4 ∧ R + sn = 256 ∧ TdM w wy J w.heap.size ⟨a0, c0, l0⟩ kk dr g sb sa sn sc) (fun _ _ s _ => (intOf s).toNat)
      case atStart => exact ⟨V, R, false, sb, sa, sn, sc, _, rfl, rfl, rfl, by omega, hR, wm4⟩
      case round =>
        clear wm wm4
        obtain ⟨j, R, dr, sb, sa, sn, sc, kk, rfl, rfl, rfl, hj, hR, wm⟩ := hrel
        by_cases hj0 : 0 < j
        · have hjp : (0 : Int) < (j : Int) := by omega
          go_upto_region 12 with ((go_at_call 19; (with_reducible refine (deck_Next _ 200 _ _ kk wm.dk (by omega) (by omega)).mono ?_); rintro e w5 ⟨u, rfl, u0, u1, -, hd5, g5⟩; ((try simp only [Int.zero_add]); have wm5 := wm.draw g5 hd5)))
          obtain ⟨N, rfl⟩ := Int.eq_ofNat_of_zero_le u0
          have hN : N < 200 := by omega
          obtain ⟨dr', hdr⟩ : ∃ dr', (dr || !decide (sn + N ≤ 256)) = dr' := ⟨_, rfl⟩
          obtain ⟨N', hN'⟩ : ∃ N', min (sn + N) 256 = N' := ⟨_, rfl⟩
          have HDR := Lib.hid hdr
          have HN' := Lib.hid hN'
          have hNle : N' ≤ 256 := by omega
          have hRN : R - N + N' = 256 := by omega
          have hsz := wm5.sz
          have hJl := wm5.blk.lt
          clear hdr hN'
          apply wp_region_tab [(J, (J+1))] 5 88 [some 32, some 33, some 34, some 35, none] [⟨[5], [5], [5], []⟩, ⟨[5], [], [], []⟩, ⟨[1, 5], [1], [1], []⟩, ⟨[0, 1, 2, 5], [0, 2], [0, 2], []⟩, ⟨[0, 1, 2, 3, 5], [3, 5], [3, 5], [5]⟩, ⟨[], [], [], []⟩] [0, 1, 2, 3, 4] [3, 4] [psiTrue, psiTrue, (fun f lo hi v b0 b1 W => ∃ b, v = .slice (some ⟨b, 0, none⟩) N N ∧ b0 ≤ b ∧ b < b1 ∧ Blk W b 5 ((List.replicate N (0 : UInt8)).map encB).toArray), (fun f lo hi v b0 b1 W => ∃ (sb' : List UInt8) (a' : Option Addr) (c' : Nat), v = .agg #[.bool true, .bool dr', .slice a' N' c', .bool g] ∧ N' = sb'.length ∧ Own W 0 5 1 a' N' c' (sb'.map encB) ∧ ∀ k, a'.map (·.block) = some k → b0 ≤ k ∧ k < b1), (fun f lo hi v b0 b1 W => ∃ (a' : Option Addr) (c' : Nat), f 3 = .agg #[.bool true, .bool dr', .slice a' N' c', .bool g] ∧ Blk W J 30 #[.bool true, .bool dr', .slice a' N' c', .bool g]), (fun f lo hi v b0 b1 W => (b0 = J ∧ b1 = (J+1)) ∧ Blk W J 30 #[.bool true, .bool dr, .slice sa sn sc, .bool g])] [kVal _, kVal _, kTrue, kTrue, kTrue]
          · kernel_rfl
          · kernel_rfl
          · rfl
          · rfl
          rotate_left 2
          refine ⟨?oR1_0, ?oR1_1, ?oR1_2, ?oR1_3, ?oR1_4, trivial⟩
          case hx => exact ⟨⟨by omega, by omega⟩, by simp, trivial⟩
          case hX => exact ⟨fun _ _ _ _ => ⟨⟨rfl, rfl⟩, wm5.blk⟩, trivial⟩
          case oR1_0 =>
            intro f lo hi w hb hx hf hk hrg R hR; (try replace hb := BelX.zero hb); (try simp (decide := true) only [go_sem] at hf); (try simp (decide := true) only [go_sem] at hk)
            obtain ⟨-, kb⟩ := hf
            obtain ⟨e0, e1, e2, e3⟩ := kb.four'
            go_simp
            exact hR _ _ (rpost_val rfl rfl (Below.refl _ _) rfl)
          case oR1_1 => intro f lo hi w hb hx hf hk hrg R hR; (try replace hb := BelX.zero hb); (try simp (decide := true) only [go_sem] at hf); (try simp (decide := true) only [go_sem] at hk); go_simp; exact hR _ _ (rpost_val rfl rfl (Below.refl _ _) rfl)
          case oR1_2 =>
            intro f lo hi w hb hx hf hk hrg R hR; (try replace hb := BelX.zero hb); (try simp (decide := true) only [go_sem] at hf); (try simp (decide := true) only [go_sem] at hk)
            refine obl_makeB N ?_ ?_ (by omega) fun kk => ?_
            · go_simp
            · go_simp
            refine hR _ _ (rpost_none rfl (by repeat (first | (with_reducible refine Below.setCell ?_ ?_ _) | (with_reducible refine Below.alloc ?_ ?_ _) | (with_reducible refine Below.drew ?_) | (with_reducible refine below_drewN ?_ _) | (with_reducible exact Below.refl _ _) | (focus (simp; done)) | (focus (simp; omega)) | (focus omega))) ?_)
            (try simp (decide := true) only [go_sem])
            exact ⟨_, rfl, Nat.le_refl _, by simp, kk⟩
          case oR1_3 =>
            intro f lo hi w hb hx hf hk hrg R hR; (try replace hb := BelX.zero hb); (try simp (decide := true) only [go_sem] at hf); (try simp (decide := true) only [go_sem] at hk)
            obtain ⟨b, h34, -, -, kk⟩ := hf
            have hso : SOwn w sb sa sn sc := ⟨wm5.ses.own.keep fun b e _ q => hb.2.2.2.2 b ⟨q, fun r hr => by simp at hr; subst hr; simp only; exact fun h => wm5.ses.own.ne_blk wm5.blk (by decide) (by rw [e, show J = b by omega]; rfl)⟩, wm5.ses.len, wm5.ses.small⟩
            have hby : Byt w (some ⟨b, 0, none⟩) (List.replicate N 0) := kk.rowL
            go_simp
            (with_reducible refine (inbox_ReceiveZ dr g sb sa sn sc (some ⟨b, 0, none⟩) N dr' N' HDR.out HN'.out _ hso wm5.le hby (by omega)).mono ?_)
            rintro e w' ⟨sb', a', c', rfl, hn', own5, hb5⟩
            refine ⟨_, rfl, hR _ _ (rpost_none rfl hb5 ?_)⟩
            (try simp (decide := true) only [go_sem])
            exact ⟨sb', a', c', rfl, hn', own5.mono (Nat.zero_le _), fun k hk => ⟨own5.base_le k hk, own5.lt' k hk⟩⟩
          case oR1_4 =>
            intro f lo hi w hb hx hf hk hrg R hR; (try replace hb := BelX.zero hb); (try simp (decide := true) only [go_sem] at hf); (try simp (decide := true) only [go_sem] at hk)
            obtain ⟨⟨sb', a', c', h35, -⟩, -, kb⟩ := hf
            obtain ⟨e0, e1, e2, e3⟩ := kb.four'
            have fz := kb.frozen
            have p1 : lo 5 = _ := (XOk.get _ _ hx 0 _ rfl).1
            have p2 : hi 5 = _ := (XOk.get _ _ hx 0 _ rfl).2
            go_simp
            refine hR _ _ (rpost_some rfl rfl (Touch.set4 w (List.mem_singleton.2 rfl) (Nat.le_of_eq p1) (by rw [p2]; exact Nat.lt_succ_self _) _ _ _ _) ?_)
            (try simp (decide := true) only [go_sem])
            exact ⟨a', c', h35, kb.set4 _ _ _ _⟩
          case hcl =>
            refine ⟨Closed.true _ _ _ _, Closed.true _ _ _ _, ?cR1_2, ?cR1_3, ?cR1_4, ?cR1_5, trivial⟩
            all_goals first
              | exact fun f lo hi v b0 b1 w w' h hs hB hown hU hX => by
                  obtain ⟨b, rfl, h2, h3, h4⟩ := h
                  exact ⟨b, rfl, h2, h3, (hown b h2 h3).trans h4⟩
              | exact fun f lo hi v b0 b1 w w' h hs hB hown hU hX => by
                  obtain ⟨a', c', n', h1, h2, own, lt⟩ := h
                  exact ⟨a', c', n', h1, h2, own.keep fun b hb hl _ => by have := lt b (by rw [hb]; rfl); exact hown b this.1 this.2, lt⟩
              | exact fun f lo hi v b0 b1 w w' h hs hB hown hU hX => by
                  obtain ⟨a', c', h1, h2⟩ := h
                  exact ⟨a', c', h1, (hX 0 _ rfl (by simp) _ (Nat.le_refl _) (Nat.lt_succ_self _)).trans h2⟩
              | exact fun f lo hi v b0 b1 w w' h hs hB hown hU hX => by
                  obtain ⟨⟨rfl, rfl⟩, kb⟩ := h
                  exact ⟨⟨rfl, rfl⟩, (hown _ (Nat.le_refl _) (Nat.lt_succ_self _)).trans kb⟩
          intro f lo hi W7 hbr hx hf hk hrg; (try replace hbr := BelX.zero hbr); clear hx; (try simp (decide := true) only [go_sem] at hf); (try simp (decide := true) only [go_sem] at hk)
          obtain ⟨⟨sb', a', c', h35, hn', own7, -⟩, b', d', h35', k7⟩ := hf
          obtain ⟨rfl, rfl⟩ : a' = b' ∧ c' = d' := by
            rw [h35] at h35'
            simpa using h35'
          have pm7 := wm5.put k7 ⟨own7, hn', by omega⟩ hNle hbr.2.2.2.1 (fun q h1 h2 => hbr.2.2.2.2 q ⟨h1, fun r hr => by simp at hr; subst hr; simp only; omega⟩) ⟨hbr.1, hbr.2.1, hbr.2.2.1⟩
          clear hrg hbr h35' own7 k7 wm wm5 hd5 g5
          go_simp
          clear hk h35
          obtain ⟨j, rfl⟩ : ∃ j', j = j' + 1 := ⟨j - 1, by omega⟩
          clear hjp hj0
          cases dr
          · have hd1 : decide (R < N) = dr' := by rw [← HDR.out, Bool.eq_iff_iff]; simp; omega
            go_wp2_with fail
            all_goals
              go_roundw
              case rel =>
                refine ⟨j, R - N, dr', sb', a', N', c', _, ?_, ?_, ?_, by omega, hRN, pm7⟩
                · congr 1; split <;> omega
                · rfl
                · rfl
              case measure => first | (simp [intOf]; done) | (simp [intOf]; omega)
          · obtain rfl : dr' = true := by rw [← HDR.out]; rfl
            go_wp2_with fail
            all_goals
              go_roundw
              case rel =>
                refine ⟨j, R - N, true, sb', a', N', c', _, ?_, ?_, ?_, by omega, hRN, pm7⟩
                · congr 1; split <;> omega
                · rfl
                · rfl
              case measure => first | (simp [intOf]; done) | (simp [intOf]; omega)
        · obtain rfl : j = 0 := by omega
          clear hj0
          obtain ⟨c0', c1', c2', c3'⟩ := wm.blk.four'
          have jl := wm.blk.lt
          go_upto_region 16 with ((go_at_call 11; (with_reducible refine (inbox_TakeO dr g sb sa sn sc _ wm.ses.at).mono ?_); rintro e w5 ⟨st, ra, rc, rn, its, ia, ic, im, hst, hrn, him, hk, h5, -, rfl, own5, owi, pays, hb5⟩))
          have hits : Items w5 ia its := items_of (by rw [← him.out]; exact owi) pays
          have hrn256 : rn ≤ 256 := by
            have h1 := hrn.out
            rw [List.length_drop] at h1
            have h2 := wm.ses.len
            have h3 := wm.le
            omega
          have hcd : ∀ q (h : q < its.length), (its[q].code = 15 ↔ (q = 0 ∧ dr = true)) := by
            intro q h
            have h1 := hk.out
            have h2 : ∀ k ∈ st.keys, k.1 ≠ 15 := by
              have := tRun_codes 4 sb ⟨0, g, []⟩ (by simp)
              rwa [hst.out] at this
            have h3 : (its.map It.key)[q]? = some its[q].key := by simp [h]
            rw [h1] at h3
            have h4 : its[q].code = its[q].key.1 := rfl
            rw [h4]
            cases dr with
            | false =>
              simp only [Bool.false_eq_true, if_false, List.nil_append] at h3
              have := h2 _ (List.mem_of_getElem? h3)
              simp [this]
            | true =>
              cases q with
              | zero => simp at h3; rw [← h3]; simp
              | succ q =>
                simp at h3
                have := h2 _ (List.mem_of_getElem? h3)
                simp [this]
          have him0 : dr = true → 0 < im := fun h => by
            have h1 := congrArg List.length hk.out
            rw [List.length_map, ← him.out, h] at h1
            simp at h1
            omega
          have HCD := Lib.hid hcd
          have HIM0 := Lib.hid him0
          have wm5 : TdM w (((w5.alloc (.cells #[.bool true, .bool false, .slice ra rn rc, .bool st.garb] 30)).alloc (.cells #[.bool true, .slice ia im ic] 35))) J w.heap.size ⟨a0, c0, l0⟩ kk dr g sb sa sn sc := (wm.below hb5).below (by repeat (first | (with_reducible refine Below.setCell ?_ ?_ _) | (with_reducible refine Below.alloc ?_ ?_ _) | (with_reducible refine Below.drew ?_) | (with_reducible refine below_drewN ?_ _) | (with_reducible exact Below.refl _ _) | (focus (simp; done)) | (focus (simp; omega)) | (focus omega)))
          refine wp_named (fun V => TdM w V J w.heap.size ⟨a0, c0, l0⟩ kk dr g sb sa sn sc ∧ Blk V w5.heap.size 30 #[.bool true, .bool false, .slice ra rn rc, .bool st.garb] ∧ Blk V (w5.heap.size + 1) 35 #[.bool true, .slice ia im ic] ∧ Items V ia its ∧ SOwn V (sb.drop st.used) ra rn rc ∧ J < w5.heap.size) ⟨wm5, (Blk.new _ _ _).alloc _, Blk.next _ _ _ _, (hits.alloc _).alloc _, ⟨((own5.mono (Nat.zero_le _)).alloc _).alloc _, hrn.out, by omega⟩, by have := hb5.size; omega⟩ ?_
          clear hcd him0 wm wm5 hits own5 owi pays hb5 c0' c1' c2' c3' jl hk
          rintro V0 ⟨wm, kx, ki, hits, hso, hJx⟩
          have i1 := ki.cell 1
          have li := ki.lt
          go_wp2_with fail
          go_loopw [11, 54] (fun s11 s54 wz => ∃ (q : Nat) (T : Int), s11 = .int .i64 T ∧ s54 = .int .i64 q ∧ q ≤ im ∧ T = (if dr = true ∧ 0 < q then 1 else 0) ∧ RowKit.Below V0.heap.size V0 wz) (fun _ s _ => im - (intOf s).toNat)
          case atStart => exact ⟨0, 0, rfl, rfl, by omega, by simp, RowKit.Below.refl _ _⟩
          case round =>
            obtain ⟨q, T, rfl, rfl, hq, hT, hbz⟩ := hrel
            have HT := Lib.hid hT
            clear hT
            by_cases hql : q < im
            · have hql' : q < its.length := by rw [← him.out]; exact hql
              obtain ⟨b, off, rfl⟩ := hits.open (by omega)
              obtain ⟨x0, x1, x2, xb⟩ := row_item (hits.below hbz (Nat.le_refl _)).1 q hql'
              have hcq := HCD.out q hql'
              obtain ⟨cd, hcd⟩ : ∃ cd, its[q].code = cd := ⟨_, rfl⟩
              rw [hcd] at x0 hcq
              have HCQ := Lib.hid hcq
              clear hcq hcd
              by_cases hc : q = 0 ∧ dr = true
              · obtain ⟨rfl, rfl⟩ := hc
                obtain rfl : cd = 15 := HCQ.out.2 ⟨rfl, rfl⟩
                obtain rfl : T = 0 := by rw [HT.out]; simp
                simp only [Nat.zero_mul, Nat.add_zero] at x0 x1 x2
                go_wp2_with fail
                go_roundw
                case rel => exact ⟨1, 1, rfl, by first | rfl | go_num, by omega, by simp, (by repeat (first | (with_reducible refine Below.setCell ?_ ?_ _) | (with_reducible refine Below.alloc ?_ ?_ _) | (with_reducible refine Below.drew ?_) | (with_reducible refine below_drewN ?_ _) | (with_reducible exact Below.refl _ _) | (with_reducible refine Below.trans ?_ (Below.mono hbz ?_)) | (focus (simp; done)) | (focus (simp; omega)) | (focus omega) | (focus (have q0 := Below.size hbz; (try simp at q0); (try simp); omega))))⟩
                case measure => simp [intOf]; omega
              · have zc : (cd == 15) = false := by
                  rw [beq_eq_false_iff_ne]
                  intro h
                  exact hc (HCQ.out.1 h)
                have HC := Lib.hid hc
                clear hc
                go_wp2_with fail
                go_roundw
                case rel =>
                  refine ⟨q + 1, T, rfl, by go_num, by omega, ?_, (by repeat (first | (with_reducible refine Below.setCell ?_ ?_ _) | (with_reducible refine Below.alloc ?_ ?_ _) | (with_reducible refine Below.drew ?_) | (with_reducible refine below_drewN ?_ _) | (with_reducible exact Below.refl _ _) | (with_reducible refine Below.trans ?_ (Below.mono hbz ?_)) | (focus (simp; done)) | (focus (simp; omega)) | (focus omega) | (focus (have q0 := Below.size hbz; (try simp at q0); (try simp); omega))))⟩
                  rw [HT.out]
                  have := HC.out
                  by_cases h : dr = true
                  · have h0 : 0 < q := by
                      rcases Nat.eq_zero_or_pos q with h1 | h1
                      · exact absurd ⟨h1, h⟩ this
                      · exact h1
                    rw [if_pos ⟨h, h0⟩, if_pos ⟨h, by omega⟩]
                  · rw [if_neg (fun x => h x.1), if_neg (fun x => h x.1)]
                case measure => simp [intOf]; omega
            · obtain rfl : q = im := by omega
              have i0 := (ki.below hbz li).cell 0
              have liz := (ki.below hbz li).lt
              have wmz := wm.below hbz
              have kxz := kx.below hbz kx.lt
              have hsoz := hso.below hbz (Nat.le_refl _)
              have hTT : T = (if dr = true then 1 else 0) := by
                rw [HT.out]
                cases dr with
                | false => rfl
                | true => rw [if_pos ⟨rfl, HIM0.out rfl⟩, if_pos rfl]
              have hne : (T == 1) = dr := by
                rw [hTT]
                cases dr <;> rfl
              have hT1 : T ≤ 1 := by rw [hTT]; split <;> omega
              have zd : (dr != dr) = false := by simp
              have hT1' : decide ((1 : Int) < T) = false := decide_eq_false (by omega)
              clear hTT i1 li ki hits hso kx wm hbz
              obtain ⟨x0, x1, x2, x3⟩ := kxz.four'
              have xl := kxz.lt
              go_upto_region 27 with fail
              have hJl := wmz.blk.lt
              have hsz := wmz.sz
              apply wp_region_tab [(J, (J+1))] 9 88 [some 80, some 81, some 82, some 83, some 84, some 85, none, some 6, some 5] [⟨[9], [], [], []⟩, ⟨[9], [], [], []⟩, ⟨[1, 9], [1], [1], []⟩, ⟨[1, 2, 9], [2], [2], []⟩, ⟨[1, 2, 3, 9], [3], [3], []⟩, ⟨[1, 2, 3, 4, 9], [4], [4], []⟩, ⟨[0, 9], [0, 9], [0, 9], [9]⟩, ⟨[0, 6, 9], [], [], []⟩, ⟨[0, 1, 2, 3, 4, 5, 6, 7, 9], [5], [5], []⟩, ⟨[], [], [], []⟩] [0, 1, 2, 3, 4, 5, 6, 7, 8] [6, 8, 7] [psiTrue, psiTrue, psiTrue, psiTrue, psiTrue, psiTrue, (fun f lo hi v b0 b1 W => Blk W J 30 #[.bool true, .bool false, .slice ra rn rc, .bool st.garb]), psiTrue, psiTrue, (fun f lo hi v b0 b1 W => (b0 = J ∧ b1 = (J+1)) ∧ Blk W J 30 #[.bool true, .bool dr, .slice sa sn sc, .bool g])] [kVal _, kVal _, kVal _, kVal _, kVal _, kVal _, kTrue, kVal _, kVal _]
              · kernel_rfl
              · kernel_rfl
              · rfl
              · rfl
              rotate_left 2
              refine ⟨?oR2_0, ?oR2_1, ?oR2_2, ?oR2_3, ?oR2_4, ?oR2_5, ?oR2_6, ?oR2_7, ?oR2_8, trivial⟩
              case hx => exact ⟨⟨by omega, by omega⟩, by simp, trivial⟩
              case hX => exact ⟨fun _ _ _ _ => ⟨⟨rfl, rfl⟩, wmz.blk⟩, trivial⟩
              case oR2_0 =>
                intro f lo hi w hb hx hf hk hrg R hR; (try replace hb := BelX.zero hb); (try simp (decide := true) only [go_sem] at hf); (try simp (decide := true) only [go_sem] at hk)
                obtain ⟨e0, e1, e2, e3⟩ := (hb.blk kxz (fun r hr => by simp at hr; subst hr; simp only; omega)).four'
                go_simp
                exact hR _ _ (rpost_val rfl rfl (Below.refl _ _) rfl)
              case oR2_1 => intro f lo hi w hb hx hf hk hrg R hR; (try replace hb := BelX.zero hb); (try simp (decide := true) only [go_sem] at hf); (try simp (decide := true) only [go_sem] at hk); go_simp; exact hR _ _ (rpost_val rfl rfl (Below.refl _ _) rfl)
              case oR2_2 => intro f lo hi w hb hx hf hk hrg R hR; (try replace hb := BelX.zero hb); (try simp (decide := true) only [go_sem] at hf); (try simp (decide := true) only [go_sem] at hk); go_simp; exact hR _ _ (rpost_val rfl rfl (Below.refl _ _) rfl)
              case oR2_3 =>
                intro f lo hi w hb hx hf hk hrg R hR; (try replace hb := BelX.zero hb); (try simp (decide := true) only [go_sem] at hf); (try simp (decide := true) only [go_sem] at hk)
                obtain ⟨e0, e1, e2, e3⟩ := (hb.blk kxz (fun r hr => by simp at hr; subst hr; simp only; omega)).four'
                go_simp
                exact hR _ _ (rpost_val rfl rfl (Below.refl _ _) rfl)
              case oR2_4 => intro f lo hi w hb hx hf hk hrg R hR; (try replace hb := BelX.zero hb); (try simp (decide := true) only [go_sem] at hf); (try simp (decide := true) only [go_sem] at hk); go_simp; exact hR _ _ (rpost_val rfl rfl (Below.refl _ _) rfl)
              case oR2_5 => intro f lo hi w hb hx hf hk hrg R hR; (try replace hb := BelX.zero hb); (try simp (decide := true) only [go_sem] at hf); (try simp (decide := true) only [go_sem] at hk); go_simp; exact hR _ _ (rpost_val rfl rfl (Below.refl _ _) rfl)
              case oR2_6 =>
                intro f lo hi w hb hx hf hk hrg R hR; (try replace hb := BelX.zero hb); (try simp (decide := true) only [go_sem] at hf); (try simp (decide := true) only [go_sem] at hk)
                obtain ⟨-, kb⟩ := hf
                obtain ⟨e0, e1, e2, e3⟩ := kb.four'
                have fz := kb.frozen
                have p1 : lo 9 = _ := (XOk.get _ _ hx 0 _ rfl).1
                have p2 : hi 9 = _ := (XOk.get _ _ hx 0 _ rfl).2
                go_simp
                refine hR _ _ (rpost_some rfl rfl (Touch.set4 w (List.mem_singleton.2 rfl) (Nat.le_of_eq p1) (by rw [p2]; exact Nat.lt_succ_self _) _ _ _ _) ?_)
                (try simp (decide := true) only [go_sem])
                exact kb.set4 _ _ _ _
              case oR2_7 => intro f lo hi w hb hx hf hk hrg R hR; (try replace hb := BelX.zero hb); (try simp (decide := true) only [go_sem] at hf); (try simp (decide := true) only [go_sem] at hk); go_simp; exact hR _ _ (rpost_val rfl rfl (Below.refl _ _) rfl)
              case oR2_8 => intro f lo hi w hb hx hf hk hrg R hR; (try replace hb := BelX.zero hb); (try simp (decide := true) only [go_sem] at hf); (try simp (decide := true) only [go_sem] at hk); go_simp; exact hR _ _ (rpost_val rfl rfl (Below.refl _ _) rfl)
              case hcl =>
                refine ⟨Closed.true _ _ _ _, Closed.true _ _ _ _, Closed.true _ _ _ _, Closed.true _ _ _ _, Closed.true _ _ _ _, Closed.true _ _ _ _, ?cR2_6, Closed.true _ _ _ _, Closed.true _ _ _ _, ?cR2_9, trivial⟩
                all_goals first
                  | exact fun f lo hi v b0 b1 w w' h hs hB hown hU hX => (hX 0 _ rfl (by simp) _ (Nat.le_refl _) (Nat.lt_succ_self _)).trans h
                  | exact fun f lo hi v b0 b1 w w' h hs hB hown hU hX => by
                      obtain ⟨⟨rfl, rfl⟩, kb⟩ := h
                      exact ⟨⟨rfl, rfl⟩, (hown _ (Nat.le_refl _) (Nat.lt_succ_self _)).trans kb⟩
              intro f lo hi W7 hbr hx hf hk hrg; (try replace hbr := BelX.zero hbr); clear hx; (try simp (decide := true) only [go_sem] at hf); (try simp (decide := true) only [go_sem] at hk)
              have hold : ∀ q, q < wr.heap.size → q ≠ J → W7.heap[q]? = wr.heap[q]? := fun q h1 h2 => hbr.2.2.2.2 q ⟨h1, fun r hr => by simp at hr; subst hr; simp only; omega⟩
              have pm7 := wmz.put hf ⟨hsoz.own.keep fun b e _ q => hold b q (fun e' => hsoz.own.ne_blk wmz.blk (by decide) (by rw [e, ← e']; rfl)), hsoz.len, hsoz.small⟩ hrn256 hbr.2.2.2.1 hold ⟨hbr.1, hbr.2.1, hbr.2.2.1⟩
              clear hrg hbr hf hold wmz kxz hsoz x0 x1 x2 x3 i0
              go_simp
              clear hk
              go_wp2_with fail
              go_roundw
              case rel => exact ⟨i + 1, 256 - rn, st.garb, sb.drop st.used, ra, rn, rc, kk, by congr 1; rw [IntKind.wrap_i64]; omega, rfl, by go_num, by omega, by omega, pm7⟩
              case measure => simp [intOf]; omega
    · obtain rfl : i = 30 := by omega
      go_wp2_with ((go_at_call 14; (with_reducible refine (awake_yes _).mono ?_); rintro e w20 ⟨rfl, hb20⟩))
      go_ret
      exact ⟨rfl, (by repeat (first | (with_reducible refine Below.setCell ?_ ?_ _) | (with_reducible refine Below.alloc ?_ ?_ _) | (with_reducible refine Below.drew ?_) | (with_reducible refine below_drewN ?_ _) | (with_reducible exact Below.refl _ _) | (with_reducible refine Below.trans ?_ (Below.mono hb20 ?_)) | (with_reducible refine Below.trans ?_ (Below.mono wm.be ?_)) | (focus (simp; done)) | (focus (simp; omega)) | (focus omega) | (focus (have q0 := Below.size hb20; (try simp at q0); have q1 := Below.size wm.be; (try simp at q1); (try simp); omega))))⟩
end Go.Proofs.Ytlfccoakodnbaaa
