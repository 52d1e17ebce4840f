/- signalbrokerref05.numbers -/
import Derived.Test.YthkoijgobigdnaaDecode
import Derived.Test.YthkoijgobigdnaaRefEnc
import Derived.Test.YthkoijgobigdnaaMade
namespace Go.Proofs.Ythkoijgobigdnaa
open Go.RowKit Go.Sort
set_option maxRecDepth 20000

set_option maxHeartbeats 2000000 in
theorem ref05_numbers (n : Nat) (a : Option Addr) (b : List UInt8) (m c : Nat) (w_0 : World) (hb : Byt w_0 a b) (hm : m = b.length) (hc : m ≤ c) (hl : b.length ≤ 1000000) (hnil : a = none → m = 0 ∧ c = 0) (hn : n ≤ 1000) :
    Calls Try.prog 35 #[.slice a m c, .int .i64 n] w_0 (NumR n a b w_0) := by
  subst hm
  go_enter Try.func35, Try.ntmps35
  go_wp2_with fail
  go_loopw [12, 0, 7] (fun i v x wr => ∃ (j : Nat) (l : List Int) (r : List UInt8) (ra : Option Addr) (rc : Nat) (xa : Option Addr) (xc : Nat), j ≤ n ∧ i = .int .i64 j ∧ v = .slice ra r.length rc ∧ x = .slice xa j xc ∧ Own wr w_0.heap.size 3 1 xa j xc (l.map encI) ∧ (∀ w0 : World, Byt w0 a b → Byt w0 ra r) ∧ r.length ≤ rc ∧ r.length ≤ 1000000 ∧ (ra = none → r.length = 0 ∧ rc = 0) ∧ Below w_0.heap.size w_0 wr ∧ rdN n b = (rdN (n - j) r).map (fun p => (l ++ p.1, p.2))) (fun i _ _ _ => n - (intOf i).toNat)
  case atStart => exact ⟨0, [], b, a, c, _, _, Nat.zero_le _, rfl, rfl, rfl, Own.nil _ _ _ _, fun _ h => h, hc, hl, hnil, (by repeat (first | (with_reducible refine Below.setCell ?_ ?_ _) | (with_reducible refine Below.alloc ?_ ?_ _) | (with_reducible refine Below.drew ?_) | (with_reducible refine below_drewN ?_ _) | (with_reducible exact Below.refl _ _) | (focus (simp; done)) | (focus (simp; omega)) | (focus omega))), by simp⟩
  case round =>
    obtain ⟨j, l, r, ra, rc, xa, xc, hj, rfl, rfl, rfl, own, hsub0, hrc, hrl, hrn, hbel, hrd⟩ := hrel
    have br := hsub0 w_0 hb
    have HSUB := Lib.hid hsub0
    clear hsub0
    have HRD := Lib.hid hrd
    clear hrd
    by_cases hlt : j < n
    · obtain ⟨q, hq⟩ : ∃ q, n - j = q + 1 := ⟨n - j - 1, by omega⟩
      cases hv : vDec r with
      | none =>
        have HN : Hid (rdN n b = none) := by
          show _ = _
          rw [HRD.out, hq, rdN_none hv]
          rfl
        have fD : ∀ W, Byt W ra r → Calls Try.prog 42 #[.slice ra r.length rc] W fun e w' => e = .returned (.tuple #[.int .i64 0, .int .i64 0, .int .i64 6]) ∧ W = w' := fun W h => by
          have := ref02_Decode ra r r.length rc W h rfl (by omega)
          rw [decV_none hv] at this
          exact this
        clear hq hv
        go_wp2_with (first | (go_at_call 42; (with_reducible refine (fD _ (br.below hbel (Nat.le_refl _))).mono ?_); rintro e w' ⟨rfl, rfl⟩))
        exact bodyPost_ret (v := .tuple #[.slice none 0 0, .slice none 0 0, .bool false]) (by simp [results, Try.results35, go_sem]) rfl (.inr ⟨HN.out, rfl, hbel⟩)
      | some vk =>
        obtain ⟨v, k⟩ := vk
        obtain ⟨o1, o2, o3, o4⟩ := vDec_only hv
        have o5 := vEnc_pos v
        rcases br.open with rfl | ⟨bb, off, rfl, hbl, _⟩
        · simp at o2; omega
        have fD : ∀ W, Byt W (some ⟨bb, off, none⟩) r → Calls Try.prog 42 #[.slice (some ⟨bb, off, none⟩) r.length rc] W fun e w' => e = .returned (.tuple #[.int .i64 v, .int .i64 k, .int .i64 0]) ∧ W = w' := fun W h => by
          have := ref02_Decode _ r r.length rc W h rfl (by omega)
          rw [decV_some hv] at this
          exact this
        have HR2 : Hid (rdN n b = (rdN (n - (j + 1)) (r.drop k)).map (fun p => ((l ++ [(v : Int)]) ++ p.1, p.2))) := by
          show _ = _
          rw [HRD.out, hq, rdN_some hv, show n - (j + 1) = q by omega, Option.map_map]
          congr 1
          funext p
          simp
        have HBD := Lib.hid (show ∀ w0 : World, Byt w0 a b → Byt w0 (some ⟨bb, off + k, none⟩) (r.drop k) from fun w0 h0 => (HSUB.out w0 h0).drop k)
        have hk : k ≤ r.length := o2
        have ld : (r.drop k).length = r.length - k := List.length_drop
        clear hq hv o3 o4 o5 o2
        go_upto_region 7 with (first | (go_at_call 42; (with_reducible refine (fD _ (br.below hbel (Nat.le_refl _))).mono ?_); rintro e w' ⟨rfl, rfl⟩))
        have hsz := hbel.size
        obtain ⟨gl, gh, x1, x2, x3, x4⟩ : ∃ gl gh, gl ≤ gh ∧ gh ≤ wr.heap.size ∧ ((gl = 0 ∧ gh = 0) ∨ w_0.heap.size ≤ gl) ∧ ∀ k, xa.map (·.block) = some k ↔ gl ≤ k ∧ k < gh := by
          cases haa : xa with
          | none => exact ⟨0, 0, Nat.le_refl _, Nat.zero_le _, .inl ⟨rfl, rfl⟩, fun k => by simp⟩
          | some ad =>
            have q1 := own.base_le ad.block (by rw [haa]; rfl)
            have q2 := own.lt' ad.block (by rw [haa]; rfl)
            exact ⟨ad.block, ad.block + 1, by omega, by omega, .inr q1, fun k => by simp; omega⟩
        have HX4 := Lib.hid x4
        clear x4
        apply wp_region_tab [(gl, gh)] 9 32 [some 22, some 23, some 24, some 25, some 26, some 27, some 28, some 7, some 0] [⟨[9], [], [], []⟩, ⟨[9], [], [], []⟩, ⟨[1, 9], [1], [1], []⟩, ⟨[0, 1, 2, 9], [0, 2, 9], [0, 2, 9], [9]⟩, ⟨[9], [], [], []⟩, ⟨[9], [], [], []⟩, ⟨[4, 5, 9], [4, 5], [4, 5], []⟩, ⟨[0, 1, 2, 3, 9], [3], [3], []⟩, ⟨[0, 1, 2, 3, 4, 5, 6, 7, 9], [6], [6], []⟩, ⟨[], [], [], []⟩] [0, 1, 2, 3, 4, 5, 6, 7, 8] [3, 7, 8] [psiTrue, psiTrue, (fun f lo hi z b0 b1 W => ∃ (b : Nat), z = .slice (some ⟨b, 0, none⟩) 1 1 ∧ b0 ≤ b ∧ b < b1 ∧ Blk W b 3 #[.int .i64 v]), (fun f lo hi z b0 b1 W => ∃ (a : Option Addr) (c : Nat), z = .slice a (j + 1) c ∧ Own W w_0.heap.size 3 1 a (j + 1) c ((l ++ [(v : Int)]).map encI) ∧ ∀ k, a.map (·.block) = some k → (gl ≤ k ∧ k < gh) ∨ (b0 ≤ k ∧ k < b1)), psiTrue, psiTrue, psiTrue, (fun f _ _ v _ _ _ => v = f 3), psiTrue, (fun f lo hi v b0 b1 W => (b0 = gl ∧ b1 = gh) ∧ Own W w_0.heap.size 3 1 xa j xc (l.map encI))] [kVal _, kVal _, kTrue, kTrue, kVal _, kVal _, kVal _, kTrue, kVal _]
        · kernel_rfl
        · kernel_rfl
        · rfl
        · rfl
        rotate_left 2
        refine ⟨?oR1_0, ?oR1_1, ?oR1_2, ?oR1_3, ?oR1_4, ?oR1_5, ?oR1_6, ?oR1_7, ?oR1_8, trivial⟩
        case hx => exact ⟨⟨by omega, by omega⟩, by simp, trivial⟩
        case hX => exact ⟨fun _ _ _ _ => ⟨⟨rfl, rfl⟩, own⟩, trivial⟩
        case oR1_0 => intro f lo hi w hb hx hf hk hrg R hR; (try replace hb := BelX.zero hb); (try simp (decide := true) only [go_sem] at hf); (try simp (decide := true) only [go_sem] at hk); go_simp; exact hR _ _ (rpost_val rfl rfl (Below.refl _ _) rfl)
        case oR1_1 => intro f lo hi w hb hx hf hk hrg R hR; (try replace hb := BelX.zero hb); (try simp (decide := true) only [go_sem] at hf); (try simp (decide := true) only [go_sem] at hk); go_simp; exact hR _ _ (rpost_val rfl rfl (Below.refl _ _) rfl)
        case oR1_2 =>
          intro f lo hi w hb hx hf hk hrg R hR; (try replace hb := BelX.zero hb); (try simp (decide := true) only [go_sem] at hf); (try simp (decide := true) only [go_sem] at hk)
          go_simp
          refine hR _ _ (rpost_none rfl (by repeat (first | (with_reducible refine Below.setCell ?_ ?_ _) | (with_reducible refine Below.alloc ?_ ?_ _) | (with_reducible refine Below.drew ?_) | (with_reducible refine below_drewN ?_ _) | (with_reducible exact Below.refl _ _) | (focus (simp; done)) | (focus (simp; omega)) | (focus omega))) ?_)
          (try simp (decide := true) only [go_sem])
          exact ⟨_, rfl, Nat.le_refl _, by simp, Blk.new _ _ _⟩
        case oR1_3 =>
          intro f lo hi w hb hx hf hk hrg R hR; (try replace hb := BelX.zero hb); (try simp (decide := true) only [go_sem] at hf); (try simp (decide := true) only [go_sem] at hk)
          obtain ⟨⟨b, h11, hb1, hb2, kb⟩, -, own⟩ := hf
          have ix : Ints w (some ⟨b, 0, none⟩) [(v : Int)] := kb.rowL (enc := encI) (l := [(v : Int)])
          have hsz : wr.heap.size ≤ w.heap.size := hb.2.2.2.1
          refine obl_appI w_0.heap.size xa j xc l ?_ (some ⟨b, 0, none⟩) 1 1 [(v : Int)] ?_ own ix rfl (j + 1) rfl (by omega) (by omega) ?_
          · go_simp
          · go_simp
          intro b2 c2 w2 own2 g2
          refine hR _ _ (rpost_some rfl rfl (Grew.touch g2 fun k hk' => ⟨9, by simp, ?_⟩) ?_)
          · obtain ⟨q1, q2⟩ : lo 9 = gl ∧ hi 9 = gh := XOk.get _ _ hx 0 _ rfl
            have h4 := (HX4.out k).1 hk'
            omega
          (try simp (decide := true) only [go_sem])
          refine ⟨_, _, rfl, own2, fun k hk' => ?_⟩
          rcases g2.2.1 with e | e
          · exact .inl ((HX4.out k).1 (e ▸ hk'))
          · rw [e] at hk'
            exact .inr ⟨by injection hk' with hk'; omega, own2.lt' k (e ▸ hk')⟩
        case oR1_4 => intro f lo hi w hb hx hf hk hrg R hR; (try replace hb := BelX.zero hb); (try simp (decide := true) only [go_sem] at hf); (try simp (decide := true) only [go_sem] at hk); go_simp; exact hR _ _ (rpost_val rfl rfl (Below.refl _ _) rfl)
        case oR1_5 => intro f lo hi w hb hx hf hk hrg R hR; (try replace hb := BelX.zero hb); (try simp (decide := true) only [go_sem] at hf); (try simp (decide := true) only [go_sem] at hk); go_simp; exact hR _ _ (rpost_val rfl rfl (Below.refl _ _) rfl)
        case oR1_6 => intro f lo hi w hb hx hf hk hrg R hR; (try replace hb := BelX.zero hb); (try simp (decide := true) only [go_sem] at hf); (try simp (decide := true) only [go_sem] at hk); go_simp; exact hR _ _ (rpost_val rfl rfl (Below.refl _ _) rfl)
        case oR1_8 => intro f lo hi w hb hx hf hk hrg R hR; (try replace hb := BelX.zero hb); (try simp (decide := true) only [go_sem] at hf); (try simp (decide := true) only [go_sem] at hk); go_simp; exact hR _ _ (rpost_val rfl rfl (Below.refl _ _) rfl)
        case oR1_7 => intro f lo hi w hb hx hf hk hrg R hR; (try replace hb := BelX.zero hb); (try simp (decide := true) only [go_sem] at hf); (try simp (decide := true) only [go_sem] at hk); go_simp; exact hR _ _ (rpost_none rfl (Below.refl _ _) rfl)
        case hcl =>
          refine ⟨Closed.true _ _ _ _, Closed.true _ _ _ _, ?cR1_2, ?cR1_3, Closed.true _ _ _ _, Closed.true _ _ _ _, Closed.true _ _ _ _, ?cR1_7, Closed.true _ _ _ _, ?cR1_9, trivial⟩
          · exact fun f lo hi z b0 b1 w w' h hs hB hown hU hX => by
              obtain ⟨b, rfl, h2, h3, h6⟩ := h
              exact ⟨b, rfl, h2, h3, (hown b h2 h3).trans h6⟩
          · exact fun f lo hi z b0 b1 w w' h hs hB hown hU hX => by
              obtain ⟨a, c, h1, own, lt⟩ := h
              exact ⟨a, c, h1, own.keep fun b hb hl _ => (lt b (by rw [hb]; rfl)).elim (fun h => hX 0 _ rfl (by simp) b h.1 h.2) (fun h => hown b h.1 h.2), lt⟩
          · exact fun _ _ _ _ _ _ _ _ h _ _ _ _ _ => h
          · exact fun f lo hi z b0 b1 w w' h hs hB hown hU hX => by
              obtain ⟨⟨rfl, rfl⟩, own⟩ := h
              exact ⟨⟨rfl, rfl⟩, own.keep fun b hb hl _ => by have := (HX4.out b).1 (by rw [hb]; rfl); exact hown b this.1 this.2⟩
        intro f lo hi W7 hbr hx hf hk hrg; (try replace hbr := BelX.zero hbr); clear hx; (try simp (decide := true) only [go_sem] at hf); (try simp (decide := true) only [go_sem] at hk)
        obtain ⟨⟨xb, xc', h25, own1, lt1⟩, h7⟩ := hf
        rw [h25] at h7
        have hb1 : RowKit.Below w_0.heap.size w_0 W7 := ⟨hbr.1.trans hbel.os, hbr.2.1.trans hbel.tape, hbr.2.2.1.trans hbel.output, Nat.le_trans hsz hbr.2.2.2.1, fun q hq => (hbr.2.2.2.2 q ⟨by omega, fun r hr => by simp at hr; subst hr; simp only; omega⟩).trans (hbel.block q hq)⟩
        clear hrg hbr lt1 HX4 own
        go_simp
        go_wp2_with fail
        go_roundw
        case rel =>
          refine ⟨j + 1, l ++ [(v : Int)], r.drop k, (if rc = k then some ⟨bb, off, none⟩ else some ⟨bb, off + k, none⟩), rc - k, xb, xc', by omega, by go_num, by rw [ld], rfl, own1, ?_, by omega, by omega, ?_, hb1, HR2.out⟩
          · intro w0 h0
            split
            · rw [List.drop_eq_nil_of_le (by omega)]; exact Byt.nil _ _
            · exact HBD.out w0 h0
          · intro h
            split at h <;> cases h
        case measure => simp [intOf]; omega
    · have hjn : j = n := by omega
      have HN : Hid (rdN n b = some (l, r)) := by
        show _ = _
        rw [HRD.out, hjn, Nat.sub_self, rdN]
        simp
      subst hjn
      go_wp2
      exact bodyPost_ret (v := .tuple #[.slice xa j xc, .slice ra r.length rc, .bool true]) (by simp [results, Try.results35, go_sem]) rfl (.inl ⟨l, r, xa, xc, ra, _, rc, HN.out, rfl, rfl, hrc, own, HSUB.out, hrn, hbel⟩)
end Go.Proofs.Ythkoijgobigdnaa
