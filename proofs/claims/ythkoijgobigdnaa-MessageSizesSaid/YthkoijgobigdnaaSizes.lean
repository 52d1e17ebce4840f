import Derived.Test.YthkoijgobigdnaaMade
import Derived.Test.YthkoijgobigdnaaAwake
import Derived.Outline
namespace Go.Proofs.Ythkoijgobigdnaa
open Go.RowKit Go.Sort
set_option maxRecDepth 20000

def grpN1 (k : Int) : Nat := if k = 6 ∨ k = 7 ∨ k = 18 ∨ k = 19 then 1 else 0
theorem shpOf_grp (k : Int) : 0 < (shpOf k).grp ↔ (k = 6 ∨ k = 7 ∨ k = 18 ∨ k = 19) := by
  unfold shpOf
  repeat' split
  all_goals simp only
  all_goals omega
/-- how long payloads are -/
theorem pay_len {m : Msg} (h : m.Ok) : m.pay.length = m.tok.length + m.dat.length + grpN1 m.kind + (encL m.args).length := by
  obtain ⟨k, tok, args, dat⟩ := m
  obtain ⟨s, hs⟩ : ∃ s, shpOf k = s := ⟨_, rfl⟩
  have so := shpOf_ok k
  have sg := shpOf_grp k
  have hg := h.grp
  simp only [hs] at hg so sg
  have hle : s.fix ≤ args.length := by
    unfold grpOk at hg
    split at hg <;> omega
  have hb := grpN_bd so hg
  have hf := so.fix
  obtain ⟨l, m2, rfl, hl⟩ : ∃ l m2, args = l ++ m2 ∧ (l.length : Int) = s.fix := ⟨args.take s.fix.toNat, args.drop s.fix.toNat, (List.take_append_drop _ _).symm, by rw [List.length_take]; omega⟩
  rw [pay_two hs hl]
  have e : (gCode s (grpN s (l ++ m2).length) l.length).length = grpN1 k := by
    unfold gCode grpN1
    by_cases h0 : 0 < s.grp
    · rw [if_pos ⟨hl, h0⟩, if_pos (sg.1 h0), vEnc_lt (by omega)]
      rfl
    · rw [if_neg (fun q => h0 q.2), if_neg (fun q => h0 (sg.2 q))]
      rfl
  rw [List.length_append, List.length_append, List.length_append, List.length_append, e, encL_app, List.length_append]
  simp only
  omega
theorem pay_tok {m : Msg} : m.pay.take m.tok.length = m.tok := by unfold Msg.pay; simp
theorem pay_dat {m : Msg} : m.pay.drop (m.pay.length - m.dat.length) = m.dat := by
  unfold Msg.pay
  rw [List.length_append]
  have : (m.tok ++ encFrom (shpOf m.kind) (grpN (shpOf m.kind) ↑m.args.length) 0 m.args).length + m.dat.length - m.dat.length = (m.tok ++ encFrom (shpOf m.kind) (grpN (shpOf m.kind) ↑m.args.length) 0 m.args).length := by omega
  rw [this]
  simp
theorem vlen_step {x : Nat} (h : 128 ≤ x) : (vEnc x).length = (vEnc (x / 128)).length + 1 := by rw [vEnc_ge h]; simp
theorem forSrv_tok {m : Msg} (h : m.Ok) : forSrv m.kind = decide (0 < m.tok.length) := by
  have ht := h.tok
  have hk := h.kind
  rw [shpOf_tok hk.1 hk.2] at ht
  unfold forSrv
  rw [Bool.eq_iff_iff]
  simp
  split at ht <;> omega

set_option maxHeartbeats 4000000 in
theorem messageSizes_walk (a0 : Option Addr) (c0 : Nat) (l0 : List Int) (w : World) (h0 : Ints w a0 l0) (n0 : l0.length ≤ 9223372036854775807) :
    Calls Try.prog 7 #[.slice a0 l0.length c0] w fun e w' => e = .returned (.bool true) ∧ Below w.heap.size w w' := by
  go_enter Try.func7, Try.ntmps7
  go_upto_region 2 with (first | (go_at_call 12; (with_reducible refine (mk_New a0 c0 l0 _ h0 n0).mono ?_); rintro e w1 ⟨rfl, hd1, hb1⟩) | (go_at_call 11; (with_reducible refine (law_made _ _ _ _ hd1).mono ?_); rintro e w2 ⟨m, k2, v, rfl, ⟨ta, tc, aa, ac, da, dc, rfl, hat⟩, mk1, mk2, mok, hd2, g2⟩; (have be2 : RowKit.Below w.heap.size w w2 := hb1.grown g2 (by have := hb1.size; omega) (fun k hk => by injection hk with hk; omega))))
  obtain ⟨kind, tok, args, dat⟩ := m
  simp only at *
  refine wp_named (fun W => Blk W w2.heap.size 27 #[.int .i64 kind, .slice ta tok.length tc, .slice aa args.length ac, .slice da dat.length dc] ∧ MsgAt W ⟨kind, tok, args, dat⟩ ta tc aa da ∧ RowKit.Below w.heap.size w W) ⟨Blk.new _ _ _, ⟨hat.tok.alloc _, hat.args.alloc _, hat.dat.alloc _, hat.nil, hat.len⟩, (by repeat (first | (with_reducible refine Below.setCell ?_ ?_ _) | (with_reducible refine Below.alloc ?_ ?_ _) | (with_reducible refine Below.drew ?_) | (with_reducible refine below_drewN ?_ _) | (with_reducible exact Below.refl _ _) | (with_reducible refine Below.trans ?_ (Below.mono be2 ?_)) | (focus (simp; done)) | (focus (simp; omega)) | (focus omega) | (focus (have q0 := Below.size be2; (try simp at q0); (try simp); omega))))⟩ ?_
  rintro W ⟨kb, kat, kbe⟩
  clear hat hd1 hd2 g2 hb1 be2
  obtain ⟨q0, q1, q2, q3⟩ := kb.four
  have ql := kb.lt
  by_cases hok : Msg.Ok ⟨kind, tok, args, dat⟩
  · have hpl := pay_len hok
    have hk := hok.kind
    have hargs := hok.args
    have hF := forSrv_tok hok
    have hpt := pay_tok (m := ⟨kind, tok, args, dat⟩)
    have hpd := pay_dat (m := ⟨kind, tok, args, dat⟩)
    have hplen := hok.plen
    obtain ⟨pl, hpp⟩ : ∃ pl, Msg.pay ⟨kind, tok, args, dat⟩ = pl := ⟨_, rfl⟩
    simp only at hpl hk hF hpt hpd hplen hargs
    rw [hpp] at hpl hpt hpd hplen
    obtain ⟨N, hN⟩ : ∃ N, pl.length = N := ⟨_, rfl⟩
    rw [hN] at hpl hpd hplen
    have HPP := Lib.hid hpp
    have HN := Lib.hid hN
    have HPL := Lib.hid hpl
    have HPT := Lib.hid hpt
    have HPD := Lib.hid hpd
    have HF := Lib.hid hF
    have HA := Lib.hid hargs
    have HOK := Lib.hid hok
    have hD : dat.length ≤ N := by omega
    have hT : tok.length ≤ N := by omega
    have la := hok.lens
    simp only at la
    clear hpp hN hpl hpt hpd hF hargs hok
    have hg : ((kind == 6) = true ∧ grpN1 kind = 1) ∨ ((kind == 6) = false ∧ (kind == 7) = true ∧ grpN1 kind = 1) ∨ ((kind == 6) = false ∧ (kind == 7) = false ∧ (kind == 18) = true ∧ grpN1 kind = 1) ∨ ((kind == 6) = false ∧ (kind == 7) = false ∧ (kind == 18) = false ∧ (kind == 19) = true ∧ grpN1 kind = 1) ∨ ((kind == 6) = false ∧ (kind == 7) = false ∧ (kind == 18) = false ∧ (kind == 19) = false ∧ grpN1 kind = 0) := by
      unfold grpN1
      simp only [beq_iff_eq, beq_eq_false_iff_ne]
      by_cases a1 : kind = 6 <;> by_cases a2 : kind = 7 <;> by_cases a3 : kind = 18 <;> by_cases a4 : kind = 19 <;> simp [a1, a2, a3, a4] <;> omega
    have HG := Lib.hid hg
    clear hg
    rcases HG.out with ⟨k6, gq⟩ | ⟨k6, k7, gq⟩ | ⟨k6, k7, k8, gq⟩ | ⟨k6, k7, k8, k9, gq⟩ | ⟨k6, k7, k8, k9, gq⟩
    all_goals
      have HGv := Lib.hid gq
      clear gq HG
      go_wp2_with (first | (go_at_call 19; (with_reducible refine (msg_Encode ⟨kind, tok, args, dat⟩ ta tc aa da ac dc _ kat rfl rfl rfl).mono ?_); rintro e w3 h3; (obtain ⟨-, pa, pn, pc, rfl, hpn, own3, hb3⟩ := h3.resolve_right (fun h => h.1 HOK.out); (obtain rfl : N = pn := by rw [hpn, HPP.out, HN.out]); (rw [HPP.out] at own3); clear h3 hpn; (have kb3 := kb.below hb3 ql); obtain ⟨u0, u1, u2, u3⟩ := kb3.four; (have kat3 : MsgAt w3 ⟨kind, tok, args, dat⟩ ta tc aa da := ⟨kat.tok.below hb3 (Nat.le_refl _), kat.args.below hb3 (Nat.le_refl _), kat.dat.below hb3 (Nat.le_refl _), kat.nil, kat.len⟩); (have kl3 := kb3.lt))))
      have be3 : RowKit.Below w.heap.size w w3 := (by repeat (first | (with_reducible refine Below.setCell ?_ ?_ _) | (with_reducible refine Below.alloc ?_ ?_ _) | (with_reducible refine Below.drew ?_) | (with_reducible refine below_drewN ?_ _) | (with_reducible exact Below.refl _ _) | (with_reducible refine Below.trans ?_ (Below.mono kbe ?_)) | (with_reducible refine Below.trans ?_ (Below.mono hb3 ?_)) | (focus (simp; done)) | (focus (simp; omega)) | (focus omega) | (focus (have q0 := Below.size kbe; (try simp at q0); have q1 := Below.size hb3; (try simp at q1); (try simp); omega))))
      have ia : Ints w3 aa args := kat3.args
      go_loop [6, 8, 55] (fun n x i => ∃ s k : Nat, k ≤ args.length ∧ i = .int .i64 k ∧ n = .int .i64 s ∧ s + (encL (args.drop k)).length = N) (fun _ _ i => args.length - (intOf i).toNat)
      case atStart => exact ⟨_, 0, Nat.zero_le _, rfl, by first | rfl | go_num, by have := HPL.out; have := HGv.out; simp; omega⟩
      case round =>
        obtain ⟨s, k, hk, rfl, rfl, hsk⟩ := hrel
        have HSK := Lib.hid hsk
        have hs200 : s ≤ 200 := by omega
        clear hsk
        by_cases hlt : k < args.length
        · rcases ia.open with h | ⟨b, off, rfl, hbl, hc⟩
          · rw [h] at hlt; simp at hlt
          have hck := hc k hlt
          have hax := HA.out _ (List.getElem_mem hlt)
          obtain ⟨y, hy⟩ := Int.eq_ofNat_of_zero_le hax.1
          rw [hy] at hck
          have hyb : y ≤ 4294967295 := by have := hax.2; omega
          have HSK2 : Hid (s + (vEnc y).length + (encL (args.drop (k + 1))).length = N) := by
            show _ = _
            rw [← HSK.out, List.drop_eq_getElem_cons hlt]
            simp [encL, hy]
            omega
          clear hy hax hc
          go_wp2
          go_loop [6, 8] (fun n x => ∃ s2 x2 : Nat, n = .int .i64 s2 ∧ x = .int .i64 x2 ∧ x2 ≤ 4294967295 ∧ s2 + (vEnc x2).length = s + (vEnc y).length + 1) (fun _ x => (intOf x).toNat)
          case atStart => exact ⟨s + 1, y, by go_num, rfl, hyb, by omega⟩
          case round =>
            obtain ⟨s2, x2, rfl, rfl, hx2, hsx⟩ := hrel
            have HSX := Lib.hid hsx
            have hl2 : s2 ≤ 300 := by have := HSX.out; have := HSK2.out; omega
            clear hsx
            by_cases h128 : 128 ≤ x2
            · have hi128 : (128 : Int) ≤ (x2 : Int) := by omega
              have HV := Lib.hid (vlen_step h128)
              go_wp2
              go_round
              case rel => exact ⟨s2 + 1, x2 / 128, by go_num, by go_num, by omega, by have := HSX.out; have := HV.out; omega⟩
              case measure => simp [intOf]; omega
            · have hi128 : ¬ ((128 : Int) ≤ (x2 : Int)) := by omega
              have HV : Hid ((vEnc x2).length = 1) := by
                show _ = _
                rw [vEnc_lt (by omega)]; rfl
              go_wp2
              go_round
              case rel => exact ⟨s2, k + 1, by omega, by go_num, rfl, by have := HSX.out; have := HV.out; have := HSK2.out; omega⟩
              case measure => simp [intOf]; omega
        · have hsN : N = s := by have := HSK.out; rw [List.drop_eq_nil_of_le (by omega)] at this; simpa [encL] using this.symm
          subst hsN
          go_upto_region 16 with fail
          have hcap := own3.cap_le
          obtain ⟨X, hX⟩ : ∃ X, N - dat.length = X := ⟨_, rfl⟩
          have hXN : X + dat.length = N := by omega
          have HPD2 : Hid (pl.drop X = dat) := by
            show _ = _
            rw [← hX]; exact HPD.out
          have brest := byt_rest own3.byt (by rw [HN.out]; exact hcap) (show X ≤ pl.length by rw [HN.out]; omega) (fun h => by have := own3.none_len h; rw [HN.out]; exact this)
          rw [HPD2.out, HN.out] at brest
          obtain ⟨ra, hra⟩ : ∃ ra, (if pc = X then pa else Option.map (fun x => x.add X) pa) = ra := ⟨_, rfl⟩
          rw [hra] at brest
          have btok : Byt w3 pa tok := by
            have := own3.byt.take tok.length
            rwa [HPT.out] at this
          have e1 : IntKind.i64.wrap ((N : Int) - (dat.length : Int)) = (X : Int) := by rw [IntKind.wrap_i64]; omega
          have x0 : (0 : Int) ≤ (X : Int) := by omega
          have x1 : (X : Int) ≤ (N : Int) := by omega
          have t1 : (tok.length : Int) ≤ (pc : Int) := by omega
          have t0 : (0 : Int) ≤ (tok.length : Int) := by omega
          obtain ⟨fb, hfb⟩ : ∃ fb, decide (0 < tok.length) = fb := ⟨_, rfl⟩
          have fsE : ∀ W, Calls Try.prog 21 #[.int .i64 kind] W fun e w' => e = .returned (.bool fb) ∧ W = w' := fun W => by
            have := msg_ForServer kind W
            rwa [HF.out, hfb] at this
          obtain ⟨s1, hs1⟩ : ∃ s : ByteArray, s = ⟨tok.toArray⟩ := ⟨_, rfl⟩
          obtain ⟨s2, hs2⟩ : ∃ s : ByteArray, s = ⟨dat.toArray⟩ := ⟨_, rfl⟩
          have HS1 := Lib.hid hs1
          have HS2 := Lib.hid hs2
          have HX := Lib.hid hX
          have kA : ∀ d os, (convert 22 9 (.slice pa tok.length pc)).run Try.prog (grow (redrawn w3 d) os) = .ok (.string s1) (grow (redrawn w3 d) os) := fun d os => by
            rw [HS1.out]
            exact conv_str (btok.below (below_regrown w3 d os) (Nat.le_refl _)) rfl
          have kB : ∀ d os, (convert 22 9 (.slice ta tok.length tc)).run Try.prog (grow (redrawn w3 d) os) = .ok (.string s1) (grow (redrawn w3 d) os) := fun d os => by
            rw [HS1.out]
            exact conv_str (kat3.tok.below (below_regrown w3 d os) (Nat.le_refl _)) rfl
          have kC : ∀ d os, (convert 22 9 (.slice ra (N - X) (pc - X))).run Try.prog (grow (redrawn w3 d) os) = .ok (.string s2) (grow (redrawn w3 d) os) := fun d os => by
            rw [HS2.out]
            exact conv_str (brest.1.below (below_regrown w3 d os) (Nat.le_refl _)) (by have := HX.out; omega)
          have kD : ∀ d os, (convert 22 9 (.slice da dat.length dc)).run Try.prog (grow (redrawn w3 d) os) = .ok (.string s2) (grow (redrawn w3 d) os) := fun d os => by
            rw [HS2.out]
            exact conv_str (kat3.dat.below (below_regrown w3 d os) (Nat.le_refl _)) rfl
          have rr : ∀ (d : Nat) (os : Array Obj) (o : Nat), (grow (redrawn w3 d) os).cell? ⟨w2.heap.size, o, none⟩ = w3.cell? ⟨w2.heap.size, o, none⟩ := fun d os o => cells_regrown _ _ _ _ _ kl3
          clear hs1 hs2 hX hXN brest btok hlt
          (refine wp_region_quiet_below (by kernel_rfl) (by kernel_rfl) ?_; (repeat (go_big_quiet_step (first | (go_at_call 21; exact qg (fsE _)) | (go_at_call 10; exact qb (awake_yes _))))); refine wpQuiet_nil ?_; intro wq hwq; have hbq := below_of_regrown hwq; clear hwq)
          clear e1
          go_wp2
          go_ret
          exact ⟨rfl, be3.trans (hbq.mono be3.size)⟩
  · go_wp2_with (first | (go_at_call 19; (with_reducible refine (msg_Encode ⟨kind, tok, args, dat⟩ ta tc aa da ac dc _ kat rfl rfl rfl).mono ?_); rintro e w3 h3; (obtain ⟨-, rfl, hb3⟩ := h3.resolve_left (fun h => hok h.1)); (have kb3 := kb.below hb3 ql); obtain ⟨u0, u1, u2, u3⟩ := kb3.four; (have kat3 : MsgAt w3 ⟨kind, tok, args, dat⟩ ta tc aa da := ⟨kat.tok.below hb3 (Nat.le_refl _), kat.args.below hb3 (Nat.le_refl _), kat.dat.below hb3 (Nat.le_refl _), kat.nil, kat.len⟩); (have kl3 := kb3.lt)) | (go_at_call 20; (with_reducible refine (msg_Valid ⟨kind, tok, args, dat⟩ ta tc aa da ac dc _ kat3 rfl rfl rfl).mono ?_); rintro e w4 ⟨h4, hb4⟩; (obtain ⟨-, rfl⟩ := h4.resolve_left (fun h => hok h.1))) | (go_at_call 10; (with_reducible refine (awake_yes _).mono ?_); rintro e w5 ⟨rfl, hb5⟩))
    go_ret
    exact ⟨rfl, (by repeat (first | (with_reducible refine Below.setCell ?_ ?_ _) | (with_reducible refine Below.alloc ?_ ?_ _) | (with_reducible refine Below.drew ?_) | (with_reducible refine below_drewN ?_ _) | (with_reducible exact Below.refl _ _) | (with_reducible refine Below.trans ?_ (Below.mono hb5 ?_)) | (with_reducible refine Below.trans ?_ (Below.mono hb4 ?_)) | (with_reducible refine Below.trans ?_ (Below.mono hb3 ?_)) | (with_reducible refine Below.trans ?_ (Below.mono kbe ?_)) | (focus (simp; done)) | (focus (simp; omega)) | (focus omega) | (focus (have q0 := Below.size hb5; (try simp at q0); have q1 := Below.size hb4; (try simp at q1); have q2 := Below.size hb3; (try simp at q2); have q3 := Below.size kbe; (try simp at q3); (try simp); omega))))⟩
end Go.Proofs.Ythkoijgobigdnaa
