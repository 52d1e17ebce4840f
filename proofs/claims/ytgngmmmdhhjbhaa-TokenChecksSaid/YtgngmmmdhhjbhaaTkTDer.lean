/- token.Derive (written by gen/mkder.py) -/
import Derived.Test.YtgngmmmdhhjbhaaTkDer
namespace Go.Proofs.Ytgngmmmdhhjbhaa
set_option linter.unusedVariables false
open Go.RowKit Go.Sort
set_option maxRecDepth 100000

theorem token_usedE {l : List Tk} {s : Int} {b : Bool} (hu : Hid (tU (l.map Tk.key) s = b)) (a : Option Addr) (n c : Nat) (w : World) (h : Tks w a l) (hn : n = l.length) :
    Calls Try.prog 42 #[.slice a n c, .int .i64 s] w fun e w' => e = .returned (.bool b) ∧ w = w' := by
  have := token_used a l n c s w h hn
  rw [hu.out] at this
  exact this
theorem unused_1 (us : Bool) (a : Option Addr) (n c : Nat) (par rt cl un : Int) (w : World) : Calls Try.prog 46 #[tkAgg us a n c par rt cl un] w fun e w' => e = .returned (.bool !us) ∧ Below w.heap.size w w' := by
  cases us
  all_goals
    go_enter Try.func46, Try.ntmps46
    go_wp2
    go_ret
    exact ⟨rfl, (by repeat (first | (with_reducible refine Below.setCell ?_ ?_ _) | (with_reducible refine Below.alloc ?_ ?_ _) | (with_reducible refine Below.drew ?_) | (with_reducible refine below_drewN ?_ _) | (with_reducible exact Below.refl _ _) | (focus (simp; done)) | (focus (simp; omega)) | (focus omega)))⟩
def TIdxR (l : List Tk) (w : World) (e : Ending) (w' : World) : Prop :=
  ∃ r : Int, e = .returned (.int .i64 r) ∧ Hid ((r = -1 ∧ ∀ k (h : k < l.length), l[k].us = true) ∨ ∃ (i : Nat) (h : i < l.length), r = i ∧ l[i].us = false ∧ ∀ k (h : k < l.length), k < i → l[k].us = true) ∧ Below w.heap.size w w'
set_option maxHeartbeats 4000000 in
theorem indexFunc_Tk (a : Option Addr) (l : List Tk) (n c : Nat) (w : World) (h : Tks w a l) (hn : n = l.length) (l9 : n ≤ 10000) :
    Calls Try.prog 45 #[.slice a n c, .func (.func 46) #[] #[]] w (TIdxR l w) := by
  subst hn
  go_enter Try.func45, Try.ntmps45
  go_wp2
  go_loopw [8] (fun s8 wr => ∃ i : Nat, s8 = .int .i64 i ∧ i ≤ l.length ∧ Hid (∀ k (h : k < l.length), k < i → l[k].us = true) ∧ RowKit.Below w.heap.size w wr) (fun s _ => l.length - (intOf s).toNat)
  case atStart => exact ⟨0, rfl, by omega, Lib.hid fun k _ h => by omega, (by repeat (first | (with_reducible refine Below.setCell ?_ ?_ _) | (with_reducible refine Below.alloc ?_ ?_ _) | (with_reducible refine Below.drew ?_) | (with_reducible refine below_drewN ?_ _) | (with_reducible exact Below.refl _ _) | (focus (simp; done)) | (focus (simp; omega)) | (focus omega)))⟩
  case round =>
    obtain ⟨i, rfl, hi, ho, be⟩ := hrel
    by_cases hlt : i < l.length
    · have kx : (i : Int) < (l.length : Int) := by omega
      obtain ⟨ba, oa, rfl⟩ := h.open (by omega)
      obtain ⟨x0, x1, x2, x3, x4, x5, xb⟩ := row_tok (h.below be (Nat.le_refl _)).row i hlt
      obtain ⟨x, hx⟩ : ∃ x, l[i] = x := ⟨_, rfl⟩
      rw [hx] at x0 x1 x2 x3 x4 x5
      have HX := Lib.hid hx
      clear hx
      obtain ⟨us, sec, par, rt, cl, un, la, lc⟩ := x
      simp only at x0 x1 x2 x3 x4 x5
      cases us with
      | false =>
        go_wp2_with ((go_at_call 46; (with_reducible refine (unused_1 false la sec.length lc par rt cl un _).mono ?_); rintro e w2 ⟨rfl, hb2⟩))
        go_ret
        exact ⟨i, rfl, Lib.hid (.inr ⟨i, hlt, rfl, by rw [HX.out], ho.out⟩), (by repeat (first | (with_reducible refine Below.setCell ?_ ?_ _) | (with_reducible refine Below.alloc ?_ ?_ _) | (with_reducible refine Below.drew ?_) | (with_reducible refine below_drewN ?_ _) | (with_reducible exact Below.refl _ _) | (with_reducible refine Below.trans ?_ (Below.mono hb2 ?_)) | (with_reducible refine Below.trans ?_ (Below.mono be ?_)) | (focus (simp; done)) | (focus (simp; omega)) | (focus omega) | (focus (have q0 := Below.size hb2; (try simp at q0); have q1 := Below.size be; (try simp at q1); (try simp); omega))))⟩
      | true =>
        have HALL : Hid (∀ k (h : k < l.length), k < i + 1 → l[k].us = true) := Lib.hid (fun k hk q => by
          by_cases e : k = i
          · subst e; rw [HX.out]
          · exact ho.out k hk (by omega))
        go_wp2_with ((go_at_call 46; (with_reducible refine (unused_1 true la sec.length lc par rt cl un _).mono ?_); rintro e w2 ⟨rfl, hb2⟩))
        go_roundw
        case rel => exact ⟨i + 1, by go_num, by omega, HALL, (by repeat (first | (with_reducible refine Below.setCell ?_ ?_ _) | (with_reducible refine Below.alloc ?_ ?_ _) | (with_reducible refine Below.drew ?_) | (with_reducible refine below_drewN ?_ _) | (with_reducible exact Below.refl _ _) | (with_reducible refine Below.trans ?_ (Below.mono hb2 ?_)) | (with_reducible refine Below.trans ?_ (Below.mono be ?_)) | (focus (simp; done)) | (focus (simp; omega)) | (focus omega) | (focus (have q0 := Below.size hb2; (try simp at q0); have q1 := Below.size be; (try simp at q1); (try simp); omega))))⟩
        case measure => simp [intOf]; omega
    · obtain rfl : i = l.length := by omega
      go_wp2_with fail
      go_ret
      exact ⟨-1, rfl, Lib.hid (.inl ⟨rfl, fun k hk => ho.out k hk hk⟩), be⟩
set_option maxHeartbeats 8000000 in
theorem token_Derive (a : Option Addr) (l : List Tk) (n c : Nat) (parent rights class_ life : Int) (sa : Option Addr) (sec : List UInt8) (sn sc : Nat) (now : Int) (w : World) (h : TkG w a l c) (hn : n = l.length) (hs : Byt w sa sec) (hsn : sn = sec.length) (hs9 : sn ≤ 100000) (hsnil : sa = none → sn = 0 ∧ sc = 0) :
    Calls Try.prog 18 #[.slice a n c, .int .i64 parent, .int .i64 rights, .int .i64 class_, .int .i64 life, .slice sa sn sc, .int .i64 now] w (TkE3 (derM (l.map Tk.key) parent rights class_ life sec now) w) := by
  have HN := Lib.hid hn
  have HSN := Lib.hid hsn
  have HSNIL := Lib.hid hsnil
  have HSL := Lib.hid (fun t (q : t ∈ l) => (show t.sec.length ≤ 100000 from (h.sec t q).2))
  clear hn hsn hsnil
  go_enter Try.func18, Try.ntmps18
  cases hv : valK (l.map Tk.key) with
  | false =>
    have HV := Lib.hid hv
    have HF := Lib.hid (derM_1 (k := l.map Tk.key) (parent := parent) (rights := rights) (class_ := class_) (life := life) (sec := sec) (now := now) (fun q => by rw [hv] at q; cases q.1))
    clear hv
    go_wp2_with ((go_at_call 29; (with_reducible refine (token_ValidE HV a n c _ h.tks HN.out).mono ?_); rintro e w1 ⟨rfl, hb⟩))
    refine bodyPost_ret (v := .tuple #[.slice none 0 0, .int .i64 0, .int .i64 _]) (by simp [results, Try.results18, go_sem]; rfl) rfl ?_
    exact TkE3.err HF.out hb
  | true =>
    have HV := Lib.hid hv
    by_cases h8 : sec.length = 8
    · have h8i : (sn : Int) = 8 := by have := HSN.out; omega
      by_cases hn0 : 0 ≤ now
      · have hn0' : ¬ now < 0 := by omega
        by_cases hn1 : now ≤ 1073741824
        · have hn1' : ¬ 1073741824 < now := by omega
          have H1 := Lib.hid (And.intro hv (And.intro h8 (And.intro hn0 hn1)))
          have hl8 : l.length = 8 := by have := (valK_iff.1 hv).1; simpa using this
          have H8 := Lib.hid hl8
          clear hv h8 hl8
          cases hu : tU (l.map Tk.key) parent with
          | false =>
            have HF := Lib.hid (derM_12 (rights := rights) (class_ := class_) (life := life) H1.out hu)
            have HU := Lib.hid hu
            clear hu
            go_wp2_with (first | (go_at_call 29; (with_reducible refine (token_ValidE HV a n c _ h.tks HN.out).mono ?_); rintro e w1 ⟨rfl, hb⟩; (have hus := token_usedE HU a n c w1 (h.tks.below hb (Nat.le_refl _)) HN.out)) | (go_at_call 42; (with_reducible refine (hus).mono ?_); rintro e wz ⟨rfl, rfl⟩))
            refine bodyPost_ret (v := .tuple #[.slice none 0 0, .int .i64 0, .int .i64 _]) (by simp [results, Try.results18, go_sem]; rfl) rfl ?_
            exact TkE3.err HF.out hb
          | true =>
            obtain ⟨p, rfl, hpl⟩ := tU_in hu
            have HU := Lib.hid hu
            clear hu
            have hpn : (p : Int) < (n : Int) := by have := HN.out; omega
            have HG := Lib.hid (gK_at hpl)
            go_upto_region 5 with (first | (go_at_call 29; (with_reducible refine (token_ValidE HV a n c _ h.tks HN.out).mono ?_); rintro e w1 ⟨rfl, hb⟩; (have hus := token_usedE HU a n c w1 (h.tks.below hb (Nat.le_refl _)) HN.out)) | (go_at_call 42; (with_reducible refine (hus).mono ?_); rintro e wz ⟨rfl, rfl⟩))
            have ht := h.tks.below hb (Nat.le_refl _)
            obtain ⟨ba, oa, rfl⟩ := ht.open (by omega)
            obtain ⟨x0, x1, x2, x3, x4, x5, xl⟩ := row_tok ht.row p hpl
            obtain ⟨x, hx⟩ : ∃ x, l[p] = x := ⟨_, rfl⟩
            rw [hx] at x0 x1 x2 x3 x4 x5 HG
            clear hx hus
            obtain ⟨us, psec, ppar, prt, pcl, pun, la, lc⟩ := x
            simp only at x0 x1 x2 x3 x4 x5
            go_upto_region 6 with fail
            obtain ⟨X, hX⟩ : ∃ X, w1.heap.size = X := ⟨_, rfl⟩
            refine wp_named (fun Z => Blk Z X 52 #[.bool us, .slice la psec.length lc, .int .i64 ppar, .int .i64 prt, .int .i64 pcl, .int .i64 pun] ∧ RowKit.Below w.heap.size w Z) ⟨by rw [← hX]; exact Blk.new _ _ _, (by repeat (first | (with_reducible refine Below.setCell ?_ ?_ _) | (with_reducible refine Below.alloc ?_ ?_ _) | (with_reducible refine Below.drew ?_) | (with_reducible refine below_drewN ?_ _) | (with_reducible exact Below.refl _ _) | (with_reducible refine Below.trans ?_ (Below.mono hb ?_)) | (focus (simp; done)) | (focus (simp; omega)) | (focus omega) | (focus (have q0 := Below.size hb; (try simp at q0); (try simp); omega))))⟩ ?_
            rw [hX]
            clear hX x0 x1 x2 x3 x4 x5 xl ht hb
            rintro Z ⟨kX, be⟩
            obtain ⟨v0, v1, v2, v3, v4, v5, vf, vl⟩ := kX.six
            have H8E : Hid (¬ (rWithin rights prt = true ∧ 0 ≤ class_ ∧ class_ ≤ pcl ∧ 0 ≤ life ∧ life ≤ 600) → derM (l.map Tk.key) p rights class_ life sec now = (8, 0, [])) := Lib.hid (fun q => derM_8 H1.out HU.out (by rw [HG.out]; exact q))
            cases hw : rWithin rights prt with
            | false =>
              have HF := Lib.hid (H8E.out (fun q => by rw [hw] at q; cases q.1))
              have HW := Lib.hid hw
              clear hw
              go_wp2_with ((go_at_call 43; (with_reducible refine (rights_WithinE HW _).mono ?_); rintro e wz ⟨rfl, rfl⟩))
              refine bodyPost_ret (v := .tuple #[.slice none 0 0, .int .i64 0, .int .i64 _]) (by simp [results, Try.results18, go_sem]; rfl) rfl ?_
              exact TkE3.err HF.out be
            | true =>
              have HW := Lib.hid hw
              have H8F := Lib.hid (fun (q : ¬ (0 ≤ class_ ∧ class_ ≤ pcl ∧ 0 ≤ life ∧ life ≤ 600)) => H8E.out (fun r => q r.2))
              have HWT := Lib.hid hw
              clear hw
              by_cases hc0 : 0 ≤ class_
              · have hc0' : ¬ class_ < 0 := by omega
                by_cases hc1 : class_ ≤ pcl
                · have hc1' : ¬ pcl < class_ := by omega
                  by_cases hl0 : 0 ≤ life
                  · have hl0' : ¬ life < 0 := by omega
                    by_cases hl1 : life ≤ 600
                    · have hl1' : ¬ 600 < life := by omega
                      have H3 : Hid (rWithin rights (gK (l.map Tk.key) (p : Int)).rt = true ∧ 0 ≤ class_ ∧ class_ ≤ (gK (l.map Tk.key) (p : Int)).cl ∧ 0 ≤ life ∧ life ≤ 600) := Lib.hid (by rw [HG.out]; exact ⟨HWT.out, hc0, hc1, hl0, hl1⟩)
                      obtain ⟨U, hU⟩ : ∃ U, untM life now = U := ⟨_, rfl⟩
                      have HUU := Lib.hid hU
                      clear hU
                      go_upto_if 69 with ((go_at_call 43; (with_reducible refine (rights_WithinE HW _).mono ?_); rintro e wz ⟨rfl, rfl⟩))
                      go_cut [18] (fun s18 wx => s18 = .int .i64 U ∧ Z = wx)
                      case first =>
                        by_cases hlp : 0 < life
                        · have hq : now + life = U := by rw [← HUU.out, untM, if_pos hlp]
                          go_wp2_with fail
                          go_meet
                          exact ⟨by simp, rfl⟩
                        · have hq : U = 0 := by rw [← HUU.out, untM, if_neg hlp]
                          subst hq
                          go_wp2_with fail
                          go_meet
                          exact ⟨rfl, rfl⟩
                      case rest =>
                        obtain ⟨rfl, rfl⟩ := hcut
                        cases hlt : latB U pun with
                        | true =>
                          have HF := Lib.hid (derM_8b H1.out HU.out H3.out (by rw [HG.out, HUU.out]; exact hlt))
                          have HL := Lib.hid hlt
                          clear hlt
                          go_wp2_with ((go_at_call 44; (with_reducible refine (token_laterE HL _).mono ?_); rintro e wz ⟨rfl, rfl⟩))
                          refine bodyPost_ret (v := .tuple #[.slice none 0 0, .int .i64 0, .int .i64 _]) (by simp [results, Try.results18, go_sem]; rfl) rfl ?_
                          exact TkE3.err HF.out be
                        | false =>
                          have HR := Lib.hid (derM_rest H1.out HU.out H3.out (by rw [HG.out, HUU.out]; exact hlt))
                          rw [HUU.out] at HR
                          have HL := Lib.hid hlt
                          clear hlt
                          go_upto_region 14 with (first | (go_at_call 44; (with_reducible refine (token_laterE HL _).mono ?_); rintro e wz ⟨rfl, rfl⟩) | (go_at_call 45; (with_reducible refine (indexFunc_Tk _ l n c _ (h.tks.below be (Nat.le_refl _)) HN.out (by have := HN.out; have := h.n; omega)).mono ?_); rintro e w2 ⟨r, rfl, hr, hb2⟩))
                          have be2 : RowKit.Below w.heap.size w w2 := (by repeat (first | (with_reducible refine Below.setCell ?_ ?_ _) | (with_reducible refine Below.alloc ?_ ?_ _) | (with_reducible refine Below.drew ?_) | (with_reducible refine below_drewN ?_ _) | (with_reducible exact Below.refl _ _) | (with_reducible refine Below.trans ?_ (Below.mono hb2 ?_)) | (with_reducible refine Below.trans ?_ (Below.mono be ?_)) | (focus (simp; done)) | (focus (simp; omega)) | (focus omega) | (focus (have q0 := Below.size hb2; (try simp at q0); have q1 := Below.size be; (try simp at q1); (try simp); omega))))
                          clear v0 v1 v2 v3 v4 v5 vf vl kX be hb2
                          rcases hr.out with ⟨rfl, hno⟩ | ⟨i, hil, rfl, hus, ho⟩
                          · have HF := HR.out
                            rw [free_none (fun k hk => hno k hk)] at HF
                            have HF2 := Lib.hid HF
                            clear HF hno
                            go_wp2_with fail
                            refine bodyPost_ret (v := .tuple #[.slice none 0 0, .int .i64 0, .int .i64 _]) (by simp [results, Try.results18, go_sem]; rfl) rfl ?_
                            exact TkE3.err HF2.out be2
                          · have HF := HR.out
                            rw [free_at hil hus ho] at HF
                            have HF2 := Lib.hid HF
                            clear HF hus ho
                            have hin : (i : Int) < (n : Int) := by have := HN.out; omega
                            have hnb : n ≤ 20 := by have := HN.out; have := h.n; omega
                            have hr := h.tks.below be2 (Nat.le_refl _)
                            have hsb := hs.below be2 (Nat.le_refl _)
                            go_upto_region 17 with ((go_at_call 47; (with_reducible refine (token_clone _ l n c _ hr HN.out (by omega) h.nil h.sec).mono ?_); rintro e w3 ⟨xa, xc, l2, rfl, hk, hn2, il, hb3⟩))
                            have be3 : RowKit.Below w.heap.size w w3 := (by repeat (first | (with_reducible refine Below.setCell ?_ ?_ _) | (with_reducible refine Below.alloc ?_ ?_ _) | (with_reducible refine Below.drew ?_) | (with_reducible refine below_drewN ?_ _) | (with_reducible exact Below.refl _ _) | (with_reducible refine Below.trans ?_ (Below.mono hb3 ?_)) | (with_reducible refine Below.trans ?_ (Below.mono be2 ?_)) | (focus (simp; done)) | (focus (simp; omega)) | (focus omega) | (focus (have q0 := Below.size hb3; (try simp at q0); have q1 := Below.size be2; (try simp at q1); (try simp); omega))))
                            have il2 := il.mono be2.size
                            have hsb3 := hsb.below hb3 (Nat.le_refl _)
                            have hi2 : i < l2.length := by have := hn2.out; have := HN.out; omega
                            obtain ⟨g, rfl, gB, -⟩ := il2.own.open_ (by omega)
                            go_wp2_with ((go_at_call 48; (with_reducible refine (clone_E sa sn sc sec _ hsb3 HSN.out (by have := HSN.out; omega) HSNIL.out).mono ?_); rintro e w4 ⟨ob, oc, rfl, ownO, hb4⟩; ((have il4 := il2.below hb4); (obtain ⟨y0, y1, y2, y3, y4, y5, yl⟩ := row_tok il4.own.row i hi2); (simp only [Nat.zero_add] at y0 y1 y2 y3 y4 y5); (have yf := il4.own.frozen))))
                            have hsnn := HSN.out
                            have ownO2 := ownO.mono be3.size
                            rw [hsnn] at ownO2
                            have fin := il4.setTok hi2 ⟨true, sec, p, rights, class_, U, ob, oc⟩ ownO2
                            rw [← hsnn] at fin
                            have be4 : RowKit.Below w.heap.size w w4 := (by repeat (first | (with_reducible refine Below.setCell ?_ ?_ _) | (with_reducible refine Below.alloc ?_ ?_ _) | (with_reducible refine Below.drew ?_) | (with_reducible refine below_drewN ?_ _) | (with_reducible exact Below.refl _ _) | (with_reducible refine Below.trans ?_ (Below.mono hb4 ?_)) | (with_reducible refine Below.trans ?_ (Below.mono be3 ?_)) | (focus (simp; done)) | (focus (simp; omega)) | (focus omega) | (focus (have q0 := Below.size hb4; (try simp at q0); have q1 := Below.size be3; (try simp at q1); (try simp); omega))))
                            refine bodyPost_ret (v := .tuple #[.slice (some ⟨g, 0, none⟩) n xc, .int .i64 i, .int .i64 0]) (by simp [results, Try.results18, go_sem]) rfl ?_
                            exact ⟨_, n, xc, _, i, 0, rfl, Lib.hid (by rw [HF2.out, List.map_set, hk.out]; rfl), Lib.hid (by rw [List.length_set]; exact hn2.out), fin, be4.grown ((((((grownBy_set _ g _ _).trans (grownBy_set _ g _ _)).trans (grownBy_set _ g _ _)).trans (grownBy_set _ g _ _)).trans (grownBy_set _ g _ _)).trans (grownBy_set _ g _ _)) be4.size (fun k hk => by injection hk with hk; omega)⟩
                    · have hl1' : 600 < life := by omega
                      have HF := Lib.hid (H8F.out (by omega))
                      go_wp2_with ((go_at_call 43; (with_reducible refine (rights_WithinE HW _).mono ?_); rintro e wz ⟨rfl, rfl⟩))
                      refine bodyPost_ret (v := .tuple #[.slice none 0 0, .int .i64 0, .int .i64 _]) (by simp [results, Try.results18, go_sem]; rfl) rfl ?_
                      exact TkE3.err HF.out be
                  · have hl0' : life < 0 := by omega
                    have HF := Lib.hid (H8F.out (by omega))
                    go_wp2_with ((go_at_call 43; (with_reducible refine (rights_WithinE HW _).mono ?_); rintro e wz ⟨rfl, rfl⟩))
                    refine bodyPost_ret (v := .tuple #[.slice none 0 0, .int .i64 0, .int .i64 _]) (by simp [results, Try.results18, go_sem]; rfl) rfl ?_
                    exact TkE3.err HF.out be
                · have hc1' : pcl < class_ := by omega
                  have HF := Lib.hid (H8F.out (by omega))
                  go_wp2_with ((go_at_call 43; (with_reducible refine (rights_WithinE HW _).mono ?_); rintro e wz ⟨rfl, rfl⟩))
                  refine bodyPost_ret (v := .tuple #[.slice none 0 0, .int .i64 0, .int .i64 _]) (by simp [results, Try.results18, go_sem]; rfl) rfl ?_
                  exact TkE3.err HF.out be
              · have hc0' : class_ < 0 := by omega
                have HF := Lib.hid (H8F.out (by omega))
                go_wp2_with ((go_at_call 43; (with_reducible refine (rights_WithinE HW _).mono ?_); rintro e wz ⟨rfl, rfl⟩))
                refine bodyPost_ret (v := .tuple #[.slice none 0 0, .int .i64 0, .int .i64 _]) (by simp [results, Try.results18, go_sem]; rfl) rfl ?_
                exact TkE3.err HF.out be
        · have hn1' : 1073741824 < now := by omega
          have HF := Lib.hid (derM_1 (k := l.map Tk.key) (parent := parent) (rights := rights) (class_ := class_) (life := life) (sec := sec) (now := now) (fun q => by have := q.2.2.2; omega))
          clear hv
          go_wp2_with ((go_at_call 29; (with_reducible refine (token_ValidE HV a n c _ h.tks HN.out).mono ?_); rintro e w1 ⟨rfl, hb⟩))
          refine bodyPost_ret (v := .tuple #[.slice none 0 0, .int .i64 0, .int .i64 _]) (by simp [results, Try.results18, go_sem]; rfl) rfl ?_
          exact TkE3.err HF.out hb
      · have hn0' : now < 0 := by omega
        have HF := Lib.hid (derM_1 (k := l.map Tk.key) (parent := parent) (rights := rights) (class_ := class_) (life := life) (sec := sec) (now := now) (fun q => by have := q.2.2.1; omega))
        clear hv
        go_wp2_with ((go_at_call 29; (with_reducible refine (token_ValidE HV a n c _ h.tks HN.out).mono ?_); rintro e w1 ⟨rfl, hb⟩))
        refine bodyPost_ret (v := .tuple #[.slice none 0 0, .int .i64 0, .int .i64 _]) (by simp [results, Try.results18, go_sem]; rfl) rfl ?_
        exact TkE3.err HF.out hb
    · have h8i : ¬ (sn : Int) = 8 := by have := HSN.out; omega
      have h8j : ((sn : Int) == 8) = false := by rw [beq_eq_false_iff_ne]; exact h8i
      have HF := Lib.hid (derM_1 (k := l.map Tk.key) (parent := parent) (rights := rights) (class_ := class_) (life := life) (sec := sec) (now := now) (fun q => h8 q.2.1))
      clear hv
      go_wp2_with ((go_at_call 29; (with_reducible refine (token_ValidE HV a n c _ h.tks HN.out).mono ?_); rintro e w1 ⟨rfl, hb⟩))
      refine bodyPost_ret (v := .tuple #[.slice none 0 0, .int .i64 0, .int .i64 _]) (by simp [results, Try.results18, go_sem]; rfl) rfl ?_
      exact TkE3.err HF.out hb
end Go.Proofs.Ytgngmmmdhhjbhaa
