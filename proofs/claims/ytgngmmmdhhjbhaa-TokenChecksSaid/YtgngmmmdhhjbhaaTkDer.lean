/- what Derive computes; signalbrokerref14.Derive (written by gen/mkder.py) -/
import Derived.Test.YtgngmmmdhhjbhaaTkRev
namespace Go.Proofs.Ytgngmmmdhhjbhaa
set_option linter.unusedVariables false
open Go.RowKit Go.Sort
set_option maxRecDepth 100000

def TkE3 (M : Int × Int × List TkK) (w : World) (e : Ending) (w' : World) : Prop :=
  ∃ (xa : Option Addr) (n xc : Nat) (l2 : List Tk) (s er : Int), e = .returned (.tuple #[.slice xa n xc, .int .i64 s, .int .i64 er]) ∧ Hid (M = (er, s, l2.map Tk.key)) ∧ Hid (n = l2.length) ∧ TkL w' w.heap.size l2 xa xc ∧ Below w.heap.size w w'
theorem TkE3.err {M : Int × Int × List TkK} {w w' : World} {er : Int} (h : M = (er, 0, [])) (hb : Below w.heap.size w w') : TkE3 M w (.returned (.tuple #[.slice none 0 0, .int .i64 0, .int .i64 er])) w' := ⟨none, 0, 0, [], 0, er, rfl, Lib.hid h, Lib.hid rfl, TkL.nil _ _, hb⟩
def untM (life now : Int) : Int := if 0 < life then now + life else 0
def derM (k : List TkK) (parent rights class_ life : Int) (sec : List UInt8) (now : Int) : Int × Int × List TkK :=
  if ¬ (valK k = true ∧ sec.length = 8 ∧ 0 ≤ now ∧ now ≤ 1073741824) then (1, 0, [])
  else if tU k parent = false then (12, 0, [])
  else if ¬ (rWithin rights (gK k parent).rt = true ∧ 0 ≤ class_ ∧ class_ ≤ (gK k parent).cl ∧ 0 ≤ life ∧ life ≤ 600) then (8, 0, [])
  else if latB (untM life now) (gK k parent).un = true then (8, 0, [])
  else match k.findIdx? (fun t => !t.us) with
  | none => (10, 0, [])
  | some i => (0, (i : Int), k.set i ⟨true, sec, parent, rights, class_, untM life now⟩)
section
variable {k : List TkK} {parent rights class_ life now : Int} {sec : List UInt8}
theorem derM_1 (h : ¬ (valK k = true ∧ sec.length = 8 ∧ 0 ≤ now ∧ now ≤ 1073741824)) : derM k parent rights class_ life sec now = (1, 0, []) := by unfold derM; rw [if_pos h]
variable (h1 : valK k = true ∧ sec.length = 8 ∧ 0 ≤ now ∧ now ≤ 1073741824)
include h1
theorem derM_12 (h : tU k parent = false) : derM k parent rights class_ life sec now = (12, 0, []) := by unfold derM; rw [if_neg (not_not_intro h1), if_pos h]
variable (h2 : tU k parent = true)
include h2
theorem derM_8 (h : ¬ (rWithin rights (gK k parent).rt = true ∧ 0 ≤ class_ ∧ class_ ≤ (gK k parent).cl ∧ 0 ≤ life ∧ life ≤ 600)) : derM k parent rights class_ life sec now = (8, 0, []) := by
  unfold derM; rw [if_neg (not_not_intro h1), if_neg (by rw [h2]; decide), if_pos h]
variable (h3 : rWithin rights (gK k parent).rt = true ∧ 0 ≤ class_ ∧ class_ ≤ (gK k parent).cl ∧ 0 ≤ life ∧ life ≤ 600)
include h3
theorem derM_8b (h : latB (untM life now) (gK k parent).un = true) : derM k parent rights class_ life sec now = (8, 0, []) := by
  unfold derM; rw [if_neg (not_not_intro h1), if_neg (by rw [h2]; decide), if_neg (not_not_intro h3), if_pos h]
variable (h4 : latB (untM life now) (gK k parent).un = false)
include h4
theorem derM_rest : derM k parent rights class_ life sec now = match k.findIdx? (fun t => !t.us) with
  | none => (10, 0, [])
  | some i => (0, (i : Int), k.set i ⟨true, sec, parent, rights, class_, untM life now⟩) := by
  unfold derM; rw [if_neg (not_not_intro h1), if_neg (by rw [h2]; decide), if_neg (not_not_intro h3), if_neg (by rw [h4]; decide)]
end
theorem free_none {l : List Tk} (h : ∀ k (h : k < l.length), l[k].us = true) : (l.map Tk.key).findIdx? (fun t => !t.us) = none := by
  rw [List.findIdx?_eq_none_iff]
  intro t ht
  obtain ⟨x, hx, rfl⟩ := List.mem_map.1 ht
  obtain ⟨k, hk, rfl⟩ := List.mem_iff_getElem.1 hx
  simp [Tk.key, h k hk]
theorem free_at {l : List Tk} {i : Nat} (hi : i < l.length) (hu : l[i].us = false) (h : ∀ k (h : k < l.length), k < i → l[k].us = true) : (l.map Tk.key).findIdx? (fun t => !t.us) = some i := by
  rw [List.findIdx?_eq_some_iff_getElem]
  refine ⟨by simpa using hi, by simp [Tk.key, hu], fun j hj => ?_⟩
  simp [Tk.key, h j (by omega) hj]
set_option maxHeartbeats 8000000 in
theorem ref14_Derive (a : Option Addr) (l : List Tk) (n c : Nat) (parent rights class_ life : Int) (sa : Option Addr) (sec : List UInt8) (sn sc : Nat) (now : Int) (w : World) (h : TkG w a l c) (hn : n = l.length) (hs : Byt w sa sec) (hsn : sn = sec.length) (hs9 : sn ≤ 100000) (hsnil : sa = none → sn = 0 ∧ sc = 0) :
    Calls Try.prog 19 #[.slice a n c, .int .i64 parent, .int .i64 rights, .int .i64 class_, .int .i64 life, .slice sa sn sc, .int .i64 now] w (TkE3 (derM (l.map Tk.key) parent rights class_ life sec now) w) := by
  have HN := Lib.hid hn
  have HSN := Lib.hid hsn
  have HSNIL := Lib.hid hsnil
  have HSL := Lib.hid (fun t (q : t ∈ l) => (show t.sec.length ≤ 100000 from (h.sec t q).2))
  clear hn hsn hsnil
  go_enter Try.func19, Try.ntmps19
  cases hv : valK (l.map Tk.key) with
  | false =>
    have HV := Lib.hid hv
    have HF := Lib.hid (derM_1 (k := l.map Tk.key) (parent := parent) (rights := rights) (class_ := class_) (life := life) (sec := sec) (now := now) (fun q => by rw [hv] at q; cases q.1))
    clear hv
    go_wp2_with ((go_at_call 35; (with_reducible refine (ref14_ValidE HV a n c _ h.tks HN.out).mono ?_); rintro e w1 ⟨rfl, hb⟩))
    refine bodyPost_ret (v := .tuple #[.slice none 0 0, .int .i64 0, .int .i64 _]) (by simp [results, Try.results19, go_sem]; rfl) rfl ?_
    exact TkE3.err HF.out hb
  | true =>
    have HV := Lib.hid hv
    by_cases h8 : sec.length = 8
    · have h8i : (sn : Int) = 8 := by have := HSN.out; omega
      by_cases hn0 : 0 ≤ now
      · have hn0' : ¬ now < 0 := by omega
        by_cases hn1 : now ≤ 1073741824
        · have hn1' : ¬ 1073741824 < now := by omega
          have H1 := Lib.hid (And.intro hv (And.intro h8 (And.intro hn0 hn1)))
          have hl8 : l.length = 8 := by have := (valK_iff.1 hv).1; simpa using this
          have H8 := Lib.hid hl8
          clear hv h8 hl8
          have herr12 : Hid (tU (l.map Tk.key) parent = false → derM (l.map Tk.key) parent rights class_ life sec now = (12, 0, [])) := Lib.hid (derM_12 H1.out)
          rcases Int.lt_or_le parent 0 with hp0 | hp0
          · have HF := Lib.hid (herr12.out (tU_neg hp0))
            go_wp2_with ((go_at_call 35; (with_reducible refine (ref14_ValidE HV a n c _ h.tks HN.out).mono ?_); rintro e w1 ⟨rfl, hb⟩))
            refine bodyPost_ret (v := .tuple #[.slice none 0 0, .int .i64 0, .int .i64 _]) (by simp [results, Try.results19, go_sem]; rfl) rfl ?_
            exact TkE3.err HF.out hb
          rcases Int.lt_or_le parent 8 with hp8 | hp8
          rotate_left
          · have HF := Lib.hid (herr12.out (tU_out (by have := H8.out; omega)))
            have hpn : (n : Int) ≤ parent := by have := HN.out; have := H8.out; omega
            have hp0' : ¬ parent < 0 := by omega
            go_wp2_with ((go_at_call 35; (with_reducible refine (ref14_ValidE HV a n c _ h.tks HN.out).mono ?_); rintro e w1 ⟨rfl, hb⟩))
            refine bodyPost_ret (v := .tuple #[.slice none 0 0, .int .i64 0, .int .i64 _]) (by simp [results, Try.results19, go_sem]; rfl) rfl ?_
            exact TkE3.err HF.out hb
          obtain ⟨p, rfl⟩ : ∃ p : Nat, parent = p := ⟨parent.toNat, by omega⟩
          have hpl : p < l.length := by have := H8.out; omega
          have hp0' : ¬ (p : Int) < 0 := by omega
          have hpn : (p : Int) < (n : Int) := by have := HN.out; have := H8.out; omega
          have hpn' : ¬ (n : Int) ≤ (p : Int) := by omega
          go_upto_region 3 with ((go_at_call 35; (with_reducible refine (ref14_ValidE HV a n c _ h.tks HN.out).mono ?_); rintro e w1 ⟨rfl, hb⟩))
          have ht := h.tks.below hb (Nat.le_refl _)
          obtain ⟨ba, oa, rfl⟩ := ht.open (by omega)
          obtain ⟨x0, x1, x2, x3, x4, x5, xl⟩ := row_tok ht.row p hpl
          have HU := Lib.hid (tU_at hpl)
          have HG := Lib.hid (gK_at hpl)
          obtain ⟨x, hx⟩ : ∃ x, l[p] = x := ⟨_, rfl⟩
          rw [hx] at x0 x1 x2 x3 x4 x5 HU HG
          clear hx
          obtain ⟨us, psec, ppar, prt, pcl, pun, la, lc⟩ := x
          simp only at x0 x1 x2 x3 x4 x5 HU
          cases us with
          | false =>
            have HF := Lib.hid (herr12.out HU.out)
            go_wp2_with fail
            refine bodyPost_ret (v := .tuple #[.slice none 0 0, .int .i64 0, .int .i64 _]) (by simp [results, Try.results19, go_sem]; rfl) rfl ?_
            exact TkE3.err HF.out hb
          | true =>
            go_upto_region 6 with fail
            obtain ⟨X, hX⟩ : ∃ X, w1.heap.size = X := ⟨_, rfl⟩
            refine wp_named (fun Z => Blk Z X 52 #[.bool true, .slice la psec.length lc, .int .i64 ppar, .int .i64 prt, .int .i64 pcl, .int .i64 pun] ∧ RowKit.Below w.heap.size w Z) ⟨by rw [← hX]; exact Blk.new _ _ _, (by repeat (first | (with_reducible refine Below.setCell ?_ ?_ _) | (with_reducible refine Below.alloc ?_ ?_ _) | (with_reducible refine Below.drew ?_) | (with_reducible refine below_drewN ?_ _) | (with_reducible exact Below.refl _ _) | (with_reducible refine Below.trans ?_ (Below.mono hb ?_)) | (focus (simp; done)) | (focus (simp; omega)) | (focus omega) | (focus (have q0 := Below.size hb; (try simp at q0); (try simp); omega))))⟩ ?_
            rw [hX]
            clear hX x0 x1 x2 x3 x4 x5 xl ht hb
            rintro Z ⟨kX, be⟩
            obtain ⟨v0, v1, v2, v3, v4, v5, vf, vl⟩ := kX.six
            have H8E : Hid (¬ (rWithin rights prt = true ∧ 0 ≤ class_ ∧ class_ ≤ pcl ∧ 0 ≤ life ∧ life ≤ 600) → derM (l.map Tk.key) p rights class_ life sec now = (8, 0, [])) := Lib.hid (fun q => derM_8 H1.out HU.out (by rw [HG.out]; exact q))
            cases hw : rWithin rights prt with
            | false =>
              have HF := Lib.hid (H8E.out (fun q => by rw [hw] at q; cases q.1))
              have HW := Lib.hid hw
              clear hw
              go_wp2_with ((go_at_call 30; (with_reducible refine (ref13_WithinE HW _).mono ?_); rintro e wz ⟨rfl, rfl⟩))
              refine bodyPost_ret (v := .tuple #[.slice none 0 0, .int .i64 0, .int .i64 _]) (by simp [results, Try.results19, go_sem]; rfl) rfl ?_
              exact TkE3.err HF.out be
            | true =>
              have HW := Lib.hid hw
              have H8F := Lib.hid (fun (q : ¬ (0 ≤ class_ ∧ class_ ≤ pcl ∧ 0 ≤ life ∧ life ≤ 600)) => H8E.out (fun r => q r.2))
              have HWT := Lib.hid hw
              clear hw
              by_cases hc0 : 0 ≤ class_
              · have hc0' : ¬ class_ < 0 := by omega
                by_cases hc1 : class_ ≤ pcl
                · have hc1' : ¬ pcl < class_ := by omega
                  by_cases hl0 : 0 ≤ life
                  · have hl0' : ¬ life < 0 := by omega
                    by_cases hl1 : life ≤ 600
                    · have hl1' : ¬ 600 < life := by omega
                      have H3 : Hid (rWithin rights (gK (l.map Tk.key) (p : Int)).rt = true ∧ 0 ≤ class_ ∧ class_ ≤ (gK (l.map Tk.key) (p : Int)).cl ∧ 0 ≤ life ∧ life ≤ 600) := Lib.hid (by rw [HG.out]; exact ⟨HWT.out, hc0, hc1, hl0, hl1⟩)
                      obtain ⟨U, hU⟩ : ∃ U, untM life now = U := ⟨_, rfl⟩
                      have HUU := Lib.hid hU
                      clear hU
                      go_upto_if 82 with ((go_at_call 30; (with_reducible refine (ref13_WithinE HW _).mono ?_); rintro e wz ⟨rfl, rfl⟩))
                      go_cut [18] (fun s18 wx => s18 = .int .i64 U ∧ Z = wx)
                      case first =>
                        by_cases hlp : 0 < life
                        · have hq : now + life = U := by rw [← HUU.out, untM, if_pos hlp]
                          go_wp2_with fail
                          go_meet
                          exact ⟨by simp, rfl⟩
                        · have hq : U = 0 := by rw [← HUU.out, untM, if_neg hlp]
                          subst hq
                          go_wp2_with fail
                          go_meet
                          exact ⟨rfl, rfl⟩
                      case rest =>
                        obtain ⟨rfl, rfl⟩ := hcut
                        cases hlt : latB U pun with
                        | true =>
                          have HF := Lib.hid (derM_8b H1.out HU.out H3.out (by rw [HG.out, HUU.out]; exact hlt))
                          have HL := Lib.hid hlt
                          clear hlt
                          go_wp2_with ((go_at_call 49; (with_reducible refine (ref14_laterE HL _).mono ?_); rintro e wz ⟨rfl, rfl⟩))
                          refine bodyPost_ret (v := .tuple #[.slice none 0 0, .int .i64 0, .int .i64 _]) (by simp [results, Try.results19, go_sem]; rfl) rfl ?_
                          exact TkE3.err HF.out be
                        | false =>
                          have HR := Lib.hid (derM_rest H1.out HU.out H3.out (by rw [HG.out, HUU.out]; exact hlt))
                          rw [HUU.out] at HR
                          have HL := Lib.hid hlt
                          clear hlt
                          go_wp2_with ((go_at_call 49; (with_reducible refine (ref14_laterE HL _).mono ?_); rintro e wz ⟨rfl, rfl⟩))
                          clear v0 v1 v2 v3 v4 v5 vf vl kX
                          go_loopw [92] (fun s92 wr => ∃ i : Nat, s92 = .int .i64 i ∧ i ≤ n ∧ Hid (∀ k (h : k < l.length), k < i → l[k].us = true) ∧ RowKit.Below w.heap.size w wr) (fun s _ => n - (intOf s).toNat)
                          case atStart => exact ⟨0, rfl, by omega, Lib.hid fun k _ q => by omega, be⟩
                          case round =>
                            clear be
                            obtain ⟨i, rfl, hi, hall, be⟩ := hrel
                            have hnb : n = 8 := by have := HN.out; have := H8.out; omega
                            have HNB := Lib.hid hnb
                            have hn20 : n ≤ 20 := by omega
                            clear hnb
                            by_cases hin : i < n
                            · have hil : i < l.length := by rw [← HN.out]; exact hin
                              have kx : (i : Int) < (n : Int) := by omega
                              have hr := h.tks.below be (Nat.le_refl _)
                              obtain ⟨x0, x1, x2, x3, x4, x5, xl⟩ := row_tok hr.row i hil
                              have HUS := Lib.hid (show ∀ b, l[i].us = b → l[i].us = b from fun b e => e)
                              obtain ⟨x, hx⟩ : ∃ x, l[i] = x := ⟨_, rfl⟩
                              rw [hx] at x0 x1 x2 x3 x4 x5
                              have HX := Lib.hid hx
                              clear hx hr HUS
                              obtain ⟨us, fsec, par, rt, cl, un, la, lc⟩ := x
                              simp only at x0 x1 x2 x3 x4 x5
                              cases us with
                              | true =>
                                have HALL : Hid (∀ k (h : k < l.length), k < i + 1 → l[k].us = true) := Lib.hid (fun k hk q => by
                                  by_cases e : k = i
                                  · subst e; rw [HX.out]
                                  · exact hall.out k hk (by omega))
                                go_wp2_with fail
                                go_roundw
                                case rel => exact ⟨i + 1, by go_num, by omega, HALL, (by repeat (first | (with_reducible refine Below.setCell ?_ ?_ _) | (with_reducible refine Below.alloc ?_ ?_ _) | (with_reducible refine Below.drew ?_) | (with_reducible refine below_drewN ?_ _) | (with_reducible exact Below.refl _ _) | (with_reducible refine Below.trans ?_ (Below.mono be ?_)) | (focus (simp; done)) | (focus (simp; omega)) | (focus omega) | (focus (have q0 := Below.size be; (try simp at q0); (try simp); omega))))⟩
                                case measure => simp [intOf]; omega
                              | false =>
                                have HF := HR.out
                                rw [free_at hil (by rw [HX.out]) hall.out] at HF
                                have HF2 := Lib.hid HF
                                clear HF
                                go_upto_region 16 with fail
                                obtain ⟨X, hX⟩ : ∃ X, wr.heap.size = X := ⟨_, rfl⟩
                                refine wp_named (fun Z => RowKit.Below w.heap.size w Z) (by repeat (first | (with_reducible refine Below.setCell ?_ ?_ _) | (with_reducible refine Below.alloc ?_ ?_ _) | (with_reducible refine Below.drew ?_) | (with_reducible refine below_drewN ?_ _) | (with_reducible exact Below.refl _ _) | (with_reducible refine Below.trans ?_ (Below.mono be ?_)) | (focus (simp; done)) | (focus (simp; omega)) | (focus omega) | (focus (have q0 := Below.size be; (try simp at q0); (try simp); omega)))) ?_
                                clear hX x0 x1 x2 x3 x4 x5 xl be
                                rintro U1 be
                                have hr := h.tks.below be (Nat.le_refl _)
                                have hsb := hs.below be (Nat.le_refl _)
                                go_upto_region 17 with ((go_at_call 41; (with_reducible refine (ref14_Copy _ l n c _ hr HN.out (by omega) HSL.out).mono ?_); rintro e w2 ⟨xa, xc, l2, rfl, hk, hn2, il, hb2⟩))
                                have be2 : RowKit.Below w.heap.size w w2 := (by repeat (first | (with_reducible refine Below.setCell ?_ ?_ _) | (with_reducible refine Below.alloc ?_ ?_ _) | (with_reducible refine Below.drew ?_) | (with_reducible refine below_drewN ?_ _) | (with_reducible exact Below.refl _ _) | (with_reducible refine Below.trans ?_ (Below.mono hb2 ?_)) | (with_reducible refine Below.trans ?_ (Below.mono be ?_)) | (focus (simp; done)) | (focus (simp; omega)) | (focus omega) | (focus (have q0 := Below.size hb2; (try simp at q0); have q1 := Below.size be; (try simp at q1); (try simp); omega))))
                                have il2 := il.mono be.size
                                have hsb2 := hsb.below hb2 (Nat.le_refl _)
                                have hi2 : i < l2.length := by rw [← hn2.out]; exact hin
                                obtain ⟨g, rfl, gB, -⟩ := il2.own.open_ (by omega)
                                go_wp2_with ((at_builtin; refine appB0 rfl _ _ rfl sa sn sc sec rfl rfl hsb2 HSN.out (by omega) ?_; intro ob oc w4 ownO hb4; (have il4 := il2.below hb4); (obtain ⟨y0, y1, y2, y3, y4, y5, yl⟩ := row_tok il4.own.row i hi2); (simp only [Nat.zero_add] at y0 y1 y2 y3 y4 y5); (have yf := il4.own.frozen)))
                                have hsnn := HSN.out
                                have ownO2 := ownO.mono be2.size
                                rw [hsnn] at ownO2
                                have fin := il4.setTok hi2 ⟨true, sec, p, rights, class_, U, ob, oc⟩ ownO2
                                rw [← hsnn] at fin
                                have be4 : RowKit.Below w.heap.size w w4 := (by repeat (first | (with_reducible refine Below.setCell ?_ ?_ _) | (with_reducible refine Below.alloc ?_ ?_ _) | (with_reducible refine Below.drew ?_) | (with_reducible refine below_drewN ?_ _) | (with_reducible exact Below.refl _ _) | (with_reducible refine Below.trans ?_ (Below.mono hb4 ?_)) | (with_reducible refine Below.trans ?_ (Below.mono be2 ?_)) | (focus (simp; done)) | (focus (simp; omega)) | (focus omega) | (focus (have q0 := Below.size hb4; (try simp at q0); have q1 := Below.size be2; (try simp at q1); (try simp); omega))))
                                refine bodyPost_ret (v := .tuple #[.slice (some ⟨g, 0, none⟩) n xc, .int .i64 i, .int .i64 0]) (by simp [results, Try.results19, go_sem]) rfl ?_
                                exact ⟨_, n, xc, _, i, 0, rfl, Lib.hid (by rw [HF2.out, List.map_set, hk.out]; rfl), Lib.hid (by rw [List.length_set]; exact hn2.out), fin, be4.grown ((((((grownBy_set _ g _ _).trans (grownBy_set _ g _ _)).trans (grownBy_set _ g _ _)).trans (grownBy_set _ g _ _)).trans (grownBy_set _ g _ _)).trans (grownBy_set _ g _ _)) be4.size (fun k hk => by injection hk with hk; omega)⟩
                            · obtain rfl : i = n := by omega
                              have HF := HR.out
                              rw [free_none (fun k hk => hall.out k hk (by rw [HN.out]; exact hk))] at HF
                              have HF2 := Lib.hid HF
                              clear HF
                              go_wp2_with fail
                              refine bodyPost_ret (v := .tuple #[.slice none 0 0, .int .i64 0, .int .i64 _]) (by simp [results, Try.results19, go_sem]; rfl) rfl ?_
                              exact TkE3.err HF2.out be
                    · have hl1' : 600 < life := by omega
                      have HF := Lib.hid (H8F.out (by omega))
                      go_wp2_with ((go_at_call 30; (with_reducible refine (ref13_WithinE HW _).mono ?_); rintro e wz ⟨rfl, rfl⟩))
                      refine bodyPost_ret (v := .tuple #[.slice none 0 0, .int .i64 0, .int .i64 _]) (by simp [results, Try.results19, go_sem]; rfl) rfl ?_
                      exact TkE3.err HF.out be
                  · have hl0' : life < 0 := by omega
                    have HF := Lib.hid (H8F.out (by omega))
                    go_wp2_with ((go_at_call 30; (with_reducible refine (ref13_WithinE HW _).mono ?_); rintro e wz ⟨rfl, rfl⟩))
                    refine bodyPost_ret (v := .tuple #[.slice none 0 0, .int .i64 0, .int .i64 _]) (by simp [results, Try.results19, go_sem]; rfl) rfl ?_
                    exact TkE3.err HF.out be
                · have hc1' : pcl < class_ := by omega
                  have HF := Lib.hid (H8F.out (by omega))
                  go_wp2_with ((go_at_call 30; (with_reducible refine (ref13_WithinE HW _).mono ?_); rintro e wz ⟨rfl, rfl⟩))
                  refine bodyPost_ret (v := .tuple #[.slice none 0 0, .int .i64 0, .int .i64 _]) (by simp [results, Try.results19, go_sem]; rfl) rfl ?_
                  exact TkE3.err HF.out be
              · have hc0' : class_ < 0 := by omega
                have HF := Lib.hid (H8F.out (by omega))
                go_wp2_with ((go_at_call 30; (with_reducible refine (ref13_WithinE HW _).mono ?_); rintro e wz ⟨rfl, rfl⟩))
                refine bodyPost_ret (v := .tuple #[.slice none 0 0, .int .i64 0, .int .i64 _]) (by simp [results, Try.results19, go_sem]; rfl) rfl ?_
                exact TkE3.err HF.out be
        · have hn1' : 1073741824 < now := by omega
          have HF := Lib.hid (derM_1 (k := l.map Tk.key) (parent := parent) (rights := rights) (class_ := class_) (life := life) (sec := sec) (now := now) (fun q => by have := q.2.2.2; omega))
          clear hv
          go_wp2_with ((go_at_call 35; (with_reducible refine (ref14_ValidE HV a n c _ h.tks HN.out).mono ?_); rintro e w1 ⟨rfl, hb⟩))
          refine bodyPost_ret (v := .tuple #[.slice none 0 0, .int .i64 0, .int .i64 _]) (by simp [results, Try.results19, go_sem]; rfl) rfl ?_
          exact TkE3.err HF.out hb
      · have hn0' : now < 0 := by omega
        have HF := Lib.hid (derM_1 (k := l.map Tk.key) (parent := parent) (rights := rights) (class_ := class_) (life := life) (sec := sec) (now := now) (fun q => by have := q.2.2.1; omega))
        clear hv
        go_wp2_with ((go_at_call 35; (with_reducible refine (ref14_ValidE HV a n c _ h.tks HN.out).mono ?_); rintro e w1 ⟨rfl, hb⟩))
        refine bodyPost_ret (v := .tuple #[.slice none 0 0, .int .i64 0, .int .i64 _]) (by simp [results, Try.results19, go_sem]; rfl) rfl ?_
        exact TkE3.err HF.out hb
    · have h8i : ¬ (sn : Int) = 8 := by have := HSN.out; omega
      have h8j : ((sn : Int) == 8) = false := by rw [beq_eq_false_iff_ne]; exact h8i
      have HF := Lib.hid (derM_1 (k := l.map Tk.key) (parent := parent) (rights := rights) (class_ := class_) (life := life) (sec := sec) (now := now) (fun q => h8 q.2.1))
      clear hv
      go_wp2_with ((go_at_call 35; (with_reducible refine (ref14_ValidE HV a n c _ h.tks HN.out).mono ?_); rintro e w1 ⟨rfl, hb⟩))
      refine bodyPost_ret (v := .tuple #[.slice none 0 0, .int .i64 0, .int .i64 _]) (by simp [results, Try.results19, go_sem]; rfl) rfl ?_
      exact TkE3.err HF.out hb
end Go.Proofs.Ytgngmmmdhhjbhaa
