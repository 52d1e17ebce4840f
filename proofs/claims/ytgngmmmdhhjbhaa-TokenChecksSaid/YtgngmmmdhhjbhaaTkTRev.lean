/- token.Revoke -/
import Derived.Test.YtgngmmmdhhjbhaaTkRev
namespace Go.Proofs.Ytgngmmmdhhjbhaa
set_option linter.unusedVariables false
open Go.RowKit Go.Sort
set_option maxRecDepth 100000

set_option maxHeartbeats 4000000 in
theorem token_Revoke (a : Option Addr) (l : List Tk) (n c : Nat) (slot : Int) (w : World) (h : TkG w a l c) (hn : n = l.length) :
    Calls Try.prog 21 #[.slice a n c, .int .i64 slot] w (TkE (revM (l.map Tk.key) slot) w) := by
  have ht := h.tks
  have HS := Lib.hid h.sec
  have HNIL := Lib.hid h.nil
  have HN := Lib.hid hn
  clear hn h
  cases hv : valK (l.map Tk.key) with
  | false =>
    have HV := Lib.hid hv
    have HF := Lib.hid (revM_1 (slot := slot) hv)
    clear hv
    go_enter Try.func21, Try.ntmps21
    go_wp2_with ((go_at_call 29; (with_reducible refine (token_ValidE HV a n c _ ht HN.out).mono ?_); rintro e w1 ⟨rfl, hb⟩))
    refine bodyPost_ret (v := .tuple #[.slice none 0 0, .int .i64 _]) (by simp [results, Try.results21, go_sem]; rfl) rfl ?_
    exact TkE.err HF.out hb
  | true =>
    have h8 : l.length = 8 := by have := (valK_iff.1 hv).1; simpa using this
    have HV := Lib.hid hv
    by_cases hr : slot < 1 ∨ 8 ≤ slot
    · have HF := Lib.hid (revM_8 hv hr)
      clear hv h8
      rcases hr with hr | hr
      · go_enter Try.func21, Try.ntmps21
        go_wp2_with ((go_at_call 29; (with_reducible refine (token_ValidE HV a n c _ ht HN.out).mono ?_); rintro e w1 ⟨rfl, hb⟩))
        refine bodyPost_ret (v := .tuple #[.slice none 0 0, .int .i64 _]) (by simp [results, Try.results21, go_sem]; rfl) rfl ?_
        exact TkE.err HF.out hb
      · have hr1 : ¬ slot < 1 := by omega
        go_enter Try.func21, Try.ntmps21
        go_wp2_with ((go_at_call 29; (with_reducible refine (token_ValidE HV a n c _ ht HN.out).mono ?_); rintro e w1 ⟨rfl, hb⟩))
        refine bodyPost_ret (v := .tuple #[.slice none 0 0, .int .i64 _]) (by simp [results, Try.results21, go_sem]; rfl) rfl ?_
        exact TkE.err HF.out hb
    · obtain ⟨i, rfl⟩ : ∃ i : Nat, slot = i := ⟨slot.toNat, by omega⟩
      have hi : i < l.length := by omega
      have hr1 : ¬ (i : Int) < 1 := by omega
      have hr2 : ¬ (8 : Int) ≤ (i : Int) := by omega
      have hiN : (i : Int) < (n : Int) := by have := HN.out; omega
      have H8 := Lib.hid h8
      cases hu : tU (l.map Tk.key) i with
      | false =>
        have HF := Lib.hid (revM_12 hv hr hu)
        have hus : l[i].us = false := by rw [← tU_at hi]; exact hu
        clear hv hr hu h8
        go_enter Try.func21, Try.ntmps21
        go_upto_region 3 with ((go_at_call 29; (with_reducible refine (token_ValidE HV a n c _ ht HN.out).mono ?_); rintro e w1 ⟨rfl, hb⟩))
        have ht1 := ht.below hb (Nat.le_refl _)
        obtain ⟨ba, oa, rfl⟩ := ht1.open (by omega)
        obtain ⟨x0, -, -, -, -, -, xl⟩ := row_tok ht1.row i hi
        rw [hus] at x0
        clear hus
        go_wp2_with fail
        refine bodyPost_ret (v := .tuple #[.slice none 0 0, .int .i64 _]) (by simp [results, Try.results21, go_sem]; rfl) rfl ?_
        exact TkE.err HF.out hb
      | true =>
        have HF := Lib.hid (revM_0 hv hr hu)
        have hus : l[i].us = true := by rw [← tU_at hi]; exact hu
        clear hv hr hu h8
        go_enter Try.func21, Try.ntmps21
        go_upto_region 3 with ((go_at_call 29; (with_reducible refine (token_ValidE HV a n c _ ht HN.out).mono ?_); rintro e w1 ⟨rfl, hb⟩))
        have ht1 := ht.below hb (Nat.le_refl _)
        obtain ⟨ba, oa, rfl⟩ := ht1.open (by omega)
        obtain ⟨x0, -, -, -, -, -, xl⟩ := row_tok ht1.row i hi
        rw [hus] at x0
        clear hus
        go_upto_region 8 with ((go_at_call 47; (with_reducible refine (token_clone _ l n c _ ht1 HN.out (by have := HN.out; have := H8.out; omega) HNIL.out HS.out).mono ?_); rintro e w2 ⟨xa, xc, l2, rfl, hk, hn2, il, hb2⟩))
        have be2 : RowKit.Below w.heap.size w w2 := (by repeat (first | (with_reducible refine Below.setCell ?_ ?_ _) | (with_reducible refine Below.alloc ?_ ?_ _) | (with_reducible refine Below.drew ?_) | (with_reducible refine below_drewN ?_ _) | (with_reducible exact Below.refl _ _) | (with_reducible refine Below.trans ?_ (Below.mono hb2 ?_)) | (with_reducible refine Below.trans ?_ (Below.mono hb ?_)) | (focus (simp; done)) | (focus (simp; omega)) | (focus omega) | (focus (have q0 := Below.size hb2; (try simp at q0); have q1 := Below.size hb; (try simp at q1); (try simp); omega))))
        have il := il.mono hb.size
        clear x0 xl hb hb2 ht1
        go_wp2_with fail
        go_loopw [27] (fun s27 wr => ∃ (j : Nat) (l3 : List Tk), s27 = .int .i64 j ∧ j ≤ n ∧ Hid (l3.length = n) ∧ Hid (l3.map Tk.key = frTo (l.map Tk.key) (fun s => dscK (l.map Tk.key) 8 s i) j) ∧ TkL wr w.heap.size l3 xa xc ∧ RowKit.Below w.heap.size w wr) (fun s _ => n - (intOf s).toNat)
        case atStart => exact ⟨0, l2, rfl, by omega, Lib.hid hn2.out.symm, Lib.hid (by rw [frTo_zero, hk.out]), il, be2⟩
        case round =>
          clear il be2
          obtain ⟨j, l3, rfl, hj, h3, hk3, il, be⟩ := hrel
          have hnb : n ≤ 8 := by have := HN.out; have := H8.out; omega
          by_cases hlt : j < n
          · have kx : (j : Int) < (n : Int) := by omega
            have htr := ht.below be (Nat.le_refl _)
            cases hf : dscK (l.map Tk.key) 8 j i with
            | false =>
              have HG : Hid (l3.map Tk.key = frTo (l.map Tk.key) (fun s => dscK (l.map Tk.key) 8 s i) (j + 1)) := Lib.hid (by rw [frTo_no (f := fun s => dscK (l.map Tk.key) 8 s i) hf, hk3.out])
              have HD := Lib.hid hf
              clear hf
              go_wp2_with ((go_at_call 50; (with_reducible refine (token_descendsE HD _ n c _ htr HN.out).mono ?_); rintro e w3 ⟨rfl, hb3⟩))
              go_roundw
              case rel => exact ⟨j + 1, l3, by go_num, by omega, h3, HG, il.below hb3, (by repeat (first | (with_reducible refine Below.setCell ?_ ?_ _) | (with_reducible refine Below.alloc ?_ ?_ _) | (with_reducible refine Below.drew ?_) | (with_reducible refine below_drewN ?_ _) | (with_reducible exact Below.refl _ _) | (with_reducible refine Below.trans ?_ (Below.mono hb3 ?_)) | (with_reducible refine Below.trans ?_ (Below.mono be ?_)) | (focus (simp; done)) | (focus (simp; omega)) | (focus omega) | (focus (have q0 := Below.size hb3; (try simp at q0); have q1 := Below.size be; (try simp at q1); (try simp); omega))))⟩
              case measure => simp [intOf]; omega
            | true =>
              have hj3 : j < l3.length := by rw [h3.out]; exact hlt
              obtain ⟨g, rfl, gB, -⟩ := il.own.open_ (by omega)
              have HG : Hid ((l3.set j ⟨false, [], -1, 0, 0, 0, none, 0⟩).map Tk.key = frTo (l.map Tk.key) (fun s => dscK (l.map Tk.key) 8 s i) (j + 1)) := Lib.hid (by rw [frTo_yes (f := fun s => dscK (l.map Tk.key) 8 s i) hf, ← hk3.out, List.map_set]; rfl)
              have HD := Lib.hid hf
              clear hf
              go_wp2_with (first | (go_at_call 50; (with_reducible refine (token_descendsE HD _ n c _ htr HN.out).mono ?_); rintro e w3 ⟨rfl, hb3⟩) | (go_at_call 51; (with_reducible refine (token_free _).mono ?_); rintro e w4 ⟨rfl, hb4⟩; ((have il4 := (il.below hb3).below hb4); (obtain ⟨y0, y1, y2, y3, y4, y5, yl⟩ := row_tok il4.own.row j hj3); (simp only [Nat.zero_add] at y0 y1 y2 y3 y4 y5); (have yf := il4.own.frozen))))
              have fin := il4.setTok hj3 ⟨false, [], -1, 0, 0, 0, none, 0⟩ (Own.nil _ _ _ _)
              have be4 : RowKit.Below w.heap.size w w4 := (by repeat (first | (with_reducible refine Below.setCell ?_ ?_ _) | (with_reducible refine Below.alloc ?_ ?_ _) | (with_reducible refine Below.drew ?_) | (with_reducible refine below_drewN ?_ _) | (with_reducible exact Below.refl _ _) | (with_reducible refine Below.trans ?_ (Below.mono hb4 ?_)) | (with_reducible refine Below.trans ?_ (Below.mono hb3 ?_)) | (with_reducible refine Below.trans ?_ (Below.mono be ?_)) | (focus (simp; done)) | (focus (simp; omega)) | (focus omega) | (focus (have q0 := Below.size hb4; (try simp at q0); have q1 := Below.size hb3; (try simp at q1); have q2 := Below.size be; (try simp at q2); (try simp); omega))))
              go_roundw
              case rel => exact ⟨j + 1, _, by go_num, by omega, Lib.hid (by rw [List.length_set]; exact h3.out), HG, fin, be4.grown ((((((grownBy_set _ g _ _).trans (grownBy_set _ g _ _)).trans (grownBy_set _ g _ _)).trans (grownBy_set _ g _ _)).trans (grownBy_set _ g _ _)).trans (grownBy_set _ g _ _)) be4.size (fun k hk => by injection hk with hk; omega)⟩
              case measure => simp [intOf]; omega
          · obtain rfl : j = n := by omega
            go_wp2_with fail
            refine bodyPost_ret (v := .tuple #[.slice xa j xc, .int .i64 0]) (by simp [results, Try.results21, go_sem]) rfl ?_
            exact ⟨xa, j, xc, l3, 0, rfl, Lib.hid (by rw [HF.out, hk3.out, ← frTo_all, List.length_map, HN.out]), Lib.hid h3.out.symm, il, be⟩
end Go.Proofs.Ytgngmmmdhhjbhaa
