/- signalbrokerref14.Valid (written by gen/mkrval.py) -/
import Derived.Test.YtgngmmmdhhjbhaaTkVal
namespace Go.Proofs.Ytgngmmmdhhjbhaa
set_option linter.unusedVariables false
open Go.RowKit Go.Sort
set_option maxRecDepth 100000

theorem ref13_ValidE {r : Int} {b : Bool} (h : Hid (rV r = b)) (w : World) : Calls Try.prog 57 #[.int .i64 r] w fun e w' => e = .returned (.bool b) ∧ w = w' := by
  have := ref13_Valid r w
  rw [h.out] at this
  exact this
theorem ref13_WithinE {a b : Int} {r : Bool} (h : Hid (rWithin a b = r)) (w : World) : Calls Try.prog 30 #[.int .i64 a, .int .i64 b] w fun e w' => e = .returned (.bool r) ∧ w = w' := by
  have := ref13_Within a b w
  rw [h.out] at this
  exact this
theorem ref14_laterE {a b : Int} {r : Bool} (h : Hid (latB a b = r)) (w : World) : Calls Try.prog 49 #[.int .i64 a, .int .i64 b] w fun e w' => e = .returned (.bool r) ∧ w = w' := by
  have := ref14_later a b w
  rw [h.out] at this
  exact this
theorem ref14_leadsE {b : Bool} {l : List Tk} {s top : Int} (hd : Hid (dscK (l.map Tk.key) 8 s top = b)) (h8 : Hid (l.length = 8)) (a : Option Addr) (n c : Nat) (w : World) (h : Tks w a l) (hn : n = l.length) :
    Calls Try.prog 60 #[.slice a n c, .int .i64 s, .int .i64 top] w fun e w' => e = .returned (.bool b) ∧ w = w' := by
  have := ref14_leads a l n c s top w h hn (by have := h8.out; omega)
  have e := dsc_more (l.map Tk.key) s top
  rw [List.length_map] at e
  rw [e, h8.out, hd.out] at this
  exact this
set_option maxHeartbeats 4000000 in
theorem ref14_Valid (a : Option Addr) (l : List Tk) (n c : Nat) (w : World) (h : Tks w a l) (hn : n = l.length) :
    Calls Try.prog 35 #[.slice a n c] w fun e w' => e = .returned (.bool (valK (l.map Tk.key))) ∧ Below w.heap.size w w' := by
  by_cases h8 : l.length = 8
  · obtain rfl : n = 8 := by omega
    have hj0 : 0 < l.length := by omega
    have HN := Lib.hid h8
    clear hn h8
    obtain ⟨ba, oa, rfl⟩ := h.open (by omega)
    obtain ⟨x0, x1, x2, x3, x4, x5, xl⟩ := row_tok h.row 0 hj0
    have hR : ∀ b, rootK l[0].key = b → rootK (gK (l.map Tk.key) 0) = b := fun b e => by rw [show (0 : Int) = ((0 : Nat) : Int) from rfl, gK_at hj0]; exact e
    have hU0 := Lib.hid (tU_at hj0)
    obtain ⟨x, hx⟩ : ∃ x, l[0] = x := ⟨_, rfl⟩
    rw [hx] at x0 x1 x2 x3 x4 x5 hR hU0
    clear hx
    obtain ⟨us, sec, par, rt, cl, un, la, lc⟩ := x
    simp only [Nat.zero_mul, Nat.add_zero] at x0 x1 x2 x3 x4 x5
    have HR := Lib.hid hR
    clear hR
    go_enter Try.func35, Try.ntmps35
    cases hroot : rootK ⟨us, sec, par, rt, cl, un⟩ with
    | false =>
      have HF := Lib.hid (valK_root (HR.out _ hroot))
      cases us with
      | false =>
        clear hroot
        go_wp2_with fail
        go_ret
        rw [HF.out]
        exact ⟨rfl, (by repeat (first | (with_reducible refine Below.setCell ?_ ?_ _) | (with_reducible refine Below.alloc ?_ ?_ _) | (with_reducible refine Below.drew ?_) | (with_reducible refine below_drewN ?_ _) | (with_reducible exact Below.refl _ _) | (focus (simp; done)) | (focus (simp; omega)) | (focus omega)))⟩
      | true =>
        by_cases hp : par = -1
        · by_cases hu : un = 0
          · subst hp hu
            simp [rootK] at hroot
          · have hu2 : (un == 0) = false := by rw [beq_eq_false_iff_ne]; exact hu
            subst hp
            clear hroot
            go_wp2_with fail
            go_ret
            rw [HF.out]
            exact ⟨rfl, (by repeat (first | (with_reducible refine Below.setCell ?_ ?_ _) | (with_reducible refine Below.alloc ?_ ?_ _) | (with_reducible refine Below.drew ?_) | (with_reducible refine below_drewN ?_ _) | (with_reducible exact Below.refl _ _) | (focus (simp; done)) | (focus (simp; omega)) | (focus omega)))⟩
        · have hp2 : (par == -1) = false := by rw [beq_eq_false_iff_ne]; exact hp
          clear hroot
          go_wp2_with fail
          go_ret
          rw [HF.out]
          exact ⟨rfl, (by repeat (first | (with_reducible refine Below.setCell ?_ ?_ _) | (with_reducible refine Below.alloc ?_ ?_ _) | (with_reducible refine Below.drew ?_) | (with_reducible refine below_drewN ?_ _) | (with_reducible exact Below.refl _ _) | (focus (simp; done)) | (focus (simp; omega)) | (focus omega)))⟩
    | true =>
      have HRT := Lib.hid (HR.out _ hroot)
      simp only [rootK, Bool.and_eq_true, decide_eq_true_eq] at hroot
      obtain ⟨rfl, rfl, rfl⟩ := hroot
      have HD0 : Hid (dscK (l.map Tk.key) 8 ((0 : Nat) : Int) 0 = true) := Lib.hid (dsc_self (n := 7) (s := ((0 : Nat) : Int)) hU0.out)
      go_wp2_with fail
      clear x0 x1 x2 x3 x4 x5 xl
      go_loopw [32] (fun s32 wr => ∃ i : Nat, s32 = .int .i64 i ∧ i ≤ 8 ∧ Hid (∀ k, k < i → slotK (l.map Tk.key) k = true) ∧ RowKit.Below w.heap.size w wr) (fun s _ => 8 - (intOf s).toNat)
      case atStart => exact ⟨0, rfl, by omega, Lib.hid (fun k hk => by omega), (by repeat (first | (with_reducible refine Below.setCell ?_ ?_ _) | (with_reducible refine Below.alloc ?_ ?_ _) | (with_reducible refine Below.drew ?_) | (with_reducible refine below_drewN ?_ _) | (with_reducible exact Below.refl _ _) | (focus (simp; done)) | (focus (simp; omega)) | (focus omega)))⟩
      case round =>
        obtain ⟨i, rfl, hi, hall, be⟩ := hrel
        by_cases hi8 : i < 8
        · have kx : (i : Int) < 8 := by omega
          have hil : i < l.length := by rw [HN.out]; exact hi8
          have hr := h.below be (Nat.le_refl _)
          obtain ⟨x0, x1, x2, x3, x4, x5, xl⟩ := row_tok hr.row i hil
          have HFREE := Lib.hid (slot_free hil)
          have HUSED := Lib.hid (slot_used hil)
          have HPI := Lib.hid (tP_at hil)
          have HNX := Lib.hid (show slotK (l.map Tk.key) i = true → ∀ k, k < i + 1 → slotK (l.map Tk.key) k = true from fun q k hk => by
            by_cases e : k = i
            · subst e; exact q
            · exact hall.out k (by omega))
          obtain ⟨x, hx⟩ : ∃ x, l[i] = x := ⟨_, rfl⟩
          rw [hx] at x0 x1 x2 x3 x4 x5 HFREE HUSED HPI
          clear hx hr
          obtain ⟨us, sec, par, rt, cl, un, la, lc⟩ := x
          simp only at x0 x1 x2 x3 x4 x5 HFREE HUSED HPI
          go_upto_region 6 with fail
          obtain ⟨X, hX⟩ : ∃ X, wr.heap.size = X := ⟨_, rfl⟩
          refine wp_named (fun Z => Blk Z X 52 #[.bool us, .slice la sec.length lc, .int .i64 par, .int .i64 rt, .int .i64 cl, .int .i64 un] ∧ RowKit.Below w.heap.size w Z) ⟨by rw [← hX]; exact Blk.new _ _ _, (by repeat (first | (with_reducible refine Below.setCell ?_ ?_ _) | (with_reducible refine Below.alloc ?_ ?_ _) | (with_reducible refine Below.drew ?_) | (with_reducible refine below_drewN ?_ _) | (with_reducible exact Below.refl _ _) | (with_reducible refine Below.trans ?_ (Below.mono be ?_)) | (focus (simp; done)) | (focus (simp; omega)) | (focus omega) | (focus (have q0 := Below.size be; (try simp at q0); (try simp); omega))))⟩ ?_
          rw [hX]
          clear hX x0 x1 x2 x3 x4 x5 xl be
          rintro Z ⟨kX, be⟩
          obtain ⟨v0, v1, v2, v3, v4, v5, vf, vl⟩ := kX.six
          have ht := h.below be (Nat.le_refl _)
          cases us with
          | false =>
            by_cases hN : sec.length = 0
            · have hN2 : decide (0 < sec.length) = false := decide_eq_false (by omega)
              by_cases hP : par = -1
              · subst hP
                by_cases hT : rt = 0
                · subst hT
                  by_cases hC : cl = 0
                  · subst hC
                    by_cases hU : un = 0
                    · subst hU
                      have HG := Lib.hid (HNX.out (by rw [HFREE.out rfl]; simp [freN, hN]))
                      go_wp2_with fail
                      go_roundw
                      case rel => exact ⟨i + 1, by go_num, by omega, HG, be⟩
                      case measure => simp [intOf]; omega
                    · have hU2 : (un == 0) = false := by rw [beq_eq_false_iff_ne]; exact hU
                      have HF := Lib.hid (valK_slot (k := l.map Tk.key) hi8 (by rw [HFREE.out rfl]; simp [freN, hU]))
                      go_wp2_with fail
                      go_ret
                      rw [HF.out]
                      exact ⟨rfl, be⟩
                  · have hC2 : (cl == 0) = false := by rw [beq_eq_false_iff_ne]; exact hC
                    have HF := Lib.hid (valK_slot (k := l.map Tk.key) hi8 (by rw [HFREE.out rfl]; simp [freN, hC]))
                    go_wp2_with fail
                    go_ret
                    rw [HF.out]
                    exact ⟨rfl, be⟩
                · have hT2 : (rt == 0) = false := by rw [beq_eq_false_iff_ne]; exact hT
                  have HF := Lib.hid (valK_slot (k := l.map Tk.key) hi8 (by rw [HFREE.out rfl]; simp [freN, hT]))
                  go_wp2_with fail
                  go_ret
                  rw [HF.out]
                  exact ⟨rfl, be⟩
              · have hP2 : (par == -1) = false := by rw [beq_eq_false_iff_ne]; exact hP
                have HF := Lib.hid (valK_slot (k := l.map Tk.key) hi8 (by rw [HFREE.out rfl]; simp [freN, hP]))
                go_wp2_with fail
                go_ret
                rw [HF.out]
                exact ⟨rfl, be⟩
            · have hN2 : decide (0 < sec.length) = true := decide_eq_true (by omega)
              have hN3 : (0 : Int) < (sec.length : Int) := by omega
              have HF := Lib.hid (valK_slot (k := l.map Tk.key) hi8 (by rw [HFREE.out rfl]; simp [freN, hN]))
              go_wp2_with fail
              go_ret
              rw [HF.out]
              exact ⟨rfl, be⟩
          | true =>
            have hS := HUSED.out rfl
            by_cases hN : sec.length = 8
            · have hN2 : (sec.length : Int) = 8 := by omega
              by_cases hV : rV rt = true
              · have HV := Lib.hid hV
                by_cases hA : 0 ≤ cl
                · have hA2 : ¬ cl < 0 := by omega
                  by_cases hB : cl ≤ 3
                  · have hB2 : ¬ 3 < cl := by omega
                    by_cases hE : 0 ≤ un
                    · have hE2 : ¬ un < 0 := by omega
                      by_cases hM : un ≤ 2147483648
                      · have hM2 : ¬ 2147483648 < un := by omega
                        have hsn : sndN sec.length rt cl un = true := by simp [sndN, hN, hV, hA, hB, hE, hM]
                        rw [hsn] at hS
                        clear hsn
                        cases hd : dscK (l.map Tk.key) 8 i 0 with
                        | false =>
                          have HF := Lib.hid (valK_slot (k := l.map Tk.key) hi8 (by rw [hS, hd]; rfl))
                          have HD := Lib.hid hd
                          clear hd hS
                          go_wp2_with (first | (go_at_call 57; (with_reducible refine (ref13_ValidE HV _).mono ?_); rintro e wz ⟨rfl, rfl⟩) | (go_at_call 60; (with_reducible refine (ref14_leadsE HD HN _ 8 c _ ht HN.out.symm).mono ?_); rintro e w3 ⟨rfl, rfl⟩))
                          go_ret
                          rw [HF.out]
                          exact ⟨rfl, be⟩
                        | true =>
                          by_cases hi0 : i = 0
                          · subst hi0
                            have HG := Lib.hid (HNX.out (by rw [hS, hd]; rfl))
                            have HD : Hid (dscK (l.map Tk.key) 8 (0 : Int) 0 = true) := Lib.hid hd
                            clear hd hS
                            go_wp2_with (first | (go_at_call 57; (with_reducible refine (ref13_ValidE HV _).mono ?_); rintro e wz ⟨rfl, rfl⟩) | (go_at_call 60; (with_reducible refine (ref14_leadsE HD HN _ 8 c _ ht HN.out.symm).mono ?_); rintro e w3 ⟨rfl, rfl⟩))
                            go_roundw
                            case rel => exact ⟨1, by go_num, by omega, HG, be⟩
                            case measure => simp [intOf]
                          · have hi1 : 1 ≤ i := by omega
                            have hi0' : ¬ (i : Int) = 0 := by omega
                            obtain ⟨-, hup, -⟩ := dsc_par (n := 7) hd (by omega)
                            rw [HPI.out] at hup
                            obtain ⟨j, rfl, hj⟩ := tU_in hup
                            have HSL : Hid (∀ b, upK ⟨true, sec, j, rt, cl, un⟩ (gK (l.map Tk.key) (j : Int)) = b → slotK (l.map Tk.key) i = b) := Lib.hid (fun b e => by
                              rw [hS, hd]
                              have h0 : decide (i = 0) = false := decide_eq_false hi0
                              rw [h0]
                              simp only [Bool.true_and, Bool.false_or]
                              exact e)
                            have HD := Lib.hid hd
                            clear hd hS hup
                            have jx : (j : Int) < 8 := by have := HN.out; omega
                            obtain ⟨y0, y1, y2, y3, y4, y5, yl⟩ := row_tok ht.row j hj
                            rw [gK_at hj] at HSL
                            obtain ⟨y, hy⟩ : ∃ y, l[j] = y := ⟨_, rfl⟩
                            rw [hy] at y0 y1 y2 y3 y4 y5 HSL
                            clear hy
                            obtain ⟨us2, sec2, par2, rt2, cl2, un2, la2, lc2⟩ := y
                            simp only [Tk.key] at y0 y1 y2 y3 y4 y5 HSL
                            go_upto_region 13 with (first | (go_at_call 57; (with_reducible refine (ref13_ValidE HV _).mono ?_); rintro e wz ⟨rfl, rfl⟩) | (go_at_call 60; (with_reducible refine (ref14_leadsE HD HN _ 8 c _ ht HN.out.symm).mono ?_); rintro e w3 ⟨rfl, rfl⟩))
                            obtain ⟨X2, hX2⟩ : ∃ X, Z.heap.size = X := ⟨_, rfl⟩
                            refine wp_named (fun Z => Blk Z X 52 #[.bool true, .slice la sec.length lc, .int .i64 j, .int .i64 rt, .int .i64 cl, .int .i64 un] ∧ Blk Z X2 52 #[.bool us2, .slice la2 sec2.length lc2, .int .i64 par2, .int .i64 rt2, .int .i64 cl2, .int .i64 un2] ∧ RowKit.Below w.heap.size w Z) ⟨kX.alloc _, by rw [← hX2]; exact Blk.new _ _ _, (by repeat (first | (with_reducible refine Below.setCell ?_ ?_ _) | (with_reducible refine Below.alloc ?_ ?_ _) | (with_reducible refine Below.drew ?_) | (with_reducible refine below_drewN ?_ _) | (with_reducible exact Below.refl _ _) | (with_reducible refine Below.trans ?_ (Below.mono be ?_)) | (focus (simp; done)) | (focus (simp; omega)) | (focus omega) | (focus (have q0 := Below.size be; (try simp at q0); (try simp); omega))))⟩ ?_
                            rw [hX2]
                            clear hX2 y0 y1 y2 y3 y4 y5 yl v0 v1 v2 v3 v4 v5 vf vl kX be ht
                            rintro U ⟨kX, kX2, be⟩
                            obtain ⟨v0, v1, v2, v3, v4, v5, vf, vl⟩ := kX.six
                            obtain ⟨u0, u1, u2, u3, u4, u5, uf, ul⟩ := kX2.six
                            cases hw : rWithin rt rt2 with
                            | false =>
                              have HF := Lib.hid (valK_slot (k := l.map Tk.key) hi8 (HSL.out false (by simp only [upK, hw]; rfl)))
                              have HW := Lib.hid hw
                              clear hw
                              go_wp2_with ((go_at_call 30; (with_reducible refine (ref13_WithinE HW _).mono ?_); rintro e wz ⟨rfl, rfl⟩))
                              go_ret
                              rw [HF.out]
                              exact ⟨rfl, be⟩
                            | true =>
                              by_cases hc : cl ≤ cl2
                              · have hc2 : ¬ cl2 < cl := by omega
                                cases hl : latB un un2 with
                                | true =>
                                  have HF := Lib.hid (valK_slot (k := l.map Tk.key) hi8 (HSL.out false (by simp only [upK, hw, hl]; simp)))
                                  have HW := Lib.hid hw
                                  have HL := Lib.hid hl
                                  clear hw hl
                                  go_wp2_with (first | (go_at_call 30; (with_reducible refine (ref13_WithinE HW _).mono ?_); rintro e wz ⟨rfl, rfl⟩) | (go_at_call 49; (with_reducible refine (ref14_laterE HL _).mono ?_); rintro e wz ⟨rfl, rfl⟩))
                                  go_ret
                                  rw [HF.out]
                                  exact ⟨rfl, be⟩
                                | false =>
                                  have HG := Lib.hid (HNX.out (HSL.out true (by simp only [upK, hw, hl, decide_eq_true hc]; rfl)))
                                  have HW := Lib.hid hw
                                  have HL := Lib.hid hl
                                  clear hw hl
                                  go_wp2_with (first | (go_at_call 30; (with_reducible refine (ref13_WithinE HW _).mono ?_); rintro e wz ⟨rfl, rfl⟩) | (go_at_call 49; (with_reducible refine (ref14_laterE HL _).mono ?_); rintro e wz ⟨rfl, rfl⟩))
                                  go_roundw
                                  case rel => exact ⟨i + 1, by go_num, by omega, HG, be⟩
                                  case measure => simp [intOf]; omega
                              · have hc2 : cl2 < cl := by omega
                                have HF := Lib.hid (valK_slot (k := l.map Tk.key) hi8 (HSL.out false (by simp only [upK, hw, decide_eq_false hc]; rfl)))
                                have HW := Lib.hid hw
                                clear hw
                                go_wp2_with ((go_at_call 30; (with_reducible refine (ref13_WithinE HW _).mono ?_); rintro e wz ⟨rfl, rfl⟩))
                                go_ret
                                rw [HF.out]
                                exact ⟨rfl, be⟩
                      · have hM2 : 2147483648 < un := by omega
                        have hM3 : decide (un ≤ 2147483648) = false := decide_eq_false hM
                        have HF := Lib.hid (valK_slot (k := l.map Tk.key) hi8 (by rw [hS]; simp [sndN, hM]))
                        clear hS
                        go_wp2_with ((go_at_call 57; (with_reducible refine (ref13_ValidE HV _).mono ?_); rintro e wz ⟨rfl, rfl⟩))
                        go_ret
                        rw [HF.out]
                        exact ⟨rfl, be⟩
                    · have hE2 : un < 0 := by omega
                      have hE3 : decide (0 ≤ un) = false := decide_eq_false hE
                      have HF := Lib.hid (valK_slot (k := l.map Tk.key) hi8 (by rw [hS]; simp [sndN, hE]))
                      clear hS
                      go_wp2_with ((go_at_call 57; (with_reducible refine (ref13_ValidE HV _).mono ?_); rintro e wz ⟨rfl, rfl⟩))
                      go_ret
                      rw [HF.out]
                      exact ⟨rfl, be⟩
                  · have hB2 : 3 < cl := by omega
                    have hB3 : decide (cl ≤ 3) = false := decide_eq_false hB
                    have HF := Lib.hid (valK_slot (k := l.map Tk.key) hi8 (by rw [hS]; simp [sndN, hB]))
                    clear hS
                    go_wp2_with ((go_at_call 57; (with_reducible refine (ref13_ValidE HV _).mono ?_); rintro e wz ⟨rfl, rfl⟩))
                    go_ret
                    rw [HF.out]
                    exact ⟨rfl, be⟩
                · have hA2 : cl < 0 := by omega
                  have hA3 : decide (0 ≤ cl) = false := decide_eq_false hA
                  have HF := Lib.hid (valK_slot (k := l.map Tk.key) hi8 (by rw [hS]; simp [sndN, hA]))
                  clear hS
                  go_wp2_with ((go_at_call 57; (with_reducible refine (ref13_ValidE HV _).mono ?_); rintro e wz ⟨rfl, rfl⟩))
                  go_ret
                  rw [HF.out]
                  exact ⟨rfl, be⟩
              · have hV2 : rV rt = false := by simpa using hV
                have HV := Lib.hid hV2
                have HF := Lib.hid (valK_slot (k := l.map Tk.key) hi8 (by rw [hS]; simp [sndN, hV2]))
                clear hS
                go_wp2_with ((go_at_call 57; (with_reducible refine (ref13_ValidE HV _).mono ?_); rintro e wz ⟨rfl, rfl⟩))
                go_ret
                rw [HF.out]
                exact ⟨rfl, be⟩
            · have hN2 : ¬ (sec.length : Int) = 8 := by omega
              have hN3 : ((sec.length : Int) == 8) = false := by rw [beq_eq_false_iff_ne]; exact hN2
              have HF := Lib.hid (valK_slot (k := l.map Tk.key) hi8 (by rw [hS]; simp [sndN, hN]))
              clear hS
              go_wp2_with fail
              go_ret
              rw [HF.out]
              exact ⟨rfl, be⟩
        · obtain rfl : i = 8 := by omega
          have HF := Lib.hid (valK_yes (k := l.map Tk.key) (by rw [List.length_map]; exact HN.out) HRT.out hall.out)
          go_wp2_with fail
          go_ret
          rw [HF.out]
          exact ⟨rfl, be⟩
  · have hF := valK_len (k := l.map Tk.key) (by simpa using h8)
    have hn8 : ¬ (n : Int) = 8 := by omega
    go_enter Try.func35, Try.ntmps35
    go_wp2_with fail
    go_ret
    rw [hF]
    exact ⟨rfl, (by repeat (first | (with_reducible refine Below.setCell ?_ ?_ _) | (with_reducible refine Below.alloc ?_ ?_ _) | (with_reducible refine Below.drew ?_) | (with_reducible refine below_drewN ?_ _) | (with_reducible exact Below.refl _ _) | (focus (simp; done)) | (focus (simp; omega)) | (focus omega)))⟩
end Go.Proofs.Ytgngmmmdhhjbhaa
