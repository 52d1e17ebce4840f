/- request.number, class, tick, validLegs, Valid -/
import Derived.Test.YtbanejpihdhbdaaIndex
namespace Go.Proofs.Ytbanejpihdhbdaa
set_option linter.unusedVariables false
open Go.RowKit Go.Sort
set_option maxRecDepth 100000

theorem request_numberE {n : Int} {b : Bool} (h : Hid ((decide (0 ≤ n) && decide (n ≤ 4294967295)) = b)) (w : World) : Calls Try.prog 36 #[.int .i64 n] w fun e w' => e = .returned (.bool b) ∧ w = w' := by
  rw [← h.out]
  go_enter Try.func36, Try.ntmps36
  go_wp2
  all_goals
    go_ret
    exact ⟨ret_bool (by first | rfl | (simp; done) | (simp; omega) | (rw [Bool.eq_iff_iff]; simp []; done) | (rw [Bool.eq_iff_iff]; simp []; omega)), rfl⟩
theorem request_classE {n : Int} {b : Bool} (h : Hid ((decide (0 ≤ n) && decide (n ≤ 3)) = b)) (w : World) : Calls Try.prog 37 #[.int .i64 n] w fun e w' => e = .returned (.bool b) ∧ w = w' := by
  rw [← h.out]
  go_enter Try.func37, Try.ntmps37
  go_wp2
  all_goals
    go_ret
    exact ⟨ret_bool (by first | rfl | (simp; done) | (simp; omega) | (rw [Bool.eq_iff_iff]; simp []; done) | (rw [Bool.eq_iff_iff]; simp []; omega)), rfl⟩
theorem request_tickE {n : Int} {b : Bool} (h : Hid ((decide (0 ≤ n) && decide (n ≤ 1073741824)) = b)) (w : World) : Calls Try.prog 38 #[.int .i64 n] w fun e w' => e = .returned (.bool b) ∧ w = w' := by
  rw [← h.out]
  go_enter Try.func38, Try.ntmps38
  go_wp2
  all_goals
    go_ret
    exact ⟨ret_bool (by first | rfl | (simp; done) | (simp; omega) | (rw [Bool.eq_iff_iff]; simp []; done) | (rw [Bool.eq_iff_iff]; simp []; omega)), rfl⟩
theorem window_ValidE {j p f t s : Int} {b : Bool} (h : Hid (wValid j p f t s = b)) (w : World) : Calls Try.prog 59 #[lgAgg j p f t s] w fun e w' => e = .returned (.bool b) ∧ Below w.heap.size w w' := by
  have := window_Valid j p f t s w
  rw [h.out] at this
  exact this
set_option maxHeartbeats 4000000 in
theorem request_validLegs (a : Option Addr) (l : List Lg) (n c : Nat) (w : World) (h : Row w a (lgCells l)) (hn : n = l.length) (hc : n ≤ c) (l9 : n ≤ 1000000) :
    Calls Try.prog 39 #[.slice a n c] w (Says (LegsOk l) w) := by
  subst hn
  go_enter Try.func39, Try.ntmps39
  by_cases hb : 1 ≤ l.length ∧ l.length ≤ 3
  · have z1 : decide (l.length < 1) = false := decide_eq_false (by omega)
    have z1' : decide ((l.length : Int) < 1) = false := decide_eq_false (by omega)
    have z2 : decide (3 < l.length) = false := decide_eq_false (by omega)
    have z2' : decide ((3 : Int) < (l.length : Int)) = false := decide_eq_false (by omega)
    have HB := Lib.hid hb
    clear hb
    go_wp2
    go_loopw [17] (fun s17 wr => ∃ i : Nat, s17 = .int .i64 i ∧ i ≤ l.length ∧ Hid (∀ k (h : k < l.length), k < i → lgV l[k] = true) ∧ Hid (∀ k j (hj : j < k) (hk : k < l.length), k < i → l[j].ju ≠ l[k].ju) ∧ RowKit.Below w.heap.size w wr) (fun s _ => l.length - (intOf s).toNat)
    case atStart => exact ⟨0, rfl, by omega, Lib.hid fun k _ h => by omega, Lib.hid fun k j _ _ h => by omega, (by repeat (first | (with_reducible refine Below.setCell ?_ ?_ _) | (with_reducible refine Below.alloc ?_ ?_ _) | (with_reducible refine Below.drew ?_) | (with_reducible refine below_drewN ?_ _) | (with_reducible exact Below.refl _ _) | (focus (simp; done)) | (focus (simp; omega)) | (focus omega)))⟩
    case round =>
      obtain ⟨i, rfl, hi, hv, hd, be⟩ := hrel
      by_cases hlt : i < l.length
      · obtain ⟨ba, oa, rfl⟩ := h.open_lg (by omega)
        have hr := h.below be (Nat.le_refl _)
        obtain ⟨x0, x1, x2, x3, x4, xb⟩ := row_leg hr i hlt
        have HL := Lib.hid (show ∀ b, wValid l[i].ju l[i].ph l[i].fr l[i].to_ l[i].si = b → lgV l[i] = b from fun b h => h)
        obtain ⟨x, hx⟩ : ∃ x, l[i] = x := ⟨_, rfl⟩
        rw [hx] at x0 x1 x2 x3 x4 HL
        have HX := Lib.hid hx
        clear hx
        obtain ⟨ju, ph, fr, to_, si⟩ := x
        simp only at x0 x1 x2 x3 x4 HL
        have kx : (i : Int) < (l.length : Int) := by omega
        have kc : (i : Int) ≤ (c : Int) := by omega
        have kc2 : i ≤ c := by omega
        cases hV : wValid ju ph fr to_ si with
        | false =>
          have HV := Lib.hid hV
          clear hV
          go_wp2_with ((go_at_call 59; (with_reducible refine (window_ValidE HV _).mono ?_); rintro e w2 ⟨rfl, hb2⟩))
          go_ret
          exact Says.no (fun q => by have := q.v i hlt; rw [HX.out, HL.out _ HV.out] at this; cases this) (by repeat (first | (with_reducible refine Below.setCell ?_ ?_ _) | (with_reducible refine Below.alloc ?_ ?_ _) | (with_reducible refine Below.drew ?_) | (with_reducible refine below_drewN ?_ _) | (with_reducible exact Below.refl _ _) | (with_reducible refine Below.trans ?_ (Below.mono hb2 ?_)) | (with_reducible refine Below.trans ?_ (Below.mono be ?_)) | (focus (simp; done)) | (focus (simp; omega)) | (focus omega) | (focus (have q0 := Below.size hb2; (try simp at q0); have q1 := Below.size be; (try simp at q1); (try simp); omega))))
        | true =>
          have HV := Lib.hid hV
          clear hV
          go_upto_region 6 with fail
          obtain ⟨X, hX⟩ : ∃ X, wr.heap.size = X := ⟨_, rfl⟩
          refine wp_named (fun Y => Blk Y X 25 #[.int .i64 ju, .int .i64 ph, .int .i64 fr, .int .i64 to_, .int .i64 si] ∧ RowKit.Below w.heap.size w Y ∧ w.heap.size ≤ X) ⟨by rw [← hX]; exact Blk.new _ _ _, (by repeat (first | (with_reducible refine Below.setCell ?_ ?_ _) | (with_reducible refine Below.alloc ?_ ?_ _) | (with_reducible refine Below.drew ?_) | (with_reducible refine below_drewN ?_ _) | (with_reducible exact Below.refl _ _) | (with_reducible refine Below.trans ?_ (Below.mono be ?_)) | (focus (simp; done)) | (focus (simp; omega)) | (focus omega) | (focus (have q0 := Below.size be; (try simp at q0); (try simp); omega)))), by rw [← hX]; exact be.size⟩ ?_
          rw [hX]
          clear hX hr x0 x1 x2 x3 x4 xb be
          rintro Y ⟨kX, be, hwX⟩
          obtain ⟨v0, v1, v2, v3, v4, vf, vl⟩ := kX.five
          go_upto_region 8 with ((go_at_call 59; (with_reducible refine (window_ValidE HV _).mono ?_); rintro e w2 ⟨rfl, hb2⟩))
          have kX2 := kX.below hb2 vl
          have be2 : RowKit.Below w.heap.size w w2 := (by repeat (first | (with_reducible refine Below.setCell ?_ ?_ _) | (with_reducible refine Below.alloc ?_ ?_ _) | (with_reducible refine Below.drew ?_) | (with_reducible refine below_drewN ?_ _) | (with_reducible exact Below.refl _ _) | (with_reducible refine Below.trans ?_ (Below.mono hb2 ?_)) | (with_reducible refine Below.trans ?_ (Below.mono be ?_)) | (focus (simp; done)) | (focus (simp; omega)) | (focus omega) | (focus (have q0 := Below.size hb2; (try simp at q0); have q1 := Below.size be; (try simp at q1); (try simp); omega))))
          clear v0 v1 v2 v3 v4 vf vl kX be hb2
          go_wp2_with fail
          go_loopw [29] (fun s29 wz => ∃ j : Nat, s29 = .int .i64 j ∧ j ≤ i ∧ Hid (∀ k (hk : k < j) (hl : k < l.length), l[k].ju ≠ ju) ∧ RowKit.Below w2.heap.size w2 wz) (fun s _ => i - (intOf s).toNat)
          case atStart => exact ⟨0, rfl, by omega, Lib.hid fun k hk => by omega, (by repeat (first | (with_reducible refine Below.setCell ?_ ?_ _) | (with_reducible refine Below.alloc ?_ ?_ _) | (with_reducible refine Below.drew ?_) | (with_reducible refine below_drewN ?_ _) | (with_reducible exact Below.refl _ _) | (focus (simp; done)) | (focus (simp; omega)) | (focus omega)))⟩
          case round =>
            obtain ⟨j, rfl, hj, hne, bz⟩ := hrel
            have be3 : RowKit.Below w.heap.size w wr := (by repeat (first | (with_reducible refine Below.setCell ?_ ?_ _) | (with_reducible refine Below.alloc ?_ ?_ _) | (with_reducible refine Below.drew ?_) | (with_reducible refine below_drewN ?_ _) | (with_reducible exact Below.refl _ _) | (with_reducible refine Below.trans ?_ (Below.mono bz ?_)) | (with_reducible refine Below.trans ?_ (Below.mono be2 ?_)) | (focus (simp; done)) | (focus (simp; omega)) | (focus omega) | (focus (have q0 := Below.size bz; (try simp at q0); have q1 := Below.size be2; (try simp at q1); (try simp); omega))))
            have kXz := kX2.below bz kX2.lt
            have y0 : wr.cell? ⟨X, 0, none⟩ = _ := kXz.cell 0
            have yl := kXz.lt
            by_cases hji : j < i
            · have hjl : j < l.length := by omega
              have hr := h.below be3 (Nat.le_refl _)
              obtain ⟨z0, z1, z2, z3, z4, zb⟩ := row_leg hr j hjl
              have jx : (j : Int) < (i : Int) := by omega
              obtain ⟨z, hz⟩ : ∃ z, l[j] = z := ⟨_, rfl⟩
              rw [hz] at z0 z1 z2 z3 z4
              have HZ := Lib.hid hz
              clear hz
              obtain ⟨zju, zph, zfr, zto, zsi⟩ := z
              simp only at z0 z1 z2 z3 z4
              by_cases hq : zju = ju
              · subst hq
                go_wp2_with fail
                go_ret
                exact Says.no (fun q => q.d i j hji hlt (by rw [HX.out, HZ.out])) (by repeat (first | (with_reducible refine Below.setCell ?_ ?_ _) | (with_reducible refine Below.alloc ?_ ?_ _) | (with_reducible refine Below.drew ?_) | (with_reducible refine below_drewN ?_ _) | (with_reducible exact Below.refl _ _) | (with_reducible refine Below.trans ?_ (Below.mono be3 ?_)) | (focus (simp; done)) | (focus (simp; omega)) | (focus omega) | (focus (have q0 := Below.size be3; (try simp at q0); (try simp); omega))))
              · have zq : (zju == ju) = false := by rw [beq_eq_false_iff_ne]; exact hq
                have HQ := Lib.hid hq
                clear hq
                go_wp2_with fail
                go_roundw
                case rel => exact ⟨j + 1, by go_num, by omega, Lib.hid fun k hk hl => by
                  by_cases e : k = j
                  · subst e; rw [HZ.out]; exact HQ.out
                  · exact hne.out k (by omega) hl, (by repeat (first | (with_reducible refine Below.setCell ?_ ?_ _) | (with_reducible refine Below.alloc ?_ ?_ _) | (with_reducible refine Below.drew ?_) | (with_reducible refine below_drewN ?_ _) | (with_reducible exact Below.refl _ _) | (with_reducible refine Below.trans ?_ (Below.mono bz ?_)) | (focus (simp; done)) | (focus (simp; omega)) | (focus omega) | (focus (have q0 := Below.size bz; (try simp at q0); (try simp); omega))))⟩
                case measure => simp [intOf]; omega
            · obtain rfl : j = i := by omega
              go_wp2_with fail
              go_roundw
              case rel => exact ⟨j + 1, by go_num, by omega, Lib.hid fun k hk h1 => by
                by_cases e : k = j
                · subst e; rw [HX.out]; exact HL.out _ HV.out
                · exact hv.out k hk (by omega), Lib.hid fun k j2 hj2 hk h1 => by
                by_cases e : k = j
                · subst e; rw [HX.out]; exact hne.out j2 hj2 (by omega)
                · exact hd.out k j2 hj2 hk (by omega), be3⟩
              case measure => simp [intOf]; omega
      · obtain rfl : i = l.length := by omega
        go_wp2_with fail
        go_ret
        exact Says.yes ⟨fun k hk => hv.out k hk hk, fun k j hj hk => hd.out k j hj hk hk, HB.out⟩ be
  · have HF := Lib.hid (show ¬ LegsOk l from fun q => hb q.n)
    by_cases h1 : l.length < 1
    · have z1 : decide (l.length < 1) = true := decide_eq_true h1
      have z1' : decide ((l.length : Int) < 1) = true := decide_eq_true (by omega)
      clear hb
      go_wp2
      go_ret
      exact Says.no HF.out (by repeat (first | (with_reducible refine Below.setCell ?_ ?_ _) | (with_reducible refine Below.alloc ?_ ?_ _) | (with_reducible refine Below.drew ?_) | (with_reducible refine below_drewN ?_ _) | (with_reducible exact Below.refl _ _) | (focus (simp; done)) | (focus (simp; omega)) | (focus omega)))
    · have z1 : decide (l.length < 1) = false := decide_eq_false (by omega)
      have z1' : decide ((l.length : Int) < 1) = false := decide_eq_false (by omega)
      have z2 : decide (3 < l.length) = true := decide_eq_true (by omega)
      have z2' : decide ((3 : Int) < (l.length : Int)) = true := decide_eq_true (by omega)
      clear hb h1
      go_wp2
      go_ret
      exact Says.no HF.out (by repeat (first | (with_reducible refine Below.setCell ?_ ?_ _) | (with_reducible refine Below.alloc ?_ ?_ _) | (with_reducible refine Below.drew ?_) | (with_reducible refine below_drewN ?_ _) | (with_reducible exact Below.refl _ _) | (focus (simp; done)) | (focus (simp; omega)) | (focus omega)))
end Go.Proofs.Ytbanejpihdhbdaa
