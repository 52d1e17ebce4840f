/- request.Valid -/
import Derived.Test.YtbanejpihdhbdaaRqValid
namespace Go.Proofs.Ytbanejpihdhbdaa
set_option linter.unusedVariables false
open Go.RowKit Go.Sort
set_option maxRecDepth 100000

set_option maxHeartbeats 8000000 in
theorem request_Valid (a : Option Addr) (l : List Rq) (n c : Nat) (q : Int) (w : World) (h : Rqs w a l) (hn : n = l.length) (l9 : n ≤ 100000) (hl : ∀ r ∈ l, r.legs.length ≤ r.c ∧ r.legs.length ≤ 100000) :
    Calls Try.prog 12 #[.slice a n c, .int .i64 q] w (Says (RqsOk (l.map Rq.key) q) w) := by
  subst hn
  have hml : (l.map Rq.key).length = l.length := by simp
  go_enter Try.func12, Try.ntmps12
  by_cases hq1 : (l.length : Int) ≤ q ∧ l.length ≤ 4
  · have z1 : decide (q < (l.length : Int)) = false := decide_eq_false (by omega)
    have z2 : decide (4 < l.length) = false := decide_eq_false (by omega)
    have z2' : decide ((4 : Int) < (l.length : Int)) = false := decide_eq_false (by omega)
    have HQL := Lib.hid hq1
    clear hq1
    go_wp2
    go_loopw [18] (fun s18 wr => ∃ i : Nat, s18 = .int .i64 i ∧ i ≤ l.length ∧ Hid (∀ k (hk : k < l.length), k < i → RkOk l[k].key) ∧ Hid (∀ k (hk : k + 1 < l.length), k + 1 < i → l[k].id < l[k + 1].id) ∧ RowKit.Below w.heap.size w wr) (fun s _ => l.length - (intOf s).toNat)
    case atStart => exact ⟨0, rfl, by omega, Lib.hid fun k _ h => by omega, Lib.hid fun k _ h => by omega, (by repeat (first | (with_reducible refine Below.setCell ?_ ?_ _) | (with_reducible refine Below.alloc ?_ ?_ _) | (with_reducible refine Below.drew ?_) | (with_reducible refine below_drewN ?_ _) | (with_reducible exact Below.refl _ _) | (focus (simp; done)) | (focus (simp; omega)) | (focus omega)))⟩
    case round =>
      obtain ⟨i, rfl, hi, hv, hd, be⟩ := hrel
      by_cases hlt : i < l.length
      · obtain ⟨ba, oa, rfl⟩ := h.open (by omega)
        have hr := h.below be (Nat.le_refl _)
        obtain ⟨x0, x1, x2, x3, x4, xb⟩ := row_req hr.row i hlt
        have hg := hr.legs _ (List.getElem_mem hlt)
        have hgl := hl _ (List.getElem_mem hlt)
        have HNO := Lib.hid (show RqsOk (l.map Rq.key) q → RkOk l[i].key from fun h => by have := h.ok i (by omega); simpa using this)
        have HINC := Lib.hid (show RqsOk (l.map Rq.key) q → ∀ k (hk : k + 1 < l.length), l[k].id < l[k + 1].id from fun h k hk => by have := h.inc k (by omega); simpa [Rq.key] using this)
        have hP : ∃ pid : Int, 0 < i → (wr.cell? ⟨ba, oa + (i - 1) * 5, none⟩ = some (.int .i64 pid) ∧ ∃ h : i - 1 < l.length, l[i - 1].id = pid) := by
          by_cases hi0 : 0 < i
          · exact ⟨(l[i - 1]'(by omega)).id, fun _ => ⟨(row_req hr.row (i - 1) (by omega)).1, by omega, rfl⟩⟩
          · exact ⟨0, fun h => absurd h hi0⟩
        obtain ⟨pid, hpid⟩ := hP
        obtain ⟨x, hx⟩ : ∃ x, l[i] = x := ⟨_, rfl⟩
        have HX := Lib.hid hx
        rw [hx] at x0 x1 x2 x3 x4 hg hgl HNO
        clear hx
        obtain ⟨id, veh, cls, til, lg, la, lc⟩ := x
        simp only at x0 x1 x2 x3 x4 hg hgl
        have kx : (i : Int) < (l.length : Int) := by omega
        go_upto_region 6 with fail
        obtain ⟨V, hV⟩ : ∃ V, wr.heap.size = V := ⟨_, rfl⟩
        refine wp_named (fun Y => Blk Y V 45 #[.int .i64 id, .int .i64 veh, .int .i64 cls, .int .i64 til, .slice la lg.length lc] ∧ Row Y la (lgCells lg) ∧ RowKit.Below wr.heap.size wr Y) ⟨by rw [← hV]; exact Blk.new _ _ _, hg.alloc _, (by repeat (first | (with_reducible refine Below.setCell ?_ ?_ _) | (with_reducible refine Below.alloc ?_ ?_ _) | (with_reducible refine Below.drew ?_) | (with_reducible refine below_drewN ?_ _) | (with_reducible exact Below.refl _ _) | (focus (simp; done)) | (focus (simp; omega)) | (focus omega)))⟩ ?_
        rintro Y ⟨kV, hgY, bY⟩
        have beY : RowKit.Below w.heap.size w Y := (by repeat (first | (with_reducible refine Below.setCell ?_ ?_ _) | (with_reducible refine Below.alloc ?_ ?_ _) | (with_reducible refine Below.drew ?_) | (with_reducible refine below_drewN ?_ _) | (with_reducible exact Below.refl _ _) | (with_reducible refine Below.trans ?_ (Below.mono bY ?_)) | (with_reducible refine Below.trans ?_ (Below.mono be ?_)) | (focus (simp; done)) | (focus (simp; omega)) | (focus omega) | (focus (have q0 := Below.size bY; (try simp at q0); have q1 := Below.size be; (try simp at q1); (try simp); omega))))
        have hpY : 0 < i → (Y.cell? ⟨ba, oa + (i - 1) * 5, none⟩ = some (.int .i64 pid) ∧ ∃ h : i - 1 < l.length, l[i - 1].id = pid) := fun h0 => ⟨((bcell bY).1 _ _ xb).trans (hpid h0).1, (hpid h0).2⟩
        have hbY : ba < Y.heap.size := Nat.lt_of_lt_of_le xb bY.size
        rw [hV]
        have HPY := Lib.hid hpY
        clear hV be bY hpid hg hr x0 x1 x2 x3 x4 xb hpY
        obtain ⟨v0, v1, v2, v3, v4, vf, vl⟩ := kV.five
        cases hb1 : (decide (0 ≤ id) && decide (id ≤ 4294967295)) with
        | false =>
          have B1 := Lib.hid hb1
          have HF := Lib.hid (show ¬ RqsOk (l.map Rq.key) q from fun qq => within_false hb1 (HNO.out qq).1)
          clear hb1
          go_wp2_with ((go_at_call 36; (with_reducible refine (request_numberE B1 _).mono ?_); rintro e w' ⟨rfl, rfl⟩))
          go_ret
          exact Says.no HF.out (by repeat (first | (with_reducible refine Below.setCell ?_ ?_ _) | (with_reducible refine Below.alloc ?_ ?_ _) | (with_reducible refine Below.drew ?_) | (with_reducible refine below_drewN ?_ _) | (with_reducible exact Below.refl _ _) | (with_reducible refine Below.trans ?_ (Below.mono beY ?_)) | (focus (simp; done)) | (focus (simp; omega)) | (focus omega) | (focus (have q0 := Below.size beY; (try simp at q0); (try simp); omega))))
        | true =>
          have B1 := Lib.hid hb1
          clear hb1
          cases hb2 : (decide (0 ≤ veh) && decide (veh ≤ 4294967295)) with
          | false =>
            have B2 := Lib.hid hb2
            have HF := Lib.hid (show ¬ RqsOk (l.map Rq.key) q from fun qq => within_false hb2 (HNO.out qq).2.1)
            clear hb2
            go_wp2_with (first | (go_at_call 36; (with_reducible refine (request_numberE B1 _).mono ?_); rintro e w' ⟨rfl, rfl⟩) | (go_at_call 36; (with_reducible refine (request_numberE B2 _).mono ?_); rintro e w' ⟨rfl, rfl⟩))
            go_ret
            exact Says.no HF.out (by repeat (first | (with_reducible refine Below.setCell ?_ ?_ _) | (with_reducible refine Below.alloc ?_ ?_ _) | (with_reducible refine Below.drew ?_) | (with_reducible refine below_drewN ?_ _) | (with_reducible exact Below.refl _ _) | (with_reducible refine Below.trans ?_ (Below.mono beY ?_)) | (focus (simp; done)) | (focus (simp; omega)) | (focus omega) | (focus (have q0 := Below.size beY; (try simp at q0); (try simp); omega))))
          | true =>
            have B2 := Lib.hid hb2
            clear hb2
            cases hb3 : (decide (0 ≤ cls) && decide (cls ≤ 3)) with
            | false =>
              have B3 := Lib.hid hb3
              have HF := Lib.hid (show ¬ RqsOk (l.map Rq.key) q from fun qq => within_false hb3 (HNO.out qq).2.2.1)
              clear hb3
              go_wp2_with (first | (go_at_call 36; (with_reducible refine (request_numberE B1 _).mono ?_); rintro e w' ⟨rfl, rfl⟩) | (go_at_call 36; (with_reducible refine (request_numberE B2 _).mono ?_); rintro e w' ⟨rfl, rfl⟩) | (go_at_call 37; (with_reducible refine (request_classE B3 _).mono ?_); rintro e w' ⟨rfl, rfl⟩))
              go_ret
              exact Says.no HF.out (by repeat (first | (with_reducible refine Below.setCell ?_ ?_ _) | (with_reducible refine Below.alloc ?_ ?_ _) | (with_reducible refine Below.drew ?_) | (with_reducible refine below_drewN ?_ _) | (with_reducible exact Below.refl _ _) | (with_reducible refine Below.trans ?_ (Below.mono beY ?_)) | (focus (simp; done)) | (focus (simp; omega)) | (focus omega) | (focus (have q0 := Below.size beY; (try simp at q0); (try simp); omega))))
            | true =>
              have B3 := Lib.hid hb3
              clear hb3
              by_cases hb5 : LegsOk lg
              · have B5 := Lib.hid hb5
                clear hb5
                have CELLS : True := trivial
                by_cases ht0 : til < 0
                · have HF := Lib.hid (show ¬ RqsOk (l.map Rq.key) q from fun qq => by have := (HNO.out qq).2.2.2.1.1; exact absurd ht0 (Int.not_lt.2 this))
                  go_wp2_with (first | (go_at_call 36; (with_reducible refine (request_numberE B1 _).mono ?_); rintro e w' ⟨rfl, rfl⟩) | (go_at_call 36; (with_reducible refine (request_numberE B2 _).mono ?_); rintro e w' ⟨rfl, rfl⟩) | (go_at_call 37; (with_reducible refine (request_classE B3 _).mono ?_); rintro e w' ⟨rfl, rfl⟩) | (go_at_call 39; (with_reducible refine (Says.y (request_validLegs la lg lg.length lc _ hgY rfl hgl.1 (by omega)) B5.out).mono ?_); rintro e w2 ⟨rfl, hb2⟩; ((have k2 := kV.below hb2 vl); clear v0 v1 v2 v3 v4 vf; (obtain ⟨v0, v1, v2, v3, v4, vf, vl2⟩ := k2.five))))
                  go_ret
                  exact Says.no HF.out (by repeat (first | (with_reducible refine Below.setCell ?_ ?_ _) | (with_reducible refine Below.alloc ?_ ?_ _) | (with_reducible refine Below.drew ?_) | (with_reducible refine below_drewN ?_ _) | (with_reducible exact Below.refl _ _) | (with_reducible refine Below.trans ?_ (Below.mono hb2 ?_)) | (with_reducible refine Below.trans ?_ (Below.mono beY ?_)) | (focus (simp; done)) | (focus (simp; omega)) | (focus omega) | (focus (have q0 := Below.size hb2; (try simp at q0); have q1 := Below.size beY; (try simp at q1); (try simp); omega))))
                · by_cases ht1 : 2147483648 < til
                  · have HF := Lib.hid (show ¬ RqsOk (l.map Rq.key) q from fun qq => by have := (HNO.out qq).2.2.2.1.2; exact absurd ht1 (Int.not_lt.2 this))
                    go_wp2_with (first | (go_at_call 36; (with_reducible refine (request_numberE B1 _).mono ?_); rintro e w' ⟨rfl, rfl⟩) | (go_at_call 36; (with_reducible refine (request_numberE B2 _).mono ?_); rintro e w' ⟨rfl, rfl⟩) | (go_at_call 37; (with_reducible refine (request_classE B3 _).mono ?_); rintro e w' ⟨rfl, rfl⟩) | (go_at_call 39; (with_reducible refine (Says.y (request_validLegs la lg lg.length lc _ hgY rfl hgl.1 (by omega)) B5.out).mono ?_); rintro e w2 ⟨rfl, hb2⟩; ((have k2 := kV.below hb2 vl); clear v0 v1 v2 v3 v4 vf; (obtain ⟨v0, v1, v2, v3, v4, vf, vl2⟩ := k2.five))))
                    go_ret
                    exact Says.no HF.out (by repeat (first | (with_reducible refine Below.setCell ?_ ?_ _) | (with_reducible refine Below.alloc ?_ ?_ _) | (with_reducible refine Below.drew ?_) | (with_reducible refine below_drewN ?_ _) | (with_reducible exact Below.refl _ _) | (with_reducible refine Below.trans ?_ (Below.mono hb2 ?_)) | (with_reducible refine Below.trans ?_ (Below.mono beY ?_)) | (focus (simp; done)) | (focus (simp; omega)) | (focus omega) | (focus (have q0 := Below.size hb2; (try simp at q0); have q1 := Below.size beY; (try simp at q1); (try simp); omega))))
                  · have HR : Hid (RkOk (⟨id, veh, cls, til, lg, la, lc⟩ : Rq).key) := Lib.hid ⟨within_true B1.out, within_true B2.out, within_true B3.out, (⟨by omega, by omega⟩ : 0 ≤ til ∧ til ≤ 2147483648), B5.out⟩
                    go_upto_region 10 with (first | (go_at_call 36; (with_reducible refine (request_numberE B1 _).mono ?_); rintro e w' ⟨rfl, rfl⟩) | (go_at_call 36; (with_reducible refine (request_numberE B2 _).mono ?_); rintro e w' ⟨rfl, rfl⟩) | (go_at_call 37; (with_reducible refine (request_classE B3 _).mono ?_); rintro e w' ⟨rfl, rfl⟩) | (go_at_call 39; (with_reducible refine (Says.y (request_validLegs la lg lg.length lc _ hgY rfl hgl.1 (by omega)) B5.out).mono ?_); rintro e w2 ⟨rfl, hb2⟩; ((have k2 := kV.below hb2 vl); clear v0 v1 v2 v3 v4 vf; (obtain ⟨v0, v1, v2, v3, v4, vf, vl2⟩ := k2.five))))
                    have be2 : RowKit.Below w.heap.size w w2 := (by repeat (first | (with_reducible refine Below.setCell ?_ ?_ _) | (with_reducible refine Below.alloc ?_ ?_ _) | (with_reducible refine Below.drew ?_) | (with_reducible refine below_drewN ?_ _) | (with_reducible exact Below.refl _ _) | (with_reducible refine Below.trans ?_ (Below.mono hb2 ?_)) | (with_reducible refine Below.trans ?_ (Below.mono beY ?_)) | (focus (simp; done)) | (focus (simp; omega)) | (focus omega) | (focus (have q0 := Below.size hb2; (try simp at q0); have q1 := Below.size beY; (try simp at q1); (try simp); omega))))
                    have hpW : 0 < i → (w2.cell? ⟨ba, oa + (i - 1) * 5, none⟩ = some (.int .i64 pid) ∧ ∃ h : i - 1 < l.length, l[i - 1].id = pid) := fun h0 => ⟨((bcell hb2).1 _ _ hbY).trans (HPY.out h0).1, (HPY.out h0).2⟩
                    have hbW : ba < w2.heap.size := Nat.lt_of_lt_of_le hbY hb2.size
                    have r1 : ∀ (d : Nat) (os : Array Obj) (o : Nat), (grow (redrawn w2 d) os).cell? ⟨V, o, none⟩ = w2.cell? ⟨V, o, none⟩ := fun d os o => cells_regrown _ _ _ _ _ vl2
                    have r2 : ∀ (d : Nat) (os : Array Obj) (o : Nat), (grow (redrawn w2 d) os).cell? ⟨ba, o, none⟩ = w2.cell? ⟨ba, o, none⟩ := fun d os o => cells_regrown _ _ _ _ _ hbW
                    clear ht0 ht1 hb2 kV hgY beY
                    by_cases hi0 : 0 < i
                    · obtain ⟨p0, hp1, hp2⟩ := hpW hi0
                      have HP := Lib.hid (show ∃ h : i - 1 < l.length, l[i - 1].id = pid from ⟨hp1, hp2⟩)
                      have z0 : decide ((0 : Int) < (i : Int)) = true := by rw [decide_eq_true_eq]; omega
                      have zi : 0 ≤ (i : Int) - 1 ∧ (i : Int) - 1 < (l.length : Int) := by omega
                      have zt : ((i : Int) - 1).toNat = i - 1 := by omega
                      have zw : IntKind.i64.wrap ((i : Int) - 1) = (i : Int) - 1 := by rw [IntKind.wrap_i64]; omega
                      clear hpW hp1 hp2
                      by_cases hinc : pid < id
                      · have zc : decide (id ≤ pid) = false := by rw [decide_eq_false_iff_not]; omega
                        have HINC2 := Lib.hid hinc
                        clear hinc
                        (refine wp_region_quiet_below (by kernel_rfl) (by kernel_rfl) ?_; (repeat (go_big_quiet_step (first | (go_at_call 36; fail)))); refine wpQuiet_nil ?_; intro wq hwq; have hbq := below_of_regrown hwq; clear hwq)
                        go_wp2_with fail
                        go_roundw
                        case rel => exact ⟨i + 1, by go_num, by omega, Lib.hid fun k hk h1 => by
                          by_cases e : k = i
                          · subst e; rw [HX.out]; exact HR.out
                          · exact hv.out k hk (by omega), Lib.hid fun k hk h1 => by
                          by_cases e : k + 1 = i
                          · subst e
                            obtain ⟨_, h2⟩ := HP.out
                            rw [HX.out]
                            have h3 : l[k].id = pid := h2
                            rw [h3]; exact HINC2.out
                          · exact hd.out k hk (by omega), (by repeat (first | (with_reducible refine Below.setCell ?_ ?_ _) | (with_reducible refine Below.alloc ?_ ?_ _) | (with_reducible refine Below.drew ?_) | (with_reducible refine below_drewN ?_ _) | (with_reducible exact Below.refl _ _) | (with_reducible refine Below.trans ?_ (Below.mono hbq ?_)) | (with_reducible refine Below.trans ?_ (Below.mono be2 ?_)) | (focus (simp; done)) | (focus (simp; omega)) | (focus omega) | (focus (have q0 := Below.size hbq; (try simp at q0); have q1 := Below.size be2; (try simp at q1); (try simp); omega))))⟩
                        case measure => simp [intOf]; omega
                      · have zc : decide (id ≤ pid) = true := by rw [decide_eq_true_eq]; omega
                        have HF := Lib.hid (show ¬ RqsOk (l.map Rq.key) q from fun qq => by
                          have h4 := HINC.out qq (i - 1) (by omega)
                          obtain ⟨h5, h6⟩ := HP.out
                          have h7 : i - 1 + 1 = i := by omega
                          simp only [h7, HX.out, h6] at h4
                          exact hinc h4)
                        clear hinc
                        (refine wp_region_quiet_below (by kernel_rfl) (by kernel_rfl) ?_; (repeat (go_big_quiet_step (first | (go_at_call 36; fail)))); refine wpQuiet_nil ?_; intro wq hwq; have hbq := below_of_regrown hwq; clear hwq)
                        go_wp2_with fail
                        go_ret
                        exact Says.no HF.out (by repeat (first | (with_reducible refine Below.setCell ?_ ?_ _) | (with_reducible refine Below.alloc ?_ ?_ _) | (with_reducible refine Below.drew ?_) | (with_reducible refine below_drewN ?_ _) | (with_reducible exact Below.refl _ _) | (with_reducible refine Below.trans ?_ (Below.mono hbq ?_)) | (with_reducible refine Below.trans ?_ (Below.mono be2 ?_)) | (focus (simp; done)) | (focus (simp; omega)) | (focus omega) | (focus (have q0 := Below.size hbq; (try simp at q0); have q1 := Below.size be2; (try simp at q1); (try simp); omega))))
                    · have z0 : decide ((0 : Int) < (i : Int)) = false := by rw [decide_eq_false_iff_not]; omega
                      clear hpW
                      (refine wp_region_quiet_below (by kernel_rfl) (by kernel_rfl) ?_; (repeat (go_big_quiet_step (first | (go_at_call 36; fail)))); refine wpQuiet_nil ?_; intro wq hwq; have hbq := below_of_regrown hwq; clear hwq)
                      go_wp2_with fail
                      go_roundw
                      case rel => exact ⟨i + 1, by go_num, by omega, Lib.hid fun k hk h1 => by
                        by_cases e : k = i
                        · subst e; rw [HX.out]; exact HR.out
                        · exact hv.out k hk (by omega), Lib.hid fun k hk h1 => by omega, (by repeat (first | (with_reducible refine Below.setCell ?_ ?_ _) | (with_reducible refine Below.alloc ?_ ?_ _) | (with_reducible refine Below.drew ?_) | (with_reducible refine below_drewN ?_ _) | (with_reducible exact Below.refl _ _) | (with_reducible refine Below.trans ?_ (Below.mono hbq ?_)) | (with_reducible refine Below.trans ?_ (Below.mono be2 ?_)) | (focus (simp; done)) | (focus (simp; omega)) | (focus omega) | (focus (have q0 := Below.size hbq; (try simp at q0); have q1 := Below.size be2; (try simp at q1); (try simp); omega))))⟩
                      case measure => simp [intOf]; omega
              · have B5 := Lib.hid hb5
                have HF := Lib.hid (show ¬ RqsOk (l.map Rq.key) q from fun qq => hb5 (HNO.out qq).2.2.2.2)
                clear hb5
                go_wp2_with (first | (go_at_call 36; (with_reducible refine (request_numberE B1 _).mono ?_); rintro e w' ⟨rfl, rfl⟩) | (go_at_call 36; (with_reducible refine (request_numberE B2 _).mono ?_); rintro e w' ⟨rfl, rfl⟩) | (go_at_call 37; (with_reducible refine (request_classE B3 _).mono ?_); rintro e w' ⟨rfl, rfl⟩) | (go_at_call 39; (with_reducible refine (Says.n (request_validLegs la lg lg.length lc _ hgY rfl hgl.1 (by omega)) B5.out).mono ?_); rintro e w2 ⟨rfl, hb2⟩))
                go_ret
                exact Says.no HF.out (by repeat (first | (with_reducible refine Below.setCell ?_ ?_ _) | (with_reducible refine Below.alloc ?_ ?_ _) | (with_reducible refine Below.drew ?_) | (with_reducible refine below_drewN ?_ _) | (with_reducible exact Below.refl _ _) | (with_reducible refine Below.trans ?_ (Below.mono hb2 ?_)) | (with_reducible refine Below.trans ?_ (Below.mono beY ?_)) | (focus (simp; done)) | (focus (simp; omega)) | (focus omega) | (focus (have q0 := Below.size hb2; (try simp at q0); have q1 := Below.size beY; (try simp at q1); (try simp); omega))))
      · obtain rfl : i = l.length := by omega
        go_wp2_with fail
        go_ret
        exact Says.yes ⟨fun k hk => by simp at hk; have := hv.out k hk hk; simpa using this, fun k hk => by simp at hk; have := hd.out k hk hk; simpa [Rq.key] using this, by rw [hml]; exact HQL.out⟩ be
  · have HF := Lib.hid (show ¬ RqsOk (l.map Rq.key) q from fun qq => hq1 (by have := qq.n; rw [hml] at this; exact this))
    by_cases h1 : q < (l.length : Int)
    · have z1 : decide (q < (l.length : Int)) = true := decide_eq_true h1
      clear hq1
      go_wp2
      go_ret
      exact Says.no HF.out (by repeat (first | (with_reducible refine Below.setCell ?_ ?_ _) | (with_reducible refine Below.alloc ?_ ?_ _) | (with_reducible refine Below.drew ?_) | (with_reducible refine below_drewN ?_ _) | (with_reducible exact Below.refl _ _) | (focus (simp; done)) | (focus (simp; omega)) | (focus omega)))
    · have z1 : decide (q < (l.length : Int)) = false := decide_eq_false h1
      have h4 : 4 < l.length := by omega
      have z2 : decide (4 < l.length) = true := decide_eq_true h4
      have z2' : decide ((4 : Int) < (l.length : Int)) = true := decide_eq_true (by omega)
      clear hq1
      go_wp2
      go_ret
      exact Says.no HF.out (by repeat (first | (with_reducible refine Below.setCell ?_ ?_ _) | (with_reducible refine Below.alloc ?_ ?_ _) | (with_reducible refine Below.drew ?_) | (with_reducible refine below_drewN ?_ _) | (with_reducible exact Below.refl _ _) | (focus (simp; done)) | (focus (simp; omega)) | (focus omega)))
end Go.Proofs.Ytbanejpihdhbdaa
