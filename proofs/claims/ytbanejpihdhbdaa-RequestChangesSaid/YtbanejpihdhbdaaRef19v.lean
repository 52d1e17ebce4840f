/- signalbrokerref19.Valid -/
import Derived.Test.YtbanejpihdhbdaaRef19b
import Derived.Test.YtbanejpihdhbdaaQuiet
namespace Go.Proofs.Ytbanejpihdhbdaa
set_option linter.unusedVariables false
open Go.RowKit Go.Sort
set_option maxRecDepth 100000

def RkOk (r : Rk) : Prop := (0 ≤ r.1 ∧ r.1 ≤ 4294967295) ∧ (0 ≤ r.2.1 ∧ r.2.1 ≤ 4294967295) ∧ (0 ≤ r.2.2.1 ∧ r.2.2.1 ≤ 3) ∧ (0 ≤ r.2.2.2.1 ∧ r.2.2.2.1 ≤ 2147483648) ∧ LegsOk r.2.2.2.2
structure RqsOk (l : List Rk) (q : Int) : Prop where
  ok : ∀ i (h : i < l.length), RkOk l[i]
  inc : ∀ i (h : i + 1 < l.length), l[i].1 < l[i + 1].1
  n : (l.length : Int) ≤ q ∧ l.length ≤ 4
theorem ref19_withinE {n lo hi : Int} {b : Bool} (h : Hid ((decide (lo ≤ n) && decide (n ≤ hi)) = b)) (w : World) : Calls Try.prog 52 #[.int .i64 n, .int .i64 lo, .int .i64 hi] w fun e w' => e = .returned (.bool b) ∧ w = w' := by
  have := ref19_within n lo hi w
  rw [h.out] at this
  exact this
theorem within_false {lo n hi : Int} (h : (decide (lo ≤ n) && decide (n ≤ hi)) = false) : ¬ (lo ≤ n ∧ n ≤ hi) := fun ⟨h1, h2⟩ => by simp [h1, h2] at h
theorem within_true {lo n hi : Int} (h : (decide (lo ≤ n) && decide (n ≤ hi)) = true) : lo ≤ n ∧ n ≤ hi := by simpa using h
set_option maxHeartbeats 8000000 in
theorem ref19_Valid (a : Option Addr) (l : List Rq) (n c : Nat) (q : Int) (w : World) (h : Rqs w a l) (hn : n = l.length) (l9 : n ≤ 100000) (hl : ∀ r ∈ l, r.legs.length ≤ r.c ∧ r.legs.length ≤ 100000) :
    Calls Try.prog 27 #[.slice a n c, .int .i64 q] w (Says (RqsOk (l.map Rq.key) q) w) := by
  subst hn
  have hml : (l.map Rq.key).length = l.length := by simp
  go_enter Try.func27, Try.ntmps27
  go_wp2
  go_loopw [9] (fun s9 wr => ∃ i : Nat, s9 = .int .i64 i ∧ i ≤ l.length ∧ Hid (∀ k (hk : k < l.length), k < i → RkOk l[k].key) ∧ Hid (∀ k (hk : k + 1 < l.length), k + 1 < i → l[k].id < l[k + 1].id) ∧ RowKit.Below w.heap.size w wr) (fun s _ => l.length - (intOf s).toNat)
  case atStart => exact ⟨0, rfl, by omega, Lib.hid fun k _ h => by omega, Lib.hid fun k _ h => by omega, (by repeat (first | (with_reducible refine Below.setCell ?_ ?_ _) | (with_reducible refine Below.alloc ?_ ?_ _) | (with_reducible refine Below.drew ?_) | (with_reducible refine below_drewN ?_ _) | (with_reducible exact Below.refl _ _) | (focus (simp; done)) | (focus (simp; omega)) | (focus omega)))⟩
  case round =>
    obtain ⟨i, rfl, hi, hv, hd, be⟩ := hrel
    by_cases hlt : i < l.length
    · obtain ⟨ba, oa, rfl⟩ := h.open (by omega)
      have hr := h.below be (Nat.le_refl _)
      obtain ⟨x0, x1, x2, x3, x4, xb⟩ := row_req hr.row i hlt
      have hg := hr.legs _ (List.getElem_mem hlt)
      have hgl := hl _ (List.getElem_mem hlt)
      have HNO := Lib.hid (show RqsOk (l.map Rq.key) q → RkOk l[i].key from fun h => by have := h.ok i (by omega); simpa using this)
      have HINC := Lib.hid (show RqsOk (l.map Rq.key) q → ∀ k (hk : k + 1 < l.length), l[k].id < l[k + 1].id from fun h k hk => by have := h.inc k (by omega); simpa [Rq.key] using this)
      have hP : ∃ pid : Int, 0 < i → (wr.cell? ⟨ba, oa + (i - 1) * 5, none⟩ = some (.int .i64 pid) ∧ ∃ h : i - 1 < l.length, l[i - 1].id = pid) := by
        by_cases hi0 : 0 < i
        · exact ⟨(l[i - 1]'(by omega)).id, fun _ => ⟨(row_req hr.row (i - 1) (by omega)).1, by omega, rfl⟩⟩
        · exact ⟨0, fun h => absurd h hi0⟩
      obtain ⟨pid, hpid⟩ := hP
      obtain ⟨x, hx⟩ : ∃ x, l[i] = x := ⟨_, rfl⟩
      have HX := Lib.hid hx
      rw [hx] at x0 x1 x2 x3 x4 hg hgl HNO
      clear hx
      obtain ⟨id, veh, cls, til, lg, la, lc⟩ := x
      simp only at x0 x1 x2 x3 x4 hg hgl
      have kx : (i : Int) < (l.length : Int) := by omega
      go_upto_region 4 with fail
      obtain ⟨V, hV⟩ : ∃ V, wr.heap.size = V := ⟨_, rfl⟩
      refine wp_named (fun Y => Blk Y V 45 #[.int .i64 id, .int .i64 veh, .int .i64 cls, .int .i64 til, .slice la lg.length lc] ∧ Row Y la (lgCells lg) ∧ RowKit.Below wr.heap.size wr Y) ⟨by rw [← hV]; exact Blk.new _ _ _, hg.alloc _, (by repeat (first | (with_reducible refine Below.setCell ?_ ?_ _) | (with_reducible refine Below.alloc ?_ ?_ _) | (with_reducible refine Below.drew ?_) | (with_reducible refine below_drewN ?_ _) | (with_reducible exact Below.refl _ _) | (focus (simp; done)) | (focus (simp; omega)) | (focus omega)))⟩ ?_
      rintro Y ⟨kV, hgY, bY⟩
      have beY : RowKit.Below w.heap.size w Y := (by repeat (first | (with_reducible refine Below.setCell ?_ ?_ _) | (with_reducible refine Below.alloc ?_ ?_ _) | (with_reducible refine Below.drew ?_) | (with_reducible refine below_drewN ?_ _) | (with_reducible exact Below.refl _ _) | (with_reducible refine Below.trans ?_ (Below.mono bY ?_)) | (with_reducible refine Below.trans ?_ (Below.mono be ?_)) | (focus (simp; done)) | (focus (simp; omega)) | (focus omega) | (focus (have q0 := Below.size bY; (try simp at q0); have q1 := Below.size be; (try simp at q1); (try simp); omega))))
      have hpY : 0 < i → (Y.cell? ⟨ba, oa + (i - 1) * 5, none⟩ = some (.int .i64 pid) ∧ ∃ h : i - 1 < l.length, l[i - 1].id = pid) := fun h0 => ⟨((bcell bY).1 _ _ xb).trans (hpid h0).1, (hpid h0).2⟩
      have hbY : ba < Y.heap.size := Nat.lt_of_lt_of_le xb bY.size
      rw [hV]
      have HG := Lib.hid hgY
      clear hV be bY hpid hg hgY hr x0 x1 x2 x3 x4 xb
      obtain ⟨v0, v1, v2, v3, v4, vf, vl⟩ := kV.five
      have r1 : ∀ (d : Nat) (os : Array Obj) (o : Nat), (grow (redrawn Y d) os).cell? ⟨V, o, none⟩ = Y.cell? ⟨V, o, none⟩ := fun d os o => cells_regrown _ _ _ _ _ vl
      have r2 : ∀ (d : Nat) (os : Array Obj) (o : Nat), (grow (redrawn Y d) os).cell? ⟨ba, o, none⟩ = Y.cell? ⟨ba, o, none⟩ := fun d os o => cells_regrown _ _ _ _ _ hbY
      cases hb1 : (decide (0 ≤ id) && decide (id ≤ 4294967295)) with
      | false =>
        have B1 := Lib.hid hb1
        have HF := Lib.hid (show ¬ RqsOk (l.map Rq.key) q from fun qq => within_false hb1 (HNO.out qq).1)
        clear hb1 hpY
        (refine wp_region_quiet_below (by kernel_rfl) (by kernel_rfl) ?_; (repeat (go_big_quiet_step (first | (go_at_call 52; with_reducible exact qg (ref19_withinE B1 _))))); refine wpQuiet_nil ?_; intro wq hwq; have hbq := below_of_regrown hwq; clear hwq)
        go_wp2_with fail
        go_ret
        exact Says.no HF.out (by repeat (first | (with_reducible refine Below.setCell ?_ ?_ _) | (with_reducible refine Below.alloc ?_ ?_ _) | (with_reducible refine Below.drew ?_) | (with_reducible refine below_drewN ?_ _) | (with_reducible exact Below.refl _ _) | (with_reducible refine Below.trans ?_ (Below.mono hbq ?_)) | (with_reducible refine Below.trans ?_ (Below.mono beY ?_)) | (focus (simp; done)) | (focus (simp; omega)) | (focus omega) | (focus (have q0 := Below.size hbq; (try simp at q0); have q1 := Below.size beY; (try simp at q1); (try simp); omega))))
      | true =>
        have B1 := Lib.hid hb1
        clear hb1
        cases hb2 : (decide (0 ≤ veh) && decide (veh ≤ 4294967295)) with
        | false =>
          have B2 := Lib.hid hb2
          have HF := Lib.hid (show ¬ RqsOk (l.map Rq.key) q from fun qq => within_false hb2 (HNO.out qq).2.1)
          clear hb2 hpY
          (refine wp_region_quiet_below (by kernel_rfl) (by kernel_rfl) ?_; (repeat (go_big_quiet_step (first | (go_at_call 52; with_reducible exact qg (ref19_withinE B1 _)) | (go_at_call 52; with_reducible exact qg (ref19_withinE B2 _))))); refine wpQuiet_nil ?_; intro wq hwq; have hbq := below_of_regrown hwq; clear hwq)
          go_wp2_with fail
          go_ret
          exact Says.no HF.out (by repeat (first | (with_reducible refine Below.setCell ?_ ?_ _) | (with_reducible refine Below.alloc ?_ ?_ _) | (with_reducible refine Below.drew ?_) | (with_reducible refine below_drewN ?_ _) | (with_reducible exact Below.refl _ _) | (with_reducible refine Below.trans ?_ (Below.mono hbq ?_)) | (with_reducible refine Below.trans ?_ (Below.mono beY ?_)) | (focus (simp; done)) | (focus (simp; omega)) | (focus omega) | (focus (have q0 := Below.size hbq; (try simp at q0); have q1 := Below.size beY; (try simp at q1); (try simp); omega))))
        | true =>
          have B2 := Lib.hid hb2
          clear hb2
          cases hb3 : (decide (0 ≤ cls) && decide (cls ≤ 3)) with
          | false =>
            have B3 := Lib.hid hb3
            have HF := Lib.hid (show ¬ RqsOk (l.map Rq.key) q from fun qq => within_false hb3 (HNO.out qq).2.2.1)
            clear hb3 hpY
            (refine wp_region_quiet_below (by kernel_rfl) (by kernel_rfl) ?_; (repeat (go_big_quiet_step (first | (go_at_call 52; with_reducible exact qg (ref19_withinE B1 _)) | (go_at_call 52; with_reducible exact qg (ref19_withinE B2 _)) | (go_at_call 52; with_reducible exact qg (ref19_withinE B3 _))))); refine wpQuiet_nil ?_; intro wq hwq; have hbq := below_of_regrown hwq; clear hwq)
            go_wp2_with fail
            go_ret
            exact Says.no HF.out (by repeat (first | (with_reducible refine Below.setCell ?_ ?_ _) | (with_reducible refine Below.alloc ?_ ?_ _) | (with_reducible refine Below.drew ?_) | (with_reducible refine below_drewN ?_ _) | (with_reducible exact Below.refl _ _) | (with_reducible refine Below.trans ?_ (Below.mono hbq ?_)) | (with_reducible refine Below.trans ?_ (Below.mono beY ?_)) | (focus (simp; done)) | (focus (simp; omega)) | (focus omega) | (focus (have q0 := Below.size hbq; (try simp at q0); have q1 := Below.size beY; (try simp at q1); (try simp); omega))))
          | true =>
            have B3 := Lib.hid hb3
            clear hb3
            cases hb4 : (decide (0 ≤ til) && decide (til ≤ 2147483648)) with
            | false =>
              have B4 := Lib.hid hb4
              have HF := Lib.hid (show ¬ RqsOk (l.map Rq.key) q from fun qq => within_false hb4 (HNO.out qq).2.2.2.1)
              clear hb4 hpY
              (refine wp_region_quiet_below (by kernel_rfl) (by kernel_rfl) ?_; (repeat (go_big_quiet_step (first | (go_at_call 52; with_reducible exact qg (ref19_withinE B1 _)) | (go_at_call 52; with_reducible exact qg (ref19_withinE B2 _)) | (go_at_call 52; with_reducible exact qg (ref19_withinE B3 _)) | (go_at_call 52; with_reducible exact qg (ref19_withinE B4 _))))); refine wpQuiet_nil ?_; intro wq hwq; have hbq := below_of_regrown hwq; clear hwq)
              go_wp2_with fail
              go_ret
              exact Says.no HF.out (by repeat (first | (with_reducible refine Below.setCell ?_ ?_ _) | (with_reducible refine Below.alloc ?_ ?_ _) | (with_reducible refine Below.drew ?_) | (with_reducible refine below_drewN ?_ _) | (with_reducible exact Below.refl _ _) | (with_reducible refine Below.trans ?_ (Below.mono hbq ?_)) | (with_reducible refine Below.trans ?_ (Below.mono beY ?_)) | (focus (simp; done)) | (focus (simp; omega)) | (focus omega) | (focus (have q0 := Below.size hbq; (try simp at q0); have q1 := Below.size beY; (try simp at q1); (try simp); omega))))
            | true =>
              have B4 := Lib.hid hb4
              clear hb4
              by_cases hb5 : LegsOk lg
              · have B5 := Lib.hid hb5
                have HR : Hid (RkOk (⟨id, veh, cls, til, lg, la, lc⟩ : Rq).key) := Lib.hid ⟨within_true B1.out, within_true B2.out, within_true B3.out, within_true B4.out, hb5⟩
                clear hb5
                by_cases hi0 : 0 < i
                · obtain ⟨p0, hp1, hp2⟩ := hpY hi0
                  have HP := Lib.hid (show ∃ h : i - 1 < l.length, l[i - 1].id = pid from ⟨hp1, hp2⟩)
                  have z0 : decide ((0 : Int) < (i : Int)) = true := by rw [decide_eq_true_eq]; omega
                  have zi : 0 ≤ (i : Int) - 1 ∧ (i : Int) - 1 < (l.length : Int) := by omega
                  have zt : ((i : Int) - 1).toNat = i - 1 := by omega
                  have zw : IntKind.i64.wrap ((i : Int) - 1) = (i : Int) - 1 := by rw [IntKind.wrap_i64]; omega
                  clear hpY hp1 hp2
                  by_cases hinc : pid < id
                  · have zc : decide (id ≤ pid) = false := by rw [decide_eq_false_iff_not]; omega
                    have HINC2 := Lib.hid hinc
                    clear hinc
                    (refine wp_region_quiet_below (by kernel_rfl) (by kernel_rfl) ?_; (repeat (go_big_quiet_step (first | (go_at_call 52; with_reducible exact qg (ref19_withinE B1 _)) | (go_at_call 52; with_reducible exact qg (ref19_withinE B2 _)) | (go_at_call 52; with_reducible exact qg (ref19_withinE B3 _)) | (go_at_call 52; with_reducible exact qg (ref19_withinE B4 _)) | (go_at_call 53; exact qb (Says.y (ref19_legs la lg lg.length lc _ (HG.out.below (below_regrown Y _ _) (Nat.le_refl _)) rfl hgl.1 (by omega)) B5.out))))); refine wpQuiet_nil ?_; intro wq hwq; have hbq := below_of_regrown hwq; clear hwq)
                    go_wp2_with fail
                    go_roundw
                    case rel => exact ⟨i + 1, by go_num, by omega, Lib.hid fun k hk h1 => by
                      by_cases e : k = i
                      · subst e; rw [HX.out]; exact HR.out
                      · exact hv.out k hk (by omega), Lib.hid fun k hk h1 => by
                      by_cases e : k + 1 = i
                      · subst e
                        obtain ⟨_, h2⟩ := HP.out
                        rw [HX.out]
                        have h3 : l[k].id = pid := h2
                        rw [h3]; exact HINC2.out
                      · exact hd.out k hk (by omega), (by repeat (first | (with_reducible refine Below.setCell ?_ ?_ _) | (with_reducible refine Below.alloc ?_ ?_ _) | (with_reducible refine Below.drew ?_) | (with_reducible refine below_drewN ?_ _) | (with_reducible exact Below.refl _ _) | (with_reducible refine Below.trans ?_ (Below.mono hbq ?_)) | (with_reducible refine Below.trans ?_ (Below.mono beY ?_)) | (focus (simp; done)) | (focus (simp; omega)) | (focus omega) | (focus (have q0 := Below.size hbq; (try simp at q0); have q1 := Below.size beY; (try simp at q1); (try simp); omega))))⟩
                    case measure => simp [intOf]; omega
                  · have zc : decide (id ≤ pid) = true := by rw [decide_eq_true_eq]; omega
                    have HF := Lib.hid (show ¬ RqsOk (l.map Rq.key) q from fun qq => by
                      have h4 := HINC.out qq (i - 1) (by omega)
                      obtain ⟨h5, h6⟩ := HP.out
                      have h7 : i - 1 + 1 = i := by omega
                      simp only [h7, HX.out, h6] at h4
                      exact hinc h4)
                    clear hinc
                    (refine wp_region_quiet_below (by kernel_rfl) (by kernel_rfl) ?_; (repeat (go_big_quiet_step (first | (go_at_call 52; with_reducible exact qg (ref19_withinE B1 _)) | (go_at_call 52; with_reducible exact qg (ref19_withinE B2 _)) | (go_at_call 52; with_reducible exact qg (ref19_withinE B3 _)) | (go_at_call 52; with_reducible exact qg (ref19_withinE B4 _)) | (go_at_call 53; exact qb (Says.y (ref19_legs la lg lg.length lc _ (HG.out.below (below_regrown Y _ _) (Nat.le_refl _)) rfl hgl.1 (by omega)) B5.out))))); refine wpQuiet_nil ?_; intro wq hwq; have hbq := below_of_regrown hwq; clear hwq)
                    go_wp2_with fail
                    go_ret
                    exact Says.no HF.out (by repeat (first | (with_reducible refine Below.setCell ?_ ?_ _) | (with_reducible refine Below.alloc ?_ ?_ _) | (with_reducible refine Below.drew ?_) | (with_reducible refine below_drewN ?_ _) | (with_reducible exact Below.refl _ _) | (with_reducible refine Below.trans ?_ (Below.mono hbq ?_)) | (with_reducible refine Below.trans ?_ (Below.mono beY ?_)) | (focus (simp; done)) | (focus (simp; omega)) | (focus omega) | (focus (have q0 := Below.size hbq; (try simp at q0); have q1 := Below.size beY; (try simp at q1); (try simp); omega))))
                · have z0 : decide ((0 : Int) < (i : Int)) = false := by rw [decide_eq_false_iff_not]; omega
                  clear hpY
                  (refine wp_region_quiet_below (by kernel_rfl) (by kernel_rfl) ?_; (repeat (go_big_quiet_step (first | (go_at_call 52; with_reducible exact qg (ref19_withinE B1 _)) | (go_at_call 52; with_reducible exact qg (ref19_withinE B2 _)) | (go_at_call 52; with_reducible exact qg (ref19_withinE B3 _)) | (go_at_call 52; with_reducible exact qg (ref19_withinE B4 _)) | (go_at_call 53; exact qb (Says.y (ref19_legs la lg lg.length lc _ (HG.out.below (below_regrown Y _ _) (Nat.le_refl _)) rfl hgl.1 (by omega)) B5.out))))); refine wpQuiet_nil ?_; intro wq hwq; have hbq := below_of_regrown hwq; clear hwq)
                  go_wp2_with fail
                  go_roundw
                  case rel => exact ⟨i + 1, by go_num, by omega, Lib.hid fun k hk h1 => by
                    by_cases e : k = i
                    · subst e; rw [HX.out]; exact HR.out
                    · exact hv.out k hk (by omega), Lib.hid fun k hk h1 => by omega, (by repeat (first | (with_reducible refine Below.setCell ?_ ?_ _) | (with_reducible refine Below.alloc ?_ ?_ _) | (with_reducible refine Below.drew ?_) | (with_reducible refine below_drewN ?_ _) | (with_reducible exact Below.refl _ _) | (with_reducible refine Below.trans ?_ (Below.mono hbq ?_)) | (with_reducible refine Below.trans ?_ (Below.mono beY ?_)) | (focus (simp; done)) | (focus (simp; omega)) | (focus omega) | (focus (have q0 := Below.size hbq; (try simp at q0); have q1 := Below.size beY; (try simp at q1); (try simp); omega))))⟩
                  case measure => simp [intOf]; omega
              · have B5 := Lib.hid hb5
                have HF := Lib.hid (show ¬ RqsOk (l.map Rq.key) q from fun qq => hb5 (HNO.out qq).2.2.2.2)
                clear hb5 hpY
                (refine wp_region_quiet_below (by kernel_rfl) (by kernel_rfl) ?_; (repeat (go_big_quiet_step (first | (go_at_call 52; with_reducible exact qg (ref19_withinE B1 _)) | (go_at_call 52; with_reducible exact qg (ref19_withinE B2 _)) | (go_at_call 52; with_reducible exact qg (ref19_withinE B3 _)) | (go_at_call 52; with_reducible exact qg (ref19_withinE B4 _)) | (go_at_call 53; exact qb (Says.n (ref19_legs la lg lg.length lc _ (HG.out.below (below_regrown Y _ _) (Nat.le_refl _)) rfl hgl.1 (by omega)) B5.out))))); refine wpQuiet_nil ?_; intro wq hwq; have hbq := below_of_regrown hwq; clear hwq)
                go_wp2_with fail
                go_ret
                exact Says.no HF.out (by repeat (first | (with_reducible refine Below.setCell ?_ ?_ _) | (with_reducible refine Below.alloc ?_ ?_ _) | (with_reducible refine Below.drew ?_) | (with_reducible refine below_drewN ?_ _) | (with_reducible exact Below.refl _ _) | (with_reducible refine Below.trans ?_ (Below.mono hbq ?_)) | (with_reducible refine Below.trans ?_ (Below.mono beY ?_)) | (focus (simp; done)) | (focus (simp; omega)) | (focus omega) | (focus (have q0 := Below.size hbq; (try simp at q0); have q1 := Below.size beY; (try simp at q1); (try simp); omega))))
    · obtain rfl : i = l.length := by omega
      go_wp2_with fail
      all_goals
        go_ret
      all_goals first
        | exact ⟨_, rfl, ⟨fun hb => ⟨fun k hk => by simp at hk; have := hv.out k hk hk; simpa using this, fun k hk => by simp at hk; have := hd.out k hk hk; simpa [Rq.key] using this, by simp at hb; rw [hml]; omega⟩, fun (qq : RqsOk (l.map Rq.key) q) => by have := qq.n; rw [hml] at this; simp; omega⟩, (by repeat (first | (with_reducible refine Below.setCell ?_ ?_ _) | (with_reducible refine Below.alloc ?_ ?_ _) | (with_reducible refine Below.drew ?_) | (with_reducible refine below_drewN ?_ _) | (with_reducible exact Below.refl _ _) | (with_reducible refine Below.trans ?_ (Below.mono be ?_)) | (focus (simp; done)) | (focus (simp; omega)) | (focus omega) | (focus (have q0 := Below.size be; (try simp at q0); (try simp); omega))))⟩
        | exact Says.no (fun (qq : RqsOk (l.map Rq.key) q) => by have := qq.n; rw [hml] at this; omega) (by repeat (first | (with_reducible refine Below.setCell ?_ ?_ _) | (with_reducible refine Below.alloc ?_ ?_ _) | (with_reducible refine Below.drew ?_) | (with_reducible refine below_drewN ?_ _) | (with_reducible exact Below.refl _ _) | (with_reducible refine Below.trans ?_ (Below.mono be ?_)) | (focus (simp; done)) | (focus (simp; omega)) | (focus omega) | (focus (have q0 := Below.size be; (try simp at q0); (try simp); omega))))
end Go.Proofs.Ytbanejpihdhbdaa
