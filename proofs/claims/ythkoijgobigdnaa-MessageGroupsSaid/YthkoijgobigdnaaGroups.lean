/- message.groupsOf -/
import Derived.Test.YthkoijgobigdnaaProg
import Derived.Test.YthkoijgobigdnaaMsgLaw
import Derived.Test.YthkoijgobigdnaaQuiet
namespace Go.Proofs.Ythkoijgobigdnaa
open Go.RowKit Go.Sort
set_option maxRecDepth 20000

theorem grpOk_iff {s : Shp} {A : Int} (hg : s.grp ≠ 0) : grpOk s A ↔ (s.fix ≤ A ∧ (A - s.fix) % s.grp = 0 ∧ s.lo ≤ (A - s.fix) / s.grp ∧ (A - s.fix) / s.grp ≤ s.hi) := by unfold grpOk; rw [if_neg hg]
set_option maxHeartbeats 1000000 in
theorem msg_groupsOf (s : Shp) (A : Nat) (w : World) (hs : ShpOk s) (hA : A ≤ 1000000) : Calls Try.prog 36 #[s.agg, .int .i64 A] w fun e w' => ∃ g, e = .returned (.tuple #[.int .i64 g, .bool (decide (grpOk s A))]) ∧ (grpOk s A → g = grpN s A) ∧ Below w.heap.size w w' := by
  obtain ⟨tok, fx, gr, lo, hi, dat⟩ := s
  obtain ⟨h1, h2, h3, h4, h5, h6⟩ := hs
  simp only at h1 h2 h3 h4 h5 h6
  unfold Shp.agg
  by_cases hg : gr = 0
  · subst hg
    have H := Lib.hid (show decide (grpOk ⟨tok, fx, 0, lo, hi, dat⟩ A) = ((A : Int) == fx) by unfold grpOk; rw [Bool.eq_iff_iff]; simp)
    have H2 : grpOk ⟨tok, fx, 0, lo, hi, dat⟩ A → (0 : Int) = grpN ⟨tok, fx, 0, lo, hi, dat⟩ A := fun _ => rfl
    have H2' := Lib.hid H2
    clear H2
    go_enter Try.func36, Try.ntmps36
    go_wp2
    go_quiet (fail)
    go_wp2
    go_ret2
    exact ⟨0, by rw [H.out]; rfl, H2'.out, (by repeat (first | (with_reducible refine Below.setCell ?_ ?_ _) | (with_reducible refine Below.alloc ?_ ?_ _) | (with_reducible refine Below.drew ?_) | (with_reducible refine below_drewN ?_ _) | (with_reducible exact Below.refl _ _) | (focus (simp; done)) | (focus (simp; omega)) | (focus omega)))⟩
  have d0 : (gr == 0) = false := by rw [beq_eq_false_iff_ne]; exact hg
  have g1 : 1 ≤ gr := by omega
  have e1 : wrap64 ((A : Int) - fx) = (A : Int) - fx := by rw [wrap64]; omega
  by_cases hf : (A : Int) - fx < 0
  · have H := Lib.hid (show decide (grpOk ⟨tok, fx, gr, lo, hi, dat⟩ A) = false from decide_eq_false fun q => by have := (grpOk_iff (s := ⟨tok, fx, gr, lo, hi, dat⟩) hg).1 q; simp only at this; omega)
    have H2 := Lib.hid (show ¬ grpOk ⟨tok, fx, gr, lo, hi, dat⟩ A by have := H.out; simpa using this)
    clear hg
    go_enter Try.func36, Try.ntmps36
    go_wp2
    go_ret2
    exact ⟨0, by rw [H.out]; rfl, fun q => absurd q H2.out, (by repeat (first | (with_reducible refine Below.setCell ?_ ?_ _) | (with_reducible refine Below.alloc ?_ ?_ _) | (with_reducible refine Below.drew ?_) | (with_reducible refine below_drewN ?_ _) | (with_reducible exact Below.refl _ _) | (focus (simp; done)) | (focus (simp; omega)) | (focus omega)))⟩
  obtain ⟨f, hfe⟩ := Int.eq_ofNat_of_zero_le (show 0 ≤ (A : Int) - fx by omega)
  rw [hfe] at e1
  have fb : (f : Int) ≤ 1000000 := by omega
  by_cases hm : (f : Int) % gr = 0
  · obtain ⟨q, hq⟩ : ∃ q, (f : Int) / gr = q := ⟨_, rfl⟩
    have q0 : 0 ≤ q := by rw [← hq]; exact Int.ediv_nonneg (by omega) (by omega)
    have q1 : q ≤ (f : Int) := by rw [← hq]; exact Int.ediv_le_self _ (by omega)
    have e2 : wrap64 q = q := by rw [wrap64]; omega
    have hl : fx ≤ (A : Int) := by omega
    have z1 : ((f : Int) % gr != 0) = false := by rw [hm]; rfl
    have HN := Lib.hid (show grpN ⟨tok, fx, gr, lo, hi, dat⟩ A = q by unfold grpN; simp only; rw [if_neg hg, hfe, hq])
    by_cases c1 : lo ≤ q
    · have H := Lib.hid (show decide (grpOk ⟨tok, fx, gr, lo, hi, dat⟩ A) = decide (q ≤ hi) by rw [Bool.eq_iff_iff]; simp only [decide_eq_true_eq]; rw [grpOk_iff (s := ⟨tok, fx, gr, lo, hi, dat⟩) hg]; simp only; rw [hfe, hq]; simp [hl, hm, c1])
      have d1 : decide (lo ≤ q) = true := decide_eq_true c1
      clear hg hm hl
      go_enter Try.func36, Try.ntmps36
      go_wp2
      go_quiet (fail)
      go_wp2
      go_ret2
      exact ⟨q, by rw [H.out]; rfl, fun _ => HN.out.symm, (by repeat (first | (with_reducible refine Below.setCell ?_ ?_ _) | (with_reducible refine Below.alloc ?_ ?_ _) | (with_reducible refine Below.drew ?_) | (with_reducible refine below_drewN ?_ _) | (with_reducible exact Below.refl _ _) | (focus (simp; done)) | (focus (simp; omega)) | (focus omega)))⟩
    · have H := Lib.hid (show decide (grpOk ⟨tok, fx, gr, lo, hi, dat⟩ A) = false from decide_eq_false fun h => by have := (grpOk_iff (s := ⟨tok, fx, gr, lo, hi, dat⟩) hg).1 h; simp only at this; rw [hfe, hq] at this; omega)
      have d1 : decide (lo ≤ q) = false := decide_eq_false c1
      clear hg hm hl
      go_enter Try.func36, Try.ntmps36
      go_wp2
      go_quiet (fail)
      go_wp2
      go_ret2
      exact ⟨q, by rw [H.out]; rfl, fun _ => HN.out.symm, (by repeat (first | (with_reducible refine Below.setCell ?_ ?_ _) | (with_reducible refine Below.alloc ?_ ?_ _) | (with_reducible refine Below.drew ?_) | (with_reducible refine below_drewN ?_ _) | (with_reducible exact Below.refl _ _) | (focus (simp; done)) | (focus (simp; omega)) | (focus omega)))⟩
  · have H := Lib.hid (show decide (grpOk ⟨tok, fx, gr, lo, hi, dat⟩ A) = false from decide_eq_false fun h => by have := (grpOk_iff (s := ⟨tok, fx, gr, lo, hi, dat⟩) hg).1 h; simp only at this; rw [hfe] at this; exact hm this.2.1)
    have H2 := Lib.hid (show ¬ grpOk ⟨tok, fx, gr, lo, hi, dat⟩ A by have := H.out; simpa using this)
    have z1 : ((f : Int) % gr != 0) = true := by rw [bne_iff_ne]; exact hm
    clear hg hm
    go_enter Try.func36, Try.ntmps36
    go_wp2
    go_ret2
    exact ⟨0, by rw [H.out]; rfl, fun q => absurd q H2.out, (by repeat (first | (with_reducible refine Below.setCell ?_ ?_ _) | (with_reducible refine Below.alloc ?_ ?_ _) | (with_reducible refine Below.drew ?_) | (with_reducible refine below_drewN ?_ _) | (with_reducible exact Below.refl _ _) | (focus (simp; done)) | (focus (simp; omega)) | (focus omega)))⟩
end Go.Proofs.Ythkoijgobigdnaa
