import Derived.Test.YtgnfnbbdicnijaaWindow
import Derived.Test.YtgnfnbbdicnijaaMk
namespace Go.Proofs.Ytgnfnbbdicnijaa
open Go.RowKit

theorem awake_yes (w : World) : Calls Try.prog 9 #[] w fun e w' => e = .returned (.bool true) ∧ Below w.heap.size w w' := by
  have q1 : wMakeV 0 1 2 5 10 = .tuple #[.agg #[.int .i64 0, .int .i64 1, .int .i64 12, .int .i64 15, .int .i64 (-1)], .int .i64 0] := rfl
  have q2 : wMark 12 15 (-1) 12 = 12 := by decide
  have q3 : wMark 12 15 12 13 = 12 := by decide
  go_enter Try.func9, Try.ntmps9
  go_wp2_with (first | (go_at_call 6; (with_reducible refine (window_Make 0 1 2 5 10 _).mono ?_); rintro e w1 ⟨rfl, hb⟩; (rw [q1]; obtain ⟨hc, hf, hz⟩ := bcell hb)) | (go_at_call 7; (with_reducible refine (window_Mark _ _ _ _ _ 12 _).mono ?_); rintro e w2 ⟨rfl, hb2⟩; (rw [q2]; obtain ⟨hc2, hf2, hz2⟩ := bcell hb2; have l2 : w1.heap.size < w2.heap.size := by simp at hz2; omega)) | (go_at_call 7; (with_reducible refine (window_Mark _ _ _ _ _ 13 _).mono ?_); rintro e w3 ⟨rfl, hb3⟩; (rw [q3]; obtain ⟨hc3, hf3, hz3⟩ := bcell hb3; have l3 : w1.heap.size < w3.heap.size := by omega)) | (go_at_call 8; (with_reducible refine (window_Live _ _ _ _ _ 15 _).mono ?_); rintro e w4 ⟨rfl, hb4⟩; (obtain ⟨hc4, hf4, hz4⟩ := bcell hb4; have l4 : w1.heap.size < w4.heap.size ∧ w3.heap.size < w4.heap.size := by simp at hz4; omega)) | (go_at_call 8; (with_reducible refine (window_Live _ _ _ _ _ 16 _).mono ?_); rintro e w5 ⟨rfl, hb5⟩; (obtain ⟨hc5, hf5, hz5⟩ := bcell hb5)))
  go_ret
  exact ⟨ret_bool rfl, (by repeat (first | (with_reducible refine Below.setCell ?_ ?_ _) | (with_reducible refine Below.alloc ?_ ?_ _) | (with_reducible refine Below.drew ?_) | (with_reducible refine below_drewN ?_ _) | (with_reducible exact Below.refl _ _) | (with_reducible refine Below.trans ?_ (Below.mono hb ?_)) | (with_reducible refine Below.trans ?_ (Below.mono hb2 ?_)) | (with_reducible refine Below.trans ?_ (Below.mono hb3 ?_)) | (with_reducible refine Below.trans ?_ (Below.mono hb4 ?_)) | (with_reducible refine Below.trans ?_ (Below.mono hb5 ?_)) | (focus (simp; done)) | (focus (simp; omega)) | (focus omega) | (focus (have q0 := Below.size hb; (try simp at q0); have q1 := Below.size hb2; (try simp at q1); have q2 := Below.size hb3; (try simp at q2); have q3 := Below.size hb4; (try simp at q3); have q4 := Below.size hb5; (try simp at q4); (try simp); omega))))⟩
theorem mod_wf (a n : Int) (h : 0 < n) : 0 ≤ a % n ∧ a % n < n := ⟨Int.emod_nonneg a (by omega), Int.emod_lt_of_pos a h⟩
/-- since when the leg is live, as it stands ahead of the tick 'now' -/
def sinceAt (F T now : Int) : Int := if F < now ∧ now ≤ T + 1 then F else -1

theorem since_step (F T s now : Int) (h0 : 0 ≤ F) (hs : s = sinceAt F T now) : ∃ s', wMark F T s now = s' ∧ Hid (s' = sinceAt F T (now + 1)) ∧
    ((¬ (F ≤ now ∧ now ≤ T) ∧ s' = -1) ∨ (F = now ∧ now ≤ T ∧ s = -1 ∧ s' = now) ∨ (F < now ∧ now ≤ T ∧ s = F ∧ s' = F)) := by
  refine ⟨_, rfl, ?_, ?_⟩
  · show wMark F T s now = sinceAt F T (now + 1)
    subst hs
    unfold wMark sinceAt
    repeat' split
    all_goals omega
  · subst hs
    unfold wMark sinceAt
    repeat' split
    all_goals omega

set_option maxHeartbeats 1000000 in
theorem windowSince_walk (a b c : Int) (w : World) : Calls Try.prog 3 #[.int .i64 a, .int .i64 b, .int .i64 c] w fun e w' => e = .returned (.bool true) ∧ Below w.heap.size w w' := by
  have m1 := mod_wf a 12 (by omega)
  have m2 := mod_wf b 30 (by omega)
  have m3 := mod_wf c 20 (by omega)
  obtain ⟨from_, e1⟩ : ∃ x, a % 12 = x := ⟨_, rfl⟩
  obtain ⟨to, e2⟩ : ∃ x, b % 30 = x := ⟨_, rfl⟩
  obtain ⟨start, e3⟩ : ∃ x, c % 20 = x := ⟨_, rfl⟩
  rw [e1] at m1
  rw [e2] at m2
  rw [e3] at m3
  have q := wMakeV_yes (j := 1) (p := 2) (f := from_) (t := from_ + to) (now := start) (by omega)
  go_enter Try.func3, Try.ntmps3
  go_wp2_with (first | (go_at_call 5; (with_reducible refine (mk_Mod _ _ _ (by omega) (by omega)).mono ?_); rintro e w' ⟨rfl, rfl⟩) | (go_at_call 6; (with_reducible refine (window_Make _ _ _ _ _ _).mono ?_); rintro e w1 ⟨rfl, hb⟩; (rw [q])))
  clear q e1 e2 e3
  have hz1 := hb.size
  go_loopw [9, 10] (fun f i wr => ∃ now s : Int, start ≤ now ∧ now ≤ start + 60 ∧ i = .int .i64 now ∧ f = .int .i64 s ∧ s = sinceAt (start + from_) (start + (from_ + to)) now ∧ Blk wr w1.heap.size 24 #[.int .i64 1, .int .i64 2, .int .i64 (start + from_), .int .i64 (start + (from_ + to)), .int .i64 s] ∧ Below w.heap.size w wr) (fun _ i _ => (start + 60 - intOf i).toNat)
  case atStart => exact ⟨start, -1, by omega, by omega, rfl, rfl, by rw [sinceAt, if_neg (by omega)], Blk.new _ _ _, (by repeat (first | (with_reducible refine Below.setCell ?_ ?_ _) | (with_reducible refine Below.alloc ?_ ?_ _) | (with_reducible refine Below.drew ?_) | (with_reducible refine below_drewN ?_ _) | (with_reducible exact Below.refl _ _) | (with_reducible refine Below.trans ?_ (Below.mono hb ?_)) | (focus (simp; done)) | (focus (simp; omega)) | (focus omega) | (focus (have q0 := Below.size hb; (try simp at q0); (try simp); omega))))⟩
  case round =>
    obtain ⟨now, s, hn1, hn2, rfl, rfl, hs, hblk, hbel⟩ := hrel
    by_cases hlt : now < start + 60
    · obtain ⟨c0, c1, c2, c3, c4, fz, hl⟩ := hblk.five
      have HBLK := Lib.hid hblk
      clear hblk
      obtain ⟨s', hm, hs', hcase⟩ := since_step (start + from_) (start + (from_ + to)) s now (by omega) hs
      clear hs
      have tok : True := trivial
      have hcase' : (now < start + from_ ∧ s' = -1) ∨ (start + from_ ≤ now ∧ start + (from_ + to) < now ∧ s' = -1) ∨ (start + from_ = now ∧ now ≤ start + (from_ + to) ∧ s = -1 ∧ s' = now) ∨ (start + from_ < now ∧ now ≤ start + (from_ + to) ∧ s = start + from_ ∧ s' = start + from_) := by omega
      clear hcase
      rcases hcase' with ⟨h1, rfl⟩ | ⟨h1, h2, rfl⟩ | ⟨h1, h2, rfl, h3⟩ | ⟨h1, h2, rfl, rfl⟩
      · have d1 : decide (start + from_ ≤ now) = false := decide_eq_false (by omega)
        go_wp2_with (first | (go_at_call 7; (with_reducible refine (window_Mark _ _ _ _ _ _ _).mono ?_); rintro e w2 ⟨rfl, hb2⟩; (rw [hm]; clear c0 c1 c2 c3 c4 fz; have be2 := hbel.trans (hb2.mono hbel.size); have B2 := HBLK.out.below hb2 hl; obtain ⟨c0, c1, c2, c3, c4, fz, hl2⟩ := B2.five; have HB2 := Lib.hid B2; clear B2 hm)) | (go_at_call 8; (with_reducible refine (window_Live _ _ _ _ _ _ _).mono ?_); rintro e w3 ⟨rfl, hb3⟩; (have _t := tok; clear tok; clear c0 c1 c2 c3 c4 fz; have be3 : Below w.heap.size w w3 := (by repeat (first | (with_reducible refine Below.setCell ?_ ?_ _) | (with_reducible refine Below.alloc ?_ ?_ _) | (with_reducible refine Below.drew ?_) | (with_reducible refine below_drewN ?_ _) | (with_reducible exact Below.refl _ _) | (with_reducible refine Below.trans ?_ (Below.mono hb3 ?_)) | (with_reducible refine Below.trans ?_ (Below.mono be2 ?_)) | (focus (simp; done)) | (focus (simp; omega)) | (focus omega) | (focus (have q0 := Below.size hb3; (try simp at q0); have q1 := Below.size be2; (try simp at q1); (try simp); omega)))); have B3 := (HB2.out.set5 _ _ _ _ _).below hb3 (by simp; omega); obtain ⟨c0, c1, c2, c3, c4, fz, hl3⟩ := B3.five; have HB3 := Lib.hid B3; clear B3 HB2 hb3)) | (go_at_call 8; (with_reducible refine (window_Live _ _ _ _ _ _ _).mono ?_); rintro e w4 ⟨rfl, hb4⟩; (clear c0 c1 c2 c3 c4 fz; have be4 : Below w.heap.size w w4 := (by repeat (first | (with_reducible refine Below.setCell ?_ ?_ _) | (with_reducible refine Below.alloc ?_ ?_ _) | (with_reducible refine Below.drew ?_) | (with_reducible refine below_drewN ?_ _) | (with_reducible exact Below.refl _ _) | (with_reducible refine Below.trans ?_ (Below.mono hb4 ?_)) | (with_reducible refine Below.trans ?_ (Below.mono be3 ?_)) | (focus (simp; done)) | (focus (simp; omega)) | (focus omega) | (focus (have q0 := Below.size hb4; (try simp at q0); have q1 := Below.size be3; (try simp at q1); (try simp); omega)))); have B4 := HB3.out.below hb4 hl3)))
        go_roundw
        case rel => exact ⟨now + 1, -1, by omega, by omega, rfl, rfl, hs'.out, B4, be4⟩
        case measure => simp [intOf]; omega
      · have d1 : decide (start + from_ ≤ now) = true := decide_eq_true (by omega)
        have d2 : decide (now ≤ start + (from_ + to)) = false := decide_eq_false (by omega)
        have d3 : decide (now ≤ start + from_ + to) = false := decide_eq_false (by omega)
        go_wp2_with (first | (go_at_call 7; (with_reducible refine (window_Mark _ _ _ _ _ _ _).mono ?_); rintro e w2 ⟨rfl, hb2⟩; (rw [hm]; clear c0 c1 c2 c3 c4 fz; have be2 := hbel.trans (hb2.mono hbel.size); have B2 := HBLK.out.below hb2 hl; obtain ⟨c0, c1, c2, c3, c4, fz, hl2⟩ := B2.five; have HB2 := Lib.hid B2; clear B2 hm)) | (go_at_call 8; (with_reducible refine (window_Live _ _ _ _ _ _ _).mono ?_); rintro e w3 ⟨rfl, hb3⟩; (have _t := tok; clear tok; clear c0 c1 c2 c3 c4 fz; have be3 : Below w.heap.size w w3 := (by repeat (first | (with_reducible refine Below.setCell ?_ ?_ _) | (with_reducible refine Below.alloc ?_ ?_ _) | (with_reducible refine Below.drew ?_) | (with_reducible refine below_drewN ?_ _) | (with_reducible exact Below.refl _ _) | (with_reducible refine Below.trans ?_ (Below.mono hb3 ?_)) | (with_reducible refine Below.trans ?_ (Below.mono be2 ?_)) | (focus (simp; done)) | (focus (simp; omega)) | (focus omega) | (focus (have q0 := Below.size hb3; (try simp at q0); have q1 := Below.size be2; (try simp at q1); (try simp); omega)))); have B3 := (HB2.out.set5 _ _ _ _ _).below hb3 (by simp; omega); obtain ⟨c0, c1, c2, c3, c4, fz, hl3⟩ := B3.five; have HB3 := Lib.hid B3; clear B3 HB2 hb3)) | (go_at_call 8; (with_reducible refine (window_Live _ _ _ _ _ _ _).mono ?_); rintro e w4 ⟨rfl, hb4⟩; (clear c0 c1 c2 c3 c4 fz; have be4 : Below w.heap.size w w4 := (by repeat (first | (with_reducible refine Below.setCell ?_ ?_ _) | (with_reducible refine Below.alloc ?_ ?_ _) | (with_reducible refine Below.drew ?_) | (with_reducible refine below_drewN ?_ _) | (with_reducible exact Below.refl _ _) | (with_reducible refine Below.trans ?_ (Below.mono hb4 ?_)) | (with_reducible refine Below.trans ?_ (Below.mono be3 ?_)) | (focus (simp; done)) | (focus (simp; omega)) | (focus omega) | (focus (have q0 := Below.size hb4; (try simp at q0); have q1 := Below.size be3; (try simp at q1); (try simp); omega)))); have B4 := HB3.out.below hb4 hl3)))
        go_roundw
        case rel => exact ⟨now + 1, -1, by omega, by omega, rfl, rfl, hs'.out, B4, be4⟩
        case measure => simp [intOf]; omega
      · have d1 : decide (start + from_ ≤ now) = true := decide_eq_true (by omega)
        have d2 : decide (now ≤ start + (from_ + to)) = true := decide_eq_true (by omega)
        have d3 : decide (now ≤ start + from_ + to) = true := decide_eq_true (by omega)
        clear h1
        subst h3
        go_wp2_with (first | (go_at_call 7; (with_reducible refine (window_Mark _ _ _ _ _ _ _).mono ?_); rintro e w2 ⟨rfl, hb2⟩; (rw [hm]; clear c0 c1 c2 c3 c4 fz; have be2 := hbel.trans (hb2.mono hbel.size); have B2 := HBLK.out.below hb2 hl; obtain ⟨c0, c1, c2, c3, c4, fz, hl2⟩ := B2.five; have HB2 := Lib.hid B2; clear B2 hm)) | (go_at_call 8; (with_reducible refine (window_Live _ _ _ _ _ _ _).mono ?_); rintro e w3 ⟨rfl, hb3⟩; (have _t := tok; clear tok; clear c0 c1 c2 c3 c4 fz; have be3 : Below w.heap.size w w3 := (by repeat (first | (with_reducible refine Below.setCell ?_ ?_ _) | (with_reducible refine Below.alloc ?_ ?_ _) | (with_reducible refine Below.drew ?_) | (with_reducible refine below_drewN ?_ _) | (with_reducible exact Below.refl _ _) | (with_reducible refine Below.trans ?_ (Below.mono hb3 ?_)) | (with_reducible refine Below.trans ?_ (Below.mono be2 ?_)) | (focus (simp; done)) | (focus (simp; omega)) | (focus omega) | (focus (have q0 := Below.size hb3; (try simp at q0); have q1 := Below.size be2; (try simp at q1); (try simp); omega)))); have B3 := (HB2.out.set5 _ _ _ _ _).below hb3 (by simp; omega); obtain ⟨c0, c1, c2, c3, c4, fz, hl3⟩ := B3.five; have HB3 := Lib.hid B3; clear B3 HB2 hb3)) | (go_at_call 8; (with_reducible refine (window_Live _ _ _ _ _ _ _).mono ?_); rintro e w4 ⟨rfl, hb4⟩; (clear c0 c1 c2 c3 c4 fz; have be4 : Below w.heap.size w w4 := (by repeat (first | (with_reducible refine Below.setCell ?_ ?_ _) | (with_reducible refine Below.alloc ?_ ?_ _) | (with_reducible refine Below.drew ?_) | (with_reducible refine below_drewN ?_ _) | (with_reducible exact Below.refl _ _) | (with_reducible refine Below.trans ?_ (Below.mono hb4 ?_)) | (with_reducible refine Below.trans ?_ (Below.mono be3 ?_)) | (focus (simp; done)) | (focus (simp; omega)) | (focus omega) | (focus (have q0 := Below.size hb4; (try simp at q0); have q1 := Below.size be3; (try simp at q1); (try simp); omega)))); have B4 := HB3.out.below hb4 hl3)))
        go_roundw
        case rel => exact ⟨s' + 1, s', by omega, by omega, rfl, rfl, hs'.out, B4, be4⟩
        case measure => simp [intOf]; omega
      · have d1 : decide (start + from_ ≤ now) = true := decide_eq_true (by omega)
        have d2 : decide (now ≤ start + (from_ + to)) = true := decide_eq_true (by omega)
        have d3 : decide (now ≤ start + from_ + to) = true := decide_eq_true (by omega)
        have d4 : decide (start + from_ < 0) = false := decide_eq_false (by omega)
        go_wp2_with (first | (go_at_call 7; (with_reducible refine (window_Mark _ _ _ _ _ _ _).mono ?_); rintro e w2 ⟨rfl, hb2⟩; (rw [hm]; clear c0 c1 c2 c3 c4 fz; have be2 := hbel.trans (hb2.mono hbel.size); have B2 := HBLK.out.below hb2 hl; obtain ⟨c0, c1, c2, c3, c4, fz, hl2⟩ := B2.five; have HB2 := Lib.hid B2; clear B2 hm)) | (go_at_call 8; (with_reducible refine (window_Live _ _ _ _ _ _ _).mono ?_); rintro e w3 ⟨rfl, hb3⟩; (have _t := tok; clear tok; clear c0 c1 c2 c3 c4 fz; have be3 : Below w.heap.size w w3 := (by repeat (first | (with_reducible refine Below.setCell ?_ ?_ _) | (with_reducible refine Below.alloc ?_ ?_ _) | (with_reducible refine Below.drew ?_) | (with_reducible refine below_drewN ?_ _) | (with_reducible exact Below.refl _ _) | (with_reducible refine Below.trans ?_ (Below.mono hb3 ?_)) | (with_reducible refine Below.trans ?_ (Below.mono be2 ?_)) | (focus (simp; done)) | (focus (simp; omega)) | (focus omega) | (focus (have q0 := Below.size hb3; (try simp at q0); have q1 := Below.size be2; (try simp at q1); (try simp); omega)))); have B3 := (HB2.out.set5 _ _ _ _ _).below hb3 (by simp; omega); obtain ⟨c0, c1, c2, c3, c4, fz, hl3⟩ := B3.five; have HB3 := Lib.hid B3; clear B3 HB2 hb3)) | (go_at_call 8; (with_reducible refine (window_Live _ _ _ _ _ _ _).mono ?_); rintro e w4 ⟨rfl, hb4⟩; (clear c0 c1 c2 c3 c4 fz; have be4 : Below w.heap.size w w4 := (by repeat (first | (with_reducible refine Below.setCell ?_ ?_ _) | (with_reducible refine Below.alloc ?_ ?_ _) | (with_reducible refine Below.drew ?_) | (with_reducible refine below_drewN ?_ _) | (with_reducible exact Below.refl _ _) | (with_reducible refine Below.trans ?_ (Below.mono hb4 ?_)) | (with_reducible refine Below.trans ?_ (Below.mono be3 ?_)) | (focus (simp; done)) | (focus (simp; omega)) | (focus omega) | (focus (have q0 := Below.size hb4; (try simp at q0); have q1 := Below.size be3; (try simp at q1); (try simp); omega)))); have B4 := HB3.out.below hb4 hl3)))
        go_roundw
        case rel => exact ⟨now + 1, start + from_, by omega, by omega, rfl, rfl, hs'.out, B4, be4⟩
        case measure => simp [intOf]; omega
    · go_wp2_with (first | (go_at_call 9; (with_reducible refine (awake_yes _).mono ?_); rintro e w2 ⟨rfl, hb2⟩))
      go_ret
      exact ⟨rfl, hbel.trans (hb2.mono hbel.size)⟩
end Go.Proofs.Ytgnfnbbdicnijaa
