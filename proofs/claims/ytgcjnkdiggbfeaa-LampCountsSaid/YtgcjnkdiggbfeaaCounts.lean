import Derived.Test.YtgcjnkdiggbfeaaAwake
namespace Go.Proofs.Ytgcjnkdiggbfeaa
open Go.RowKit Go.Sort
set_option maxRecDepth 100000

/-- while the count lasts, the lamp stays, and the ticks go on -/
theorem count_step {p : Ph} {a t : Int} {k : Int} (hp : PhOk p) (hx : LiOk p a t) (h0 : 0 ≤ k) (hk : k < lCount p a t) : lStep p a (t + k) true = (a, t + k + 1) ∧ LiOk p a (t + k) := by
  have h1 := hp.yellow
  have h2 := hp.red
  have h3 := lNeed_bd hp
  unfold lCount at hk
  rcases hx with ⟨rfl, rfl⟩ | ⟨rfl, h⟩ | ⟨rfl, h⟩ | ⟨rfl, h⟩
  · simp at hk; omega
  · simp only [if_true] at hk
    have hk' : t + k + 1 < lNeed p := by split at hk <;> omega
    refine ⟨?_, LiOk.g (by omega) (by omega)⟩
    unfold lStep
    simp only [if_true]
    rw [if_neg (by omega), if_neg (by omega)]
  · simp only [show ¬ (2 : Int) = 1 by decide, if_false, if_true] at hk
    refine ⟨?_, LiOk.y (by omega) (by omega)⟩
    unfold lStep
    simp only [show ¬ (2 : Int) = 1 by decide, if_false, if_true]
    rw [if_pos (by omega)]
  · simp only [show ¬ (3 : Int) = 1 by decide, show ¬ (3 : Int) = 2 by decide, if_false, if_true] at hk
    refine ⟨?_, LiOk.c (by omega) (by omega)⟩
    unfold lStep
    simp only [show ¬ (3 : Int) = 1 by decide, show ¬ (3 : Int) = 2 by decide, if_false, if_true]
    rw [if_pos (by omega)]
/-- then it changes, unless it is red -/
theorem count_end {p : Ph} {a t : Int} (hp : PhOk p) (hx : LiOk p a t) (ht : t ≤ 1000) : ∃ a' t', lStep p a (t + lCount p a t) true = (a', t') ∧ LiOk p a (t + lCount p a t) ∧ ((a' == a) == (a == 0)) = true := by
  have h1 := hp.yellow
  have h2 := hp.red
  have h3 := lNeed_bd hp
  unfold lCount
  rcases hx with ⟨rfl, rfl⟩ | ⟨rfl, h⟩ | ⟨rfl, h⟩ | ⟨rfl, h⟩
  · exact ⟨0, 0, by unfold lStep; simp, LiOk.z, by decide⟩
  · simp only [if_true]
    refine ⟨2, 0, ?_, ?_, by decide⟩
    · unfold lStep
      simp only [if_true]
      rw [if_pos ⟨trivial, by split <;> omega⟩]
    · refine LiOk.g ?_ ?_ <;> split <;> omega
  · simp only [show ¬ (2 : Int) = 1 by decide, if_false, if_true]
    by_cases hr : p.red = 0
    · refine ⟨0, 0, ?_, LiOk.y (by omega) (by omega), by decide⟩
      unfold lStep
      simp only [show ¬ (2 : Int) = 1 by decide, if_false, if_true]
      rw [if_neg (by omega), if_pos hr]
    · refine ⟨3, 0, ?_, LiOk.y (by omega) (by omega), by decide⟩
      unfold lStep
      simp only [show ¬ (2 : Int) = 1 by decide, if_false, if_true]
      rw [if_neg (by omega), if_neg hr]
  · simp only [show ¬ (3 : Int) = 1 by decide, show ¬ (3 : Int) = 2 by decide, if_false, if_true]
    refine ⟨0, 0, ?_, LiOk.c (by omega) (by omega), by decide⟩
    unfold lStep
    simp only [show ¬ (3 : Int) = 1 by decide, show ¬ (3 : Int) = 2 by decide, if_false, if_true]
    rw [if_neg (by omega)]

set_option maxHeartbeats 4000000 in
theorem lampCounts_walk (a0 : Option Addr) (c0 : Nat) (l0 : List Int) (n by_ : Int) (w : World) (h0 : Ints w a0 l0) (n0 : l0.length ≤ 9223372036854775807) :
    Calls Try.prog 3 #[.slice a0 l0.length c0, .int .i64 n, .int .i64 by_] w fun e w' => e = .returned (.bool true) ∧ RowKit.Below w.heap.size w w' := by
  go_enter Try.func3, Try.ntmps3
  go_wp2_with (first | (go_at_call 7; (with_reducible refine (law08_phase a0 c0 l0 by_ _ h0 n0).mono ?_); rintro e w1 ⟨p, rfl, hp, hb1⟩; (obtain ⟨r, g, mg, xg, y, rd, wk, cl⟩ := p; simp only [Ph.agg])) | (go_at_call 8; (with_reducible refine (light_c n _ hp).mono ?_); rintro e w2 ⟨a, t, rfl, hx, hb2⟩; (have k2 := (Blk.new w1 24 #[.int .i64 r, .int .i64 g, .int .i64 mg, .int .i64 xg, .int .i64 y, .int .i64 rd, .int .i64 wk, .int .i64 cl]).below hb2 (by simp); obtain ⟨f0, f1, f2, f3, f4, f5, f6, f7, fl⟩ := k2.eightF; have tb := hx.bd hp)) | (go_at_call 9; (with_reducible refine (count_c a t _ hp hx).mono ?_); rintro e w3 ⟨cn, rfl, hcn, cn0, cn4, ct, hb3⟩; (have k3 := (k2.alloc (.cells #[.int .i64 a, .int .i64 t] 27)).below hb3 (by simp; omega); have j3 := (Blk.new w2 27 #[.int .i64 a, .int .i64 t]).below hb3 (by simp); obtain ⟨p0, p1, p2, p3, p4, p5, p6, p7, pl⟩ := k3.eightF; obtain ⟨q0, q1, -, ql⟩ := j3.two; clear f0 f1 f2 f3 f4 f5 f6 f7; rcases ct with ⟨rfl, ct⟩ | ct)) | (go_at_call 10; (with_reducible refine (awake_yes _).mono ?_); rintro e w4 ⟨rfl, hb4⟩))
  · go_ret
    exact ⟨rfl, (by repeat (first | (with_reducible refine Below.setCell ?_ ?_ _) | (with_reducible refine Below.alloc ?_ ?_ _) | (with_reducible refine Below.drew ?_) | (with_reducible refine below_drewN ?_ _) | (with_reducible exact Below.refl _ _) | (with_reducible refine Below.trans ?_ (Below.mono hb4 ?_)) | (with_reducible refine Below.trans ?_ (Below.mono hb3 ?_)) | (with_reducible refine Below.trans ?_ (Below.mono hb2 ?_)) | (with_reducible refine Below.trans ?_ (Below.mono hb1 ?_)) | (focus (simp; done)) | (focus (simp; omega)) | (focus omega) | (focus (have q0 := Below.size hb4; (try simp at q0); have q1 := Below.size hb3; (try simp at q1); have q2 := Below.size hb2; (try simp at q2); have q3 := Below.size hb1; (try simp at q3); (try simp); omega))))⟩
  obtain ⟨cn, rfl⟩ := Int.eq_ofNat_of_zero_le cn0
  have z3 := hb3.size
  have z2 := hb2.size
  have z1 := hb1.size
  simp at z2 z3
  have jY := Blk.new w3 27 #[.int .i64 a, .int .i64 t]
  clear p0 p1 p2 p3 p4 p5 p6 p7 q0 q1
  obtain ⟨P, hP⟩ : ∃ P, w1.heap.size = P := ⟨_, rfl⟩
  obtain ⟨X, hX⟩ : ∃ P, w2.heap.size = P := ⟨_, rfl⟩
  obtain ⟨Y, hY⟩ : ∃ P, w3.heap.size = P := ⟨_, rfl⟩
  go_loopw [35] (fun i wr => ∃ k : Nat, k ≤ cn ∧ i = .int .i64 k ∧ RowKit.Below w.heap.size w wr ∧ Blk wr P 24 #[.int .i64 r, .int .i64 g, .int .i64 mg, .int .i64 xg, .int .i64 y, .int .i64 rd, .int .i64 wk, .int .i64 cl] ∧ Blk wr X 27 #[.int .i64 a, .int .i64 t] ∧ Blk wr Y 27 #[.int .i64 a, .int .i64 (t + (k : Int))]) (fun i _ => cn - (intOf i).toNat)
  case atStart => exact ⟨0, by omega, rfl, (by repeat (first | (with_reducible refine Below.setCell ?_ ?_ _) | (with_reducible refine Below.alloc ?_ ?_ _) | (with_reducible refine Below.drew ?_) | (with_reducible refine below_drewN ?_ _) | (with_reducible exact Below.refl _ _) | (with_reducible refine Below.trans ?_ (Below.mono hb3 ?_)) | (with_reducible refine Below.trans ?_ (Below.mono hb2 ?_)) | (with_reducible refine Below.trans ?_ (Below.mono hb1 ?_)) | (focus (simp; done)) | (focus (simp; omega)) | (focus omega) | (focus (have q0 := Below.size hb3; (try simp at q0); have q1 := Below.size hb2; (try simp at q1); have q2 := Below.size hb1; (try simp at q2); (try simp); omega)))), by rw [← hP]; exact k3.alloc _, by rw [← hX]; exact j3.alloc _, by rw [← hY]; simpa using jY⟩
  case round =>
    obtain ⟨k, hk, rfl, bel, kP, kX, kY⟩ := hrel
    simp only [hP, hX, hY]
    have wY : w.heap.size ≤ Y := by omega
    have HP := Lib.hid hP
    have HX := Lib.hid hX
    have HY := Lib.hid hY
    rw [hP, hX] at z2
    rw [hX, hY] at z3
    clear hP hX hY jY k3 j3 k2
    obtain ⟨f0, f1, f2, f3, f4, f5, f6, f7, fl⟩ := kP.eightF
    obtain ⟨x0, x1, -, xl⟩ := kX.two
    obtain ⟨y0, y1, -, yl⟩ := kY.two
    by_cases hlt : k < cn
    · obtain ⟨hs, hl⟩ := count_step hp hx (k := (k : Int)) (by omega) (by rw [hcn.out]; omega)
      go_wp2_with (first | (go_at_call 11; (with_reducible refine (step_c (Lib.hid hs) _ hp hl).mono ?_); rintro e w5 ⟨rfl, hb5⟩; (have kX5 := kX.below hb5 xl; have kY5 := kY.below hb5 yl; have kP5 := kP.below hb5 fl; clear f0 f1 f2 f3 f4 f5 f6 f7 x0 x1 y0 y1; obtain ⟨x0, x1, -, xl5⟩ := kX5.two; obtain ⟨y0, y1, yf, yl5⟩ := kY5.two; clear hs)))
      go_roundw
      case rel => exact ⟨k + 1, by omega, by go_num, (by repeat (first | (with_reducible refine Below.setCell ?_ ?_ _) | (with_reducible refine Below.alloc ?_ ?_ _) | (with_reducible refine Below.drew ?_) | (with_reducible refine below_drewN ?_ _) | (with_reducible exact Below.refl _ _) | (with_reducible refine Below.trans ?_ (Below.mono hb5 ?_)) | (with_reducible refine Below.trans ?_ (Below.mono bel ?_)) | (focus (simp; done)) | (focus (simp; omega)) | (focus omega) | (focus (have q0 := Below.size hb5; (try simp at q0); have q1 := Below.size bel; (try simp at q1); (try simp); omega)))), (kP5.far (by simp only; omega) _).far (by simp only; omega) _, (kX5.far (by simp only; omega) _).far (by simp only; omega) _, by
        have h := kY5.set2 (.int .i64 a) (.int .i64 (t + (k : Int) + 1))
        rw [show t + ((k + 1 : Nat) : Int) = t + (k : Int) + 1 by omega]; exact h⟩
      case measure => simp [intOf]; omega
    · obtain rfl : k = cn := by omega
      obtain ⟨a', t', he, hl', hq⟩ := count_end hp hx ct
      rw [hcn.out] at he hl'
      have HE := Lib.hid he
      clear he
      go_wp2_with (first | (go_at_call 11; (with_reducible refine (step_c HE _ hp hl').mono ?_); rintro e w5 ⟨rfl, hb5⟩; (have kX5 := kX.below hb5 xl; clear f0 f1 f2 f3 f4 f5 f6 f7 x0 x1 y0 y1; obtain ⟨x0, x1, -, xl5⟩ := kX5.two)) | (go_at_call 10; (with_reducible refine (awake_yes _).mono ?_); rintro e w6 ⟨rfl, hb6⟩))
      go_ret
      exact ⟨rfl, (by repeat (first | (with_reducible refine Below.setCell ?_ ?_ _) | (with_reducible refine Below.alloc ?_ ?_ _) | (with_reducible refine Below.drew ?_) | (with_reducible refine below_drewN ?_ _) | (with_reducible exact Below.refl _ _) | (with_reducible refine Below.trans ?_ (Below.mono hb6 ?_)) | (with_reducible refine Below.trans ?_ (Below.mono hb5 ?_)) | (with_reducible refine Below.trans ?_ (Below.mono bel ?_)) | (focus (simp; done)) | (focus (simp; omega)) | (focus omega) | (focus (have q0 := Below.size hb6; (try simp at q0); have q1 := Below.size hb5; (try simp at q1); have q2 := Below.size bel; (try simp at q2); (try simp); omega))))⟩
end Go.Proofs.Ytgcjnkdiggbfeaa
