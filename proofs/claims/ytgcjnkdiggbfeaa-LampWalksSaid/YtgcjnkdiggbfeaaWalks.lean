import Derived.Test.YtgcjnkdiggbfeaaAwake
namespace Go.Proofs.Ytgcjnkdiggbfeaa
open Go.RowKit Go.Sort
set_option maxRecDepth 100000

theorem green_step {p : Ph} {k : Nat} (hk : k < 100) : lStep p 1 (k : Int) false = (1, (k : Int) + 1) := by
  unfold lStep
  simp only [if_true]
  rw [if_neg (by simp), if_neg (by omega)]
theorem need_E {r g mg xg y rd wk cl nd : Int} (h : Hid (lNeed ⟨r, g, mg, xg, y, rd, wk, cl⟩ = nd)) (w : World) (hp : PhOk ⟨r, g, mg, xg, y, rd, wk, cl⟩) :
    Calls Try.prog 12 #[.agg #[.int .i64 r, .int .i64 g, .int .i64 mg, .int .i64 xg, .int .i64 y, .int .i64 rd, .int .i64 wk, .int .i64 cl]] w fun e w' => e = .returned (.int .i64 nd) ∧ Below w.heap.size w w' := h.out ▸ lamp_Need _ w hp

set_option maxHeartbeats 4000000 in
theorem lampWalks_walk (a0 : Option Addr) (c0 : Nat) (l0 : List Int) (n more : Int) (w : World) (h0 : Ints w a0 l0) (n0 : l0.length ≤ 9223372036854775807) :
    Calls Try.prog 4 #[.slice a0 l0.length c0, .int .i64 n, .int .i64 more] w fun e w' => e = .returned (.bool true) ∧ RowKit.Below w.heap.size w w' := by
  go_enter Try.func4, Try.ntmps4
  go_wp2_with (first | (go_at_call 7; (with_reducible refine (law08_phase a0 c0 l0 n _ h0 n0).mono ?_); rintro e w1 ⟨p, rfl, hp, hb1⟩; (obtain ⟨r, g, mg, xg, y, rd, wk, cl⟩ := p; simp only [Ph.agg]; obtain ⟨nd, hnd⟩ : ∃ nd, lNeed ⟨r, g, mg, xg, y, rd, wk, cl⟩ = nd := ⟨_, rfl⟩; have HN := Lib.hid hnd; have nb := lNeed_bd hp; rw [hnd] at nb; clear hnd)) | (go_at_call 12; (with_reducible refine (need_E HN _ hp).mono ?_); rintro e w2 ⟨rfl, hb2⟩; (have k2 := ((Blk.new w1 24 #[.int .i64 r, .int .i64 g, .int .i64 mg, .int .i64 xg, .int .i64 y, .int .i64 rd, .int .i64 wk, .int .i64 cl]).alloc (.cells #[.int .i64 1, .int .i64 0] 27)).below hb2 (by simp; omega); have j2 := (Blk.new (w1.alloc (.cells #[.int .i64 r, .int .i64 g, .int .i64 mg, .int .i64 xg, .int .i64 y, .int .i64 rd, .int .i64 wk, .int .i64 cl] 24)) 27 #[.int .i64 1, .int .i64 0]).below hb2 (by simp))) | (go_at_call 13; (with_reducible refine (mk_ModSome _ 5 _ (by omega) (by omega)).mono ?_); rintro e w' ⟨r5, rfl, r50, r51, rfl⟩))
  simp at j2
  have z2 := hb2.size
  simp at z2
  obtain ⟨P, hP⟩ : ∃ P, w1.heap.size = P := ⟨_, rfl⟩
  obtain ⟨T, hT⟩ : ∃ T : Nat, nd + r5 = (T : Int) := ⟨(nd + r5).toNat, by omega⟩
  have bb := hp.b
  go_loopw [20] (fun i wr => ∃ k : Nat, k ≤ T ∧ i = .int .i64 k ∧ RowKit.Below w.heap.size w wr ∧ Blk wr P 24 #[.int .i64 r, .int .i64 g, .int .i64 mg, .int .i64 xg, .int .i64 y, .int .i64 rd, .int .i64 wk, .int .i64 cl] ∧ Blk wr (P + 1) 27 #[.int .i64 1, .int .i64 (k : Int)]) (fun i _ => T - (intOf i).toNat)
  case atStart => exact ⟨0, by omega, rfl, (by repeat (first | (with_reducible refine Below.setCell ?_ ?_ _) | (with_reducible refine Below.alloc ?_ ?_ _) | (with_reducible refine Below.drew ?_) | (with_reducible refine below_drewN ?_ _) | (with_reducible exact Below.refl _ _) | (with_reducible refine Below.trans ?_ (Below.mono hb2 ?_)) | (with_reducible refine Below.trans ?_ (Below.mono hb1 ?_)) | (focus (simp; done)) | (focus (simp; omega)) | (focus omega) | (focus (have q0 := Below.size hb2; (try simp at q0); have q1 := Below.size hb1; (try simp at q1); (try simp); omega)))), by rw [← hP]; exact k2, by rw [← hP]; exact j2⟩
  case round =>
    obtain ⟨k, hk, rfl, bel, kP, kX⟩ := hrel
    simp only [hP, hT]
    have wP : w.heap.size ≤ P := by have := hb1.size; omega
    have T9 : T ≤ 8 := by omega
    have HP := Lib.hid hP
    have HT := Lib.hid hT
    clear hP hT k2 j2 z2
    obtain ⟨f0, f1, f2, f3, f4, f5, f6, f7, fl⟩ := kP.eightF
    obtain ⟨x0, x1, -, xl⟩ := kX.two
    obtain ⟨a1, a2, a3, a4, a5, a6⟩ := bb
    by_cases hlt : k < T
    · have hs := Lib.hid (green_step (p := ⟨r, g, mg, xg, y, rd, wk, cl⟩) (k := k) (by omega))
      have hl : LiOk ⟨r, g, mg, xg, y, rd, wk, cl⟩ 1 (k : Int) := LiOk.g (by omega) (by omega)
      have e1 : wrap64 (wk + cl) = wk + cl := by rw [wrap64]; omega
      by_cases c1 : (k : Int) < wk
      all_goals by_cases c2 : (k : Int) < wk + cl
      all_goals try (exfalso; omega)
      all_goals
        first
        | have hw : Hid (lWalk ⟨r, g, mg, xg, y, rd, wk, cl⟩ 1 (k : Int) = 1) := by (show _ = _; unfold lWalk; simp [c1]; done)
        | have hw : Hid (lWalk ⟨r, g, mg, xg, y, rd, wk, cl⟩ 1 (k : Int) = 2) := by (show _ = _; unfold lWalk; simp [c1, c2]; done)
        | have hw : Hid (lWalk ⟨r, g, mg, xg, y, rd, wk, cl⟩ 1 (k : Int) = 0) := by (show _ = _; unfold lWalk; simp [c1, c2]; done)
        go_wp2_with (first | (go_at_call 14; (with_reducible refine (walk_c 1 (k : Int) hw _ hp).mono ?_); rintro e w4 ⟨rfl, hb4⟩; (have kX4 := kX.below hb4 xl; have kP4 := kP.below hb4 fl; clear f0 f1 f2 f3 f4 f5 f6 f7 x0 x1; obtain ⟨x0, x1, -, xl4⟩ := kX4.two; obtain ⟨f0, f1, f2, f3, f4, f5, f6, f7, fl4⟩ := kP4.eightF)) | (go_at_call 11; (with_reducible refine (step_c hs _ hp hl).mono ?_); rintro e w5 ⟨rfl, hb5⟩; (have kX5 := kX4.below hb5 xl4; have kP5 := kP4.below hb5 fl4; clear x0 x1; obtain ⟨x0, x1, xf, xl5⟩ := kX5.two)))
        go_roundw
        case rel => exact ⟨k + 1, by omega, by go_num, (by repeat (first | (with_reducible refine Below.setCell ?_ ?_ _) | (with_reducible refine Below.alloc ?_ ?_ _) | (with_reducible refine Below.drew ?_) | (with_reducible refine below_drewN ?_ _) | (with_reducible exact Below.refl _ _) | (with_reducible refine Below.trans ?_ (Below.mono hb5 ?_)) | (with_reducible refine Below.trans ?_ (Below.mono hb4 ?_)) | (with_reducible refine Below.trans ?_ (Below.mono bel ?_)) | (focus (simp; done)) | (focus (simp; omega)) | (focus omega) | (focus (have q0 := Below.size hb5; (try simp at q0); have q1 := Below.size hb4; (try simp at q1); have q2 := Below.size bel; (try simp at q2); (try simp); omega)))), (kP5.far (by simp only; omega) _).far (by simp only; omega) _, by
          have h := kX5.set2 (.int .i64 1) (.int .i64 ((k : Int) + 1))
          rw [show (((k + 1 : Nat)) : Int) = (k : Int) + 1 by omega]; exact h⟩
        case measure => simp [intOf]; omega
    · have v1 : Hid (lWalk ⟨r, g, mg, xg, y, rd, wk, cl⟩ 2 0 = 0) := by (show _ = _; unfold lWalk; simp; done)
      have v2 : Hid (lWalk ⟨r, g, mg, xg, y, rd, wk, cl⟩ 0 0 = 0) := by (show _ = _; unfold lWalk; simp; done)
      go_wp2_with (first | (go_at_call 14; (with_reducible refine (walk_c 2 0 v1 _ hp).mono ?_); rintro e w4 ⟨rfl, hb4⟩; (have kP4 := kP.below hb4 fl; clear f0 f1 f2 f3 f4 f5 f6 f7; obtain ⟨f0, f1, f2, f3, f4, f5, f6, f7, fl4⟩ := kP4.eightF)) | (go_at_call 14; (with_reducible refine (walk_c 0 0 v2 _ hp).mono ?_); rintro e w5 ⟨rfl, hb5⟩) | (go_at_call 10; (with_reducible refine (awake_yes _).mono ?_); rintro e w6 ⟨rfl, hb6⟩))
      go_ret
      exact ⟨rfl, (by repeat (first | (with_reducible refine Below.setCell ?_ ?_ _) | (with_reducible refine Below.alloc ?_ ?_ _) | (with_reducible refine Below.drew ?_) | (with_reducible refine below_drewN ?_ _) | (with_reducible exact Below.refl _ _) | (with_reducible refine Below.trans ?_ (Below.mono hb6 ?_)) | (with_reducible refine Below.trans ?_ (Below.mono hb5 ?_)) | (with_reducible refine Below.trans ?_ (Below.mono hb4 ?_)) | (with_reducible refine Below.trans ?_ (Below.mono bel ?_)) | (focus (simp; done)) | (focus (simp; omega)) | (focus omega) | (focus (have q0 := Below.size hb6; (try simp at q0); have q1 := Below.size hb5; (try simp at q1); have q2 := Below.size hb4; (try simp at q2); have q3 := Below.size bel; (try simp at q3); (try simp); omega))))⟩
end Go.Proofs.Ytgcjnkdiggbfeaa
