/- law 08: contracts in the walk's spelling; the sanity check -/
import Derived.Test.YtgcjnkdiggbfeaaPhase
namespace Go.Proofs.Ytgcjnkdiggbfeaa
open Go.RowKit Go.Sort
set_option maxRecDepth 100000

section
variable {r g mg xg y rd wk cl : Int}
theorem light_c (n : Int) (w : World) (hp : PhOk ⟨r, g, mg, xg, y, rd, wk, cl⟩) :
    Calls Try.prog 8 #[.agg #[.int .i64 r, .int .i64 g, .int .i64 mg, .int .i64 xg, .int .i64 y, .int .i64 rd, .int .i64 wk, .int .i64 cl], .int .i64 n] w (LightRet ⟨r, g, mg, xg, y, rd, wk, cl⟩ w) := law08_light _ n w hp
theorem need_c (w : World) (hp : PhOk ⟨r, g, mg, xg, y, rd, wk, cl⟩) :
    Calls Try.prog 12 #[.agg #[.int .i64 r, .int .i64 g, .int .i64 mg, .int .i64 xg, .int .i64 y, .int .i64 rd, .int .i64 wk, .int .i64 cl]] w fun e w' => e = .returned (.int .i64 (lNeed ⟨r, g, mg, xg, y, rd, wk, cl⟩)) ∧ Below w.heap.size w w' := lamp_Need _ w hp
theorem lCount_bd {p : Ph} {a t : Int} (hp : PhOk p) (hx : LiOk p a t) : 0 ≤ lCount p a t ∧ lCount p a t ≤ 4 ∧ (1000 < t → lCount p a t = 0) := by
  have h1 := hp.yellow
  have h2 := hp.red
  have h3 := lNeed_bd hp
  unfold lCount
  rcases hx with ⟨rfl, rfl⟩ | ⟨rfl, h⟩ | ⟨rfl, h⟩ | ⟨rfl, h⟩
  · simp
  · simp only [if_true]; split <;> omega
  · simp only [show ¬ (2 : Int) = 1 by decide, if_false, if_true]; omega
  · simp only [show ¬ (3 : Int) = 1 by decide, show ¬ (3 : Int) = 2 by decide, if_false, if_true]; omega
theorem LiOk.bd {p : Ph} {a t : Int} (hp : PhOk p) (hx : LiOk p a t) : 0 ≤ a ∧ a ≤ 3 ∧ 0 ≤ t ∧ t ≤ 1073741824 := by
  have h1 := hp.yellow
  have h2 := hp.red
  rcases hx with ⟨rfl, rfl⟩ | ⟨rfl, h⟩ | ⟨rfl, h⟩ | ⟨rfl, h⟩ <;> omega
theorem count_c (a t : Int) (w : World) (hp : PhOk ⟨r, g, mg, xg, y, rd, wk, cl⟩) (hx : LiOk ⟨r, g, mg, xg, y, rd, wk, cl⟩ a t) :
    Calls Try.prog 9 #[.agg #[.int .i64 r, .int .i64 g, .int .i64 mg, .int .i64 xg, .int .i64 y, .int .i64 rd, .int .i64 wk, .int .i64 cl], .agg #[.int .i64 a, .int .i64 t]] w fun e w' =>
      ∃ n, e = .returned (.int .i64 n) ∧ Hid (lCount ⟨r, g, mg, xg, y, rd, wk, cl⟩ a t = n) ∧ 0 ≤ n ∧ n ≤ 4 ∧ ((n = 0 ∧ 1000 < t) ∨ t ≤ 1000) ∧ Below w.heap.size w w' := by
  have hb := hx.bd hp
  have hc := lCount_bd hp hx
  exact (lamp_Count _ a t w hp (by omega)).mono fun e w' ⟨he, hw⟩ => ⟨_, he, Lib.hid rfl, hc.1, hc.2.1, by have := hc.2.2; omega, hw⟩
theorem step_c {a t a' t' : Int} {leave : Bool} (h : Hid (lStep ⟨r, g, mg, xg, y, rd, wk, cl⟩ a t leave = (a', t'))) (w : World) (hp : PhOk ⟨r, g, mg, xg, y, rd, wk, cl⟩) (hx : LiOk ⟨r, g, mg, xg, y, rd, wk, cl⟩ a t) :
    Calls Try.prog 11 #[.agg #[.int .i64 r, .int .i64 g, .int .i64 mg, .int .i64 xg, .int .i64 y, .int .i64 rd, .int .i64 wk, .int .i64 cl], .agg #[.int .i64 a, .int .i64 t], .bool leave] w fun e w' => e = .returned (.agg #[.int .i64 a', .int .i64 t']) ∧ Below w.heap.size w w' := by
  have := lamp_Step ⟨r, g, mg, xg, y, rd, wk, cl⟩ a t leave w hp hx
  rw [h.out] at this
  exact this
theorem walk_c (a t : Int) {n : Int} (h : Hid (lWalk ⟨r, g, mg, xg, y, rd, wk, cl⟩ a t = n)) (w : World) (hp : PhOk ⟨r, g, mg, xg, y, rd, wk, cl⟩) :
    Calls Try.prog 14 #[.agg #[.int .i64 r, .int .i64 g, .int .i64 mg, .int .i64 xg, .int .i64 y, .int .i64 rd, .int .i64 wk, .int .i64 cl], .agg #[.int .i64 a, .int .i64 t]] w fun e w' => e = .returned (.int .i64 n) ∧ Below w.heap.size w w' := h.out ▸ lamp_Walk _ a t w hp
end
theorem Blk.two {w : World} {g : Nat} {t : TypeId} {a b : Value} (h : Blk w g t #[a, b]) : w.cell? ⟨g, 0, none⟩ = some a ∧ w.cell? ⟨g, 1, none⟩ = some b ∧ (∀ i, w.frozen? ⟨g, i, none⟩ = false) ∧ g < w.heap.size := ⟨h.cell 0, h.cell 1, h.frozen, h.lt⟩
theorem Blk.eightF {w : World} {g : Nat} {t : TypeId} {a b c d e f h i : Value} (k : Blk w g t #[a, b, c, d, e, f, h, i]) : w.cell? ⟨g, 0, none⟩ = some a ∧ w.cell? ⟨g, 1, none⟩ = some b ∧ w.cell? ⟨g, 2, none⟩ = some c ∧ w.cell? ⟨g, 3, none⟩ = some d ∧ w.cell? ⟨g, 4, none⟩ = some e ∧ w.cell? ⟨g, 5, none⟩ = some f ∧ w.cell? ⟨g, 6, none⟩ = some h ∧ w.cell? ⟨g, 7, none⟩ = some i ∧ g < w.heap.size :=
  ⟨k.cell 0, k.cell 1, k.cell 2, k.cell 3, k.cell 4, k.cell 5, k.cell 6, k.cell 7, k.lt⟩

theorem ph0 : PhOk ⟨0, 0, 2, 2, 1, 0, 0, 0⟩ := ⟨by decide, by decide, by decide, by decide, by decide, by decide, by decide⟩
theorem li0 : LiOk ⟨0, 0, 2, 2, 1, 0, 0, 0⟩ 1 0 := by unfold LiOk; simp
theorem li1 : LiOk ⟨0, 0, 2, 2, 1, 0, 0, 0⟩ 1 1 := by unfold LiOk; simp
theorem li2 : LiOk ⟨0, 0, 2, 2, 1, 0, 0, 0⟩ 2 0 := by unfold LiOk; simp
set_option maxHeartbeats 2000000 in
theorem awake_yes (w : World) : Calls Try.prog 10 #[] w fun e w' => e = .returned (.bool true) ∧ Below w.heap.size w w' := by
  have s1 : Hid (lStep ⟨0, 0, 2, 2, 1, 0, 0, 0⟩ 1 0 true = (1, 1)) := Lib.hid (by decide)
  have s2 : Hid (lStep ⟨0, 0, 2, 2, 1, 0, 0, 0⟩ 1 1 true = (2, 0)) := Lib.hid (by decide)
  have s3 : Hid (lStep ⟨0, 0, 2, 2, 1, 0, 0, 0⟩ 2 0 true = (0, 0)) := Lib.hid (by decide)
  have s4 : Hid (lNeed ⟨0, 0, 2, 2, 1, 0, 0, 0⟩ = 2) := Lib.hid (by decide)
  go_enter Try.func10, Try.ntmps10
  go_wp2_with (first | (go_at_call 11; (with_reducible refine (step_c s1 _ ph0 li0).mono ?_); rintro e w1 ⟨rfl, hb1⟩; (have k1 := (Blk.new w 24 #[.int .i64 0, .int .i64 0, .int .i64 2, .int .i64 2, .int .i64 1, .int .i64 0, .int .i64 0, .int .i64 0]).below hb1 (by simp); obtain ⟨f0, f1, f2, f3, f4, f5, f6, f7, fl⟩ := k1.eightF)) | (go_at_call 11; (with_reducible refine (step_c s2 _ ph0 li1).mono ?_); rintro e w2 ⟨rfl, hb2⟩; (have k2 := (k1.alloc (.cells #[.int .i64 1, .int .i64 1] 27)).below hb2 (by simp; omega); have j2 := (Blk.new w1 27 #[.int .i64 1, .int .i64 1]).below hb2 (by simp); obtain ⟨p0, p1, p2, p3, p4, p5, p6, p7, pl⟩ := k2.eightF; obtain ⟨q0, q1, -, ql⟩ := j2.two)) | (go_at_call 11; (with_reducible refine (step_c s3 _ ph0 li2).mono ?_); rintro e w3 ⟨rfl, hb3⟩; (have k3 := (k2.alloc (.cells #[.int .i64 2, .int .i64 0] 27)).below hb3 (by simp; omega); obtain ⟨u0, u1, u2, u3, u4, u5, u6, u7, ul⟩ := k3.eightF)) | (go_at_call 12; (with_reducible refine (need_c _ ph0).mono ?_); rintro e w4 ⟨rfl, hb4⟩; (rw [s4.out])))
  go_ret
  exact ⟨rfl, (by repeat (first | (with_reducible refine Below.setCell ?_ ?_ _) | (with_reducible refine Below.alloc ?_ ?_ _) | (with_reducible refine Below.drew ?_) | (with_reducible refine below_drewN ?_ _) | (with_reducible exact Below.refl _ _) | (with_reducible refine Below.trans ?_ (Below.mono hb4 ?_)) | (with_reducible refine Below.trans ?_ (Below.mono hb3 ?_)) | (with_reducible refine Below.trans ?_ (Below.mono hb2 ?_)) | (with_reducible refine Below.trans ?_ (Below.mono hb1 ?_)) | (focus (simp; done)) | (focus (simp; omega)) | (focus omega) | (focus (have q0 := Below.size hb4; (try simp at q0); have q1 := Below.size hb3; (try simp at q1); have q2 := Below.size hb2; (try simp at q2); have q3 := Below.size hb1; (try simp at q3); (try simp); omega))))⟩
end Go.Proofs.Ytgcjnkdiggbfeaa
