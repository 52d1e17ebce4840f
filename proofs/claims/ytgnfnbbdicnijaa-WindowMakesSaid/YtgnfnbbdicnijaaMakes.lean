import Derived.Test.YtgnfnbbdicnijaaSince
import Derived.Test.YtgnfnbbdicnijaaReg
import Derived.Test.YtgnfnbbdicnijaaQuiet
namespace Go.Proofs.Ytgnfnbbdicnijaa
open Go.RowKit Go.Sort
set_option maxRecDepth 100000

def wMk (j p f t now : Int) : Int × Int × Int × Int × Int × Int := if wMakeOk j p f t now = true then (j, p, now + f, now + t, -1, 0) else (0, 0, 0, 0, 0, 8)
theorem wMk_V {j p f t now x1 x2 x3 x4 x5 x6 : Int} (h : wMk j p f t now = (x1, x2, x3, x4, x5, x6)) : wMakeV j p f t now = .tuple #[.agg #[.int .i64 x1, .int .i64 x2, .int .i64 x3, .int .i64 x4, .int .i64 x5], .int .i64 x6] := by
  unfold wMk at h
  unfold wMakeV
  split at h <;> (rename_i hc; simp only [hc, if_true, Bool.false_eq_true, if_false]; simp only [Prod.mk.injEq] at h; obtain ⟨rfl, rfl, rfl, rfl, rfl, rfl⟩ := h; rfl)
theorem window_MakeX {j p f t now x1 x2 x3 x4 x5 x6 : Int} (w : World) (h : wMk j p f t now = (x1, x2, x3, x4, x5, x6)) : Calls Try.prog 6 #[.int .i64 j, .int .i64 p, .int .i64 f, .int .i64 t, .int .i64 now] w fun e w' => e = .returned (.tuple #[.agg #[.int .i64 x1, .int .i64 x2, .int .i64 x3, .int .i64 x4, .int .i64 x5], .int .i64 x6]) ∧ Below w.heap.size w w' := by
  rw [← wMk_V h]; exact window_Make _ _ _ _ _ _
theorem ref18_MakeX {j p f t now x1 x2 x3 x4 x5 x6 : Int} (w : World) (h : wMk j p f t now = (x1, x2, x3, x4, x5, x6)) : Calls Try.prog 10 #[.int .i64 j, .int .i64 p, .int .i64 f, .int .i64 t, .int .i64 now] w fun e w' => e = .returned (.tuple #[.agg #[.int .i64 x1, .int .i64 x2, .int .i64 x3, .int .i64 x4, .int .i64 x5], .int .i64 x6]) ∧ Below w.heap.size w w' := by
  rw [← wMk_V h]; exact ref18_Make _ _ _ _ _ _


set_option maxHeartbeats 4000000 in
theorem windowMakes_walk (rj rp rf rt rs aj ap af at' now : Int) (w : World) : Calls Try.prog 4 #[.agg #[.int .i64 rj, .int .i64 rp, .int .i64 rf, .int .i64 rt, .int .i64 rs], .int .i64 aj, .int .i64 ap, .int .i64 af, .int .i64 at', .int .i64 now] w fun e w' => e = .returned (.bool true) ∧ Below w.heap.size w w' := by
  obtain ⟨x1, x2, x3, x4, x5, x6, hx⟩ : ∃ x1 x2 x3 x4 x5 x6, wMk aj ap af at' now = (x1, x2, x3, x4, x5, x6) := ⟨_, _, _, _, _, _, rfl⟩
  have HX := Lib.hid hx
  clear hx
  go_enter Try.func4, Try.ntmps4
  go_wp2_with (first | (go_at_call 6; (with_reducible refine (window_MakeX _ HX.out).mono ?_); rintro e w1 ⟨rfl, hb1⟩) | (go_at_call 10; (with_reducible refine (ref18_MakeX _ HX.out).mono ?_); rintro e w2 ⟨rfl, hb2⟩))
  obtain ⟨rn, En, mn1, mn2⟩ := modName now 3 (by omega)
  obtain ⟨rq, Eq', mq1, mq2⟩ := modName (IntKind.i64.wrap (now.tdiv 3)) 2 (by omega)
  obtain ⟨rj', Ej, mj1, mj2⟩ := modName aj 6 (by omega)
  obtain ⟨rp', Ep, mp1, mp2⟩ := modName ap 10 (by omega)
  obtain ⟨rf', Ef, mf1, mf2⟩ := modName af 9 (by omega)
  obtain ⟨rt', Et, mt1, mt2⟩ := modName at' 9 (by omega)
  obtain ⟨r20, E20, m20a, m20b⟩ := modName now 20 (by omega)
  have hy : ∃ y : Int, 0 ≤ y ∧ y ≤ 596 ∧ (#[.int .i64 0, .int .i64 0, .int .i64 596] : Array Value)[rn.toNat]? = some (.int .i64 y) := by
    have : rn = 0 ∨ rn = 1 ∨ rn = 2 := by omega
    rcases this with h | h | h <;> rw [h]
    · exact ⟨0, by omega, by omega, rfl⟩
    · exact ⟨0, by omega, by omega, rfl⟩
    · exact ⟨596, by omega, by omega, rfl⟩
  have hz : ∃ z : Int, (#[.int .i64 (r20 - 1), .int .i64 (1073741823 + rn)] : Array Value)[rq.toNat]? = some (.int .i64 z) := by
    have : rq = 0 ∨ rq = 1 := by omega
    rcases this with h | h <;> rw [h]
    · exact ⟨_, rfl⟩
    · exact ⟨_, rfl⟩
  obtain ⟨y, hy1, hy2, hy⟩ := hy
  obtain ⟨z, hz⟩ := hz
  have HY := Lib.hid hy
  have HZ := Lib.hid hz
  clear hy hz
  obtain ⟨u1, u2, u3, u4, u5, u6, hu⟩ : ∃ x1 x2 x3 x4 x5 x6, wMk (rj' - 1) (rp' - 1) (rf' - 1) (rt' + y) z = (x1, x2, x3, x4, x5, x6) := ⟨_, _, _, _, _, _, rfl⟩
  have HU := Lib.hid hu
  clear hu
  have z1 := hb1.size
  have z2 := hb2.size
  simp at z1 z2
  refine wp_named (fun W => Below w.heap.size w W ∧ Blk W w.heap.size 24 #[.int .i64 rj, .int .i64 rp, .int .i64 rf, .int .i64 rt, .int .i64 rs] ∧ Blk W w1.heap.size 24 #[.int .i64 x1, .int .i64 x2, .int .i64 x3, .int .i64 x4, .int .i64 x5] ∧ Blk W w2.heap.size 24 #[.int .i64 x1, .int .i64 x2, .int .i64 x3, .int .i64 x4, .int .i64 x5]) ?_ ?_
  · exact ⟨(by repeat (first | (with_reducible refine Below.setCell ?_ ?_ _) | (with_reducible refine Below.alloc ?_ ?_ _) | (with_reducible refine Below.drew ?_) | (with_reducible refine below_drewN ?_ _) | (with_reducible exact Below.refl _ _) | (with_reducible refine Below.trans ?_ (Below.mono hb1 ?_)) | (with_reducible refine Below.trans ?_ (Below.mono hb2 ?_)) | (focus (simp; done)) | (focus (simp; omega)) | (focus omega) | (focus (have q0 := Below.size hb1; (try simp at q0); have q1 := Below.size hb2; (try simp at q1); (try simp); omega)))), ((((Blk.new w _ _).below hb1 (by simp)).alloc _).below hb2 (by simp; omega)).alloc _, ((Blk.new w1 _ _).below hb2 (by simp)).alloc _, Blk.new w2 _ _⟩
  rintro W ⟨HBW, k1, k2, k3⟩
  clear z1 z2 hb1 hb2
  have e1 : IntKind.i64.wrap (rj' - 1) = rj' - 1 := by rw [IntKind.wrap_i64]; omega
  have e2 : IntKind.i64.wrap (rp' - 1) = rp' - 1 := by rw [IntKind.wrap_i64]; omega
  have e3 : IntKind.i64.wrap (rf' - 1) = rf' - 1 := by rw [IntKind.wrap_i64]; omega
  have e4 : IntKind.i64.wrap (rt' + y) = rt' + y := by rw [IntKind.wrap_i64]; omega
  have e5 : IntKind.i64.wrap (r20 - 1) = r20 - 1 := by rw [IntKind.wrap_i64]; omega
  have e6 : IntKind.i64.wrap (1073741823 + rn) = 1073741823 + rn := by rw [IntKind.wrap_i64]; omega
  apply wp_region_tab 185 [some 44, some 45, some 46, some 47, some 48, some 49, some 50, some 51, some 52, some 53, some 54, some 55, some 56, some 57, some 58, some 59, some 60, some 61, some 62, some 63, some 64, some 65, some 66, some 67, some 68, some 69, some 70, some 71, some 72, some 73, some 43, some 74, some 75, some 17, none, some 18] [⟨[], [], none⟩, ⟨[0], [0], none⟩, ⟨[0, 1], [1], none⟩, ⟨[], [], none⟩, ⟨[0, 1, 3], [3], none⟩, ⟨[0, 1, 3, 4], [4], none⟩, ⟨[], [], none⟩, ⟨[0, 1, 3, 4, 6], [6], none⟩, ⟨[0, 1, 3, 4, 6, 7], [7], none⟩, ⟨[], [], none⟩, ⟨[0, 1, 3, 4, 6, 7, 9], [9], none⟩, ⟨[], [], none⟩, ⟨[], [], none⟩, ⟨[0, 1, 3, 4, 6, 7, 9, 10, 12], [12], none⟩, ⟨[0, 1, 3, 4, 6, 7, 9, 10, 11, 12, 13], [11, 13], none⟩, ⟨[0, 1, 3, 4, 6, 7, 9, 10, 11, 12, 13, 14], [11, 14], none⟩, ⟨[0, 1, 3, 4, 6, 7, 9, 10, 11, 12, 13, 14, 15], [10, 15], none⟩, ⟨[], [], none⟩, ⟨[0, 1, 3, 4, 6, 7, 9, 10, 12, 13, 17], [17], none⟩, ⟨[0, 1, 3, 4, 6, 7, 9, 10, 12, 13, 17, 18], [18], none⟩, ⟨[], [], none⟩, ⟨[0, 1, 3, 4, 6, 7, 9, 10, 12, 13, 17, 18, 20], [20], none⟩, ⟨[0, 1, 3, 4, 6, 7, 9, 10, 12, 13, 17, 18, 20, 21], [21], none⟩, ⟨[0, 1, 3, 4, 6, 7, 9, 10, 12, 13, 17, 18, 19, 20, 21, 22], [19, 22], none⟩, ⟨[], [], none⟩, ⟨[24], [24], none⟩, ⟨[0, 1, 3, 4, 6, 7, 9, 10, 12, 13, 17, 18, 20, 21, 24, 25], [25], none⟩, ⟨[0, 1, 3, 4, 6, 7, 9, 10, 12, 13, 17, 18, 19, 20, 21, 22, 23, 24, 25, 26], [23, 26], none⟩, ⟨[0, 1, 3, 4, 6, 7, 9, 10, 12, 13, 17, 18, 19, 20, 21, 22, 23, 24, 25, 26, 27], [23, 27], none⟩, ⟨[0, 1, 2, 3, 4, 5, 6, 7, 8, 9, 10, 11, 12, 13, 14, 15, 16, 17, 18, 19, 20, 21, 22, 23, 24, 25, 26, 27, 28], [2, 5, 8, 16, 28], none⟩, ⟨[0, 1, 2, 3, 4, 5, 6, 7, 8, 9, 10, 11, 12, 13, 14, 15, 16, 17, 18, 19, 20, 21, 22, 23, 24, 25, 26, 27, 28, 29], [29], none⟩, ⟨[0, 1, 2, 3, 4, 5, 6, 7, 8, 9, 10, 11, 12, 13, 14, 15, 16, 17, 18, 19, 20, 21, 22, 23, 24, 25, 26, 27, 28, 29, 30], [30], none⟩, ⟨[0, 1, 2, 3, 4, 5, 6, 7, 8, 9, 10, 11, 12, 13, 14, 15, 16, 17, 18, 19, 20, 21, 22, 23, 24, 25, 26, 27, 28, 29, 30], [30], none⟩, ⟨[], [], none⟩, ⟨[0, 1, 2, 3, 4, 5, 6, 7, 8, 9, 10, 11, 12, 13, 14, 15, 16, 17, 18, 19, 20, 21, 22, 23, 24, 25, 26, 27, 28, 29, 30, 31, 33], [31, 33], some 33⟩, ⟨[0, 1, 2, 3, 4, 5, 6, 7, 8, 9, 10, 11, 12, 13, 14, 15, 16, 17, 18, 19, 20, 21, 22, 23, 24, 25, 26, 27, 28, 29, 30, 31, 32, 33, 34], [32], none⟩] [0, 1, 2, 3, 4, 5, 6, 7, 8, 9, 10, 11, 12, 13, 14, 15, 16, 17, 18, 19, 20, 21, 22, 23, 24, 25, 26, 27, 28, 29, 30, 31, 32, 33, 34, 35] [34, 35] [psiVal _, psiVal _, psiVal _, psiVal _, psiVal _, psiVal _, psiVal _, psiVal _, psiVal _, psiVal _, psiVal _, (fun f lo hi v l h w => ∃ b, v = .slice (some ⟨b, 0, none⟩) 3 3 ∧ l ≤ b ∧ b < h ∧ Blk w b 3 #[.int .i64 0, .int .i64 0, .int .i64 596]), psiVal _, psiVal _, (fun f lo hi v l h w => ∃ b, f 11 = .slice (some ⟨b, 0, none⟩) 3 3 ∧ v = .pointer (some ⟨b, rn.toNat, none⟩)), psiVal _, psiVal _, psiVal _, psiVal _, psiVal _, psiVal _, psiVal _, psiVal _, (fun f lo hi v l h w => ∃ b, v = .slice (some ⟨b, 0, none⟩) 2 2 ∧ l ≤ b ∧ b < h ∧ Blk w b 3 #[.int .i64 (r20 - 1), .int .i64 (1073741823 + rn)]), psiVal _, psiVal _, psiVal _, (fun f lo hi v l h w => ∃ b, f 23 = .slice (some ⟨b, 0, none⟩) 2 2 ∧ v = .pointer (some ⟨b, rq.toNat, none⟩)), psiVal _, psiVal _, psiVal _, psiVal _, psiVal _, (fun f lo hi v l h w => ∃ b, v = .pointer (some ⟨b, 0, none⟩) ∧ l ≤ b ∧ b < h ∧ Blk w b 24 #[.int .i64 0, .int .i64 0, .int .i64 0, .int .i64 0, .int .i64 0]), (fun f lo hi v l h w => ∃ b, f 33 = .pointer (some ⟨b, 0, none⟩) ∧ lo 33 ≤ b ∧ b < hi 33 ∧ Blk w b 24 #[.int .i64 u1, .int .i64 u2, .int .i64 u3, .int .i64 u4, .int .i64 u5]), psiVal _]
  · kernel_rfl
  · kernel_rfl
  · rfl
  refine ⟨?oR1_0, ?oR1_1, ?oR1_2, ?oR1_3, ?oR1_4, ?oR1_5, ?oR1_6, ?oR1_7, ?oR1_8, ?oR1_9, ?oR1_10, ?oR1_11, ?oR1_12, ?oR1_13, ?oR1_14, ?oR1_15, ?oR1_16, ?oR1_17, ?oR1_18, ?oR1_19, ?oR1_20, ?oR1_21, ?oR1_22, ?oR1_23, ?oR1_24, ?oR1_25, ?oR1_26, ?oR1_27, ?oR1_28, ?oR1_29, ?oR1_30, ?oR1_31, ?oR1_32, ?oR1_33, ?oR1_34, ?oR1_35, trivial⟩
  case oR1_0 => intro f lo hi w hb hf R hR; (try simp (decide := true) only [go_sem] at hf); go_simp; exact hR _ _ (rpost_val rfl rfl (Below.refl _ _) rfl)
  case oR1_1 => intro f lo hi w hb hf R hR; (try simp (decide := true) only [go_sem] at hf); go_simp; (with_reducible refine (mk_ModE Ej.out _ (by omega) (by omega)).mono ?_); rintro e w' ⟨rfl, rfl⟩; exact ⟨_, rfl, hR _ _ (rpost_val rfl rfl (Below.refl _ _) rfl)⟩
  case oR1_2 => intro f lo hi w hb hf R hR; (try simp (decide := true) only [go_sem] at hf); go_simp; exact hR _ _ (rpost_val rfl rfl (Below.refl _ _) rfl)
  case oR1_3 => intro f lo hi w hb hf R hR; (try simp (decide := true) only [go_sem] at hf); go_simp; exact hR _ _ (rpost_val rfl rfl (Below.refl _ _) rfl)
  case oR1_4 => intro f lo hi w hb hf R hR; (try simp (decide := true) only [go_sem] at hf); go_simp; (with_reducible refine (mk_ModE Ep.out _ (by omega) (by omega)).mono ?_); rintro e w' ⟨rfl, rfl⟩; exact ⟨_, rfl, hR _ _ (rpost_val rfl rfl (Below.refl _ _) rfl)⟩
  case oR1_5 => intro f lo hi w hb hf R hR; (try simp (decide := true) only [go_sem] at hf); go_simp; exact hR _ _ (rpost_val rfl rfl (Below.refl _ _) rfl)
  case oR1_6 => intro f lo hi w hb hf R hR; (try simp (decide := true) only [go_sem] at hf); go_simp; exact hR _ _ (rpost_val rfl rfl (Below.refl _ _) rfl)
  case oR1_7 => intro f lo hi w hb hf R hR; (try simp (decide := true) only [go_sem] at hf); go_simp; (with_reducible refine (mk_ModE Ef.out _ (by omega) (by omega)).mono ?_); rintro e w' ⟨rfl, rfl⟩; exact ⟨_, rfl, hR _ _ (rpost_val rfl rfl (Below.refl _ _) rfl)⟩
  case oR1_8 => intro f lo hi w hb hf R hR; (try simp (decide := true) only [go_sem] at hf); go_simp; exact hR _ _ (rpost_val rfl rfl (Below.refl _ _) rfl)
  case oR1_9 => intro f lo hi w hb hf R hR; (try simp (decide := true) only [go_sem] at hf); go_simp; exact hR _ _ (rpost_val rfl rfl (Below.refl _ _) rfl)
  case oR1_10 => intro f lo hi w hb hf R hR; (try simp (decide := true) only [go_sem] at hf); go_simp; (with_reducible refine (mk_ModE Et.out _ (by omega) (by omega)).mono ?_); rintro e w' ⟨rfl, rfl⟩; exact ⟨_, rfl, hR _ _ (rpost_val rfl rfl (Below.refl _ _) rfl)⟩
  case oR1_11 =>
    intro f lo hi w hb hf R hR; (try simp (decide := true) only [go_sem] at hf)
    go_simp
    refine hR _ _ (rpost_none rfl (by repeat (first | (with_reducible refine Below.setCell ?_ ?_ _) | (with_reducible refine Below.alloc ?_ ?_ _) | (with_reducible refine Below.drew ?_) | (with_reducible refine below_drewN ?_ _) | (with_reducible exact Below.refl _ _) | (focus (simp; done)) | (focus (simp; omega)) | (focus omega))) ?_)
    (try simp (decide := true) only [go_sem])
    exact ⟨_, rfl, Nat.le_refl _, by simp, Blk.new _ _ _⟩
  case oR1_12 => intro f lo hi w hb hf R hR; (try simp (decide := true) only [go_sem] at hf); go_simp; exact hR _ _ (rpost_val rfl rfl (Below.refl _ _) rfl)
  case oR1_13 => intro f lo hi w hb hf R hR; (try simp (decide := true) only [go_sem] at hf); go_simp; (with_reducible refine (mk_ModE En.out _ (by omega) (by omega)).mono ?_); rintro e w' ⟨rfl, rfl⟩; exact ⟨_, rfl, hR _ _ (rpost_val rfl rfl (Below.refl _ _) rfl)⟩
  case oR1_14 =>
    intro f lo hi w hb hf R hR; (try simp (decide := true) only [go_sem] at hf)
    obtain ⟨⟨_, b, h1, h2, h3, h4⟩, _, h5⟩ := hf
    go_simp
    refine hR _ _ (rpost_none rfl (Below.refl _ _) ?_)
    (try simp (decide := true) only [go_sem])
    exact ⟨b, h1, by simp⟩
  case oR1_15 =>
    intro f lo hi w hb hf R hR; (try simp (decide := true) only [go_sem] at hf)
    obtain ⟨⟨_, b, h1, h2, h3, h4⟩, _, b', h5, h6⟩ := hf
    rw [h1] at h5
    obtain rfl : b = b' := by simpa using h5
    clear h5
    have hc : w.cell? ⟨b, rn.toNat, none⟩ = some (.int .i64 y) := (h4.cell _).trans HY.out
    go_simp
    exact hR _ _ (rpost_val rfl rfl (Below.refl _ _) rfl)
  case oR1_16 => intro f lo hi w hb hf R hR; (try simp (decide := true) only [go_sem] at hf); go_simp; exact hR _ _ (rpost_val rfl rfl (Below.refl _ _) rfl)
  case oR1_17 => intro f lo hi w hb hf R hR; (try simp (decide := true) only [go_sem] at hf); go_simp; exact hR _ _ (rpost_val rfl rfl (Below.refl _ _) rfl)
  case oR1_18 => intro f lo hi w hb hf R hR; (try simp (decide := true) only [go_sem] at hf); go_simp; (with_reducible refine (mk_ModE E20.out _ (by omega) (by omega)).mono ?_); rintro e w' ⟨rfl, rfl⟩; exact ⟨_, rfl, hR _ _ (rpost_val rfl rfl (Below.refl _ _) rfl)⟩
  case oR1_19 => intro f lo hi w hb hf R hR; (try simp (decide := true) only [go_sem] at hf); go_simp; exact hR _ _ (rpost_val rfl rfl (Below.refl _ _) rfl)
  case oR1_20 => intro f lo hi w hb hf R hR; (try simp (decide := true) only [go_sem] at hf); go_simp; exact hR _ _ (rpost_val rfl rfl (Below.refl _ _) rfl)
  case oR1_21 => intro f lo hi w hb hf R hR; (try simp (decide := true) only [go_sem] at hf); go_simp; (with_reducible refine (mk_ModE En.out _ (by omega) (by omega)).mono ?_); rintro e w' ⟨rfl, rfl⟩; exact ⟨_, rfl, hR _ _ (rpost_val rfl rfl (Below.refl _ _) rfl)⟩
  case oR1_22 => intro f lo hi w hb hf R hR; (try simp (decide := true) only [go_sem] at hf); go_simp; exact hR _ _ (rpost_val rfl rfl (Below.refl _ _) rfl)
  case oR1_23 =>
    intro f lo hi w hb hf R hR; (try simp (decide := true) only [go_sem] at hf)
    go_simp
    refine hR _ _ (rpost_none rfl (by repeat (first | (with_reducible refine Below.setCell ?_ ?_ _) | (with_reducible refine Below.alloc ?_ ?_ _) | (with_reducible refine Below.drew ?_) | (with_reducible refine below_drewN ?_ _) | (with_reducible exact Below.refl _ _) | (focus (simp; done)) | (focus (simp; omega)) | (focus omega))) ?_)
    (try simp (decide := true) only [go_sem])
    exact ⟨_, rfl, Nat.le_refl _, by simp, Blk.new _ _ _⟩
  case oR1_24 => intro f lo hi w hb hf R hR; (try simp (decide := true) only [go_sem] at hf); go_simp; exact hR _ _ (rpost_val rfl rfl (Below.refl _ _) rfl)
  case oR1_25 => intro f lo hi w hb hf R hR; (try simp (decide := true) only [go_sem] at hf); go_simp; exact hR _ _ (rpost_val rfl rfl (Below.refl _ _) rfl)
  case oR1_26 => intro f lo hi w hb hf R hR; (try simp (decide := true) only [go_sem] at hf); go_simp; (with_reducible refine (mk_ModE Eq'.out _ (by omega) (by omega)).mono ?_); rintro e w' ⟨rfl, rfl⟩; exact ⟨_, rfl, hR _ _ (rpost_val rfl rfl (Below.refl _ _) rfl)⟩
  case oR1_27 =>
    intro f lo hi w hb hf R hR; (try simp (decide := true) only [go_sem] at hf)
    obtain ⟨⟨_, b, h1, h2, h3, h4⟩, _, h5⟩ := hf
    go_simp
    refine hR _ _ (rpost_none rfl (Below.refl _ _) ?_)
    (try simp (decide := true) only [go_sem])
    exact ⟨b, h1, by simp⟩
  case oR1_28 =>
    intro f lo hi w hb hf R hR; (try simp (decide := true) only [go_sem] at hf)
    obtain ⟨⟨_, b, h1, h2, h3, h4⟩, _, b', h5, h6⟩ := hf
    rw [h1] at h5
    obtain rfl : b = b' := by simpa using h5
    clear h5
    have hc : w.cell? ⟨b, rq.toNat, none⟩ = some (.int .i64 z) := (h4.cell _).trans HZ.out
    go_simp
    exact hR _ _ (rpost_val rfl rfl (Below.refl _ _) rfl)
  case oR1_29 =>
    intro f lo hi w hb hf R hR; (try simp (decide := true) only [go_sem] at hf)
    go_simp
    (with_reducible refine (window_MakeX _ HU.out).mono ?_)
    rintro e w' ⟨rfl, hb'⟩
    exact ⟨_, rfl, hR _ _ (rpost_val rfl rfl hb' rfl)⟩
  case oR1_30 => intro f lo hi w hb hf R hR; (try simp (decide := true) only [go_sem] at hf); go_simp; exact hR _ _ (rpost_val rfl rfl (Below.refl _ _) rfl)
  case oR1_31 => intro f lo hi w hb hf R hR; (try simp (decide := true) only [go_sem] at hf); go_simp; exact hR _ _ (rpost_val rfl rfl (Below.refl _ _) rfl)
  case oR1_32 => intro f lo hi w hb hf R hR; (try simp (decide := true) only [go_sem] at hf); go_simp; exact hR _ _ (rpost_val rfl rfl (Below.refl _ _) rfl)
  case oR1_33 =>
    intro f lo hi w hb hf R hR; (try simp (decide := true) only [go_sem] at hf)
    go_simp
    refine hR _ _ (rpost_none rfl (by repeat (first | (with_reducible refine Below.setCell ?_ ?_ _) | (with_reducible refine Below.alloc ?_ ?_ _) | (with_reducible refine Below.drew ?_) | (with_reducible refine below_drewN ?_ _) | (with_reducible exact Below.refl _ _) | (focus (simp; done)) | (focus (simp; omega)) | (focus omega))) ?_)
    (try simp (decide := true) only [go_sem])
    exact ⟨_, rfl, Nat.le_refl _, by simp, Blk.new _ _ _⟩
  case oR1_34 =>
    intro f lo hi w hb hf R hR; (try simp (decide := true) only [go_sem] at hf)
    obtain ⟨h5, _, b, h1, h2, h3, h4⟩ := hf
    obtain ⟨c0, c1, c2, c3, c4, fz, hl⟩ := h4.five
    go_simp
    refine hR _ _ (rpost_some rfl ((((((Touch.set _ h2 h3 _ _).trans (Touch.set _ h2 h3 _ _)).trans (Touch.set _ h2 h3 _ _)).trans (Touch.set _ h2 h3 _ _)).trans (Touch.set _ h2 h3 _ _))) ?_)
    (try simp (decide := true) only [go_sem])
    exact ⟨b, h1, h2, h3, h4.set5 _ _ _ _ _⟩
  case oR1_35 => intro f lo hi w hb hf R hR; (try simp (decide := true) only [go_sem] at hf); go_simp; exact hR _ _ (rpost_val rfl rfl (Below.refl _ _) rfl)
  case hcl =>
    refine ⟨Closed.val _ _ _, Closed.val _ _ _, Closed.val _ _ _, Closed.val _ _ _, Closed.val _ _ _, Closed.val _ _ _, Closed.val _ _ _, Closed.val _ _ _, Closed.val _ _ _, Closed.val _ _ _, Closed.val _ _ _, ?cR1_11, Closed.val _ _ _, Closed.val _ _ _, ?cR1_14, Closed.val _ _ _, Closed.val _ _ _, Closed.val _ _ _, Closed.val _ _ _, Closed.val _ _ _, Closed.val _ _ _, Closed.val _ _ _, Closed.val _ _ _, ?cR1_23, Closed.val _ _ _, Closed.val _ _ _, Closed.val _ _ _, ?cR1_27, Closed.val _ _ _, Closed.val _ _ _, Closed.val _ _ _, Closed.val _ _ _, Closed.val _ _ _, ?cR1_33, ?cR1_34, Closed.val _ _ _, trivial⟩
    all_goals first
      | exact fun _ _ _ _ _ _ _ _ h _ _ _ _ => h | (intro f lo hi v l h w w' hp _ _ hown _; obtain ⟨b, h1, h2, h3, h4⟩ := hp; exact ⟨b, h1, h2, h3, (hown b h2 h3).trans h4⟩) | (intro f lo hi v l h w w' hp _ _ _ hown; obtain ⟨b, h1, h2, h3, h4⟩ := hp; exact ⟨b, h1, h2, h3, (hown 33 (by simp) b h2 h3).trans h4⟩)
  intro f lo hi W1 hbr hf; (try simp (decide := true) only [go_sem] at hf)
  obtain ⟨⟨-, b1, h1, h2, h3, k4⟩, -, h5⟩ := hf
  replace HBW : Below w.heap.size w W1 := HBW.trans (hbr.mono HBW.size)
  replace k1 := k1.below hbr k1.lt
  replace k2 := k2.below hbr k2.lt
  replace k3 := k3.below hbr k3.lt
  clear hbr h2 h3
  go_simp
  go_wp2
  apply wp_region_tab 185 [some 77, some 78, some 79, some 80, some 81, some 82, some 83, some 84, some 85, some 86, some 87, some 88, some 89, some 90, some 91, some 92, some 93, some 94, some 95, some 96, some 97, some 98, some 99, some 100, some 101, some 102, some 103, some 104, some 105, some 106, some 76, some 107, some 108, some 19, none, some 20] [⟨[], [], none⟩, ⟨[0], [0], none⟩, ⟨[0, 1], [1], none⟩, ⟨[], [], none⟩, ⟨[0, 1, 3], [3], none⟩, ⟨[0, 1, 3, 4], [4], none⟩, ⟨[], [], none⟩, ⟨[0, 1, 3, 4, 6], [6], none⟩, ⟨[0, 1, 3, 4, 6, 7], [7], none⟩, ⟨[], [], none⟩, ⟨[0, 1, 3, 4, 6, 7, 9], [9], none⟩, ⟨[], [], none⟩, ⟨[], [], none⟩, ⟨[0, 1, 3, 4, 6, 7, 9, 10, 12], [12], none⟩, ⟨[0, 1, 3, 4, 6, 7, 9, 10, 11, 12, 13], [11, 13], none⟩, ⟨[0, 1, 3, 4, 6, 7, 9, 10, 11, 12, 13, 14], [11, 14], none⟩, ⟨[0, 1, 3, 4, 6, 7, 9, 10, 11, 12, 13, 14, 15], [10, 15], none⟩, ⟨[], [], none⟩, ⟨[0, 1, 3, 4, 6, 7, 9, 10, 12, 13, 17], [17], none⟩, ⟨[0, 1, 3, 4, 6, 7, 9, 10, 12, 13, 17, 18], [18], none⟩, ⟨[], [], none⟩, ⟨[0, 1, 3, 4, 6, 7, 9, 10, 12, 13, 17, 18, 20], [20], none⟩, ⟨[0, 1, 3, 4, 6, 7, 9, 10, 12, 13, 17, 18, 20, 21], [21], none⟩, ⟨[0, 1, 3, 4, 6, 7, 9, 10, 12, 13, 17, 18, 19, 20, 21, 22], [19, 22], none⟩, ⟨[], [], none⟩, ⟨[24], [24], none⟩, ⟨[0, 1, 3, 4, 6, 7, 9, 10, 12, 13, 17, 18, 20, 21, 24, 25], [25], none⟩, ⟨[0, 1, 3, 4, 6, 7, 9, 10, 12, 13, 17, 18, 19, 20, 21, 22, 23, 24, 25, 26], [23, 26], none⟩, ⟨[0, 1, 3, 4, 6, 7, 9, 10, 12, 13, 17, 18, 19, 20, 21, 22, 23, 24, 25, 26, 27], [23, 27], none⟩, ⟨[0, 1, 2, 3, 4, 5, 6, 7, 8, 9, 10, 11, 12, 13, 14, 15, 16, 17, 18, 19, 20, 21, 22, 23, 24, 25, 26, 27, 28], [2, 5, 8, 16, 28], none⟩, ⟨[0, 1, 2, 3, 4, 5, 6, 7, 8, 9, 10, 11, 12, 13, 14, 15, 16, 17, 18, 19, 20, 21, 22, 23, 24, 25, 26, 27, 28, 29], [29], none⟩, ⟨[0, 1, 2, 3, 4, 5, 6, 7, 8, 9, 10, 11, 12, 13, 14, 15, 16, 17, 18, 19, 20, 21, 22, 23, 24, 25, 26, 27, 28, 29, 30], [30], none⟩, ⟨[0, 1, 2, 3, 4, 5, 6, 7, 8, 9, 10, 11, 12, 13, 14, 15, 16, 17, 18, 19, 20, 21, 22, 23, 24, 25, 26, 27, 28, 29, 30], [30], none⟩, ⟨[], [], none⟩, ⟨[0, 1, 2, 3, 4, 5, 6, 7, 8, 9, 10, 11, 12, 13, 14, 15, 16, 17, 18, 19, 20, 21, 22, 23, 24, 25, 26, 27, 28, 29, 30, 31, 33], [31, 33], some 33⟩, ⟨[0, 1, 2, 3, 4, 5, 6, 7, 8, 9, 10, 11, 12, 13, 14, 15, 16, 17, 18, 19, 20, 21, 22, 23, 24, 25, 26, 27, 28, 29, 30, 31, 32, 33, 34], [32], none⟩] [0, 1, 2, 3, 4, 5, 6, 7, 8, 9, 10, 11, 12, 13, 14, 15, 16, 17, 18, 19, 20, 21, 22, 23, 24, 25, 26, 27, 28, 29, 30, 31, 32, 33, 34, 35] [34, 35] [psiVal _, psiVal _, psiVal _, psiVal _, psiVal _, psiVal _, psiVal _, psiVal _, psiVal _, psiVal _, psiVal _, (fun f lo hi v l h w => ∃ b, v = .slice (some ⟨b, 0, none⟩) 3 3 ∧ l ≤ b ∧ b < h ∧ Blk w b 3 #[.int .i64 0, .int .i64 0, .int .i64 596]), psiVal _, psiVal _, (fun f lo hi v l h w => ∃ b, f 11 = .slice (some ⟨b, 0, none⟩) 3 3 ∧ v = .pointer (some ⟨b, rn.toNat, none⟩)), psiVal _, psiVal _, psiVal _, psiVal _, psiVal _, psiVal _, psiVal _, psiVal _, (fun f lo hi v l h w => ∃ b, v = .slice (some ⟨b, 0, none⟩) 2 2 ∧ l ≤ b ∧ b < h ∧ Blk w b 3 #[.int .i64 (r20 - 1), .int .i64 (1073741823 + rn)]), psiVal _, psiVal _, psiVal _, (fun f lo hi v l h w => ∃ b, f 23 = .slice (some ⟨b, 0, none⟩) 2 2 ∧ v = .pointer (some ⟨b, rq.toNat, none⟩)), psiVal _, psiVal _, psiVal _, psiVal _, psiVal _, (fun f lo hi v l h w => ∃ b, v = .pointer (some ⟨b, 0, none⟩) ∧ l ≤ b ∧ b < h ∧ Blk w b 24 #[.int .i64 0, .int .i64 0, .int .i64 0, .int .i64 0, .int .i64 0]), (fun f lo hi v l h w => ∃ b, f 33 = .pointer (some ⟨b, 0, none⟩) ∧ lo 33 ≤ b ∧ b < hi 33 ∧ Blk w b 24 #[.int .i64 u1, .int .i64 u2, .int .i64 u3, .int .i64 u4, .int .i64 u5]), psiVal _]
  · kernel_rfl
  · kernel_rfl
  · rfl
  refine ⟨?oR2_0, ?oR2_1, ?oR2_2, ?oR2_3, ?oR2_4, ?oR2_5, ?oR2_6, ?oR2_7, ?oR2_8, ?oR2_9, ?oR2_10, ?oR2_11, ?oR2_12, ?oR2_13, ?oR2_14, ?oR2_15, ?oR2_16, ?oR2_17, ?oR2_18, ?oR2_19, ?oR2_20, ?oR2_21, ?oR2_22, ?oR2_23, ?oR2_24, ?oR2_25, ?oR2_26, ?oR2_27, ?oR2_28, ?oR2_29, ?oR2_30, ?oR2_31, ?oR2_32, ?oR2_33, ?oR2_34, ?oR2_35, trivial⟩
  case oR2_0 => intro f lo hi w hb hf R hR; (try simp (decide := true) only [go_sem] at hf); go_simp; exact hR _ _ (rpost_val rfl rfl (Below.refl _ _) rfl)
  case oR2_1 => intro f lo hi w hb hf R hR; (try simp (decide := true) only [go_sem] at hf); go_simp; (with_reducible refine (mk_ModE Ej.out _ (by omega) (by omega)).mono ?_); rintro e w' ⟨rfl, rfl⟩; exact ⟨_, rfl, hR _ _ (rpost_val rfl rfl (Below.refl _ _) rfl)⟩
  case oR2_2 => intro f lo hi w hb hf R hR; (try simp (decide := true) only [go_sem] at hf); go_simp; exact hR _ _ (rpost_val rfl rfl (Below.refl _ _) rfl)
  case oR2_3 => intro f lo hi w hb hf R hR; (try simp (decide := true) only [go_sem] at hf); go_simp; exact hR _ _ (rpost_val rfl rfl (Below.refl _ _) rfl)
  case oR2_4 => intro f lo hi w hb hf R hR; (try simp (decide := true) only [go_sem] at hf); go_simp; (with_reducible refine (mk_ModE Ep.out _ (by omega) (by omega)).mono ?_); rintro e w' ⟨rfl, rfl⟩; exact ⟨_, rfl, hR _ _ (rpost_val rfl rfl (Below.refl _ _) rfl)⟩
  case oR2_5 => intro f lo hi w hb hf R hR; (try simp (decide := true) only [go_sem] at hf); go_simp; exact hR _ _ (rpost_val rfl rfl (Below.refl _ _) rfl)
  case oR2_6 => intro f lo hi w hb hf R hR; (try simp (decide := true) only [go_sem] at hf); go_simp; exact hR _ _ (rpost_val rfl rfl (Below.refl _ _) rfl)
  case oR2_7 => intro f lo hi w hb hf R hR; (try simp (decide := true) only [go_sem] at hf); go_simp; (with_reducible refine (mk_ModE Ef.out _ (by omega) (by omega)).mono ?_); rintro e w' ⟨rfl, rfl⟩; exact ⟨_, rfl, hR _ _ (rpost_val rfl rfl (Below.refl _ _) rfl)⟩
  case oR2_8 => intro f lo hi w hb hf R hR; (try simp (decide := true) only [go_sem] at hf); go_simp; exact hR _ _ (rpost_val rfl rfl (Below.refl _ _) rfl)
  case oR2_9 => intro f lo hi w hb hf R hR; (try simp (decide := true) only [go_sem] at hf); go_simp; exact hR _ _ (rpost_val rfl rfl (Below.refl _ _) rfl)
  case oR2_10 => intro f lo hi w hb hf R hR; (try simp (decide := true) only [go_sem] at hf); go_simp; (with_reducible refine (mk_ModE Et.out _ (by omega) (by omega)).mono ?_); rintro e w' ⟨rfl, rfl⟩; exact ⟨_, rfl, hR _ _ (rpost_val rfl rfl (Below.refl _ _) rfl)⟩
  case oR2_11 =>
    intro f lo hi w hb hf R hR; (try simp (decide := true) only [go_sem] at hf)
    go_simp
    refine hR _ _ (rpost_none rfl (by repeat (first | (with_reducible refine Below.setCell ?_ ?_ _) | (with_reducible refine Below.alloc ?_ ?_ _) | (with_reducible refine Below.drew ?_) | (with_reducible refine below_drewN ?_ _) | (with_reducible exact Below.refl _ _) | (focus (simp; done)) | (focus (simp; omega)) | (focus omega))) ?_)
    (try simp (decide := true) only [go_sem])
    exact ⟨_, rfl, Nat.le_refl _, by simp, Blk.new _ _ _⟩
  case oR2_12 => intro f lo hi w hb hf R hR; (try simp (decide := true) only [go_sem] at hf); go_simp; exact hR _ _ (rpost_val rfl rfl (Below.refl _ _) rfl)
  case oR2_13 => intro f lo hi w hb hf R hR; (try simp (decide := true) only [go_sem] at hf); go_simp; (with_reducible refine (mk_ModE En.out _ (by omega) (by omega)).mono ?_); rintro e w' ⟨rfl, rfl⟩; exact ⟨_, rfl, hR _ _ (rpost_val rfl rfl (Below.refl _ _) rfl)⟩
  case oR2_14 =>
    intro f lo hi w hb hf R hR; (try simp (decide := true) only [go_sem] at hf)
    obtain ⟨⟨_, b, h1, h2, h3, h4⟩, _, h5⟩ := hf
    go_simp
    refine hR _ _ (rpost_none rfl (Below.refl _ _) ?_)
    (try simp (decide := true) only [go_sem])
    exact ⟨b, h1, by simp⟩
  case oR2_15 =>
    intro f lo hi w hb hf R hR; (try simp (decide := true) only [go_sem] at hf)
    obtain ⟨⟨_, b, h1, h2, h3, h4⟩, _, b', h5, h6⟩ := hf
    rw [h1] at h5
    obtain rfl : b = b' := by simpa using h5
    clear h5
    have hc : w.cell? ⟨b, rn.toNat, none⟩ = some (.int .i64 y) := (h4.cell _).trans HY.out
    go_simp
    exact hR _ _ (rpost_val rfl rfl (Below.refl _ _) rfl)
  case oR2_16 => intro f lo hi w hb hf R hR; (try simp (decide := true) only [go_sem] at hf); go_simp; exact hR _ _ (rpost_val rfl rfl (Below.refl _ _) rfl)
  case oR2_17 => intro f lo hi w hb hf R hR; (try simp (decide := true) only [go_sem] at hf); go_simp; exact hR _ _ (rpost_val rfl rfl (Below.refl _ _) rfl)
  case oR2_18 => intro f lo hi w hb hf R hR; (try simp (decide := true) only [go_sem] at hf); go_simp; (with_reducible refine (mk_ModE E20.out _ (by omega) (by omega)).mono ?_); rintro e w' ⟨rfl, rfl⟩; exact ⟨_, rfl, hR _ _ (rpost_val rfl rfl (Below.refl _ _) rfl)⟩
  case oR2_19 => intro f lo hi w hb hf R hR; (try simp (decide := true) only [go_sem] at hf); go_simp; exact hR _ _ (rpost_val rfl rfl (Below.refl _ _) rfl)
  case oR2_20 => intro f lo hi w hb hf R hR; (try simp (decide := true) only [go_sem] at hf); go_simp; exact hR _ _ (rpost_val rfl rfl (Below.refl _ _) rfl)
  case oR2_21 => intro f lo hi w hb hf R hR; (try simp (decide := true) only [go_sem] at hf); go_simp; (with_reducible refine (mk_ModE En.out _ (by omega) (by omega)).mono ?_); rintro e w' ⟨rfl, rfl⟩; exact ⟨_, rfl, hR _ _ (rpost_val rfl rfl (Below.refl _ _) rfl)⟩
  case oR2_22 => intro f lo hi w hb hf R hR; (try simp (decide := true) only [go_sem] at hf); go_simp; exact hR _ _ (rpost_val rfl rfl (Below.refl _ _) rfl)
  case oR2_23 =>
    intro f lo hi w hb hf R hR; (try simp (decide := true) only [go_sem] at hf)
    go_simp
    refine hR _ _ (rpost_none rfl (by repeat (first | (with_reducible refine Below.setCell ?_ ?_ _) | (with_reducible refine Below.alloc ?_ ?_ _) | (with_reducible refine Below.drew ?_) | (with_reducible refine below_drewN ?_ _) | (with_reducible exact Below.refl _ _) | (focus (simp; done)) | (focus (simp; omega)) | (focus omega))) ?_)
    (try simp (decide := true) only [go_sem])
    exact ⟨_, rfl, Nat.le_refl _, by simp, Blk.new _ _ _⟩
  case oR2_24 => intro f lo hi w hb hf R hR; (try simp (decide := true) only [go_sem] at hf); go_simp; exact hR _ _ (rpost_val rfl rfl (Below.refl _ _) rfl)
  case oR2_25 => intro f lo hi w hb hf R hR; (try simp (decide := true) only [go_sem] at hf); go_simp; exact hR _ _ (rpost_val rfl rfl (Below.refl _ _) rfl)
  case oR2_26 => intro f lo hi w hb hf R hR; (try simp (decide := true) only [go_sem] at hf); go_simp; (with_reducible refine (mk_ModE Eq'.out _ (by omega) (by omega)).mono ?_); rintro e w' ⟨rfl, rfl⟩; exact ⟨_, rfl, hR _ _ (rpost_val rfl rfl (Below.refl _ _) rfl)⟩
  case oR2_27 =>
    intro f lo hi w hb hf R hR; (try simp (decide := true) only [go_sem] at hf)
    obtain ⟨⟨_, b, h1, h2, h3, h4⟩, _, h5⟩ := hf
    go_simp
    refine hR _ _ (rpost_none rfl (Below.refl _ _) ?_)
    (try simp (decide := true) only [go_sem])
    exact ⟨b, h1, by simp⟩
  case oR2_28 =>
    intro f lo hi w hb hf R hR; (try simp (decide := true) only [go_sem] at hf)
    obtain ⟨⟨_, b, h1, h2, h3, h4⟩, _, b', h5, h6⟩ := hf
    rw [h1] at h5
    obtain rfl : b = b' := by simpa using h5
    clear h5
    have hc : w.cell? ⟨b, rq.toNat, none⟩ = some (.int .i64 z) := (h4.cell _).trans HZ.out
    go_simp
    exact hR _ _ (rpost_val rfl rfl (Below.refl _ _) rfl)
  case oR2_29 =>
    intro f lo hi w hb hf R hR; (try simp (decide := true) only [go_sem] at hf)
    go_simp
    (with_reducible refine (ref18_MakeX _ HU.out).mono ?_)
    rintro e w' ⟨rfl, hb'⟩
    exact ⟨_, rfl, hR _ _ (rpost_val rfl rfl hb' rfl)⟩
  case oR2_30 => intro f lo hi w hb hf R hR; (try simp (decide := true) only [go_sem] at hf); go_simp; exact hR _ _ (rpost_val rfl rfl (Below.refl _ _) rfl)
  case oR2_31 => intro f lo hi w hb hf R hR; (try simp (decide := true) only [go_sem] at hf); go_simp; exact hR _ _ (rpost_val rfl rfl (Below.refl _ _) rfl)
  case oR2_32 => intro f lo hi w hb hf R hR; (try simp (decide := true) only [go_sem] at hf); go_simp; exact hR _ _ (rpost_val rfl rfl (Below.refl _ _) rfl)
  case oR2_33 =>
    intro f lo hi w hb hf R hR; (try simp (decide := true) only [go_sem] at hf)
    go_simp
    refine hR _ _ (rpost_none rfl (by repeat (first | (with_reducible refine Below.setCell ?_ ?_ _) | (with_reducible refine Below.alloc ?_ ?_ _) | (with_reducible refine Below.drew ?_) | (with_reducible refine below_drewN ?_ _) | (with_reducible exact Below.refl _ _) | (focus (simp; done)) | (focus (simp; omega)) | (focus omega))) ?_)
    (try simp (decide := true) only [go_sem])
    exact ⟨_, rfl, Nat.le_refl _, by simp, Blk.new _ _ _⟩
  case oR2_34 =>
    intro f lo hi w hb hf R hR; (try simp (decide := true) only [go_sem] at hf)
    obtain ⟨h5, _, b, h1, h2, h3, h4⟩ := hf
    obtain ⟨c0, c1, c2, c3, c4, fz, hl⟩ := h4.five
    go_simp
    refine hR _ _ (rpost_some rfl ((((((Touch.set _ h2 h3 _ _).trans (Touch.set _ h2 h3 _ _)).trans (Touch.set _ h2 h3 _ _)).trans (Touch.set _ h2 h3 _ _)).trans (Touch.set _ h2 h3 _ _))) ?_)
    (try simp (decide := true) only [go_sem])
    exact ⟨b, h1, h2, h3, h4.set5 _ _ _ _ _⟩
  case oR2_35 => intro f lo hi w hb hf R hR; (try simp (decide := true) only [go_sem] at hf); go_simp; exact hR _ _ (rpost_val rfl rfl (Below.refl _ _) rfl)
  case hcl =>
    refine ⟨Closed.val _ _ _, Closed.val _ _ _, Closed.val _ _ _, Closed.val _ _ _, Closed.val _ _ _, Closed.val _ _ _, Closed.val _ _ _, Closed.val _ _ _, Closed.val _ _ _, Closed.val _ _ _, Closed.val _ _ _, ?cR2_11, Closed.val _ _ _, Closed.val _ _ _, ?cR2_14, Closed.val _ _ _, Closed.val _ _ _, Closed.val _ _ _, Closed.val _ _ _, Closed.val _ _ _, Closed.val _ _ _, Closed.val _ _ _, Closed.val _ _ _, ?cR2_23, Closed.val _ _ _, Closed.val _ _ _, Closed.val _ _ _, ?cR2_27, Closed.val _ _ _, Closed.val _ _ _, Closed.val _ _ _, Closed.val _ _ _, Closed.val _ _ _, ?cR2_33, ?cR2_34, Closed.val _ _ _, trivial⟩
    all_goals first
      | exact fun _ _ _ _ _ _ _ _ h _ _ _ _ => h | (intro f lo hi v l h w w' hp _ _ hown _; obtain ⟨b, h1, h2, h3, h4⟩ := hp; exact ⟨b, h1, h2, h3, (hown b h2 h3).trans h4⟩) | (intro f lo hi v l h w w' hp _ _ _ hown; obtain ⟨b, h1, h2, h3, h4⟩ := hp; exact ⟨b, h1, h2, h3, (hown 33 (by simp) b h2 h3).trans h4⟩)
  intro f lo hi W2 hbr hf; (try simp (decide := true) only [go_sem] at hf)
  obtain ⟨⟨-, b2, h1, h2, h3, k5⟩, -, h5⟩ := hf
  replace HBW : Below w.heap.size w W2 := HBW.trans (hbr.mono HBW.size)
  replace k1 := k1.below hbr k1.lt
  replace k2 := k2.below hbr k2.lt
  replace k3 := k3.below hbr k3.lt
  replace k4 := k4.below hbr k4.lt
  clear hbr h2 h3
  go_simp
  clear e1 e2 e3 e4 e5 e6
  obtain ⟨c20, c21, c22, c23, c24, -, l2⟩ := k2.five
  obtain ⟨c30, c31, c32, c33, c34, -, l3⟩ := k3.five
  obtain ⟨c40, c41, c42, c43, c44, -, l4⟩ := k4.five
  obtain ⟨c50, c51, c52, c53, c54, -, l5⟩ := k5.five
  go_wp2
  clear c20 c21 c22 c23 c24 c30 c31 c32 c33 c34 c40 c41 c42 c43 c44 c50 c51 c52 c53 c54 k2 k3 k4 HX HY HZ HU Ej Ep Ef Et En E20 Eq'
  obtain ⟨v1, E1, v1a, v1b⟩ := modName rj 5 (by omega)
  obtain ⟨v2, E2, v2a, v2b⟩ := modName rp 9 (by omega)
  obtain ⟨v3, E3, v3a, v3b⟩ := modName rf 30 (by omega)
  obtain ⟨v4, E4, v4a, v4b⟩ := modName rt 30 (by omega)
  obtain ⟨v5, E5, v5a, v5b⟩ := modName rs 12 (by omega)
  have e1 : IntKind.i64.wrap (v5 - 2) = v5 - 2 := by rw [IntKind.wrap_i64]; omega
  apply wp_region_tab 185 [some 127, some 128, some 129, some 130, some 131, some 132, some 133, some 134, some 135, some 136, some 137, some 138, some 139, some 140, some 141, some 142, some 143, some 144, some 145, some 146, some 147, some 148] [⟨[], [], none⟩, ⟨[], [], none⟩, ⟨[], [], none⟩, ⟨[2], [2], none⟩, ⟨[2, 3], [3], none⟩, ⟨[], [], none⟩, ⟨[5], [5], none⟩, ⟨[2, 3, 4, 5, 6], [6], none⟩, ⟨[], [], none⟩, ⟨[8], [8], none⟩, ⟨[2, 3, 4, 5, 6, 7, 8, 9], [9], none⟩, ⟨[], [], none⟩, ⟨[11], [11], none⟩, ⟨[2, 3, 4, 5, 6, 7, 8, 9, 10, 11, 12], [12], none⟩, ⟨[], [], none⟩, ⟨[14], [14], none⟩, ⟨[2, 3, 4, 5, 6, 7, 8, 9, 10, 11, 12, 13, 14, 15], [15], none⟩, ⟨[2, 3, 4, 5, 6, 7, 8, 9, 10, 11, 12, 13, 14, 15, 16], [16], none⟩, ⟨[2, 3, 4, 5, 6, 7, 8, 9, 10, 11, 12, 13, 14, 15, 16, 17], [4, 7, 10, 13, 17], none⟩, ⟨[0, 1, 2, 3, 4, 5, 6, 7, 8, 9, 10, 11, 12, 13, 14, 15, 16, 17, 18], [0, 1, 18], none⟩, ⟨[0, 1, 2, 3, 4, 5, 6, 7, 8, 9, 10, 11, 12, 13, 14, 15, 16, 17, 18, 19], [19], none⟩, ⟨[], [], none⟩] [0, 1, 2, 3, 4, 5, 6, 7, 8, 9, 10, 11, 12, 13, 14, 15, 16, 17, 18, 19, 20, 21] [19, 20, 21] [psiVal _, psiVal _, psiVal _, psiVal _, psiVal _, psiVal _, psiVal _, psiVal _, psiVal _, psiVal _, psiVal _, psiVal _, psiVal _, psiVal _, psiVal _, psiVal _, psiVal _, psiVal _, psiVal _, (fun f lo hi v l h w => ∃ b, v = .slice (some ⟨b, 0, none⟩) 3 3 ∧ l ≤ b ∧ b < h ∧ Blk w b 24 #[.int .i64 rj, .int .i64 rp, .int .i64 rf, .int .i64 rt, .int .i64 rs, .int .i64 u1, .int .i64 u2, .int .i64 u3, .int .i64 u4, .int .i64 u5, .int .i64 v1, .int .i64 v2, .int .i64 v3, .int .i64 v4, .int .i64 (v5 - 2)]), psiVal _, psiVal _]
  · kernel_rfl
  · kernel_rfl
  · rfl
  refine ⟨?oR3_0, ?oR3_1, ?oR3_2, ?oR3_3, ?oR3_4, ?oR3_5, ?oR3_6, ?oR3_7, ?oR3_8, ?oR3_9, ?oR3_10, ?oR3_11, ?oR3_12, ?oR3_13, ?oR3_14, ?oR3_15, ?oR3_16, ?oR3_17, ?oR3_18, ?oR3_19, ?oR3_20, ?oR3_21, trivial⟩
  case oR3_0 => intro f lo hi w hb hf R hR; (try simp (decide := true) only [go_sem] at hf); obtain ⟨c0, c1, c2, c3, c4, -, hl⟩ := (Blk.below k1 hb (Blk.lt k1)).five; go_simp; exact hR _ _ (rpost_val rfl rfl (Below.refl _ _) rfl)
  case oR3_1 => intro f lo hi w hb hf R hR; (try simp (decide := true) only [go_sem] at hf); obtain ⟨c0, c1, c2, c3, c4, -, hl⟩ := (Blk.below k5 hb (Blk.lt k5)).five; go_simp; exact hR _ _ (rpost_val rfl rfl (Below.refl _ _) rfl)
  case oR3_2 => intro f lo hi w hb hf R hR; (try simp (decide := true) only [go_sem] at hf); go_simp; exact hR _ _ (rpost_val rfl rfl (Below.refl _ _) rfl)
  case oR3_3 => intro f lo hi w hb hf R hR; (try simp (decide := true) only [go_sem] at hf); obtain ⟨c0, c1, c2, c3, c4, -, hl⟩ := (Blk.below k1 hb (Blk.lt k1)).five; go_simp; exact hR _ _ (rpost_val rfl rfl (Below.refl _ _) rfl)
  case oR3_4 => intro f lo hi w hb hf R hR; (try simp (decide := true) only [go_sem] at hf); go_simp; (with_reducible refine (mk_ModE E1.out _ (by omega) (by omega)).mono ?_); rintro e w' ⟨rfl, rfl⟩; exact ⟨_, rfl, hR _ _ (rpost_val rfl rfl (Below.refl _ _) rfl)⟩
  case oR3_5 => intro f lo hi w hb hf R hR; (try simp (decide := true) only [go_sem] at hf); go_simp; exact hR _ _ (rpost_val rfl rfl (Below.refl _ _) rfl)
  case oR3_6 => intro f lo hi w hb hf R hR; (try simp (decide := true) only [go_sem] at hf); obtain ⟨c0, c1, c2, c3, c4, -, hl⟩ := (Blk.below k1 hb (Blk.lt k1)).five; go_simp; exact hR _ _ (rpost_val rfl rfl (Below.refl _ _) rfl)
  case oR3_7 => intro f lo hi w hb hf R hR; (try simp (decide := true) only [go_sem] at hf); go_simp; (with_reducible refine (mk_ModE E2.out _ (by omega) (by omega)).mono ?_); rintro e w' ⟨rfl, rfl⟩; exact ⟨_, rfl, hR _ _ (rpost_val rfl rfl (Below.refl _ _) rfl)⟩
  case oR3_8 => intro f lo hi w hb hf R hR; (try simp (decide := true) only [go_sem] at hf); go_simp; exact hR _ _ (rpost_val rfl rfl (Below.refl _ _) rfl)
  case oR3_9 => intro f lo hi w hb hf R hR; (try simp (decide := true) only [go_sem] at hf); obtain ⟨c0, c1, c2, c3, c4, -, hl⟩ := (Blk.below k1 hb (Blk.lt k1)).five; go_simp; exact hR _ _ (rpost_val rfl rfl (Below.refl _ _) rfl)
  case oR3_10 => intro f lo hi w hb hf R hR; (try simp (decide := true) only [go_sem] at hf); go_simp; (with_reducible refine (mk_ModE E3.out _ (by omega) (by omega)).mono ?_); rintro e w' ⟨rfl, rfl⟩; exact ⟨_, rfl, hR _ _ (rpost_val rfl rfl (Below.refl _ _) rfl)⟩
  case oR3_11 => intro f lo hi w hb hf R hR; (try simp (decide := true) only [go_sem] at hf); go_simp; exact hR _ _ (rpost_val rfl rfl (Below.refl _ _) rfl)
  case oR3_12 => intro f lo hi w hb hf R hR; (try simp (decide := true) only [go_sem] at hf); obtain ⟨c0, c1, c2, c3, c4, -, hl⟩ := (Blk.below k1 hb (Blk.lt k1)).five; go_simp; exact hR _ _ (rpost_val rfl rfl (Below.refl _ _) rfl)
  case oR3_13 => intro f lo hi w hb hf R hR; (try simp (decide := true) only [go_sem] at hf); go_simp; (with_reducible refine (mk_ModE E4.out _ (by omega) (by omega)).mono ?_); rintro e w' ⟨rfl, rfl⟩; exact ⟨_, rfl, hR _ _ (rpost_val rfl rfl (Below.refl _ _) rfl)⟩
  case oR3_14 => intro f lo hi w hb hf R hR; (try simp (decide := true) only [go_sem] at hf); go_simp; exact hR _ _ (rpost_val rfl rfl (Below.refl _ _) rfl)
  case oR3_15 => intro f lo hi w hb hf R hR; (try simp (decide := true) only [go_sem] at hf); obtain ⟨c0, c1, c2, c3, c4, -, hl⟩ := (Blk.below k1 hb (Blk.lt k1)).five; go_simp; exact hR _ _ (rpost_val rfl rfl (Below.refl _ _) rfl)
  case oR3_16 => intro f lo hi w hb hf R hR; (try simp (decide := true) only [go_sem] at hf); go_simp; (with_reducible refine (mk_ModE E5.out _ (by omega) (by omega)).mono ?_); rintro e w' ⟨rfl, rfl⟩; exact ⟨_, rfl, hR _ _ (rpost_val rfl rfl (Below.refl _ _) rfl)⟩
  case oR3_17 => intro f lo hi w hb hf R hR; (try simp (decide := true) only [go_sem] at hf); go_simp; exact hR _ _ (rpost_val rfl rfl (Below.refl _ _) rfl)
  case oR3_18 => intro f lo hi w hb hf R hR; (try simp (decide := true) only [go_sem] at hf); go_simp; exact hR _ _ (rpost_val rfl rfl (Below.refl _ _) rfl)
  case oR3_19 =>
    intro f lo hi w hb hf R hR; (try simp (decide := true) only [go_sem] at hf)
    go_simp
    refine hR _ _ (rpost_none rfl (by repeat (first | (with_reducible refine Below.setCell ?_ ?_ _) | (with_reducible refine Below.alloc ?_ ?_ _) | (with_reducible refine Below.drew ?_) | (with_reducible refine below_drewN ?_ _) | (with_reducible exact Below.refl _ _) | (focus (simp; done)) | (focus (simp; omega)) | (focus omega))) ?_)
    (try simp (decide := true) only [go_sem])
    exact ⟨_, rfl, Nat.le_refl _, by simp, Blk.new _ _ _⟩
  case oR3_20 =>
    intro f lo hi w hb hf R hR; (try simp (decide := true) only [go_sem] at hf)
    obtain ⟨-, b, h1, -⟩ := hf
    go_simp
    exact hR _ _ (rpost_val rfl rfl (Below.refl _ _) rfl)
  case oR3_21 => intro f lo hi w hb hf R hR; (try simp (decide := true) only [go_sem] at hf); go_simp; exact hR _ _ (rpost_val rfl rfl (Below.refl _ _) rfl)
  case hcl =>
    refine ⟨Closed.val _ _ _, Closed.val _ _ _, Closed.val _ _ _, Closed.val _ _ _, Closed.val _ _ _, Closed.val _ _ _, Closed.val _ _ _, Closed.val _ _ _, Closed.val _ _ _, Closed.val _ _ _, Closed.val _ _ _, Closed.val _ _ _, Closed.val _ _ _, Closed.val _ _ _, Closed.val _ _ _, Closed.val _ _ _, Closed.val _ _ _, Closed.val _ _ _, Closed.val _ _ _, ?cR3_19, Closed.val _ _ _, Closed.val _ _ _, trivial⟩
    intro f lo hi v l h w w' hp _ _ hown _; obtain ⟨b, h1, h2, h3, h4⟩ := hp; exact ⟨b, h1, h2, h3, (hown b h2 h3).trans h4⟩
  intro f lo hi W3 hbr hf; (try simp (decide := true) only [go_sem] at hf)
  obtain ⟨⟨-, b7, h1, h2, h3, k7⟩, ⟨-, h4⟩, -, h5⟩ := hf
  replace HBW : Below w.heap.size w W3 := HBW.trans (hbr.mono HBW.size)
  go_simp
  clear hbr h1 h2 h3 h4 h5 k1 k5 e1 E1 E2 E3 E4 E5
  go_wp2
  go_loopw [148] (fun i wr => ∃ k : Nat, k ≤ 3 ∧ i = .int .i64 k ∧ Below w.heap.size w wr ∧ b7 < wr.heap.size ∧ ∀ j, j < 15 → ∃ x, wr.cell? ⟨b7, j, none⟩ = some (.int .i64 x)) (fun i _ => 3 - (intOf i).toNat)
  case atStart => exact ⟨0, by omega, rfl, HBW, k7.lt, fun j hj => by
    rw [k7.cell]
    match j, hj with
    | 0, _ | 1, _ | 2, _ | 3, _ | 4, _ | 5, _ | 6, _ | 7, _ | 8, _ | 9, _ | 10, _ | 11, _ | 12, _ | 13, _ | 14, _ => exact ⟨_, rfl⟩⟩
  case round =>
    clear k7 HBW
    obtain ⟨k, hk, rfl, hbel, hsz, hc⟩ := hrel
    obtain ⟨wo, rfl⟩ : ∃ wo : World, wo = wr := ⟨_, rfl⟩
    by_cases hlt : k < 3
    · obtain ⟨y1, hy1⟩ := hc (k * 5) (by omega)
      obtain ⟨y2, hy2⟩ := hc (k * 5 + 1) (by omega)
      obtain ⟨y3, hy3⟩ := hc (k * 5 + 2) (by omega)
      obtain ⟨y4, hy4⟩ := hc (k * 5 + 3) (by omega)
      obtain ⟨y5, hy5⟩ := hc (k * 5 + 4) (by omega)
      have HC := Lib.hid hc
      clear hc
      go_wp2
      obtain ⟨g, hg⟩ : ∃ g, wo.heap.size = g := ⟨_, rfl⟩
      refine wp_named (fun W4 => Below wo.heap.size wo W4 ∧ g < W4.heap.size ∧ Blk W4 g 24 #[.int .i64 y1, .int .i64 y2, .int .i64 y3, .int .i64 y4, .int .i64 y5]) ⟨(by repeat (first | (with_reducible refine Below.setCell ?_ ?_ _) | (with_reducible refine Below.alloc ?_ ?_ _) | (with_reducible refine Below.drew ?_) | (with_reducible refine below_drewN ?_ _) | (with_reducible exact Below.refl _ _) | (focus (simp; done)) | (focus (simp; omega)) | (focus omega))), by simp; omega, by rw [← hg]; exact Blk.new _ _ _⟩ ?_
      rintro W4 ⟨HB4, l4, kg⟩
      clear hy1 hy2 hy3 hy4 hy5
      rw [hg] at HB4
      simp only [hg]
      obtain ⟨n1, En, n1a, n1b⟩ := modName now 30 (by omega)
      have kc : ∀ d os, (grow (redrawn W4 d) os).cell? ⟨g, 0, none⟩ = some (.int .i64 y1) ∧ (grow (redrawn W4 d) os).cell? ⟨g, 1, none⟩ = some (.int .i64 y2) ∧ (grow (redrawn W4 d) os).cell? ⟨g, 2, none⟩ = some (.int .i64 y3) ∧ (grow (redrawn W4 d) os).cell? ⟨g, 3, none⟩ = some (.int .i64 y4) ∧ (grow (redrawn W4 d) os).cell? ⟨g, 4, none⟩ = some (.int .i64 y5) := fun d os => by
        obtain ⟨a, b, c, d, e, -, -⟩ := (kg.below (below_regrown W4 d os) l4).five
        exact ⟨a, b, c, d, e⟩
      (refine wp_region_quiet_below (by kernel_rfl) (by kernel_rfl) ?_; (repeat (go_big_quiet_step (first | (go_at_call 11; exact qb (window_Valid _ _ _ _ _ _)) | (go_at_call 12; exact qb (ref18_Valid _ _ _ _ _ _))))); refine wpQuiet_nil ?_; intro wq hwq; have hbq := below_of_regrown hwq; clear hwq)
      clear kc
      go_wp2_with (first | (go_at_call 5; (with_reducible refine (mk_ModE En.out _ (by omega) (by omega)).mono ?_); rintro e w' ⟨rfl, rfl⟩))
      have hz5 := hbq.size
      have hz4 := HB4.size
      go_loopw [162] (fun i wr => ∃ m : Nat, m ≤ 2 ∧ i = .int .i64 m ∧ Below g wo wr ∧ Blk wr g 24 #[.int .i64 y1, .int .i64 y2, .int .i64 y3, .int .i64 y4, .int .i64 y5] ∧ wq.heap.size < wr.heap.size ∧ Blk wr wq.heap.size 3 #[.int .i64 now, .int .i64 n1]) (fun i _ => 2 - (intOf i).toNat)
      case atStart => exact ⟨0, by omega, rfl, (HB4.trans (hbq.mono (by omega))).alloc (by omega) _, (kg.below hbq l4).alloc _, by simp, Blk.new _ _ _⟩
      case round =>
        clear kg
        obtain ⟨m, hm, rfl, hbx, kx, hszx, kn⟩ := hrel
        have lx := kx.lt
        by_cases hlm : m < 2
        · obtain ⟨q, hq⟩ : ∃ q : Int, wr.cell? ⟨wq.heap.size, m, none⟩ = some (.int .i64 q) := by
            rw [kn.cell]
            match m, hlm with
            | 0, _ | 1, _ => exact ⟨_, rfl⟩
          have kc : ∀ d os, (grow (redrawn wr d) os).cell? ⟨g, 0, none⟩ = some (.int .i64 y1) ∧ (grow (redrawn wr d) os).cell? ⟨g, 1, none⟩ = some (.int .i64 y2) ∧ (grow (redrawn wr d) os).cell? ⟨g, 2, none⟩ = some (.int .i64 y3) ∧ (grow (redrawn wr d) os).cell? ⟨g, 3, none⟩ = some (.int .i64 y4) ∧ (grow (redrawn wr d) os).cell? ⟨g, 4, none⟩ = some (.int .i64 y5) := fun d os => by
            obtain ⟨a, b, c, d, e, -, -⟩ := (kx.below (below_regrown wr d os) lx).five
            exact ⟨a, b, c, d, e⟩
          go_wp2
          (refine wp_region_quiet_below (by kernel_rfl) (by kernel_rfl) ?_; (repeat (go_big_quiet_step (first | (go_at_call 8; exact qb (window_Live _ _ _ _ _ _ _)) | (go_at_call 13; exact qb (ref18_Live _ _ _ _ _ _ _)) | (go_at_call 7; exact qb (window_Mark _ _ _ _ _ _ _)) | (go_at_call 14; exact qb (ref18_Mark _ _ _ _ _ _ _))))); refine wpQuiet_nil ?_; intro wq hwq; have hbq := below_of_regrown hwq; clear hwq)
          clear kc
          go_wp2
          go_roundw
          case rel => exact ⟨m + 1, by omega, by go_num, hbx.trans (hbq.mono (by have := hbx.size; omega)), kx.below hbq lx, by have := hbq.size; omega, kn.below hbq hszx⟩
          case measure => simp [intOf]; omega
        · go_wp2
          go_roundw
          case rel =>
            have hbo : RowKit.Below wo.heap.size wo wr := by rw [hg]; exact hbx
            have e := hbx.size
            exact ⟨k + 1, by omega, by go_num, hbel.trans (hbo.mono hbel.size), by omega, fun j hj => by
              obtain ⟨x, hx⟩ := HC.out j hj
              exact ⟨x, by rw [← hx]; exact hbo.cell (p := ⟨b7, j, none⟩) hsz⟩⟩
          case measure => simp [intOf]; omega
    · go_wp2_with (first | (go_at_call 9; (with_reducible refine (awake_yes _).mono ?_); rintro e w2 ⟨rfl, hb2⟩))
      go_ret
      exact ⟨rfl, hbel.trans (hb2.mono hbel.size)⟩
end Go.Proofs.Ytgnfnbbdicnijaa
