/- the reference's Parse -/
import Derived.Test.YtlfccoakodnbaaaParse
import Derived.Test.YtlfccoakodnbaaaApr
namespace Go.Proofs.Ytlfccoakodnbaaa
set_option linter.unusedVariables false
open Go.RowKit Go.Sort
set_option maxRecDepth 20000

theorem take4_drop {l : List UInt8} {i : Nat} (h : i + 4 ≤ l.length) : (l.drop i).take 4 = [l.getD i 0, l.getD (i + 1) 0, l.getD (i + 2) 0, l.getD (i + 3) 0] := by
  rw [List.drop_eq_getElem_cons (by omega), List.drop_eq_getElem_cons (by omega), List.drop_eq_getElem_cons (by omega), List.drop_eq_getElem_cons (by omega)]
  simp only [List.take_succ_cons, List.take_zero, List.getD_eq_getElem?_getD, List.getElem?_eq_getElem (show i < l.length by omega), List.getElem?_eq_getElem (show i + 1 < l.length by omega), List.getElem?_eq_getElem (show i + 2 < l.length by omega), List.getElem?_eq_getElem (show i + 3 < l.length by omega)]
  rfl
theorem be32_four (a b c d : UInt8) : be32 [a, b, c, d] = (a.toNat : Int) * 16777216 + (b.toNat : Int) * 65536 + (c.toNat : Int) * 256 + (d.toNat : Int) := by
  simp only [be32, List.foldl_cons, List.foldl_nil]; omega
theorem u32_or24 {a b : Int} (h0 : 0 ≤ a) (h1 : a < 256) (h2 : 0 ≤ b) (h3 : b < 256) : bits .or .u32 (a * 16777216) (b * 65536) = a * 16777216 + b * 65536 := by
  obtain ⟨m, rfl⟩ := Int.eq_ofNat_of_zero_le h0
  obtain ⟨n, rfl⟩ := Int.eq_ofNat_of_zero_le h2
  have := u32_or (m * 16777216) (n * 65536) (by omega) (by omega)
  rw [or_low (k := 24) (by omega)] at this
  simpa using this
theorem u32_or16 {x c : Int} (h0 : 0 ≤ x) (h1 : x < 65536) (h2 : 0 ≤ c) (h3 : c < 256) : bits .or .u32 (x * 65536) (c * 256) = x * 65536 + c * 256 := by
  obtain ⟨m, rfl⟩ := Int.eq_ofNat_of_zero_le h0
  obtain ⟨n, rfl⟩ := Int.eq_ofNat_of_zero_le h2
  have := u32_or (m * 65536) (n * 256) (by omega) (by omega)
  rw [or_low (k := 16) (by omega)] at this
  simpa using this
theorem u32_or8 {x c : Int} (h0 : 0 ≤ x) (h1 : x < 16777216) (h2 : 0 ≤ c) (h3 : c < 256) : bits .or .u32 (x * 256) c = x * 256 + c := u32_shor h0 h1 h2 h3
theorem four_or {a b c d : Int} (ha : 0 ≤ a ∧ a < 256) (hb : 0 ≤ b ∧ b < 256) (hc : 0 ≤ c ∧ c < 256) (hd : 0 ≤ d ∧ d < 256) :
    ∃ A B : Int, bits .or .u32 (a * 16777216) (b * 65536) = A ∧ bits .or .u32 A (c * 256) = B ∧ bits .or .u32 B d = a * 16777216 + b * 65536 + c * 256 + d := by
  refine ⟨a * 16777216 + b * 65536, a * 16777216 + b * 65536 + c * 256, u32_or24 ha.1 ha.2 hb.1 hb.2, ?_, ?_⟩
  · have := u32_or16 (x := a * 256 + b) (c := c) (by omega) (by omega) hc.1 hc.2
    rw [show a * 16777216 + b * 65536 = (a * 256 + b) * 65536 by omega]; exact this
  · have := u32_or8 (x := a * 65536 + b * 256 + c) (c := d) (by omega) (by omega) hd.1 hd.2
    rw [show a * 16777216 + b * 65536 + c * 256 = (a * 65536 + b * 256 + c) * 256 by omega]; exact this

set_option maxHeartbeats 2000000 in
theorem ref03_Parse (a : Option Addr) (l : List UInt8) (c : Nat) (w : World) (hb : Byt w a l) (hl : l.length ≤ 9223372036854775807) (hc : l.length ≤ c) :
    Calls Try.prog 41 #[.slice a l.length c] w (PRet (fParse l) w) := by
  by_cases c0 : l.length = 0
  · have HP := Lib.hid (fp_more0 c0)
    have z1 : ((l.length : Int) == 0) = true := by rw [beq_iff_eq]; omega
    clear c0
    go_enter Try.func41, Try.ntmps41
    go_wp2
    exact bodyPost_ret (v := .tuple #[.agg #[.int .i64 0, .int .i64 0, .slice none 0 0], .int .i64 0, .bool false]) (by simp [results, Try.results41, go_sem]) rfl (PRet.more HP.out (by repeat (first | (with_reducible refine Below.setCell ?_ ?_ _) | (with_reducible refine Below.alloc ?_ ?_ _) | (with_reducible refine Below.drew ?_) | (with_reducible refine below_drewN ?_ _) | (with_reducible exact Below.refl _ _) | (focus (simp; done)) | (focus (simp; omega)) | (focus omega))))
  have z1 : ((l.length : Int) == 0) = false := by rw [beq_eq_false_iff_ne]; omega
  have p0 : 0 < l.length := by omega
  rcases hb.open with rfl | ⟨b, off, rfl, hbl, hcell⟩
  · simp at c0
  obtain ⟨x0, hx0⟩ : ∃ x : Int, (at_ l 0 : Int) = x := ⟨_, rfl⟩
  obtain ⟨x1, hx1⟩ : ∃ x : Int, (at_ l 1 : Int) = x := ⟨_, rfl⟩
  have k0 := at_cell hcell 0 (by omega) hx0
  rw [Nat.add_zero] at k0
  have k1 : 1 < l.length → w.cell? ⟨b, off + 1, none⟩ = some (.int .u8 x1) := fun h => at_cell hcell 1 h hx1
  have y0 := at_bd l 0
  have y1 := at_bd l 1
  rw [hx0] at y0
  rw [hx1] at y1
  have HC := Lib.hid hcell
  have HX0 := Lib.hid hx0
  have HX1 := Lib.hid hx1
  clear hcell hx0 hx1
  by_cases c1 : x0 ≠ 90
  · have HP := Lib.hid (fp_magic0 c0 (by have := HX0.out; omega))
    have z2 : (x0 == 90) = false := by rw [beq_eq_false_iff_ne]; omega
    have z3 : (x0 != 90) = true := by rw [bne_iff_ne]; omega
    clear c0 c1
    go_enter Try.func41, Try.ntmps41
    go_wp2
    exact bodyPost_ret (v := .tuple #[.agg #[.int .i64 2, .int .i64 0, .slice none 0 0], .int .i64 1, .bool true]) (by simp [results, Try.results41, go_sem]) rfl (PRet.fault HP.out rfl (by repeat (first | (with_reducible refine Below.setCell ?_ ?_ _) | (with_reducible refine Below.alloc ?_ ?_ _) | (with_reducible refine Below.drew ?_) | (with_reducible refine below_drewN ?_ _) | (with_reducible exact Below.refl _ _) | (focus (simp; done)) | (focus (simp; omega)) | (focus omega))))
  obtain rfl : x0 = 90 := by omega
  clear c1
  by_cases c2 : 1 < l.length ∧ x1 ≠ 165
  · obtain ⟨c2, c3⟩ := c2
    have HP := Lib.hid (fp_magic1 c2 (by have := HX0.out; omega) (by have := HX1.out; omega))
    have z2 : (x1 != 165) = true := by rw [bne_iff_ne]; omega
    have k1 := k1 c2
    have q2 : decide (1 < l.length) = true := decide_eq_true c2
    clear c0 c3
    go_enter Try.func41, Try.ntmps41
    go_wp2
    exact bodyPost_ret (v := .tuple #[.agg #[.int .i64 2, .int .i64 0, .slice none 0 0], .int .i64 1, .bool true]) (by simp [results, Try.results41, go_sem]) rfl (PRet.fault HP.out rfl (by repeat (first | (with_reducible refine Below.setCell ?_ ?_ _) | (with_reducible refine Below.alloc ?_ ?_ _) | (with_reducible refine Below.drew ?_) | (with_reducible refine below_drewN ?_ _) | (with_reducible exact Below.refl _ _) | (focus (simp; done)) | (focus (simp; omega)) | (focus omega))))
  by_cases c3 : l.length < 6
  · have HP := Lib.hid (fp_more6 c0 (by have := HX0.out; omega) (fun h => Decidable.by_contra fun q => c2 ⟨h, fun e => q (by have := HX1.out; omega)⟩) c3)
    by_cases c4 : 1 < l.length
    · have z2 : (x1 != 165) = false := by rw [bne_eq_false_iff_eq]; omega
      have k1 := k1 c4
      have q2 : decide (1 < l.length) = true := decide_eq_true c4
      clear c0 c2
      go_enter Try.func41, Try.ntmps41
      go_wp2
      exact bodyPost_ret (v := .tuple #[.agg #[.int .i64 0, .int .i64 0, .slice none 0 0], .int .i64 0, .bool false]) (by simp [results, Try.results41, go_sem]) rfl (PRet.more HP.out (by repeat (first | (with_reducible refine Below.setCell ?_ ?_ _) | (with_reducible refine Below.alloc ?_ ?_ _) | (with_reducible refine Below.drew ?_) | (with_reducible refine below_drewN ?_ _) | (with_reducible exact Below.refl _ _) | (focus (simp; done)) | (focus (simp; omega)) | (focus omega))))
    · have q2 : decide (1 < l.length) = false := decide_eq_false c4
      clear c0 c2 k1
      go_enter Try.func41, Try.ntmps41
      go_wp2
      exact bodyPost_ret (v := .tuple #[.agg #[.int .i64 0, .int .i64 0, .slice none 0 0], .int .i64 0, .bool false]) (by simp [results, Try.results41, go_sem]) rfl (PRet.more HP.out (by repeat (first | (with_reducible refine Below.setCell ?_ ?_ _) | (with_reducible refine Below.alloc ?_ ?_ _) | (with_reducible refine Below.drew ?_) | (with_reducible refine below_drewN ?_ _) | (with_reducible exact Below.refl _ _) | (focus (simp; done)) | (focus (simp; omega)) | (focus omega))))
  obtain rfl : x1 = 165 := Decidable.by_contra fun q => c2 ⟨by omega, q⟩
  have k1 := k1 (by omega)
  have q2 : decide (1 < l.length) = true := decide_eq_true (by omega)
  have q3 : decide (l.length < 6) = false := decide_eq_false c3
  obtain ⟨x4, hx4⟩ : ∃ x : Int, (at_ l 4 : Int) = x := ⟨_, rfl⟩
  obtain ⟨x5, hx5⟩ : ∃ x : Int, (at_ l 5 : Int) = x := ⟨_, rfl⟩
  have k4 := at_cell HC.out 4 (by omega) hx4
  have k5 := at_cell HC.out 5 (by omega) hx5
  have y4 := at_bd l 4
  have y5 := at_bd l 5
  rw [hx4] at y4
  rw [hx5] at y5
  have i4 : (4 : Int) < (l.length : Int) := by omega
  have i5 : (5 : Int) < (l.length : Int) := by omega
  obtain ⟨N, hN⟩ : ∃ N, fLen l = N := ⟨_, rfl⟩
  have hor : bits .or .i64 (x4 * 256) x5 = (N : Int) := by
    rw [i64_shor y4.1 y4.2 y5.1 y5.2, ← hN, ← hx4, ← hx5]; unfold fLen; omega
  have HN := Lib.hid hN
  have H0 := Lib.hid (show at_ l 0 = 90 by have := HX0.out; omega)
  have H1 := Lib.hid (show at_ l 1 = 165 by have := HX1.out; omega)
  clear hN hx4 hx5 c0 c2
  by_cases c5 : 200 < N
  · have HP := Lib.hid (fp_long (by omega) H0.out H1.out (by rw [HN.out]; exact c5))
    go_enter Try.func41, Try.ntmps41
    go_wp2
    go_quiet (fail)
    go_wp2
    exact bodyPost_ret (v := .tuple #[.agg #[.int .i64 7, .int .i64 0, .slice none 0 0], .int .i64 1, .bool true]) (by simp [results, Try.results41, go_sem]) rfl (PRet.fault HP.out rfl (by repeat (first | (with_reducible refine Below.setCell ?_ ?_ _) | (with_reducible refine Below.alloc ?_ ?_ _) | (with_reducible refine Below.drew ?_) | (with_reducible refine below_drewN ?_ _) | (with_reducible exact Below.refl _ _) | (focus (simp; done)) | (focus (simp; omega)) | (focus omega))))
  by_cases c6 : l.length < N + 10
  · have HP := Lib.hid (fp_moreN (by omega) H0.out H1.out (by rw [HN.out]; omega) (by rw [HN.out]; exact c6))
    go_enter Try.func41, Try.ntmps41
    go_wp2
    go_quiet (fail)
    go_wp2_with (fail)
    exact bodyPost_ret (v := .tuple #[.agg #[.int .i64 0, .int .i64 0, .slice none 0 0], .int .i64 0, .bool false]) (by simp [results, Try.results41, go_sem]) rfl (PRet.more HP.out (by repeat (first | (with_reducible refine Below.setCell ?_ ?_ _) | (with_reducible refine Below.alloc ?_ ?_ _) | (with_reducible refine Below.drew ?_) | (with_reducible refine below_drewN ?_ _) | (with_reducible exact Below.refl _ _) | (focus (simp; done)) | (focus (simp; omega)) | (focus omega))))
  have c5' : N ≤ 200 := by omega
  have c6' : N + 10 ≤ l.length := by omega
  clear c5 c6
  obtain ⟨y6, hy6⟩ : ∃ x : Int, (at_ l (N + 6) : Int) = x := ⟨_, rfl⟩
  obtain ⟨y7, hy7⟩ : ∃ x : Int, (at_ l (N + 7) : Int) = x := ⟨_, rfl⟩
  obtain ⟨y8, hy8⟩ : ∃ x : Int, (at_ l (N + 8) : Int) = x := ⟨_, rfl⟩
  obtain ⟨y9, hy9⟩ : ∃ x : Int, (at_ l (N + 9) : Int) = x := ⟨_, rfl⟩
  have k6 := at_cell HC.out (N + 6) (by omega) hy6
  have k7 := at_cell HC.out (N + 7) (by omega) hy7
  have k8 := at_cell HC.out (N + 8) (by omega) hy8
  have k9 := at_cell HC.out (N + 9) (by omega) hy9
  have b6 := at_bd l (N + 6)
  have b7 := at_bd l (N + 7)
  have b8 := at_bd l (N + 8)
  have b9 := at_bd l (N + 9)
  rw [hy6] at b6
  rw [hy7] at b7
  rw [hy8] at b8
  rw [hy9] at b9
  obtain ⟨A, B, o1, o2, o3⟩ := four_or b6 b7 b8 b9
  obtain ⟨s1, hs1⟩ : ∃ s, crcUpd 0 ((l.drop 2).take (N + 4)) = s := ⟨_, rfl⟩
  obtain ⟨s2, hs2⟩ : ∃ s, y6 * 16777216 + y7 * 65536 + y8 * 256 + y9 = s := ⟨_, rfl⟩
  rw [hs2] at o3
  have hS : fSum l ↔ s1 = s2 := by
    unfold fSum
    rw [HN.out, hs1, take4_drop (by omega), be32_four]
    have : ((l.getD (N + 6) 0).toNat : Int) * 16777216 + ((l.getD (N + 6 + 1) 0).toNat : Int) * 65536 + ((l.getD (N + 6 + 2) 0).toNat : Int) * 256 + ((l.getD (N + 6 + 3) 0).toNat : Int) = s2 := by
      rw [← hs2, ← hy6, ← hy7, ← hy8, ← hy9]; rfl
    rw [this]
  have L1 : ((l.drop 2).take (N + 4)).length = N + 4 := by rw [List.length_take, List.length_drop]; omega
  have b1 : Byt w (some ⟨b, off + 2, none⟩) ((l.drop 2).take (N + 4)) := (hb.drop 2).take _
  have S1 := Lib.hid hs1
  have HL1 := Lib.hid L1
  clear hs1 hs2 L1 hy6 hy7 hy8 hy9
  have e1 : IntKind.i64.wrap ((N : Int) + 6) = (N : Int) + 6 := by rw [IntKind.wrap_i64]; omega
  have e2 : IntKind.i64.wrap ((N : Int) + 7) = (N : Int) + 7 := by rw [IntKind.wrap_i64]; omega
  have e3 : IntKind.i64.wrap ((N : Int) + 8) = (N : Int) + 8 := by rw [IntKind.wrap_i64]; omega
  have e4 : IntKind.i64.wrap ((N : Int) + 9) = (N : Int) + 9 := by rw [IntKind.wrap_i64]; omega
  have f1 : ((N : Int) + 6).toNat = N + 6 := by omega
  have f2 : ((N : Int) + 7).toNat = N + 7 := by omega
  have f3 : ((N : Int) + 8).toNat = N + 8 := by omega
  have f4 : ((N : Int) + 9).toNat = N + 9 := by omega
  have g1 : (0 : Int) ≤ (N : Int) + 6 := by omega
  have g2 : (0 : Int) ≤ (N : Int) + 7 := by omega
  have g3 : (0 : Int) ≤ (N : Int) + 8 := by omega
  have g4 : (0 : Int) ≤ (N : Int) + 9 := by omega
  have h1 : (N : Int) + 6 < (l.length : Int) := by omega
  have h2 : (N : Int) + 7 < (l.length : Int) := by omega
  have h3 : (N : Int) + 8 < (l.length : Int) := by omega
  have h4 : (N : Int) + 9 < (l.length : Int) := by omega
  have qf := decide_eq_false c3
  by_cases c7 : s2 ≠ s1
  · have HP := Lib.hid (fp_sum H0.out H1.out (by rw [HN.out]; omega) (by rw [HN.out]; omega) (fun q => c7 (hS.1 q).symm))
    have z3 : (s2 != s1) = true := by rw [bne_iff_ne]; exact c7
    clear hS c7
    go_enter Try.func41, Try.ntmps41
    go_wp2
    go_quiet (fail)
    go_wp2
    go_quiet (fail)
    clear e1 e2 e3 e4 f1 f2 f3 f4 g1 g2 g3 g4 h1 h2 h3 h4
    go_wp2_with (first | (go_at_call 37; (with_reducible refine (crc_ref _ _ _ _ S1 _ (b1.below (by repeat (first | (with_reducible refine Below.setCell ?_ ?_ _) | (with_reducible refine Below.alloc ?_ ?_ _) | (with_reducible refine Below.drew ?_) | (with_reducible refine below_drewN ?_ _) | (with_reducible exact Below.refl _ _) | (focus (simp; done)) | (focus (simp; omega)) | (focus omega))) (Nat.le_refl _)) (by have := HL1.out; omega) (by have := HL1.out; omega)).mono ?_); rintro e w' ⟨rfl, rfl⟩))
    exact bodyPost_ret (v := .tuple #[.agg #[.int .i64 4, .int .i64 0, .slice none 0 0], .int .i64 1, .bool true]) (by simp [results, Try.results41, go_sem]) rfl (PRet.fault HP.out rfl (by repeat (first | (with_reducible refine Below.setCell ?_ ?_ _) | (with_reducible refine Below.alloc ?_ ?_ _) | (with_reducible refine Below.drew ?_) | (with_reducible refine below_drewN ?_ _) | (with_reducible exact Below.refl _ _) | (focus (simp; done)) | (focus (simp; omega)) | (focus omega))))
  have hS' := hS.2 (Decidable.of_not_not c7).symm
  have z3 : (s2 != s1) = false := by rw [bne_eq_false_iff_eq]; exact Decidable.of_not_not c7
  have HS := Lib.hid hS'
  clear hS hS' c7
  obtain ⟨x2, hx2⟩ : ∃ x : Int, (at_ l 2 : Int) = x := ⟨_, rfl⟩
  obtain ⟨x3, hx3⟩ : ∃ x : Int, (at_ l 3 : Int) = x := ⟨_, rfl⟩
  have k2 := at_cell HC.out 2 (by omega) hx2
  have k3 := at_cell HC.out 3 (by omega) hx3
  have y2 := at_bd l 2
  have y3 := at_bd l 3
  rw [hx2] at y2
  rw [hx3] at y3
  have HX2 := Lib.hid hx2
  have HX3 := Lib.hid hx3
  clear hx2 hx3
  by_cases c8 : x2 ≠ 1
  · have HP := Lib.hid (show fParse l = .fault 3 (N + 10) by rw [← HN.out]; exact fp_ver H0.out H1.out (by rw [HN.out]; omega) (by rw [HN.out]; omega) HS.out (by have := HX2.out; omega))
    have z4 : (x2 != 1) = true := by rw [bne_iff_ne]; exact c8
    clear c8
    go_enter Try.func41, Try.ntmps41
    go_wp2
    go_quiet (fail)
    go_wp2
    go_quiet (fail)
    clear e1 e2 e3 e4 f1 f2 f3 f4 g1 g2 g3 g4 h1 h2 h3 h4
    go_wp2_with (first | (go_at_call 37; (with_reducible refine (crc_ref _ _ _ _ S1 _ (b1.below (by repeat (first | (with_reducible refine Below.setCell ?_ ?_ _) | (with_reducible refine Below.alloc ?_ ?_ _) | (with_reducible refine Below.drew ?_) | (with_reducible refine below_drewN ?_ _) | (with_reducible exact Below.refl _ _) | (focus (simp; done)) | (focus (simp; omega)) | (focus omega))) (Nat.le_refl _)) (by have := HL1.out; omega) (by have := HL1.out; omega)).mono ?_); rintro e w' ⟨rfl, rfl⟩))
    exact bodyPost_ret (v := .tuple #[.agg #[.int .i64 3, .int .i64 0, .slice none 0 0], .int .i64 ((N + 10 : Nat) : Int), .bool true]) (by simp [results, Try.results41, go_sem]) rfl (PRet.fault HP.out rfl (by repeat (first | (with_reducible refine Below.setCell ?_ ?_ _) | (with_reducible refine Below.alloc ?_ ?_ _) | (with_reducible refine Below.drew ?_) | (with_reducible refine below_drewN ?_ _) | (with_reducible exact Below.refl _ _) | (focus (simp; done)) | (focus (simp; omega)) | (focus omega))))
  have z4 : (x2 != 1) = false := by rw [bne_eq_false_iff_eq]; exact Decidable.of_not_not c8
  have H2 := Lib.hid (show at_ l 2 = 1 by have := HX2.out; have := Decidable.of_not_not c8; omega)
  clear c8
  by_cases c9 : x3 < 1 ∨ 22 < x3
  · have HP := Lib.hid (show fParse l = .fault 5 (N + 10) by rw [← HN.out]; exact fp_kind H0.out H1.out (by rw [HN.out]; omega) (by rw [HN.out]; omega) HS.out H2.out (by have := HX3.out; omega))
    rcases c9 with c9 | c9
    all_goals
      go_enter Try.func41, Try.ntmps41
      go_wp2
      go_quiet (fail)
      go_wp2
      go_quiet (fail)
      clear e1 e2 e3 e4 f1 f2 f3 f4 g1 g2 g3 g4 h1 h2 h3 h4
      go_wp2_with (first | (go_at_call 37; (with_reducible refine (crc_ref _ _ _ _ S1 _ (b1.below (by repeat (first | (with_reducible refine Below.setCell ?_ ?_ _) | (with_reducible refine Below.alloc ?_ ?_ _) | (with_reducible refine Below.drew ?_) | (with_reducible refine below_drewN ?_ _) | (with_reducible exact Below.refl _ _) | (focus (simp; done)) | (focus (simp; omega)) | (focus omega))) (Nat.le_refl _)) (by have := HL1.out; omega) (by have := HL1.out; omega)).mono ?_); rintro e w' ⟨rfl, rfl⟩))
      exact bodyPost_ret (v := .tuple #[.agg #[.int .i64 5, .int .i64 0, .slice none 0 0], .int .i64 ((N + 10 : Nat) : Int), .bool true]) (by simp [results, Try.results41, go_sem]) rfl (PRet.fault HP.out rfl (by repeat (first | (with_reducible refine Below.setCell ?_ ?_ _) | (with_reducible refine Below.alloc ?_ ?_ _) | (with_reducible refine Below.drew ?_) | (with_reducible refine below_drewN ?_ _) | (with_reducible exact Below.refl _ _) | (focus (simp; done)) | (focus (simp; omega)) | (focus omega))))
  obtain ⟨c9, c10⟩ : 1 ≤ x3 ∧ x3 ≤ 22 := by omega
  have L3 : ((l.drop 6).take N).length = N := by rw [List.length_take, List.length_drop]; omega
  have b3 : Byt w (some ⟨b, off + 6, none⟩) ((l.drop 6).take N) := (hb.drop 6).take _
  obtain ⟨p, hp⟩ : ∃ p, (l.drop 6).take N = p := ⟨_, rfl⟩
  rw [hp] at L3 b3
  have HP := Lib.hid (show fParse l = ⟨0, x3, p, N + 10, true⟩ by rw [← hp, ← HX3.out, ← HN.out]; exact fp_item H0.out H1.out (by rw [HN.out]; omega) (by rw [HN.out]; omega) HS.out H2.out (by have := HX3.out; omega))
  have HL3 := Lib.hid L3
  clear L3 hp
  go_enter Try.func41, Try.ntmps41
  go_wp2
  go_quiet (fail)
  go_wp2
  go_quiet (fail)
  clear e1 e2 e3 e4 f1 f2 f3 f4 g1 g2 g3 g4 h1 h2 h3 h4
  go_wp2_with (first | (go_at_call 37; (with_reducible refine (crc_ref _ _ _ _ S1 _ (b1.below (by repeat (first | (with_reducible refine Below.setCell ?_ ?_ _) | (with_reducible refine Below.alloc ?_ ?_ _) | (with_reducible refine Below.drew ?_) | (with_reducible refine below_drewN ?_ _) | (with_reducible exact Below.refl _ _) | (focus (simp; done)) | (focus (simp; omega)) | (focus omega))) (Nat.le_refl _)) (by have := HL1.out; omega) (by have := HL1.out; omega)).mono ?_); rintro e w' ⟨rfl, rfl⟩))
  obtain ⟨r, hr⟩ : ∃ r, w.heap.size = r := ⟨_, rfl⟩
  refine wp_named (fun W => Below r w W ∧ Blk W r 49 #[.int .i64 0, .int .i64 0, .slice none 0 0]) (by rw [← hr]; refine ⟨(by repeat (first | (with_reducible refine Below.setCell ?_ ?_ _) | (with_reducible refine Below.alloc ?_ ?_ _) | (with_reducible refine Below.drew ?_) | (with_reducible refine below_drewN ?_ _) | (with_reducible exact Below.refl _ _) | (focus (simp; done)) | (focus (simp; omega)) | (focus omega))), ?_⟩; have h := Blk.new w 49 #[.int .i64 0, .int .i64 0, .slice none 0 0]; exact h) ?_
  rintro W ⟨beW, kr⟩
  simp only [hr]
  have hbr : b < r := by omega
  have bW := b3.below beW (Nat.le_of_eq hr)
  have k3 : W.cell? ⟨b, off + 3, none⟩ = some (.int .u8 x3) := (beW.cell (p := ⟨b, off + 3, none⟩) hbr).trans k3
  have HR := Lib.hid hr
  clear hr k0 k1 k2 k4 k5 k6 k7 k8 k9 o1 o2 o3 hor b1 b3 hb
  have e1 : IntKind.i64.wrap ((N : Int) + 6) = (N : Int) + 6 := by rw [IntKind.wrap_i64]; omega
  have e2 : IntKind.i64.wrap ((N : Int) + 10) = (N : Int) + 10 := by rw [IntKind.wrap_i64]; omega
  have e3 : ((N : Int) + 6).toNat = N + 6 := by omega
  have e4 : (0 : Int) ≤ (N : Int) + 6 := by omega
  have e5 : (N : Int) + 6 ≤ (c : Int) := by omega
  have e6 : (6 : Int) ≤ (N : Int) + 6 := by omega
  have i3 : (3 : Int) < (l.length : Int) := by omega
  have e7 : IntKind.i64.wrap x3 = x3 := by rw [IntKind.wrap_i64]; omega
  have rW := kr.lt
  apply wp_region_tab [(r, (r+1))] 15 128 [some 116, some 117, some 118, some 119, some 120, some 121, some 122, some 123, some 124, some 125, some 126, some 127, none, some 3, some 4] [⟨[15], [], [], []⟩, ⟨[0, 15], [0], [0], []⟩, ⟨[0, 1, 15], [1], [1], []⟩, ⟨[0, 1, 2, 15], [2], [2], []⟩, ⟨[15], [], [], []⟩, ⟨[15], [], [], []⟩, ⟨[5, 15], [5], [5], []⟩, ⟨[4, 5, 6, 15], [4, 6], [4, 6], []⟩, ⟨[4, 5, 6, 7, 15], [7], [7], []⟩, ⟨[0, 1, 2, 3, 4, 5, 6, 7, 8, 15], [3, 8], [3, 8], []⟩, ⟨[15], [], [], []⟩, ⟨[10, 15], [10], [10], []⟩, ⟨[0, 1, 2, 3, 4, 5, 6, 7, 8, 9, 15], [8, 9, 15], [8, 9, 15], [15]⟩, ⟨[0, 1, 2, 3, 4, 5, 6, 7, 8, 9, 10, 11, 12, 15], [11], [11], []⟩, ⟨[0, 1, 2, 3, 4, 5, 6, 7, 8, 9, 10, 11, 12, 13, 15], [], [], []⟩, ⟨[], [], [], []⟩] [0, 1, 2, 3, 4, 5, 6, 7, 8, 9, 10, 11, 12, 13, 14] [8, 12] [psiTrue, psiTrue, psiTrue, psiTrue, psiTrue, psiTrue, psiTrue, psiTrue, (fun f lo hi v b0 b1 W => ∃ a c, v = .slice a N c ∧ Own W b0 5 1 a N c (p.map encB) ∧ ∀ x, a.map (·.block) = some x → x < b1), (fun f lo hi v b0 b1 W => v = .agg #[.int .i64 0, .int .i64 x3, f 8]), psiTrue, psiTrue, (fun f lo hi v b0 b1 W => Blk W r 49 #[.int .i64 0, .int .i64 x3, f 8]), psiTrue, psiTrue, (fun f lo hi v b0 b1 W => (b0 = r ∧ b1 = (r+1)) ∧ Blk W r 49 #[.int .i64 0, .int .i64 0, .slice none 0 0])] [kVal _, kVal _, kVal _, kVal _, kVal _, kVal _, kVal _, kVal _, kTrue, kTrue, kVal _, kVal _, kTrue, kVal _, kVal _]
  · kernel_rfl
  · kernel_rfl
  · rfl
  · rfl
  rotate_left 2
  refine ⟨?oR1_0, ?oR1_1, ?oR1_2, ?oR1_3, ?oR1_4, ?oR1_5, ?oR1_6, ?oR1_7, ?oR1_8, ?oR1_9, ?oR1_10, ?oR1_11, ?oR1_12, ?oR1_13, ?oR1_14, trivial⟩
  case hx => exact ⟨⟨by omega, by have := kr.lt; omega⟩, by simp, trivial⟩
  case hX => exact ⟨fun _ _ _ _ => ⟨⟨rfl, rfl⟩, kr⟩, trivial⟩
  case oR1_0 => intro f lo hi w hb hx hf hk hrg R hR; (try replace hb := BelX.zero hb); (try simp (decide := true) only [go_sem] at hf); (try simp (decide := true) only [go_sem] at hk); go_simp; exact hR _ _ (rpost_val rfl rfl (Below.refl _ _) rfl)
  case oR1_1 => intro f lo hi w hb hx hf hk hrg R hR; (try replace hb := BelX.zero hb); (try simp (decide := true) only [go_sem] at hf); (try simp (decide := true) only [go_sem] at hk); go_simp; exact hR _ _ (rpost_val rfl rfl (Below.refl _ _) rfl)
  case oR1_2 =>
    intro f lo hi w hb hx hf hk hrg R hR; (try replace hb := BelX.zero hb); (try simp (decide := true) only [go_sem] at hf); (try simp (decide := true) only [go_sem] at hk)
    have k3 := (hb.2.2.2.2 b ⟨by omega, fun q hq => by simp at hq; subst hq; simp only; omega⟩)
    have k3 : w.cell? ⟨b, off + 3, none⟩ = some (.int .u8 x3) := by rw [World.cell?_of_block k3]; assumption
    go_simp
    exact hR _ _ (rpost_val rfl rfl (Below.refl _ _) rfl)
  case oR1_3 => intro f lo hi w hb hx hf hk hrg R hR; (try replace hb := BelX.zero hb); (try simp (decide := true) only [go_sem] at hf); (try simp (decide := true) only [go_sem] at hk); go_simp; exact hR _ _ (rpost_val rfl rfl (Below.refl _ _) rfl)
  case oR1_4 => intro f lo hi w hb hx hf hk hrg R hR; (try replace hb := BelX.zero hb); (try simp (decide := true) only [go_sem] at hf); (try simp (decide := true) only [go_sem] at hk); go_simp; exact hR _ _ (rpost_val rfl rfl (Below.refl _ _) rfl)
  case oR1_5 => intro f lo hi w hb hx hf hk hrg R hR; (try replace hb := BelX.zero hb); (try simp (decide := true) only [go_sem] at hf); (try simp (decide := true) only [go_sem] at hk); go_simp; exact hR _ _ (rpost_val rfl rfl (Below.refl _ _) rfl)
  case oR1_6 => intro f lo hi w hb hx hf hk hrg R hR; (try replace hb := BelX.zero hb); (try simp (decide := true) only [go_sem] at hf); (try simp (decide := true) only [go_sem] at hk); go_simp; exact hR _ _ (rpost_val rfl rfl (Below.refl _ _) rfl)
  case oR1_7 => intro f lo hi w hb hx hf hk hrg R hR; (try replace hb := BelX.zero hb); (try simp (decide := true) only [go_sem] at hf); (try simp (decide := true) only [go_sem] at hk); go_simp; exact hR _ _ (rpost_val rfl rfl (Below.refl _ _) rfl)
  case oR1_8 =>
    intro f lo hi w hb hx hf hk hrg R hR; (try replace hb := BelX.zero hb); (try simp (decide := true) only [go_sem] at hf); (try simp (decide := true) only [go_sem] at hk)
    have hbw := hb.row bW (fun x hx q hq => by simp at hx hq; subst hx hq; simp only; omega)
    refine obl_appB w.heap.size none 0 0 [] rfl (some ⟨b, off + 6, none⟩) N (c - 6) p ?_ (Own.nil _ _ _ _) hbw HL3.out.symm N (by omega) (by omega) (Nat.le_refl _) ?_
    · go_simp
      omega
    intro b2 c2 w2 own2 g2 bl2
    refine hR _ _ (rpost_none rfl g2.below0 ?_)
    (try simp (decide := true) only [go_sem])
    exact ⟨_, _, rfl, own2, own2.lt'⟩
  case oR1_9 =>
    intro f lo hi w hb hx hf hk hrg R hR; (try replace hb := BelX.zero hb); (try simp (decide := true) only [go_sem] at hf); (try simp (decide := true) only [go_sem] at hk)
    obtain ⟨a8, c8, h8, -, -⟩ := hf
    go_simp
    refine hR _ _ (rpost_none rfl (Below.refl _ _) ?_)
    (try simp (decide := true) only [go_sem])
    rw [h8]
  case oR1_10 => intro f lo hi w hb hx hf hk hrg R hR; (try replace hb := BelX.zero hb); (try simp (decide := true) only [go_sem] at hf); (try simp (decide := true) only [go_sem] at hk); go_simp; exact hR _ _ (rpost_val rfl rfl (Below.refl _ _) rfl)
  case oR1_11 => intro f lo hi w hb hx hf hk hrg R hR; (try replace hb := BelX.zero hb); (try simp (decide := true) only [go_sem] at hf); (try simp (decide := true) only [go_sem] at hk); go_simp; exact hR _ _ (rpost_val rfl rfl (Below.refl _ _) rfl)
  case oR1_12 =>
    intro f lo hi w hb hx hf hk hrg R hR; (try replace hb := BelX.zero hb); (try simp (decide := true) only [go_sem] at hf); (try simp (decide := true) only [go_sem] at hk)
    obtain ⟨⟨a8, c8, h8, -, -⟩, h9, -, kb⟩ := hf
    rw [h8] at h9
    have e0 := kb.cell 0
    have e1' := kb.cell 1
    have e2' := kb.cell 2
    have fz := kb.frozen
    go_simp
    refine hR _ _ (rpost_some rfl rfl (Touch.set3 _ (List.mem_singleton.2 rfl) (Nat.le_of_eq (XOk.get _ _ hx 0 _ rfl).1) (by rw [(XOk.get _ _ hx 0 _ rfl).2]; exact Nat.lt_succ_self _) _ _ _) ?_)
    (try simp (decide := true) only [go_sem])
    rw [h8]
    exact kb.set3 _ _ _
  case oR1_13 => intro f lo hi w hb hx hf hk hrg R hR; (try replace hb := BelX.zero hb); (try simp (decide := true) only [go_sem] at hf); (try simp (decide := true) only [go_sem] at hk); go_simp; exact hR _ _ (rpost_val rfl rfl (Below.refl _ _) rfl)
  case oR1_14 => intro f lo hi w hb hx hf hk hrg R hR; (try replace hb := BelX.zero hb); (try simp (decide := true) only [go_sem] at hf); (try simp (decide := true) only [go_sem] at hk); go_simp; exact hR _ _ (rpost_val rfl rfl (Below.refl _ _) rfl)
  case hcl =>
    refine ⟨Closed.true _ _ _ _, Closed.true _ _ _ _, Closed.true _ _ _ _, Closed.true _ _ _ _, Closed.true _ _ _ _, Closed.true _ _ _ _, Closed.true _ _ _ _, Closed.true _ _ _ _, ?cR1_8, ?cR1_9, Closed.true _ _ _ _, Closed.true _ _ _ _, ?cR1_12, Closed.true _ _ _ _, Closed.true _ _ _ _, ?cR1_15, trivial⟩
    · intro f lo hi v l h w w' hp _ _ hown _ _
      obtain ⟨a, c, rfl, own, lt⟩ := hp
      exact ⟨a, c, rfl, own.keep fun b hb hl _ => hown b hl (lt b (by rw [hb]; rfl)), lt⟩
    · exact fun _ _ _ _ _ _ _ _ h _ _ _ _ _ => h
    · exact fun f lo hi v b0 b1 w w' h hs hB hown hU hX => (hX 0 _ rfl (by simp) r (Nat.le_refl _) (Nat.lt_succ_self _)).trans h
    · exact fun f lo hi v b0 b1 w w' h hs hB hown hU hX => ⟨h.1, (hown r (by have := h.1; omega) (by have := h.1; omega)).trans h.2⟩
  intro f lo hi W19 hbr hx hf hk hrg; (try replace hbr := BelX.zero hbr); clear hx; (try simp (decide := true) only [go_sem] at hf); (try simp (decide := true) only [go_sem] at hk)
  obtain ⟨⟨a8, c8, h8, own8, -⟩, k12⟩ := hf
  rw [h8] at k12
  have r0 := k12.cell 0
  have r1 := k12.cell 1
  have r2 := k12.cell 2
  have bel := hbr
  go_simp
  go_wp2
  refine bodyPost_ret (v := .tuple #[.agg #[.int .i64 0, .int .i64 x3, .slice a8 N c8], .int .i64 ((N + 10 : Nat) : Int), .bool true]) (by simp [results, Try.results41, go_sem, r0, r1, r2]) rfl ?_
  rw [HP.out]
  refine ⟨a8, c8, by rw [HL3.out], by show Own _ w.heap.size 5 1 _ p.length c8 (p.map encB); rw [HL3.out]; exact own8.mono (by have := hrg.out 8 (by simp); have := beW.size; omega), ?_⟩
  rw [HR.out]
  exact beW.grown hbr.one (by have := beW.size; omega) (fun k hk => by injection hk with hk; omega)
end Go.Proofs.Ytlfccoakodnbaaa
