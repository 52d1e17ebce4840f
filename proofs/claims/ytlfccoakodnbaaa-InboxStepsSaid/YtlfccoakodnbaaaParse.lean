/- frame.Parse and the reference's -/
import Derived.Test.YtlfccoakodnbaaaFrame
import Derived.Test.YtlfccoakodnbaaaStr
import Derived.Test.YtlfccoakodnbaaaQuiet
import Derived.Outline
namespace Go.Proofs.Ytlfccoakodnbaaa
open Go.RowKit Go.Sort
set_option maxRecDepth 20000

section
variable {l : List UInt8}
theorem fp_more0 (h : l.length = 0) : fParse l = .more := by unfold fParse; rw [if_pos h]
theorem fp_magic0 (h : l.length ≠ 0) (h0 : at_ l 0 ≠ 90) : fParse l = .fault 2 1 := by unfold fParse; rw [if_neg h, if_pos h0]
theorem fp_magic1 (h : 1 < l.length) (h0 : at_ l 0 = 90) (h1 : at_ l 1 ≠ 165) : fParse l = .fault 2 1 := by unfold fParse; rw [if_neg (by omega), if_neg (by omega), if_pos ⟨h, h1⟩]
theorem fp_more6 (h : l.length ≠ 0) (h0 : at_ l 0 = 90) (h1 : 1 < l.length → at_ l 1 = 165) (h6 : l.length < 6) : fParse l = .more := by
  unfold fParse; rw [if_neg (by omega), if_neg (by omega), if_neg (fun q => q.2 (h1 q.1)), if_pos h6]
theorem fp_long (h6 : 6 ≤ l.length) (h0 : at_ l 0 = 90) (h1 : at_ l 1 = 165) (hn : 200 < fLen l) : fParse l = .fault 7 1 := by
  unfold fParse; rw [if_neg (by omega), if_neg (by omega), if_neg (fun q => q.2 h1), if_neg (by omega), if_pos hn]
theorem fp_moreN (h6 : 6 ≤ l.length) (h0 : at_ l 0 = 90) (h1 : at_ l 1 = 165) (hn : fLen l ≤ 200) (hl : l.length < fLen l + 10) : fParse l = .more := by
  unfold fParse; rw [if_neg (by omega), if_neg (by omega), if_neg (fun q => q.2 h1), if_neg (by omega), if_neg (by omega), if_pos hl]
theorem fp_sum (h0 : at_ l 0 = 90) (h1 : at_ l 1 = 165) (hn : fLen l ≤ 200) (hl : fLen l + 10 ≤ l.length) (hs : ¬ fSum l) : fParse l = .fault 4 1 := by
  unfold fParse; rw [if_neg (by omega), if_neg (by omega), if_neg (fun q => q.2 h1), if_neg (by omega), if_neg (by omega), if_neg (by omega), if_pos hs]
theorem fp_ver (h0 : at_ l 0 = 90) (h1 : at_ l 1 = 165) (hn : fLen l ≤ 200) (hl : fLen l + 10 ≤ l.length) (hs : fSum l) (hv : at_ l 2 ≠ 1) : fParse l = .fault 3 (fLen l + 10) := by
  unfold fParse; rw [if_neg (by omega), if_neg (by omega), if_neg (fun q => q.2 h1), if_neg (by omega), if_neg (by omega), if_neg (by omega), if_neg (not_not_intro hs), if_pos hv]
theorem fp_kind (h0 : at_ l 0 = 90) (h1 : at_ l 1 = 165) (hn : fLen l ≤ 200) (hl : fLen l + 10 ≤ l.length) (hs : fSum l) (hv : at_ l 2 = 1) (hk : at_ l 3 < 1 ∨ 22 < at_ l 3) : fParse l = .fault 5 (fLen l + 10) := by
  unfold fParse; rw [if_neg (by omega), if_neg (by omega), if_neg (fun q => q.2 h1), if_neg (by omega), if_neg (by omega), if_neg (by omega), if_neg (not_not_intro hs), if_neg (by omega), if_pos hk]
theorem fp_item (h0 : at_ l 0 = 90) (h1 : at_ l 1 = 165) (hn : fLen l ≤ 200) (hl : fLen l + 10 ≤ l.length) (hs : fSum l) (hv : at_ l 2 = 1) (hk : 1 ≤ at_ l 3 ∧ at_ l 3 ≤ 22) : fParse l = ⟨0, at_ l 3, (l.drop 6).take (fLen l), fLen l + 10, true⟩ := by
  unfold fParse; rw [if_neg (by omega), if_neg (by omega), if_neg (fun q => q.2 h1), if_neg (by omega), if_neg (by omega), if_neg (by omega), if_neg (not_not_intro hs), if_neg (by omega), if_neg (by omega)]
end

/-- what Parse hands back -/
def PRet (r : PR) (w : World) (e : Ending) (w' : World) : Prop := ∃ a c, e = .returned (.tuple #[.agg #[.int .i64 r.code, .int .i64 r.kind, .slice a r.pay.length c], .int .i64 r.size, .bool r.ok]) ∧ Own w' w.heap.size 5 1 a r.pay.length c (r.pay.map encB) ∧ Below w.heap.size w w'
theorem PRet.more {r : PR} {w w' : World} (h : r = .more) (hb : Below w.heap.size w w') : PRet r w (.returned (.tuple #[.agg #[.int .i64 0, .int .i64 0, .slice none 0 0], .int .i64 0, .bool false])) w' := by
  subst h; exact ⟨none, 0, rfl, Own.nil _ _ _ _, hb⟩
theorem PRet.fault {r : PR} {w w' : World} {c n : Int} {m : Nat} (h : r = .fault c m) (hm : n = m) (hb : Below w.heap.size w w') : PRet r w (.returned (.tuple #[.agg #[.int .i64 c, .int .i64 0, .slice none 0 0], .int .i64 n, .bool true])) w' := by
  subst h hm; exact ⟨none, 0, rfl, Own.nil _ _ _ _, hb⟩

theorem at_cell {w : World} {b off : Nat} {l : List UInt8} (h : ∀ i (h : i < l.length), w.cell? ⟨b, off + i, none⟩ = some (.int .u8 (l[i].toNat : Int))) (i : Nat) (hi : i < l.length) {x : Int} (hx : (at_ l i : Int) = x) : w.cell? ⟨b, off + i, none⟩ = some (.int .u8 x) := by
  rw [h i hi, ← hx]
  unfold at_
  rw [List.getD_eq_getElem?_getD, List.getElem?_eq_getElem hi]
  rfl
theorem at_bd (l : List UInt8) (i : Nat) : 0 ≤ (at_ l i : Int) ∧ (at_ l i : Int) < 256 := ⟨by omega, by have := UInt8.toNat_lt (l.getD i 0); unfold at_; omega⟩

theorem be32_snoc (l : List UInt8) (x : UInt8) : be32 (l ++ [x]) = be32 l * 256 + (x.toNat : Int) := by simp [be32, List.foldl_append]
theorem be32_fold (l : List UInt8) : ∀ n : Int, 0 ≤ n → 0 ≤ l.foldl (fun n x => n * 256 + (x.toNat : Int)) n ∧ l.foldl (fun n x => n * 256 + (x.toNat : Int)) n < (n + 1) * 256 ^ l.length := by
  induction l with
  | nil => intro n hn; simp; omega
  | cons x l ih =>
    intro n hn
    have hx := x.toNat_lt
    have := ih (n * 256 + (x.toNat : Int)) (by omega)
    refine ⟨this.1, Int.lt_of_lt_of_le this.2 ?_⟩
    rw [List.length_cons, Int.pow_succ, Int.mul_comm (256 ^ l.length) 256, ← Int.mul_assoc]
    exact Int.mul_le_mul_of_nonneg_right (by omega) (Int.le_of_lt (Int.pow_pos (by omega)))
theorem be32_bd (l : List UInt8) : 0 ≤ be32 l ∧ be32 l < 256 ^ l.length := by
  have := be32_fold l 0 (by omega)
  simpa [be32] using this
theorem ofInt_u32_nat (a : Nat) (ha : a < 4294967296) : (BitVec.ofInt 32 (a : Int)).toNat = a := by
  rw [BitVec.ofInt_natCast, BitVec.toNat_ofNat]; exact Nat.mod_eq_of_lt (by omega)
theorem u32_or (a b : Nat) (ha : a < 4294967296) (hb : b < 4294967296) : bits .or .u32 (a : Int) (b : Int) = ((a ||| b : Nat) : Int) := by
  have hx : a ||| b < 2 ^ 32 := Nat.or_lt_two_pow (by omega) (by omega)
  show IntKind.u32.wrap ((BitVec.ofInt 32 (a : Int) ||| BitVec.ofInt 32 (b : Int)).toNat : Int) = _
  rw [BitVec.toNat_or, ofInt_u32_nat a ha, ofInt_u32_nat b hb, IntKind.wrap_u32]
  omega
theorem or_low {a b k : Nat} (h : b < 2 ^ k) : a * 2 ^ k ||| b = a * 2 ^ k + b := by
  rw [Nat.mul_comm]
  exact (Nat.two_pow_add_eq_or_of_lt h a).symm
theorem i64_shor {a b : Int} (h0 : 0 ≤ a) (h1 : a < 256) (h2 : 0 ≤ b) (h3 : b < 256) : bits .or .i64 (a * 256) b = a * 256 + b := by
  obtain ⟨m, rfl⟩ := Int.eq_ofNat_of_zero_le h0
  obtain ⟨n, rfl⟩ := Int.eq_ofNat_of_zero_le h2
  have := i64_or (m * 256) n (by omega) (by omega)
  rw [or_low (k := 8) (by omega)] at this
  simpa using this
theorem u32_shor {a b : Int} (h0 : 0 ≤ a) (h1 : a < 16777216) (h2 : 0 ≤ b) (h3 : b < 256) : bits .or .u32 (a * 256) b = a * 256 + b := by
  obtain ⟨m, rfl⟩ := Int.eq_ofNat_of_zero_le h0
  obtain ⟨n, rfl⟩ := Int.eq_ofNat_of_zero_le h2
  have := u32_or (m * 256) n (by omega) (by omega)
  rw [or_low (k := 8) (by omega)] at this
  simpa using this
theorem pow_bd (k : Nat) (h : k ≤ 3) : (256 : Int) ^ k ≤ 16777216 := by
  have : k = 0 ∨ k = 1 ∨ k = 2 ∨ k = 3 := by omega
  rcases this with rfl | rfl | rfl | rfl <;> decide
theorem frame_number (a : Option Addr) (l : List UInt8) (n c : Nat) {s : Int} (hs : Hid (be32 l = s)) (w : World) (hb : Byt w a l) (hn : n = l.length) (h4 : l.length ≤ 4) :
    Calls Try.prog 48 #[.slice a n c] w fun e w' => e = .returned (.int .u32 s) ∧ w = w' := by
  subst hn
  go_enter Try.func48, Try.ntmps48
  go_wp2
  go_loop [8, 3] (fun i v => ∃ (k : Nat) (x : Int), k ≤ l.length ∧ i = .int .i64 k ∧ v = .int .u32 x ∧ be32 (l.take k) = x) (fun i _ => l.length - (intOf i).toNat)
  case atStart => exact ⟨0, 0, by omega, rfl, rfl, rfl⟩
  case round =>
    obtain ⟨k, x, hk, rfl, rfl, hx⟩ := hrel
    have HX := Lib.hid hx
    by_cases hlt : k < l.length
    · rcases hb.open with rfl | ⟨b, off, rfl, hbl, hc⟩
      · simp at hlt
      have hc0 := hc k hlt
      have bd := be32_bd (l.take k)
      rw [hx, List.length_take, Nat.min_eq_left hk] at bd
      have pb := pow_bd k (by omega)
      obtain ⟨y, hy⟩ : ∃ y : Int, (l[k].toNat : Int) = y := ⟨_, rfl⟩
      have yb : 0 ≤ y ∧ y < 256 := by have := l[k].toNat_lt; omega
      rw [hy] at hc0
      have x0 := bd.1
      have x1 : x < 16777216 := by omega
      have HO := Lib.hid (u32_shor x0 x1 yb.1 yb.2)
      have HN : Hid (be32 (l.take (k + 1)) = bits .or .u32 (x * 256) y) := by
        show be32 _ = _
        rw [HO.out, List.take_succ_eq_append_getElem hlt, be32_snoc, hx, hy]
      clear hc hx bd pb hy HO
      go_wp2
      go_round
      case rel => exact ⟨k + 1, _, by omega, by go_num, rfl, HN.out⟩
      case measure => simp [intOf]; omega
    · clear hx
      go_wp2
      go_ret
      exact ⟨ret_int (by rw [← HX.out, List.take_of_length_le (by omega)]; exact hs.out), rfl⟩

set_option maxHeartbeats 2000000 in
theorem frame_Parse (a : Option Addr) (l : List UInt8) (c : Nat) (w : World) (hb : Byt w a l) (hl : l.length ≤ 9223372036854775807) (hc : l.length ≤ c) :
    Calls Try.prog 45 #[.slice a l.length c] w (PRet (fParse l) w) := by
  by_cases c0 : l.length = 0
  · have HP := Lib.hid (fp_more0 c0)
    have z1 : ((l.length : Int) == 0) = true := by rw [beq_iff_eq]; omega
    clear c0
    go_enter Try.func45, Try.ntmps45
    go_wp2
    exact bodyPost_ret (v := .tuple #[.agg #[.int .i64 0, .int .i64 0, .slice none 0 0], .int .i64 0, .bool false]) (by simp [results, Try.results45, go_sem]) rfl (PRet.more HP.out (by repeat (first | (with_reducible refine Below.setCell ?_ ?_ _) | (with_reducible refine Below.alloc ?_ ?_ _) | (with_reducible refine Below.drew ?_) | (with_reducible refine below_drewN ?_ _) | (with_reducible exact Below.refl _ _) | (focus (simp; done)) | (focus (simp; omega)) | (focus omega))))
  have z1 : ((l.length : Int) == 0) = false := by rw [beq_eq_false_iff_ne]; omega
  have p0 : 0 < l.length := by omega
  rcases hb.open with rfl | ⟨b, off, rfl, hbl, hcell⟩
  · simp at c0
  obtain ⟨x0, hx0⟩ : ∃ x : Int, (at_ l 0 : Int) = x := ⟨_, rfl⟩
  obtain ⟨x1, hx1⟩ : ∃ x : Int, (at_ l 1 : Int) = x := ⟨_, rfl⟩
  have k0 := at_cell hcell 0 (by omega) hx0
  rw [Nat.add_zero] at k0
  have k1 : 1 < l.length → w.cell? ⟨b, off + 1, none⟩ = some (.int .u8 x1) := fun h => at_cell hcell 1 h hx1
  have y0 := at_bd l 0
  have y1 := at_bd l 1
  rw [hx0] at y0
  rw [hx1] at y1
  have HC := Lib.hid hcell
  have HX0 := Lib.hid hx0
  have HX1 := Lib.hid hx1
  clear hcell hx0 hx1
  by_cases c1 : x0 ≠ 90
  · have HP := Lib.hid (fp_magic0 c0 (by have := HX0.out; omega))
    have z2 : (x0 == 90) = false := by rw [beq_eq_false_iff_ne]; omega
    have z3 : (x0 != 90) = true := by rw [bne_iff_ne]; omega
    clear c0 c1
    go_enter Try.func45, Try.ntmps45
    go_wp2
    exact bodyPost_ret (v := .tuple #[.agg #[.int .i64 2, .int .i64 0, .slice none 0 0], .int .i64 1, .bool true]) (by simp [results, Try.results45, go_sem]) rfl (PRet.fault HP.out rfl (by repeat (first | (with_reducible refine Below.setCell ?_ ?_ _) | (with_reducible refine Below.alloc ?_ ?_ _) | (with_reducible refine Below.drew ?_) | (with_reducible refine below_drewN ?_ _) | (with_reducible exact Below.refl _ _) | (focus (simp; done)) | (focus (simp; omega)) | (focus omega))))
  obtain rfl : x0 = 90 := by omega
  clear c1
  by_cases c2 : 1 < l.length ∧ x1 ≠ 165
  · obtain ⟨c2, c3⟩ := c2
    have HP := Lib.hid (fp_magic1 c2 (by have := HX0.out; omega) (by have := HX1.out; omega))
    have z2 : (x1 != 165) = true := by rw [bne_iff_ne]; omega
    have k1 := k1 c2
    have q2 : decide (1 < l.length) = true := decide_eq_true c2
    clear c0 c3
    go_enter Try.func45, Try.ntmps45
    go_wp2
    exact bodyPost_ret (v := .tuple #[.agg #[.int .i64 2, .int .i64 0, .slice none 0 0], .int .i64 1, .bool true]) (by simp [results, Try.results45, go_sem]) rfl (PRet.fault HP.out rfl (by repeat (first | (with_reducible refine Below.setCell ?_ ?_ _) | (with_reducible refine Below.alloc ?_ ?_ _) | (with_reducible refine Below.drew ?_) | (with_reducible refine below_drewN ?_ _) | (with_reducible exact Below.refl _ _) | (focus (simp; done)) | (focus (simp; omega)) | (focus omega))))
  by_cases c3 : l.length < 6
  · have HP := Lib.hid (fp_more6 c0 (by have := HX0.out; omega) (fun h => Decidable.by_contra fun q => c2 ⟨h, fun e => q (by have := HX1.out; omega)⟩) c3)
    by_cases c4 : 1 < l.length
    · have z2 : (x1 != 165) = false := by rw [bne_eq_false_iff_eq]; omega
      have k1 := k1 c4
      have q2 : decide (1 < l.length) = true := decide_eq_true c4
      clear c0 c2
      go_enter Try.func45, Try.ntmps45
      go_wp2
      exact bodyPost_ret (v := .tuple #[.agg #[.int .i64 0, .int .i64 0, .slice none 0 0], .int .i64 0, .bool false]) (by simp [results, Try.results45, go_sem]) rfl (PRet.more HP.out (by repeat (first | (with_reducible refine Below.setCell ?_ ?_ _) | (with_reducible refine Below.alloc ?_ ?_ _) | (with_reducible refine Below.drew ?_) | (with_reducible refine below_drewN ?_ _) | (with_reducible exact Below.refl _ _) | (focus (simp; done)) | (focus (simp; omega)) | (focus omega))))
    · have q2 : decide (1 < l.length) = false := decide_eq_false c4
      clear c0 c2 k1
      go_enter Try.func45, Try.ntmps45
      go_wp2
      exact bodyPost_ret (v := .tuple #[.agg #[.int .i64 0, .int .i64 0, .slice none 0 0], .int .i64 0, .bool false]) (by simp [results, Try.results45, go_sem]) rfl (PRet.more HP.out (by repeat (first | (with_reducible refine Below.setCell ?_ ?_ _) | (with_reducible refine Below.alloc ?_ ?_ _) | (with_reducible refine Below.drew ?_) | (with_reducible refine below_drewN ?_ _) | (with_reducible exact Below.refl _ _) | (focus (simp; done)) | (focus (simp; omega)) | (focus omega))))
  obtain rfl : x1 = 165 := Decidable.by_contra fun q => c2 ⟨by omega, q⟩
  have k1 := k1 (by omega)
  have q2 : decide (1 < l.length) = true := decide_eq_true (by omega)
  have q3 : decide (l.length < 6) = false := decide_eq_false c3
  obtain ⟨x4, hx4⟩ : ∃ x : Int, (at_ l 4 : Int) = x := ⟨_, rfl⟩
  obtain ⟨x5, hx5⟩ : ∃ x : Int, (at_ l 5 : Int) = x := ⟨_, rfl⟩
  have k4 := at_cell HC.out 4 (by omega) hx4
  have k5 := at_cell HC.out 5 (by omega) hx5
  have y4 := at_bd l 4
  have y5 := at_bd l 5
  rw [hx4] at y4
  rw [hx5] at y5
  have i4 : (4 : Int) < (l.length : Int) := by omega
  have i5 : (5 : Int) < (l.length : Int) := by omega
  obtain ⟨N, hN⟩ : ∃ N, fLen l = N := ⟨_, rfl⟩
  have hor : bits .or .i64 (x4 * 256) x5 = (N : Int) := by
    rw [i64_shor y4.1 y4.2 y5.1 y5.2, ← hN, ← hx4, ← hx5]; unfold fLen; omega
  have HN := Lib.hid hN
  have H0 := Lib.hid (show at_ l 0 = 90 by have := HX0.out; omega)
  have H1 := Lib.hid (show at_ l 1 = 165 by have := HX1.out; omega)
  clear hN hx4 hx5 c0 c2
  by_cases c5 : 200 < N
  · have HP := Lib.hid (fp_long (by omega) H0.out H1.out (by rw [HN.out]; exact c5))
    go_enter Try.func45, Try.ntmps45
    go_wp2
    go_quiet (fail)
    go_wp2
    exact bodyPost_ret (v := .tuple #[.agg #[.int .i64 7, .int .i64 0, .slice none 0 0], .int .i64 1, .bool true]) (by simp [results, Try.results45, go_sem]) rfl (PRet.fault HP.out rfl (by repeat (first | (with_reducible refine Below.setCell ?_ ?_ _) | (with_reducible refine Below.alloc ?_ ?_ _) | (with_reducible refine Below.drew ?_) | (with_reducible refine below_drewN ?_ _) | (with_reducible exact Below.refl _ _) | (focus (simp; done)) | (focus (simp; omega)) | (focus omega))))
  by_cases c6 : l.length < N + 10
  · have HP := Lib.hid (fp_moreN (by omega) H0.out H1.out (by rw [HN.out]; omega) (by rw [HN.out]; exact c6))
    go_enter Try.func45, Try.ntmps45
    go_wp2
    go_quiet (fail)
    go_wp2_with (first | (go_at_call 46; (with_reducible refine (frame_SizeN _ (by omega) _).mono ?_); rintro e w' ⟨rfl, rfl⟩))
    exact bodyPost_ret (v := .tuple #[.agg #[.int .i64 0, .int .i64 0, .slice none 0 0], .int .i64 0, .bool false]) (by simp [results, Try.results45, go_sem]) rfl (PRet.more HP.out (by repeat (first | (with_reducible refine Below.setCell ?_ ?_ _) | (with_reducible refine Below.alloc ?_ ?_ _) | (with_reducible refine Below.drew ?_) | (with_reducible refine below_drewN ?_ _) | (with_reducible exact Below.refl _ _) | (focus (simp; done)) | (focus (simp; omega)) | (focus omega))))
  have c5' : N ≤ 200 := by omega
  have c6' : N + 10 ≤ l.length := by omega
  clear c5 c6
  have L1 : ((l.drop 2).take (N + 4)).length = N + 4 := by rw [List.length_take, List.length_drop]; omega
  have L2 : ((l.drop (6 + N)).take 4).length = 4 := by rw [List.length_take, List.length_drop]; omega
  have b1 : Byt w (some ⟨b, off + 2, none⟩) ((l.drop 2).take (N + 4)) := (hb.drop 2).take _
  have b2 : Byt w (some ⟨b, off + (6 + N), none⟩) ((l.drop (6 + N)).take 4) := (hb.drop (6 + N)).take _
  obtain ⟨s1, hs1⟩ : ∃ s, crcUpd 0 ((l.drop 2).take (N + 4)) = s := ⟨_, rfl⟩
  obtain ⟨s2, hs2⟩ : ∃ s, be32 ((l.drop (6 + N)).take 4) = s := ⟨_, rfl⟩
  have hS : fSum l ↔ s1 = s2 := by unfold fSum; rw [HN.out, hs1, Nat.add_comm N 6, hs2]
  have S1 := Lib.hid hs1
  have S2 := Lib.hid hs2
  have HL1 := Lib.hid L1
  have HL2 := Lib.hid L2
  have e1 : IntKind.i64.wrap (6 + (N : Int)) = 6 + (N : Int) := by rw [IntKind.wrap_i64]; omega
  have e2 : (6 + (N : Int)).toNat = 6 + N := by omega
  have e3 : (0 : Int) ≤ 6 + (N : Int) := by omega
  have e4 : (2 : Int) ≤ 6 + (N : Int) := by omega
  have e5 : (6 : Int) + (N : Int) ≤ (c : Int) := by omega
  clear hs1 hs2 L1 L2
  by_cases c7 : s1 ≠ s2
  · have HP := Lib.hid (fp_sum H0.out H1.out (by rw [HN.out]; omega) (by rw [HN.out]; omega) (fun q => c7 (hS.1 q)))
    have z3 : (s1 != s2) = true := by rw [bne_iff_ne]; exact c7
    clear hS c7
    go_enter Try.func45, Try.ntmps45
    go_wp2
    go_quiet (fail)
    go_wp2_with (first | (go_at_call 46; (with_reducible refine (frame_SizeN _ (by omega) _).mono ?_); rintro e w' ⟨rfl, rfl⟩))
    go_quiet ((first | (go_at_call 47; exact qs_add (crc_own _ _ _ _ S1 _ (b1.below (by repeat (first | (with_reducible refine Below.setCell ?_ ?_ _) | (with_reducible refine Below.alloc ?_ ?_ _) | (with_reducible refine Below.drew ?_) | (with_reducible refine below_drewN ?_ _) | (with_reducible exact Below.refl _ _) | (focus (simp; done)) | (focus (simp; omega)) | (focus omega))) (Nat.le_refl _)) (by have := HL1.out; omega) (by have := HL1.out; omega))) | (go_at_call 48; exact qs_add (frame_number _ _ _ _ S2 _ (b2.below (by repeat (first | (with_reducible refine Below.setCell ?_ ?_ _) | (with_reducible refine Below.alloc ?_ ?_ _) | (with_reducible refine Below.drew ?_) | (with_reducible refine below_drewN ?_ _) | (with_reducible exact Below.refl _ _) | (focus (simp; done)) | (focus (simp; omega)) | (focus omega))) (Nat.le_refl _)) (by have := HL2.out; omega) (by have := HL2.out; omega)))))
    clear e1 e2 e3 e4 e5
    go_wp2
    exact bodyPost_ret (v := .tuple #[.agg #[.int .i64 4, .int .i64 0, .slice none 0 0], .int .i64 1, .bool true]) (by simp [results, Try.results45, go_sem]) rfl (PRet.fault HP.out rfl (by repeat (first | (with_reducible refine Below.setCell ?_ ?_ _) | (with_reducible refine Below.alloc ?_ ?_ _) | (with_reducible refine Below.drew ?_) | (with_reducible refine below_drewN ?_ _) | (with_reducible exact Below.refl _ _) | (focus (simp; done)) | (focus (simp; omega)) | (focus omega))))
  have hS' := hS.2 (Decidable.of_not_not c7)
  have z3 : (s1 != s2) = false := by rw [bne_eq_false_iff_eq]; exact Decidable.of_not_not c7
  have HS := Lib.hid hS'
  clear hS hS' c7
  obtain ⟨x2, hx2⟩ : ∃ x : Int, (at_ l 2 : Int) = x := ⟨_, rfl⟩
  obtain ⟨x3, hx3⟩ : ∃ x : Int, (at_ l 3 : Int) = x := ⟨_, rfl⟩
  have k2 := at_cell HC.out 2 (by omega) hx2
  have k3 := at_cell HC.out 3 (by omega) hx3
  have y2 := at_bd l 2
  have y3 := at_bd l 3
  rw [hx2] at y2
  rw [hx3] at y3
  have HX2 := Lib.hid hx2
  have HX3 := Lib.hid hx3
  clear hx2 hx3
  by_cases c8 : x2 ≠ 1
  · have HP := Lib.hid (show fParse l = .fault 3 (N + 10) by rw [← HN.out]; exact fp_ver H0.out H1.out (by rw [HN.out]; omega) (by rw [HN.out]; omega) HS.out (by have := HX2.out; omega))
    have z4 : (x2 != 1) = true := by rw [bne_iff_ne]; exact c8
    clear c8
    go_enter Try.func45, Try.ntmps45
    go_wp2
    go_quiet (fail)
    go_wp2_with (first | (go_at_call 46; (with_reducible refine (frame_SizeN _ (by omega) _).mono ?_); rintro e w' ⟨rfl, rfl⟩))
    go_quiet ((first | (go_at_call 47; exact qs_add (crc_own _ _ _ _ S1 _ (b1.below (by repeat (first | (with_reducible refine Below.setCell ?_ ?_ _) | (with_reducible refine Below.alloc ?_ ?_ _) | (with_reducible refine Below.drew ?_) | (with_reducible refine below_drewN ?_ _) | (with_reducible exact Below.refl _ _) | (focus (simp; done)) | (focus (simp; omega)) | (focus omega))) (Nat.le_refl _)) (by have := HL1.out; omega) (by have := HL1.out; omega))) | (go_at_call 48; exact qs_add (frame_number _ _ _ _ S2 _ (b2.below (by repeat (first | (with_reducible refine Below.setCell ?_ ?_ _) | (with_reducible refine Below.alloc ?_ ?_ _) | (with_reducible refine Below.drew ?_) | (with_reducible refine below_drewN ?_ _) | (with_reducible exact Below.refl _ _) | (focus (simp; done)) | (focus (simp; omega)) | (focus omega))) (Nat.le_refl _)) (by have := HL2.out; omega) (by have := HL2.out; omega)))))
    clear e1 e2 e3 e4 e5
    go_wp2
    exact bodyPost_ret (v := .tuple #[.agg #[.int .i64 3, .int .i64 0, .slice none 0 0], .int .i64 ((N + 10 : Nat) : Int), .bool true]) (by simp [results, Try.results45, go_sem]) rfl (PRet.fault HP.out rfl (by repeat (first | (with_reducible refine Below.setCell ?_ ?_ _) | (with_reducible refine Below.alloc ?_ ?_ _) | (with_reducible refine Below.drew ?_) | (with_reducible refine below_drewN ?_ _) | (with_reducible exact Below.refl _ _) | (focus (simp; done)) | (focus (simp; omega)) | (focus omega))))
  have z4 : (x2 != 1) = false := by rw [bne_eq_false_iff_eq]; exact Decidable.of_not_not c8
  have H2 := Lib.hid (show at_ l 2 = 1 by have := HX2.out; have := Decidable.of_not_not c8; omega)
  clear c8
  by_cases c9 : x3 < 1 ∨ 22 < x3
  · have HP := Lib.hid (show fParse l = .fault 5 (N + 10) by rw [← HN.out]; exact fp_kind H0.out H1.out (by rw [HN.out]; omega) (by rw [HN.out]; omega) HS.out H2.out (by have := HX3.out; omega))
    rcases c9 with c9 | c9
    all_goals
      go_enter Try.func45, Try.ntmps45
      go_wp2
      go_quiet (fail)
      go_wp2_with (first | (go_at_call 46; (with_reducible refine (frame_SizeN _ (by omega) _).mono ?_); rintro e w' ⟨rfl, rfl⟩))
      go_quiet ((first | (go_at_call 47; exact qs_add (crc_own _ _ _ _ S1 _ (b1.below (by repeat (first | (with_reducible refine Below.setCell ?_ ?_ _) | (with_reducible refine Below.alloc ?_ ?_ _) | (with_reducible refine Below.drew ?_) | (with_reducible refine below_drewN ?_ _) | (with_reducible exact Below.refl _ _) | (focus (simp; done)) | (focus (simp; omega)) | (focus omega))) (Nat.le_refl _)) (by have := HL1.out; omega) (by have := HL1.out; omega))) | (go_at_call 48; exact qs_add (frame_number _ _ _ _ S2 _ (b2.below (by repeat (first | (with_reducible refine Below.setCell ?_ ?_ _) | (with_reducible refine Below.alloc ?_ ?_ _) | (with_reducible refine Below.drew ?_) | (with_reducible refine below_drewN ?_ _) | (with_reducible exact Below.refl _ _) | (focus (simp; done)) | (focus (simp; omega)) | (focus omega))) (Nat.le_refl _)) (by have := HL2.out; omega) (by have := HL2.out; omega)))))
      clear e1 e2 e3 e4 e5
      go_wp2
      exact bodyPost_ret (v := .tuple #[.agg #[.int .i64 5, .int .i64 0, .slice none 0 0], .int .i64 ((N + 10 : Nat) : Int), .bool true]) (by simp [results, Try.results45, go_sem]) rfl (PRet.fault HP.out rfl (by repeat (first | (with_reducible refine Below.setCell ?_ ?_ _) | (with_reducible refine Below.alloc ?_ ?_ _) | (with_reducible refine Below.drew ?_) | (with_reducible refine below_drewN ?_ _) | (with_reducible exact Below.refl _ _) | (focus (simp; done)) | (focus (simp; omega)) | (focus omega))))
  obtain ⟨c9, c10⟩ : 1 ≤ x3 ∧ x3 ≤ 22 := by omega
  have L3 : ((l.drop 6).take N).length = N := by rw [List.length_take, List.length_drop]; omega
  have b3 : Byt w (some ⟨b, off + 6, none⟩) ((l.drop 6).take N) := (hb.drop 6).take _
  obtain ⟨p, hp⟩ : ∃ p, (l.drop 6).take N = p := ⟨_, rfl⟩
  rw [hp] at L3 b3
  have HP := Lib.hid (show fParse l = ⟨0, x3, p, N + 10, true⟩ by rw [← hp, ← HX3.out, ← HN.out]; exact fp_item H0.out H1.out (by rw [HN.out]; omega) (by rw [HN.out]; omega) HS.out H2.out (by have := HX3.out; omega))
  have HL3 := Lib.hid L3
  clear L3 hp
  go_enter Try.func45, Try.ntmps45
  go_wp2
  go_quiet (fail)
  go_wp2_with (first | (go_at_call 46; (with_reducible refine (frame_SizeN _ (by omega) _).mono ?_); rintro e w' ⟨rfl, rfl⟩))
  go_quiet ((first | (go_at_call 47; exact qs_add (crc_own _ _ _ _ S1 _ (b1.below (by repeat (first | (with_reducible refine Below.setCell ?_ ?_ _) | (with_reducible refine Below.alloc ?_ ?_ _) | (with_reducible refine Below.drew ?_) | (with_reducible refine below_drewN ?_ _) | (with_reducible exact Below.refl _ _) | (focus (simp; done)) | (focus (simp; omega)) | (focus omega))) (Nat.le_refl _)) (by have := HL1.out; omega) (by have := HL1.out; omega))) | (go_at_call 48; exact qs_add (frame_number _ _ _ _ S2 _ (b2.below (by repeat (first | (with_reducible refine Below.setCell ?_ ?_ _) | (with_reducible refine Below.alloc ?_ ?_ _) | (with_reducible refine Below.drew ?_) | (with_reducible refine below_drewN ?_ _) | (with_reducible exact Below.refl _ _) | (focus (simp; done)) | (focus (simp; omega)) | (focus omega))) (Nat.le_refl _)) (by have := HL2.out; omega) (by have := HL2.out; omega)))))
  clear e1 e2 e3 e4 e5
  go_wp2_with (first | ((with_reducible refine wp_makeB N N ?_ ?_ ?_ ?_ ?_); (focus rfl); (focus rfl); (focus omega); (focus omega); intro W B0 be0 z0; (have kr := ((Blk.new w 49 #[.int .i64 0, .int .i64 0, .slice none 0 0]).drewN _).below be0 (by simp)); (have b4 := b3.below (show Below w.heap.size w W from (by repeat (first | (with_reducible refine Below.setCell ?_ ?_ _) | (with_reducible refine Below.alloc ?_ ?_ _) | (with_reducible refine Below.drew ?_) | (with_reducible refine below_drewN ?_ _) | (with_reducible exact Below.refl _ _) | (with_reducible refine Below.trans ?_ (Below.mono be0 ?_)) | (focus (simp; done)) | (focus (simp; omega)) | (focus omega) | (focus (have q0 := Below.size be0; (try simp at q0); (try simp); omega))))) (Nat.le_refl _))) | ((with_reducible refine at_copy ?_); refine wp_copyB _ 0 _ B0 p _ W rfl rfl ⟨by have := HL3.out; omega, by omega⟩ (fun _ => by simp) b4 (by have := HL3.out; simp; omega) (Below.refl _ _) (Nat.le_refl _) ?_; intro w2 B2 be2; (have k5 := kr.below be2 (by simp)); (have r0 := k5.cell 0); (have r1 := k5.cell 1); (have r2 := k5.cell 2); (have rf := k5.frozen); (have rl := k5.lt)))
  have e0 : splice (List.replicate N (0 : UInt8)) 0 p = p := by
    unfold splice
    have := HL3.out
    rw [List.drop_of_length_le (by simp; omega)]; simp
  rw [e0] at B2
  refine bodyPost_ret (v := .tuple #[.agg #[.int .i64 0, .int .i64 x3, .slice (some ⟨w.heap.size + 1, 0, none⟩) N N], .int .i64 ((N + 10 : Nat) : Int), .bool true]) (by simp [results, Try.results45, go_sem, r0, r1, r2]) rfl ?_
  rw [HP.out]
  refine ⟨some ⟨w.heap.size + 1, 0, none⟩, N, by rw [HL3.out], ?_, (by repeat (first | (with_reducible refine Below.setCell ?_ ?_ _) | (with_reducible refine Below.alloc ?_ ?_ _) | (with_reducible refine Below.drew ?_) | (with_reducible refine below_drewN ?_ _) | (with_reducible exact Below.refl _ _) | (with_reducible refine Below.trans ?_ (Below.mono be2 ?_)) | (with_reducible refine Below.trans ?_ (Below.mono be0 ?_)) | (focus (simp; done)) | (focus (simp; omega)) | (focus omega) | (focus (have q0 := Below.size be2; (try simp at q0); have q1 := Below.size be0; (try simp at q1); (try simp); omega))))⟩
  have hB2 : Own w2 w.heap.size 5 1 (some ⟨w.heap.size + 1, 0, none⟩) N N (p.map encB) := by
    have h := B2.ownL (base := w.heap.size) (n := N) (by simp) HL3.out.symm (by simp only [maxLen]; omega)
    simpa using h
  show Own _ w.heap.size 5 1 _ p.length N (p.map encB)
  rw [HL3.out]
  exact ((hB2.far (by simp) _).far (by simp) _).far (by simp) _
end Go.Proofs.Ytlfccoakodnbaaa
