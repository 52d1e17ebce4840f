/- record.one -/
import Derived.Test.YtdkifkbnkedbpaaRecLaw
namespace Go.Proofs.Ytdkifkbnkedbpaa
set_option linter.unusedVariables false
open Go.RowKit Go.Sort
set_option maxRecDepth 100000

def fillP (l : List Int) (n : Nat) : List Int := l ++ List.replicate (n - l.length) 0
theorem fillP_len {l : List Int} {n : Nat} (h : l.length ≤ n) : (fillP l n).length = n := by simp [fillP]; omega
theorem fillP_nil (n : Nat) : fillP [] n = List.replicate n 0 := by simp [fillP]
theorem fillP_all {l : List Int} {n : Nat} (h : l.length = n) : fillP l n = l := by simp [fillP, h]
theorem fillP_set {l : List Int} {n i : Nat} (h : l.length = i) (hi : i < n) (x : Int) : (fillP l n).set i x = fillP (l ++ [x]) n := by
  unfold fillP
  rw [List.set_append_right _ _ (by omega), h, Nat.sub_self, show n - i = (n - (i + 1)) + 1 by omega, List.replicate_succ, List.set_cons_zero, List.append_assoc, List.length_append, h]
  rfl
theorem fillP_put {w : World} {B : Nat} {l : List Int} {n i : Nat} (h : Blk w B 3 ((fillP l n).map encI).toArray) (hl : l.length = i) (hi : i < n) (x : Int) : Blk (w.setCell ⟨B, i, none⟩ (.int .i64 x)) B 3 ((fillP (l ++ [x]) n).map encI).toArray := by
  rw [← fillP_set hl hi x]
  exact h.setL i x rfl
theorem fillP_cell {w : World} {B : Nat} {l : List Int} {n i : Nat} (h : Blk w B 3 ((fillP l n).map encI).toArray) (hl : l.length = i) (hi : i < n) : w.cell? ⟨B, i, none⟩ = some (.int .i64 0) := by
  have hk : (fillP l n).length = n := fillP_len (by omega)
  rw [h.cellL i (by omega)]
  congr 1
  show Value.int .i64 _ = _
  congr 1
  simp only [fillP]
  rw [List.getElem_append_right (by omega)]
  simp
def OneR (l : List UInt8) (m : Nat) (w : World) (e : Ending) (w' : World) : Prop :=
  ∃ (fl ov : Bool) (n1 n2 : Nat) (ca : Option Addr) (cc : Nat) (na : Option Addr) (nc : Nat) (b : Bool), e = .returned (.tuple #[.agg #[.bool fl, .bool ov, .slice ca n1 cc, .slice na n2 nc], .bool b]) ∧ Below w.heap.size w w' ∧
    ((b = false ∧ unV l = none) ∨ (b = true ∧ n1 = m ∧ n2 = m ∧ ∃ cs ns : List Int, unV l = some (fl, ov, cs, ns) ∧ cs.length = m ∧ ns.length = m ∧ Own w' w.heap.size 3 1 ca m cc (cs.map encI) ∧ Own w' w.heap.size 3 1 na m nc (ns.map encI)))
theorem and1 (x : UInt8) : bits .and .u8 (x.toNat : Int) 1 = ((x.toNat % 2 : Nat) : Int) := by
  have : ∀ y : Fin 256, bits .and .u8 (y.val : Int) 1 = ((y.val % 2 : Nat) : Int) := by decide +kernel
  exact this ⟨x.toNat, x.toNat_lt⟩
theorem and2 (x : UInt8) : bits .and .u8 (x.toNat : Int) 2 = ((x.toNat / 2 % 2 * 2 : Nat) : Int) := by
  have : ∀ y : Fin 256, bits .and .u8 (y.val : Int) 2 = ((y.val / 2 % 2 * 2 : Nat) : Int) := by decide +kernel
  exact this ⟨x.toNat, x.toNat_lt⟩
theorem or8 (y z : UInt8) : bits .or .i64 ((y.toNat : Int) * 256) (z.toNat : Int) = (y.toNat : Int) * 256 + (z.toNat : Int) := by
  have hy := y.toNat_lt
  have hz := z.toNat_lt
  have h := i64_or (y.toNat * 256) z.toNat (by omega) (by omega)
  have e : ((y.toNat * 256 : Nat) : Int) = (y.toNat : Int) * 256 := by omega
  rw [e] at h
  rw [h, show y.toNat * 256 = 2 ^ 8 * y.toNat by omega, ← Nat.two_pow_add_eq_or_of_lt (by omega)]
  omega
set_option maxHeartbeats 8000000 in
theorem rec_one (a : Option Addr) (x y z : UInt8) (r : List UInt8) (n m c : Nat) (w : World) (hb : Byt w a (x :: y :: z :: r)) (hn : n = m + 3) (hm : m = r.length) (hm8 : m ≤ 8) :
    Calls Try.prog 33 #[.slice a n c] w (OneR (x :: y :: z :: r) m w) := by
  obtain ⟨ba, oa, rfl, lb, xa⟩ := hb.open.resolve_left (by simp)
  have x0 : w.cell? ⟨ba, oa, none⟩ = some (.int .u8 (x.toNat : Int)) := xa 0 (by simp)
  have x1 : w.cell? ⟨ba, oa + 1, none⟩ = some (.int .u8 (y.toNat : Int)) := xa 1 (by simp)
  have x2 : w.cell? ⟨ba, oa + 2, none⟩ = some (.int .u8 (z.toNat : Int)) := xa 2 (by simp)
  have HX := Lib.hid (show ∀ i (h : i < r.length), w.cell? ⟨ba, oa + (3 + i), none⟩ = some (.int .u8 (r[i].toNat : Int)) from fun i h => by
    have := xa (3 + i) (by simp; omega)
    rw [this]
    simp [show 3 + i = i + 1 + 1 + 1 by omega])
  clear xa hb
  have em : (n : Int) - 3 = (m : Int) := by omega
  have n0 : (0 : Int) < (n : Int) := by omega
  have n1 : (1 : Int) < (n : Int) := by omega
  have n2 : (2 : Int) < (n : Int) := by omega
  have hnb : n ≤ 11 := by omega
  have nn0 : 0 < n := by omega
  have nn1 : 1 < n := by omega
  have nn2 : 2 < n := by omega
  have HNM := Lib.hid hn
  have HM := Lib.hid hm
  clear hn hm
  obtain ⟨X, hX⟩ : ∃ X : Int, (x.toNat : Int) = X := ⟨_, rfl⟩
  obtain ⟨Y, hY⟩ : ∃ Y : Int, (y.toNat : Int) = Y := ⟨_, rfl⟩
  obtain ⟨Z, hZ⟩ : ∃ Z : Int, (z.toNat : Int) = Z := ⟨_, rfl⟩
  have e1 := and1 x
  have e2 := and2 x
  have e3 := or8 y z
  have hx := x.toNat_lt
  have hy := y.toNat_lt
  have hz := z.toNat_lt
  rw [hX] at x0 e1 e2
  rw [hY] at x1 e3
  rw [hZ] at x2 e3
  have hXb : 0 ≤ X ∧ X ≤ 255 := by omega
  have hYb : 0 ≤ Y ∧ Y ≤ 255 := by omega
  have hZb : 0 ≤ Z ∧ Z ≤ 255 := by omega
  obtain ⟨F1, hF1⟩ : ∃ F : Int, ((x.toNat % 2 : Nat) : Int) = F := ⟨_, rfl⟩
  obtain ⟨F2, hF2⟩ : ∃ F : Int, ((x.toNat / 2 % 2 * 2 : Nat) : Int) = F := ⟨_, rfl⟩
  rw [hF1] at e1
  rw [hF2] at e2
  have HV : Hid (unV (x :: y :: z :: r) = if 3 < X then none else (dig m (Y * 256 + Z)).map fun cs => ((F1 != 0), (decide (1 < X)), cs, r.map fun b => (b.toNat : Int))) := Lib.hid (by
    simp only [unV, hY, hZ, ← HM.out]
    have q1 : decide (x.toNat % 2 = 1) = (F1 != 0) := by rw [Bool.eq_iff_iff]; simp; omega
    have q2 : decide (1 < x.toNat) = decide (1 < X) := by rw [Bool.eq_iff_iff]; simp; omega
    by_cases h3 : 3 < x.toNat
    · rw [if_pos h3, if_pos (by omega)]
    · rw [if_neg h3, if_neg (by omega), q1, q2])
  have HG : Hid (¬ 3 < X → (F2 != 0) = decide (1 < X)) := Lib.hid (fun h => by rw [Bool.eq_iff_iff]; simp; omega)
  clear hX hY hZ hF1 hF2 hx hy hz
  go_enter Try.func33, Try.ntmps33
  by_cases h3 : 3 < X
  · have HV2 := Lib.hid (HV.out.trans (if_pos h3))
    go_upto_region 2 with fail
    refine wp_named (fun W => Blk W w.heap.size 43 #[.bool false, .bool false, .slice none 0 0, .slice none 0 0] ∧ RowKit.Below w.heap.size w W) ⟨Blk.new _ _ _, (by repeat (first | (with_reducible refine Below.setCell ?_ ?_ _) | (with_reducible refine Below.alloc ?_ ?_ _) | (with_reducible refine Below.drew ?_) | (with_reducible refine below_drewN ?_ _) | (with_reducible exact Below.refl _ _) | (focus (simp; done)) | (focus (simp; omega)) | (focus omega)))⟩ ?_
    rintro W ⟨kr, be⟩
    obtain ⟨r0, r1, r2, r3⟩ := kr.four'
    have rf := kr.frozen
    have rl := kr.lt
    have x0 := ((bcell be).1 _ oa lb).trans x0
    have hbW := be.size
    have hbb : ba < W.heap.size := by omega
    go_wp2_with fail
    refine bodyPost_ret (v := .tuple #[.agg #[.bool false, .bool false, .slice none 0 0, .slice none 0 0], .bool false]) (by simp [results, Try.results33, go_sem, r0, r1, r2, r3]) rfl ?_
    exact ⟨false, false, 0, 0, none, 0, none, 0, false, rfl, (by repeat (first | (with_reducible refine Below.setCell ?_ ?_ _) | (with_reducible refine Below.alloc ?_ ?_ _) | (with_reducible refine Below.drew ?_) | (with_reducible refine below_drewN ?_ _) | (with_reducible exact Below.refl _ _) | (with_reducible refine Below.trans ?_ (Below.mono be ?_)) | (focus (simp; done)) | (focus (simp; omega)) | (focus omega) | (focus (have q0 := Below.size be; (try simp at q0); (try simp); omega)))), .inl ⟨rfl, HV2.out⟩⟩
  · have HV2 := Lib.hid (HV.out.trans (if_neg h3))
    rw [← HG.out h3] at HV2
    go_upto_region 4 with fail
    refine wp_named (fun W => Blk W w.heap.size 43 #[.bool false, .bool false, .slice none 0 0, .slice none 0 0] ∧ RowKit.Below w.heap.size w W) ⟨Blk.new _ _ _, (by repeat (first | (with_reducible refine Below.setCell ?_ ?_ _) | (with_reducible refine Below.alloc ?_ ?_ _) | (with_reducible refine Below.drew ?_) | (with_reducible refine below_drewN ?_ _) | (with_reducible exact Below.refl _ _) | (focus (simp; done)) | (focus (simp; omega)) | (focus omega)))⟩ ?_
    rintro W ⟨kr, be⟩
    have bc := bcell be
    have x0 := (bc.1 _ oa lb).trans x0
    have x1 := (bc.1 _ (oa + 1) lb).trans x1
    have x2 := (bc.1 _ (oa + 2) lb).trans x2
    have hbW := be.size
    have hbb : ba < W.heap.size := by omega
    apply wp_region_tab [] 17 72 [some 17, some 18, some 19, some 20, some 21, some 22, some 23, some 24, some 25, some 26, some 27, some 28, some 29, some 30, some 31, some 5, none] [⟨[], [], [], []⟩, ⟨[0], [0], [0], []⟩, ⟨[0, 1], [1], [1], []⟩, ⟨[0, 1, 2], [2], [2], []⟩, ⟨[0, 1, 2, 3], [3], [3], []⟩, ⟨[], [], [], []⟩, ⟨[5], [5], [5], []⟩, ⟨[5, 6], [6], [6], []⟩, ⟨[5, 6, 7], [7], [7], []⟩, ⟨[5, 6, 7, 8], [8], [8], []⟩, ⟨[], [], [], []⟩, ⟨[10], [10], [10], []⟩, ⟨[], [], [], []⟩, ⟨[12], [12], [12], []⟩, ⟨[0, 1, 2, 3, 4, 5, 6, 7, 8, 9, 10, 11, 12, 13], [4, 9, 11, 13], [4, 9, 11, 13], []⟩, ⟨[], [], [], []⟩, ⟨[0, 1, 2, 3, 4, 5, 6, 7, 8, 9, 10, 11, 12, 13, 14, 15], [11, 13, 14, 15], [11, 13, 14, 15], [15]⟩] [0, 1, 2, 3, 4, 5, 6, 7, 8, 9, 10, 11, 12, 13, 14, 15, 16] [11, 13, 16] [psiTrue, psiTrue, psiTrue, psiTrue, psiTrue, psiTrue, psiTrue, psiTrue, psiTrue, psiTrue, psiTrue, (fun f lo hi v b0 b1 W => ∃ B : Nat, v = .slice (some ⟨B, 0, none⟩) m m ∧ b0 ≤ B ∧ B < b1 ∧ Blk W B 3 ((List.replicate m (0 : Int)).map encI).toArray), psiTrue, (fun f lo hi v b0 b1 W => ∃ B : Nat, v = .slice (some ⟨B, 0, none⟩) m m ∧ b0 ≤ B ∧ B < b1 ∧ Blk W B 3 ((List.replicate m (0 : Int)).map encI).toArray), (fun f lo hi v b0 b1 W => ∃ B C : Nat, f 11 = .slice (some ⟨B, 0, none⟩) m m ∧ f 13 = .slice (some ⟨C, 0, none⟩) m m ∧ v = .agg #[.bool (F1 != 0), .bool (F2 != 0), .slice (some ⟨B, 0, none⟩) m m, .slice (some ⟨C, 0, none⟩) m m]), (fun f lo hi v b0 b1 W => ∃ V, v = .pointer (some ⟨V, 0, none⟩) ∧ b0 ≤ V ∧ V < b1 ∧ Blk W V 43 #[.bool false, .bool false, .slice none 0 0, .slice none 0 0]), (fun f lo hi v b0 b1 W => ∃ B C V, f 11 = .slice (some ⟨B, 0, none⟩) m m ∧ f 13 = .slice (some ⟨C, 0, none⟩) m m ∧ f 15 = .pointer (some ⟨V, 0, none⟩) ∧ lo (15) ≤ V ∧ V < hi (15) ∧ Blk W V 43 #[.bool (F1 != 0), .bool (F2 != 0), .slice (some ⟨B, 0, none⟩) m m, .slice (some ⟨C, 0, none⟩) m m])] [kVal _, kVal _, kVal _, kVal _, kVal _, kVal _, kVal _, kVal _, kVal _, kVal _, kVal _, kTrue, kVal _, kTrue, kTrue, kTrue, kTrue]
    · kernel_rfl
    · kernel_rfl
    · rfl
    · rfl
    · exact trivial
    · exact trivial
    refine ⟨?oR1_0, ?oR1_1, ?oR1_2, ?oR1_3, ?oR1_4, ?oR1_5, ?oR1_6, ?oR1_7, ?oR1_8, ?oR1_9, ?oR1_10, ?oR1_11, ?oR1_12, ?oR1_13, ?oR1_14, ?oR1_15, ?oR1_16, trivial⟩
    case oR1_0 => intro f lo hi w hb hx hf hk hrg R hR; (try replace hb := BelX.zero hb); (try simp (decide := true) only [go_sem] at hf); (try simp (decide := true) only [go_sem] at hk); go_simp; exact hR _ _ (rpost_val rfl rfl (Below.refl _ _) rfl)
    case oR1_1 => intro f lo hi w hb hx hf hk hrg R hR; (try replace hb := BelX.zero hb); (try simp (decide := true) only [go_sem] at hf); (try simp (decide := true) only [go_sem] at hk); go_simp; exact hR _ _ (rpost_val rfl rfl (Below.refl _ _) rfl)
    case oR1_2 =>
      intro f lo hi w hb hx hf hk hrg R hR; (try replace hb := BelX.zero hb); (try simp (decide := true) only [go_sem] at hf); (try simp (decide := true) only [go_sem] at hk)
      have x0 := ((bcell hb).1 _ oa hbb).trans x0
      have hbw := Nat.lt_of_lt_of_le hbb hb.size
      go_simp
      exact hR _ _ (rpost_val rfl rfl (Below.refl _ _) rfl)
    case oR1_3 => intro f lo hi w hb hx hf hk hrg R hR; (try replace hb := BelX.zero hb); (try simp (decide := true) only [go_sem] at hf); (try simp (decide := true) only [go_sem] at hk); go_simp; exact hR _ _ (rpost_val rfl rfl (Below.refl _ _) rfl)
    case oR1_4 => intro f lo hi w hb hx hf hk hrg R hR; (try replace hb := BelX.zero hb); (try simp (decide := true) only [go_sem] at hf); (try simp (decide := true) only [go_sem] at hk); go_simp; exact hR _ _ (rpost_val rfl rfl (Below.refl _ _) rfl)
    case oR1_5 => intro f lo hi w hb hx hf hk hrg R hR; (try replace hb := BelX.zero hb); (try simp (decide := true) only [go_sem] at hf); (try simp (decide := true) only [go_sem] at hk); go_simp; exact hR _ _ (rpost_val rfl rfl (Below.refl _ _) rfl)
    case oR1_6 => intro f lo hi w hb hx hf hk hrg R hR; (try replace hb := BelX.zero hb); (try simp (decide := true) only [go_sem] at hf); (try simp (decide := true) only [go_sem] at hk); go_simp; exact hR _ _ (rpost_val rfl rfl (Below.refl _ _) rfl)
    case oR1_7 =>
      intro f lo hi w hb hx hf hk hrg R hR; (try replace hb := BelX.zero hb); (try simp (decide := true) only [go_sem] at hf); (try simp (decide := true) only [go_sem] at hk)
      have x0 := ((bcell hb).1 _ oa hbb).trans x0
      have hbw := Nat.lt_of_lt_of_le hbb hb.size
      go_simp
      exact hR _ _ (rpost_val rfl rfl (Below.refl _ _) rfl)
    case oR1_8 => intro f lo hi w hb hx hf hk hrg R hR; (try replace hb := BelX.zero hb); (try simp (decide := true) only [go_sem] at hf); (try simp (decide := true) only [go_sem] at hk); go_simp; exact hR _ _ (rpost_val rfl rfl (Below.refl _ _) rfl)
    case oR1_9 => intro f lo hi w hb hx hf hk hrg R hR; (try replace hb := BelX.zero hb); (try simp (decide := true) only [go_sem] at hf); (try simp (decide := true) only [go_sem] at hk); go_simp; exact hR _ _ (rpost_val rfl rfl (Below.refl _ _) rfl)
    case oR1_10 => intro f lo hi w hb hx hf hk hrg R hR; (try replace hb := BelX.zero hb); (try simp (decide := true) only [go_sem] at hf); (try simp (decide := true) only [go_sem] at hk); go_simp; exact hR _ _ (rpost_val rfl rfl (Below.refl _ _) rfl)
    case oR1_11 =>
      intro f lo hi w hb hx hf hk hrg R hR; (try replace hb := BelX.zero hb); (try simp (decide := true) only [go_sem] at hf); (try simp (decide := true) only [go_sem] at hk)
      refine obl_makeI m ?_ ?_ (by omega) fun kk => ?_
      · go_simp
      · go_simp
      refine hR _ _ (rpost_none rfl (by repeat (first | (with_reducible refine Below.setCell ?_ ?_ _) | (with_reducible refine Below.alloc ?_ ?_ _) | (with_reducible refine Below.drew ?_) | (with_reducible refine below_drewN ?_ _) | (with_reducible exact Below.refl _ _) | (focus (simp; done)) | (focus (simp; omega)) | (focus omega))) ?_)
      (try simp (decide := true) only [go_sem])
      exact ⟨_, rfl, Nat.le_refl _, by simp, kk⟩
    case oR1_12 => intro f lo hi w hb hx hf hk hrg R hR; (try replace hb := BelX.zero hb); (try simp (decide := true) only [go_sem] at hf); (try simp (decide := true) only [go_sem] at hk); go_simp; exact hR _ _ (rpost_val rfl rfl (Below.refl _ _) rfl)
    case oR1_13 =>
      intro f lo hi w hb hx hf hk hrg R hR; (try replace hb := BelX.zero hb); (try simp (decide := true) only [go_sem] at hf); (try simp (decide := true) only [go_sem] at hk)
      refine obl_makeI m ?_ ?_ (by omega) fun kk => ?_
      · go_simp
      · go_simp
      refine hR _ _ (rpost_none rfl (by repeat (first | (with_reducible refine Below.setCell ?_ ?_ _) | (with_reducible refine Below.alloc ?_ ?_ _) | (with_reducible refine Below.drew ?_) | (with_reducible refine below_drewN ?_ _) | (with_reducible exact Below.refl _ _) | (focus (simp; done)) | (focus (simp; omega)) | (focus omega))) ?_)
      (try simp (decide := true) only [go_sem])
      exact ⟨_, rfl, Nat.le_refl _, by simp, kk⟩
    case oR1_14 =>
      intro f lo hi w hb hx hf hk hrg R hR; (try replace hb := BelX.zero hb); (try simp (decide := true) only [go_sem] at hf); (try simp (decide := true) only [go_sem] at hk)
      obtain ⟨⟨B, h6, -⟩, C, h10, -⟩ := hf
      go_simp
      refine hR _ _ (rpost_none rfl (Below.refl _ _) ?_)
      (try simp (decide := true) only [go_sem])
      exact ⟨B, C, h6, h10, rfl⟩
    case oR1_15 =>
      intro f lo hi w hb hx hf hk hrg R hR; (try replace hb := BelX.zero hb); (try simp (decide := true) only [go_sem] at hf); (try simp (decide := true) only [go_sem] at hk)
      go_simp
      refine hR _ _ (rpost_none rfl (by repeat (first | (with_reducible refine Below.setCell ?_ ?_ _) | (with_reducible refine Below.alloc ?_ ?_ _) | (with_reducible refine Below.drew ?_) | (with_reducible refine below_drewN ?_ _) | (with_reducible exact Below.refl _ _) | (focus (simp; done)) | (focus (simp; omega)) | (focus omega))) ?_)
      (try simp (decide := true) only [go_sem])
      exact ⟨_, rfl, Nat.le_refl _, by simp, Blk.new _ _ _⟩
    case oR1_16 =>
      intro f lo hi w hb hx hf hk hrg R hR; (try replace hb := BelX.zero hb); (try simp (decide := true) only [go_sem] at hf); (try simp (decide := true) only [go_sem] at hk)
      obtain ⟨-, -, ⟨B, C, h28, h30, h31⟩, V, h5, q1, q2, kk⟩ := hf
      obtain ⟨e0, e1', e2', e3'⟩ := kk.four'
      have fz := kk.frozen
      go_simp
      refine hR _ _ (rpost_some rfl rfl (Touch.set4 _ (List.mem_singleton.2 rfl) q1 q2 _ _ _ _) ?_)
      (try simp (decide := true) only [go_sem])
      exact ⟨B, C, V, h28, h30, h5, q1, q2, kk.set4 _ _ _ _⟩
    case hcl =>
      refine ⟨Closed.true _ _ _ _, Closed.true _ _ _ _, Closed.true _ _ _ _, Closed.true _ _ _ _, Closed.true _ _ _ _, Closed.true _ _ _ _, Closed.true _ _ _ _, Closed.true _ _ _ _, Closed.true _ _ _ _, Closed.true _ _ _ _, Closed.true _ _ _ _, ?cR1_11, Closed.true _ _ _ _, ?cR1_13, ?cR1_14, ?cR1_15, ?cR1_16, trivial⟩
      all_goals first
        | exact fun f lo hi v b0 b1 w w' h hs hB hown hU hX => by
            obtain ⟨B, rfl, h2, h3, h4⟩ := h
            exact ⟨B, rfl, h2, h3, (hown B h2 h3).trans h4⟩
        | exact fun f lo hi v b0 b1 w w' h hs hB hown hU hX => by
            obtain ⟨B, C, V, h1, h2, h3, h4, h5, h6⟩ := h
            exact ⟨B, C, V, h1, h2, h3, h4, h5, (hU 15 (by simp) V h4 h5).trans h6⟩
        | exact fun _ _ _ _ _ _ _ _ h _ _ _ _ _ => h
    intro f lo hi W7 hbr hx hf hk hrg; (try replace hbr := BelX.zero hbr); clear hx; (try simp (decide := true) only [go_sem] at hf); (try simp (decide := true) only [go_sem] at hk)
    obtain ⟨⟨B, h28, B1, B2, kB⟩, ⟨C, h30, C1, C2, kC⟩, B', C', V, h28', h30', h5, V1, V2, kV⟩ := hf
    obtain rfl : B = B' := by
      rw [h28] at h28'
      injection h28' with e1
      injection e1 with e1
      injection e1
    obtain rfl : C = C' := by
      rw [h30] at h30'
      injection h30' with e1
      injection e1 with e1
      injection e1
    have q11 := (hrg.out 11 (by simp)).1
    have q13 := (hrg.out 13 (by simp)).1
    have q15 := (hrg.out 15 (by simp)).1
    have hBC : B ≠ C := fun e => by
      rcases (hrg.out 11 (by simp)).2.2.2 13 (by simp) (by decide) with h | h <;> omega
    have hBW : W.heap.size ≤ B := by omega
    have hCW : W.heap.size ≤ C := by omega
    have hVW : W.heap.size ≤ V := by omega
    have hBV : B ≠ V := fun e => by
      have h1 := kV
      rw [← e] at h1
      unfold Blk at kB h1
      rw [kB] at h1
      injection h1 with h1
      injection h1 with _ h1
      exact absurd h1 (by decide)
    have hCV : C ≠ V := fun e => by
      have h1 := kV
      rw [← e] at h1
      unfold Blk at kC h1
      rw [kC] at h1
      injection h1 with h1
      injection h1 with _ h1
      exact absurd h1 (by decide)
    have kr7 := kr.below hbr kr.lt
    have be7 : RowKit.Below w.heap.size w W7 := (by repeat (first | (with_reducible refine Below.setCell ?_ ?_ _) | (with_reducible refine Below.alloc ?_ ?_ _) | (with_reducible refine Below.drew ?_) | (with_reducible refine below_drewN ?_ _) | (with_reducible exact Below.refl _ _) | (with_reducible refine Below.trans ?_ (Below.mono hbr ?_)) | (with_reducible refine Below.trans ?_ (Below.mono be ?_)) | (focus (simp; done)) | (focus (simp; omega)) | (focus omega) | (focus (have q0 := Below.size hbr; (try simp at q0); have q1 := Below.size be; (try simp at q1); (try simp); omega))))
    have y0 := ((bcell hbr).1 _ oa hbb).trans x0
    have y1 := ((bcell hbr).1 _ (oa + 1) hbb).trans x1
    have y2 := ((bcell hbr).1 _ (oa + 2) hbb).trans x2
    have hb7 : ba < W7.heap.size := Nat.lt_of_lt_of_le hbb hbr.size
    have hwW := kr.lt
    clear hrg h28' h30' q11 q13 q15 B1 B2 C1 C2 V1 V2 x0 x1 x2
    go_simp
    clear hk h28 h30 h5 hbr
    go_upto_region 5 with fail
    go_quiet (fail)
    go_wp2_with fail
    go_loopw [6, 43] (fun s6 s43 wr => ∃ (i : Nat) (Q : Int) (pre : List Int), s6 = .int .i64 Q ∧ s43 = .int .i64 i ∧ i ≤ m ∧ pre.length = i ∧ 0 ≤ Q ∧ Q ≤ 65535 ∧ dig m (Y * 256 + Z) = (dig (m - i) Q).map (pre ++ ·) ∧ Blk wr V 43 #[.bool (F1 != 0), .bool (F2 != 0), .slice (some ⟨B, 0, none⟩) m m, .slice (some ⟨C, 0, none⟩) m m] ∧ Blk wr B 3 ((fillP pre m).map encI).toArray ∧ Blk wr C 3 ((fillP ((r.take i).map fun b => (b.toNat : Int)) m).map encI).toArray ∧ Blk wr w.heap.size 43 #[.bool false, .bool false, .slice none 0 0, .slice none 0 0] ∧ RowKit.Below w.heap.size w wr) (fun _ s _ => m - (intOf s).toNat)
    case atStart => exact ⟨0, Y * 256 + Z, [], rfl, rfl, by omega, rfl, by omega, by omega, by simp, kV.drewN _, by rw [fillP_nil]; exact kB.drewN _, by rw [List.take_zero, List.map_nil, fillP_nil]; exact kC.drewN _, kr7.drewN _, (by repeat (first | (with_reducible refine Below.setCell ?_ ?_ _) | (with_reducible refine Below.alloc ?_ ?_ _) | (with_reducible refine Below.drew ?_) | (with_reducible refine below_drewN ?_ _) | (with_reducible exact Below.refl _ _) | (with_reducible refine Below.trans ?_ (Below.mono be7 ?_)) | (focus (simp; done)) | (focus (simp; omega)) | (focus omega) | (focus (have q0 := Below.size be7; (try simp at q0); (try simp); omega))))⟩
    case round =>
      clear kV kB kC kr7 be7 y0 y1 y2 kr be x0 x1 x2
      obtain ⟨i, Q, pre, rfl, rfl, hi, hpl, hQ0, hQ1, hdig, kV, kB, kC, kr, be⟩ := hrel
      obtain ⟨v0, v1, v2, v3⟩ := kV.four'
      have vl := kV.lt
      obtain ⟨r0, r1, r2, r3⟩ := kr.four'
      have rf := kr.frozen
      have rl := kr.lt
      by_cases hlt : i < m
      · have im : (i : Int) < (m : Int) := by omega
        have HD := Lib.hid (show dig m (Y * 256 + Z) = if Q % 4 = 3 then none else ((dig (m - (i + 1)) (Q / 4)).map (Q % 4 :: ·)).map (pre ++ ·) by
          rw [hdig, show m - i = (m - (i + 1)) + 1 by omega]
          simp only [dig]
          split <;> rfl)
        clear hdig
        obtain ⟨D, hD⟩ : ∃ D, Q % 4 = D := ⟨_, rfl⟩
        have hDb : 0 ≤ D ∧ D ≤ 3 := by omega
        by_cases hd3 : D = 3
        · subst hd3
          go_wp2_with fail
          refine bodyPost_ret (v := .tuple #[.agg #[.bool false, .bool false, .slice none 0 0, .slice none 0 0], .bool false]) (by simp [results, Try.results33, go_sem, r0, r1, r2, r3]) rfl ?_
          exact ⟨false, false, 0, 0, none, 0, none, 0, false, rfl, (by repeat (first | (with_reducible refine Below.setCell ?_ ?_ _) | (with_reducible refine Below.alloc ?_ ?_ _) | (with_reducible refine Below.drew ?_) | (with_reducible refine below_drewN ?_ _) | (with_reducible exact Below.refl _ _) | (with_reducible refine Below.trans ?_ (Below.mono be ?_)) | (focus (simp; done)) | (focus (simp; omega)) | (focus omega) | (focus (have q0 := Below.size be; (try simp at q0); (try simp); omega)))), .inl ⟨rfl, by rw [HV2.out, HD.out, if_pos hD]; rfl⟩⟩
        · have bl := kB.lt
          have bf := kB.frozen
          have b0 := fillP_cell kB hpl hlt
          have hd3' : (D == 3) = false := by rw [beq_eq_false_iff_ne]; exact hd3
          have HD2 := Lib.hid (HD.out.trans (if_neg (by rw [hD]; exact hd3)))
          go_upto_region 14 with fail
          refine wp_named (fun U => Blk U V 43 #[.bool (F1 != 0), .bool (F2 != 0), .slice (some ⟨B, 0, none⟩) m m, .slice (some ⟨C, 0, none⟩) m m] ∧ Blk U B 3 ((fillP (pre ++ [D]) m).map encI).toArray ∧ Blk U C 3 ((fillP ((r.take i).map fun b => (b.toNat : Int)) m).map encI).toArray ∧ Blk U w.heap.size 43 #[.bool false, .bool false, .slice none 0 0, .slice none 0 0] ∧ RowKit.Below w.heap.size w U) ⟨kV.far (by simp only; omega) _, fillP_put kB hpl hlt D, kC.far (by simp only; omega) _, kr.far (by simp only; omega) _, (by repeat (first | (with_reducible refine Below.setCell ?_ ?_ _) | (with_reducible refine Below.alloc ?_ ?_ _) | (with_reducible refine Below.drew ?_) | (with_reducible refine below_drewN ?_ _) | (with_reducible exact Below.refl _ _) | (with_reducible refine Below.trans ?_ (Below.mono be ?_)) | (focus (simp; done)) | (focus (simp; omega)) | (focus omega) | (focus (have q0 := Below.size be; (try simp at q0); (try simp); omega))))⟩ ?_
          clear kV kB kC kr be v0 v1 v2 v3 vl r0 r1 r2 r3 rf rl bl bf b0
          rintro U ⟨kV, kB, kC, kr, be⟩
          have hir : i < r.length := by have := HM.out; omega
          have hpc : ((r.take i).map fun b => (b.toNat : Int)).length = i := by simp; omega
          have x0 := ((bcell be).1 _ (oa + (3 + i)) lb).trans (HX.out i hir)
          have hbU : ba < U.heap.size := Nat.lt_of_lt_of_le lb be.size
          obtain ⟨bi, hbi⟩ : ∃ b : UInt8, r[i] = b := ⟨_, rfl⟩
          have HBI : Hid (((r.take (i + 1)).map fun b => (b.toNat : Int)) = ((r.take i).map fun b => (b.toNat : Int)) ++ [(bi.toNat : Int)]) := Lib.hid (by
            rw [← List.take_append_getElem hir, List.map_append, hbi]; rfl)
          rw [hbi] at x0
          clear hbi
          have hbib := bi.toNat_lt
          obtain ⟨BI, hBI⟩ : ∃ B : Int, (bi.toNat : Int) = B := ⟨_, rfl⟩
          have hBIb : 0 ≤ BI ∧ BI ≤ 255 := by omega
          rw [hBI] at x0 HBI
          clear hBI hbib
          obtain ⟨v0, v1, v2, v3⟩ := kV.four'
          have vl := kV.lt
          have cl := kC.lt
          have cf := kC.frozen
          have c0 := fillP_cell kC hpc hlt
          have i3 : (3 : Int) + (i : Int) < (n : Int) := by have := HNM.out; omega
          have i3n : 3 + i < n := by have := HNM.out; omega
          have ne1 : C ≠ ba := by omega
          have ne2 : ba ≠ C := by omega
          have ne3 : V ≠ C := by omega
          have ne4 : C ≠ V := by omega
          have ne5 : V ≠ ba := by omega
          have ne6 : ba ≠ V := by omega
          go_region
          go_wp2
          go_roundw
          case rel => exact ⟨i + 1, Q / 4, pre ++ [D], rfl, by go_num, by omega, by simp [hpl], by omega, by omega, by rw [HD2.out, hD, Option.map_map]; congr 1; funext q; simp, kV.far (by simp only; omega) _, kB.far (by simp only; omega) _, by rw [HBI.out]; exact fillP_put kC hpc hlt BI, kr.far (by simp only; omega) _, (by repeat (first | (with_reducible refine Below.setCell ?_ ?_ _) | (with_reducible refine Below.alloc ?_ ?_ _) | (with_reducible refine Below.drew ?_) | (with_reducible refine below_drewN ?_ _) | (with_reducible exact Below.refl _ _) | (with_reducible refine Below.trans ?_ (Below.mono be ?_)) | (focus (simp; done)) | (focus (simp; omega)) | (focus omega) | (focus (have q0 := Below.size be; (try simp at q0); (try simp); omega))))⟩
          case measure => simp [intOf]; omega
      · obtain rfl : i = m := by omega
        rw [Nat.sub_self] at hdig
        have hpc : ((r.take i).map fun b => (b.toNat : Int)) = r.map fun b => (b.toNat : Int) := by rw [List.take_of_length_le (by have := HM.out; omega)]
        rw [hpc, fillP_all (by simp; exact HM.out.symm)] at kC
        rw [fillP_all hpl] at kB
        by_cases hq : Q = 0
        · subst hq
          have HD := Lib.hid (show dig i (Y * 256 + Z) = some pre by rw [hdig]; simp [dig])
          clear hdig
          go_wp2_with fail
          refine bodyPost_ret (v := .tuple #[.agg #[.bool (F1 != 0), .bool (F2 != 0), .slice (some ⟨B, 0, none⟩) i i, .slice (some ⟨C, 0, none⟩) i i], .bool true]) (by simp [results, Try.results33, go_sem, r0, r1, r2, r3]) rfl ?_
          exact ⟨_, _, i, i, _, _, _, _, true, rfl, (by repeat (first | (with_reducible refine Below.setCell ?_ ?_ _) | (with_reducible refine Below.alloc ?_ ?_ _) | (with_reducible refine Below.drew ?_) | (with_reducible refine below_drewN ?_ _) | (with_reducible exact Below.refl _ _) | (with_reducible refine Below.trans ?_ (Below.mono be ?_)) | (focus (simp; done)) | (focus (simp; omega)) | (focus omega) | (focus (have q0 := Below.size be; (try simp at q0); (try simp); omega)))), .inr ⟨rfl, rfl, rfl, pre, _, by rw [HV2.out, HD.out]; rfl, hpl, by simp; exact HM.out.symm, own_four kr (kB.ownL (by omega) hpl.symm (by simp only [maxLen]; omega)) (by decide) _ _ _ _, own_four kr (kC.ownL (by omega) (by simp; exact HM.out) (by simp only [maxLen]; omega)) (by decide) _ _ _ _⟩⟩
        · have HD := Lib.hid (show dig i (Y * 256 + Z) = none by rw [hdig]; simp [dig, hq])
          have hq0 : (Q == 0) = false := by rw [beq_eq_false_iff_ne]; exact hq
          clear hdig hq
          go_wp2_with fail
          refine bodyPost_ret (v := .tuple #[.agg #[.bool (F1 != 0), .bool (F2 != 0), .slice (some ⟨B, 0, none⟩) i i, .slice (some ⟨C, 0, none⟩) i i], .bool false]) (by simp [results, Try.results33, go_sem, r0, r1, r2, r3]) rfl ?_
          exact ⟨_, _, i, i, _, _, _, _, false, rfl, (by repeat (first | (with_reducible refine Below.setCell ?_ ?_ _) | (with_reducible refine Below.alloc ?_ ?_ _) | (with_reducible refine Below.drew ?_) | (with_reducible refine below_drewN ?_ _) | (with_reducible exact Below.refl _ _) | (with_reducible refine Below.trans ?_ (Below.mono be ?_)) | (focus (simp; done)) | (focus (simp; omega)) | (focus omega) | (focus (have q0 := Below.size be; (try simp at q0); (try simp); omega)))), .inl ⟨rfl, by rw [HV2.out, HD.out]; rfl⟩⟩
end Go.Proofs.Ytdkifkbnkedbpaa
