/- signalbrokerref14.free -/
import Derived.Test.YtgngmmmdhhjbhaaTkRef
import Derived.Test.YtgngmmmdhhjbhaaTkRVal
namespace Go.Proofs.Ytgngmmmdhhjbhaa
set_option linter.unusedVariables false
open Go.RowKit Go.Sort
set_option maxRecDepth 100000

theorem bsum_bit (f : Int → Bool) : ∀ n i, i < n → bsum f n / 2 ^ i % 2 = if f i = true then 1 else 0
  | n + 1, i, hi => by
    have hl := bsum_lt f n
    rw [bsum]
    by_cases e : i = n
    · subst e
      have hp : 0 < 2 ^ i := Nat.two_pow_pos i
      by_cases hf : f i = true
      · rw [if_pos hf, if_pos hf, Nat.add_div_right _ hp, Nat.div_eq_of_lt hl]
      · rw [if_neg hf, if_neg hf, Nat.add_zero, Nat.div_eq_of_lt hl]
    · have hin : i < n := by omega
      rw [← bsum_bit f n i hin]
      by_cases hf : f n = true
      · rw [if_pos hf]
        have h2 : 2 ^ n = 2 ^ i * (2 * 2 ^ (n - i - 1)) := by
          rw [← Nat.pow_succ', ← Nat.pow_add]
          congr 1
          omega
        rw [h2, Nat.add_mul_div_left _ _ (Nat.two_pow_pos i), Nat.add_mul_mod_self_left]
      · rw [if_neg hf, Nat.add_zero]
theorem bit_at {f : Int → Bool} {n i : Nat} (hn : n ≤ 8) (hi : i < n) : (bits .and .i64 (((bsum f n : Nat) : Int) / 2 ^ i) 1 == 1) = f i := by
  have h1 := bsum_lt f n
  have h3 : 2 ^ n ≤ 256 := Nat.pow_le_pow_right (n := 2) (by decide) hn
  have h2 := bsum_bit f n i hi
  have hc : (((bsum f n : Nat) : Int) / 2 ^ i) = ((bsum f n / 2 ^ i : Nat) : Int) := by simp
  have hle : bsum f n / 2 ^ i ≤ bsum f n := Nat.div_le_self _ _
  rw [hc]
  obtain ⟨x, hx⟩ : ∃ x, bsum f n / 2 ^ i = x := ⟨_, rfl⟩
  rw [hx] at h2 hle ⊢
  have e : bits .and .i64 (x : Int) 1 = ((x % 2 : Nat) : Int) := by
    show IntKind.i64.wrap ((BitVec.ofInt 64 (x : Int) &&& BitVec.ofInt 64 ((1 : Nat) : Int)).toNat : Int) = _
    rw [BitVec.toNat_and, ofInt_i64 x (by omega), ofInt_i64 1 (by omega), Nat.and_one_is_mod, IntKind.wrap_i64]
    omega
  rw [e, h2]
  cases f i <;> rfl
def freeK : TkK := ⟨false, [], -1, 0, 0, 0⟩
def freeM (k : List TkK) (f : Int → Bool) : List TkK := k.mapIdx fun (i : Nat) t => if f i = true then freeK else t
def frTo (k : List TkK) (f : Int → Bool) (m : Nat) : List TkK := k.mapIdx fun (i : Nat) t => if i < m ∧ f i = true then freeK else t
theorem frTo_zero (k : List TkK) (f : Int → Bool) : frTo k f 0 = k := by
  unfold frTo
  apply List.ext_getElem (by simp)
  intro i h1 h2
  simp
theorem frTo_all (k : List TkK) (f : Int → Bool) : frTo k f k.length = freeM k f := by
  unfold frTo freeM
  apply List.ext_getElem (by simp)
  intro i h1 h2
  have : i < k.length := by simpa using h1
  simp [this]
theorem frTo_no {k : List TkK} {f : Int → Bool} {m : Nat} (h : f m = false) : frTo k f (m + 1) = frTo k f m := by
  unfold frTo
  apply List.ext_getElem (by simp)
  intro i h1 h2
  simp only [List.getElem_mapIdx]
  by_cases e : i = m
  · subst e; simp [h]
  · have : (i < m + 1) ↔ i < m := by omega
    simp [this]
theorem frTo_yes {k : List TkK} {f : Int → Bool} {m : Nat} (h : f m = true) : frTo k f (m + 1) = (frTo k f m).set m freeK := by
  unfold frTo
  apply List.ext_getElem (by simp)
  intro i h1 h2
  simp only [List.getElem_mapIdx, List.getElem_set]
  by_cases e : m = i
  · subst e; simp [h]
  · have : (i < m + 1) ↔ i < m := by omega
    simp [this, e]
/-- a list that is another, some slots freed -/
def FreeR (k : List TkK) (f : Int → Bool) (n : Nat) (w : World) (e : Ending) (w' : World) : Prop :=
  ∃ (xa : Option Addr) (xc : Nat) (l2 : List Tk), e = .returned (.slice xa n xc) ∧ Hid (l2.map Tk.key = freeM k f) ∧ Hid (n = l2.length) ∧ TkL w' w.heap.size l2 xa xc ∧ Below w.heap.size w w'
set_option maxHeartbeats 4000000 in
theorem ref14_free (a : Option Addr) (l : List Tk) (n c : Nat) (f : Int → Bool) (S : Nat) (w : World) (h : Tks w a l) (hn : n = l.length) (l9 : n ≤ 8) (hl : ∀ t ∈ l, t.sec.length ≤ 100000) (hS : Hid (S = bsum f l.length)) :
    Calls Try.prog 52 #[.slice a n c, .int .i64 S] w (FreeR (l.map Tk.key) f n w) := by
  have HN := Lib.hid hn
  clear hn
  go_enter Try.func52, Try.ntmps52
  go_upto_region 2 with ((go_at_call 41; (with_reducible refine (ref14_Copy a l n c _ h HN.out (by omega) hl).mono ?_); rintro e w2 ⟨xa, xc, l2, rfl, hk, hn2, il, hb⟩))
  go_wp2_with fail
  go_loopw [11] (fun s11 wr => ∃ (i : Nat) (l3 : List Tk), s11 = .int .i64 i ∧ i ≤ n ∧ Hid (l3.length = n) ∧ Hid (l3.map Tk.key = frTo (l.map Tk.key) f i) ∧ TkL wr w.heap.size l3 xa xc ∧ RowKit.Below w.heap.size w wr) (fun s _ => n - (intOf s).toNat)
  case atStart => exact ⟨0, l2, rfl, by omega, Lib.hid hn2.out.symm, Lib.hid (by rw [frTo_zero, hk.out]), il, hb⟩
  case round =>
    clear il hb
    obtain ⟨i, l3, rfl, hi, h3, hk3, il, be⟩ := hrel
    by_cases hlt : i < n
    · have kx : (i : Int) < (n : Int) := by omega
      have hbit := bit_at (f := f) (n := l.length) (i := i) (by rw [← HN.out]; exact l9) (by rw [← HN.out]; exact hlt)
      rw [← hS.out] at hbit
      cases hf : f i with
      | false =>
        rw [hf] at hbit
        have HG : Hid (l3.map Tk.key = frTo (l.map Tk.key) f (i + 1)) := Lib.hid (by rw [frTo_no hf, hk3.out])
        clear hf
        go_wp2_with fail
        go_roundw
        case rel => exact ⟨i + 1, l3, by go_num, by omega, h3, HG, il, be⟩
        case measure => simp [intOf]; omega
      | true =>
        rw [hf] at hbit
        have hi3 : i < l3.length := by rw [h3.out]; exact hlt
        obtain ⟨g, rfl, gB, -⟩ := il.own.open_ (by omega)
        have HG : Hid ((l3.set i ⟨false, [], -1, 0, 0, 0, none, 0⟩).map Tk.key = frTo (l.map Tk.key) f (i + 1)) := Lib.hid (by rw [frTo_yes hf, ← hk3.out, List.map_set]; rfl)
        have fin := Lib.hid (il.setTok hi3 ⟨false, [], -1, 0, 0, 0, none, 0⟩ (Own.nil _ _ _ _))
        obtain ⟨y0, y1, y2, y3, y4, y5, yl⟩ := row_tok il.own.row i hi3
        simp only [Nat.zero_add] at y0 y1 y2 y3 y4 y5
        have yf := il.own.frozen
        have hbs := be.size
        clear hf
        go_wp2_with fail
        go_roundw
        case rel => exact ⟨i + 1, _, by go_num, by omega, Lib.hid (by rw [List.length_set]; exact h3.out), HG, fin.out, be.grown ((((((grownBy_set _ g _ _).trans (grownBy_set _ g _ _)).trans (grownBy_set _ g _ _)).trans (grownBy_set _ g _ _)).trans (grownBy_set _ g _ _)).trans (grownBy_set _ g _ _)) hbs (fun k hk => by injection hk with hk; omega)⟩
        case measure => simp [intOf]; omega
    · obtain rfl : i = n := by omega
      go_wp2_with fail
      go_ret
      exact ⟨xa, xc, l3, rfl, Lib.hid (by rw [hk3.out, HN.out, ← frTo_all, List.length_map]), Lib.hid h3.out.symm, il, be⟩
end Go.Proofs.Ytgngmmmdhhjbhaa
