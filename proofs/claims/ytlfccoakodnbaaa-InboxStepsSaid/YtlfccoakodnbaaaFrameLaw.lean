/- layer 3 in plain Lean: frames, and what any bytes begin with -/
import Derived.Test.YtlfccoakodnbaaaCrcLaw
namespace Go.Proofs.Ytlfccoakodnbaaa
open Go.RowKit

def byt (x : Int) : UInt8 := UInt8.ofNat (x % 256).toNat
theorem byt_nat (x : Int) : ((byt x).toNat : Int) = x % 256 := by unfold byt; simp; omega
theorem byt_toNat (x : Int) : (byt x).toNat = (x % 256).toNat := by have := byt_nat x; omega
theorem encB_byt (x : Int) : encB (byt x) = .int .u8 (x % 256) := by unfold encB; rw [byt_nat]
theorem byt_of (x : UInt8) : byt (x.toNat : Int) = x := by
  apply UInt8.toNat_inj.1
  rw [byt_toNat]; have := x.toNat_lt; omega

/-- the check sum's four bytes -/
def tail4 (s : Int) : List UInt8 := [byt (s / 16777216), byt (s / 65536), byt (s / 256), byt s]
def be32 (l : List UInt8) : Int := l.foldl (fun n x => n * 256 + (x.toNat : Int)) 0
theorem crc_bd (l : List UInt8) : 0 ≤ crcUpd 0 l ∧ crcUpd 0 l < 4294967296 := by
  rw [crcUpd_0]; have := (cUpd 0#32 l).isLt; omega
theorem be32_tail4 {s : Int} (h0 : 0 ≤ s) (h1 : s < 4294967296) : be32 (tail4 s) = s := by
  simp only [be32, tail4, List.foldl_cons, List.foldl_nil, byt_nat]
  omega
def fBody (k : Int) (p : List UInt8) : List UInt8 := [1, byt k, byt ((p.length : Int) / 256), byt p.length] ++ p
def frm (k : Int) (p : List UInt8) : List UInt8 := [0x5a, 0xa5] ++ fBody k p ++ tail4 (crcUpd 0 (fBody k p))
theorem tail4_len (s : Int) : (tail4 s).length = 4 := rfl
theorem fBody_len (k : Int) (p : List UInt8) : (fBody k p).length = p.length + 4 := by simp [fBody]
theorem frm_len (k : Int) (p : List UInt8) : (frm k p).length = p.length + 10 := by simp [frm, fBody_len, tail4_len]

/-- what any bytes begin with: an item's code, its kind, its payload, how many bytes it uses up; not 'ok': more bytes are needed -/
structure PR where
  code : Int
  kind : Int
  pay : List UInt8
  size : Nat
  ok : Bool
def PR.more : PR := ⟨0, 0, [], 0, false⟩
def PR.fault (c : Int) (n : Nat) : PR := ⟨c, 0, [], n, true⟩
def at_ (l : List UInt8) (i : Nat) : Nat := (l.getD i 0).toNat
def fLen (l : List UInt8) : Nat := at_ l 4 * 256 + at_ l 5
def fSum (l : List UInt8) : Prop := crcUpd 0 ((l.drop 2).take (fLen l + 4)) = be32 ((l.drop (fLen l + 6)).take 4)
instance (l : List UInt8) : Decidable (fSum l) := by unfold fSum; exact inferInstance
def fParse (l : List UInt8) : PR :=
  if l.length = 0 then .more
  else if at_ l 0 ≠ 90 then .fault 2 1
  else if 1 < l.length ∧ at_ l 1 ≠ 165 then .fault 2 1
  else if l.length < 6 then .more
  else if 200 < fLen l then .fault 7 1
  else if l.length < fLen l + 10 then .more
  else if ¬ fSum l then .fault 4 1
  else if at_ l 2 ≠ 1 then .fault 3 (fLen l + 10)
  else if at_ l 3 < 1 ∨ 22 < at_ l 3 then .fault 5 (fLen l + 10)
  else ⟨0, at_ l 3, (l.drop 6).take (fLen l), fLen l + 10, true⟩

theorem at_append {l m : List UInt8} {i : Nat} (h : i < l.length) : at_ (l ++ m) i = at_ l i := by
  unfold at_; congr 1; simp only [List.getD_eq_getElem?_getD]; rw [List.getElem?_append_left h]
theorem fLen_append {l m : List UInt8} (h : 6 ≤ l.length) : fLen (l ++ m) = fLen l := by
  unfold fLen; rw [at_append (by omega), at_append (by omega)]
theorem take_drop_append {l m : List UInt8} {a n : Nat} (h : a + n ≤ l.length) : ((l ++ m).drop a).take n = (l.drop a).take n := by
  rw [List.drop_append_of_le_length (by omega), List.take_append_of_le_length (by simp; omega)]
theorem fSum_append {l m : List UInt8} (h : fLen l + 10 ≤ l.length) : fSum (l ++ m) ↔ fSum l := by
  unfold fSum
  rw [fLen_append (by omega), take_drop_append (by omega), take_drop_append (by omega)]

/-- what has been decided stays -/
theorem fParse_append {l : List UInt8} (m : List UInt8) (h : (fParse l).ok = true) : fParse (l ++ m) = fParse l := by
  unfold fParse at h ⊢
  by_cases h0 : l.length = 0
  · simp [h0, PR.more] at h
  rw [if_neg h0] at h
  have hlen : (l ++ m).length = l.length + m.length := List.length_append
  rw [if_neg h0, if_neg (by omega), at_append (by omega)]
  by_cases h1 : at_ l 0 ≠ 90
  · rw [if_pos h1, if_pos h1]
  rw [if_neg h1] at h
  rw [if_neg h1, if_neg h1]
  by_cases h2 : 1 < l.length ∧ at_ l 1 ≠ 165
  · rw [if_pos h2, if_pos (by rw [at_append h2.1]; exact ⟨by omega, h2.2⟩)]
  rw [if_neg h2] at h
  by_cases h3 : l.length < 6
  · simp [h3, PR.more] at h
  rw [if_neg h3] at h
  rw [if_neg h2, if_neg h3, if_neg (by rw [at_append (by omega)]; rintro ⟨q1, q2⟩; exact h2 ⟨by omega, q2⟩), if_neg (by omega), fLen_append (by omega)]
  by_cases h4 : 200 < fLen l
  · rw [if_pos h4, if_pos h4]
  rw [if_neg h4] at h
  rw [if_neg h4, if_neg h4]
  by_cases h5 : l.length < fLen l + 10
  · simp [h5, PR.more] at h
  have e := fSum_append (l := l) (m := m) (by omega)
  have ep := take_drop_append (l := l) (m := m) (a := 6) (n := fLen l) (by omega)
  rw [if_neg h5, if_neg (by omega), at_append (by omega), at_append (by omega), ep]
  by_cases h6 : fSum l
  · rw [if_neg (not_not_intro (e.2 h6)), if_neg (not_not_intro h6)]
  · rw [if_pos h6, if_pos (fun q => h6 (e.1 q))]

theorem fParse_size {l : List UInt8} (h : (fParse l).ok = true) : 1 ≤ (fParse l).size ∧ (fParse l).size ≤ l.length := by
  unfold fParse at h ⊢
  by_cases h0 : l.length = 0
  · simp [h0, PR.more] at h
  rw [if_neg h0] at h ⊢
  by_cases h1 : at_ l 0 ≠ 90
  · rw [if_pos h1]; exact ⟨Nat.le_refl _, by show 1 ≤ _; omega⟩
  rw [if_neg h1] at h ⊢
  by_cases h2 : 1 < l.length ∧ at_ l 1 ≠ 165
  · rw [if_pos h2]; exact ⟨Nat.le_refl _, by show 1 ≤ _; omega⟩
  rw [if_neg h2] at h ⊢
  by_cases h3 : l.length < 6
  · simp [h3, PR.more] at h
  rw [if_neg h3] at h ⊢
  by_cases h4 : 200 < fLen l
  · rw [if_pos h4]; exact ⟨Nat.le_refl _, by show 1 ≤ _; omega⟩
  rw [if_neg h4] at h ⊢
  by_cases h5 : l.length < fLen l + 10
  · simp [h5, PR.more] at h
  rw [if_neg h5]
  split
  · exact ⟨Nat.le_refl _, by show 1 ≤ _; omega⟩
  split
  · exact ⟨by show 1 ≤ fLen l + 10; omega, by show fLen l + 10 ≤ _; omega⟩
  split
  · exact ⟨by show 1 ≤ fLen l + 10; omega, by show fLen l + 10 ≤ _; omega⟩
  · exact ⟨by show 1 ≤ fLen l + 10; omega, by show fLen l + 10 ≤ _; omega⟩
theorem fParse_long {l : List UInt8} (h : 210 ≤ l.length) : (fParse l).ok = true := by
  unfold fParse
  rw [if_neg (by omega)]
  split
  · rfl
  split
  · rfl
  rw [if_neg (by omega)]
  split
  · rfl
  rw [if_neg (by omega)]
  split
  · rfl
  split
  · rfl
  split <;> rfl

/-! a whole frame -/
theorem frm_at (k : Int) (p m : List UInt8) : at_ (frm k p ++ m) 0 = 90 ∧ at_ (frm k p ++ m) 1 = 165 ∧ at_ (frm k p ++ m) 2 = 1 ∧ at_ (frm k p ++ m) 3 = (k % 256).toNat := by
  refine ⟨rfl, rfl, rfl, ?_⟩
  rw [← byt_toNat]; rfl
theorem frm_fLen (k : Int) (p m : List UInt8) (hp : p.length ≤ 200) : fLen (frm k p ++ m) = p.length := by
  have h4 : at_ (frm k p ++ m) 4 = (byt ((p.length : Int) / 256)).toNat := rfl
  have h5 : at_ (frm k p ++ m) 5 = (byt (p.length : Int)).toNat := rfl
  unfold fLen
  rw [h4, h5, byt_toNat, byt_toNat]
  omega
theorem frm_drop2 (k : Int) (p m : List UInt8) : (frm k p ++ m).drop 2 = fBody k p ++ (tail4 (crcUpd 0 (fBody k p)) ++ m) := by
  simp [frm]
theorem frm_fSum (k : Int) (p m : List UInt8) (hp : p.length ≤ 200) : fSum (frm k p ++ m) := by
  unfold fSum
  rw [frm_fLen k p m hp, show p.length + 6 = 2 + (p.length + 4) by omega, ← List.drop_drop, frm_drop2]
  rw [List.take_append_of_le_length (by rw [fBody_len]; omega), List.take_of_length_le (by rw [fBody_len]; omega)]
  rw [List.drop_append_of_le_length (by rw [fBody_len]; omega), List.drop_of_length_le (by rw [fBody_len]; omega), List.nil_append]
  rw [List.take_append_of_le_length (by rw [tail4_len]; omega), List.take_of_length_le (by rw [tail4_len]; omega)]
  have := crc_bd (fBody k p)
  rw [be32_tail4 this.1 this.2]
theorem frm_pay (k : Int) (p m : List UInt8) : ((frm k p ++ m).drop 6).take p.length = p := by
  have : (frm k p ++ m).drop 6 = p ++ (tail4 (crcUpd 0 (fBody k p)) ++ m) := by simp [frm, fBody]
  rw [this]; simp
theorem fParse_frm {k : Int} {p : List UInt8} (m : List UInt8) (k1 : 1 ≤ k) (k2 : k ≤ 22) (hp : p.length ≤ 200) : fParse (frm k p ++ m) = ⟨0, k, p, p.length + 10, true⟩ := by
  obtain ⟨h0, h1, h2, h3⟩ := frm_at k p m
  have hl : (frm k p ++ m).length = p.length + 10 + m.length := by rw [List.length_append, frm_len]
  have hn := frm_fLen k p m hp
  unfold fParse
  rw [if_neg (by omega), if_neg (by simp [h0]), if_neg (by simp [h1]), if_neg (by omega), hn, if_neg (by omega), if_neg (by omega), if_neg (by simpa using frm_fSum k p m hp), if_neg (by simp [h2]), h3, if_neg (by omega), frm_pay]
  congr 1
  omega
/-- no proper beginning of a frame is one -/
theorem fParse_cut {k : Int} {p : List UInt8} {j : Nat} (hp : p.length ≤ 200) (hj : j < p.length + 10) : fParse ((frm k p).take j) = .more := by
  have hl : ((frm k p).take j).length = j := by rw [List.length_take, frm_len]; omega
  have ha : ∀ i, i < j → at_ ((frm k p).take j) i = at_ (frm k p ++ []) i := fun i hi => by
    unfold at_; simp only [List.getD_eq_getElem?_getD, List.append_nil]; rw [List.getElem?_take_of_lt hi]
  obtain ⟨h0, h1, _, _⟩ := frm_at k p []
  unfold fParse
  rw [hl]
  by_cases c0 : j = 0
  · rw [if_pos c0]
  rw [if_neg c0, ha 0 (by omega), if_neg (fun q => q h0)]
  rw [if_neg (by rintro ⟨q1, q2⟩; rw [ha 1 q1] at q2; exact q2 h1)]
  by_cases c1 : j < 6
  · rw [if_pos c1]
  have hn : fLen ((frm k p).take j) = p.length := by
    have := frm_fLen k p [] hp
    unfold fLen at this ⊢
    rw [ha 4 (by omega), ha 5 (by omega)]; exact this
  rw [if_neg c1, hn, if_neg (by omega), if_pos hj]

end Go.Proofs.Ytlfccoakodnbaaa
