/- payloads read back, in plain Lean -/
import Derived.Test.YthkoijgobigdnaaMsgLaw
import Derived.Test.YthkoijgobigdnaaNumLaw
namespace Go.Proofs.Ythkoijgobigdnaa

theorem gCode_no {s : Shp} {g : Int} {i : Nat} (h : (i : Int) ≠ s.fix ∨ s.grp = 0) : gCode s g i = [] := by
  unfold gCode
  rw [if_neg]
  omega
theorem encFrom_after (s : Shp) (g : Int) : ∀ (l : List Int) (i : Nat), s.fix < i → encFrom s g i l = encL l := by
  intro l
  induction l with
  | nil => intro i h; rw [encFrom, gCode_no (.inl (by omega))]; rfl
  | cons n l ih => intro i h; rw [encFrom, gCode_no (.inl (by omega)), ih (i + 1) (by omega)]; simp [encL]
theorem encFrom_at (s : Shp) (g : Int) (l : List Int) (i : Nat) (h : (i : Int) = s.fix) : encFrom s g i l = gCode s g i ++ encL l := by
  cases l with
  | nil => rw [encFrom]; simp [encL]
  | cons n l => rw [encFrom, encFrom_after s g l (i + 1) (by omega)]; simp [encL]
theorem encFrom_before (s : Shp) (g : Int) (m : List Int) : ∀ (l : List Int) (i : Nat), ((i + l.length : Nat) : Int) ≤ s.fix → encFrom s g i (l ++ m) = encL l ++ encFrom s g (i + l.length) m := by
  intro l
  induction l with
  | nil => intro i _; simp [encL]
  | cons n l ih =>
    intro i h
    rw [List.length_cons] at h
    rw [List.cons_append, encFrom, gCode_no (.inl (by omega)), ih (i + 1) (by omega), List.length_cons, show i + (l.length + 1) = i + 1 + l.length by omega]
    simp [encL]
theorem encFrom_two (s : Shp) (g : Int) (l m : List Int) (h : (l.length : Int) = s.fix) : encFrom s g 0 (l ++ m) = encL l ++ (gCode s g l.length ++ encL m) := by
  rw [encFrom_before s g m l 0 (by omega), Nat.zero_add, encFrom_at s g m _ h]
theorem encL_app (l m : List Int) : encL (l ++ m) = encL l ++ encL m := by simp [encL]
/-- the payload of a message whose arguments are l, then m -/
theorem pay_two {k : Int} {s : Shp} (hs : shpOf k = s) {tok dat : List UInt8} {l m : List Int} (h : (l.length : Int) = s.fix) : Msg.pay ⟨k, tok, l ++ m, dat⟩ = tok ++ (encL l ++ (gCode s (grpN s (l ++ m).length) l.length ++ encL m)) ++ dat := by
  unfold Msg.pay
  simp only [hs]
  rw [encFrom_two s _ l m h]
/-- payloads that a message of a kind has, read: the message -/
theorem dec_no_groups {k : Int} {s : Shp} (h1 : 1 ≤ k) (h2 : k ≤ 22) (hs : shpOf k = s) (so : ShpOk s) (hg : s.grp = 0) {p r : List UInt8} {l : List Int} (hp : (p.length : Int) ≤ 200) (ht : s.tok ≤ p.length) (hr : rdN s.fix.toNat (p.drop s.tok.toNat) = some (l, r)) (hd : s.dat = -1 ∨ (r.length : Int) = s.dat) :
    Msg.Ok ⟨k, p.take s.tok.toNat, l, r⟩ ∧ Msg.pay ⟨k, p.take s.tok.toNat, l, r⟩ = p := by
  obtain ⟨e1, e2, e3⟩ := rdN_only _ _ _ _ hr
  have hf := so.fix
  have ht2 := so.tok
  have hl : (l.length : Int) = s.fix := by omega
  have hpay : Msg.pay ⟨k, p.take s.tok.toNat, l, r⟩ = p := by
    have := pay_two hs (tok := p.take s.tok.toNat) (dat := r) (l := l) (m := []) hl
    rw [List.append_nil] at this
    rw [this, gCode_no (.inr hg)]
    have e : encL ([] : List Int) = [] := rfl
    rw [e, List.append_nil, List.append_nil, List.append_assoc, ← e2, List.take_append_drop]
  refine ⟨⟨⟨h1, h2⟩, ?_, ?_, ?_, ?_, e3, ?_⟩, hpay⟩
  · simp only [hs, List.length_take]; omega
  · simp only [hs]; exact hd
  · simp only [hs]; unfold grpOk; rw [if_pos hg]; exact hl
  · have : r.length ≤ (p.drop s.tok.toNat).length := by rw [e2]; simp
    rw [List.length_drop] at this
    simp only
    omega
  · rw [hpay]; omega
theorem grp_of {s : Shp} {x A : Int} (hg : 0 < s.grp) (hA : A = s.fix + x * s.grp) (h0 : 0 ≤ x) (hlo : s.lo ≤ x) (hhi : x ≤ s.hi) : grpN s A = x ∧ grpOk s A := by
  have e : A - s.fix = x * s.grp := by omega
  have e2 : x * s.grp / s.grp = x := Int.mul_ediv_cancel _ (by omega)
  have e3 : 0 ≤ x * s.grp := Int.mul_nonneg h0 (by omega)
  unfold grpN grpOk
  rw [if_neg (by omega), if_neg (by omega), e, e2]
  exact ⟨rfl, by omega, Int.mul_emod_left _ _, hlo, hhi⟩
theorem dec_groups {k : Int} {s : Shp} (h1 : 1 ≤ k) (h2 : k ≤ 22) (hs : shpOf k = s) (so : ShpOk s) (hg : 0 < s.grp) {p r r2 r3 : List UInt8} {l m : List Int} {x : Int} (hp : (p.length : Int) ≤ 200) (ht : s.tok ≤ p.length) (hr : rdN s.fix.toNat (p.drop s.tok.toNat) = some (l, r)) (hr1 : rdN 1 r = some ([x], r2))
    (hlo : s.lo ≤ x) (hhi : x ≤ s.hi) (hr2 : rdN (x * s.grp).toNat r2 = some (m, r3)) (hd : s.dat = -1 ∨ (r3.length : Int) = s.dat) :
    Msg.Ok ⟨k, p.take s.tok.toNat, l ++ m, r3⟩ ∧ Msg.pay ⟨k, p.take s.tok.toNat, l ++ m, r3⟩ = p := by
  obtain ⟨e1, e2, e3⟩ := rdN_only _ _ _ _ hr
  obtain ⟨_, f2, f3⟩ := rdN_only _ _ _ _ hr1
  obtain ⟨g1, g2, g3⟩ := rdN_only _ _ _ _ hr2
  have hf := so.fix
  have ht2 := so.tok
  have hx := f3 x (by simp)
  have hl : (l.length : Int) = s.fix := by omega
  have hxg : 0 ≤ x * s.grp := Int.mul_nonneg hx.1 (by omega)
  obtain ⟨gn, go⟩ := grp_of (A := ((l ++ m).length : Int)) hg (by rw [List.length_append]; omega) hx.1 hlo hhi
  have hpay : Msg.pay ⟨k, p.take s.tok.toNat, l ++ m, r3⟩ = p := by
    rw [pay_two hs hl, gn]
    have e : gCode s x l.length = vEnc x.toNat := by unfold gCode; rw [if_pos ⟨hl, hg⟩]
    have e' : encL [x] = vEnc x.toNat := by simp [encL]
    rw [e' ] at f2
    have hp' := List.take_append_drop s.tok.toNat p
    rw [e2, f2, g2] at hp'
    rw [e]
    exact Eq.trans (by simp) hp'
  refine ⟨⟨⟨h1, h2⟩, ?_, ?_, ?_, ?_, ?_, ?_⟩, hpay⟩
  · simp only [hs, List.length_take]; omega
  · simp only [hs]; exact hd
  · simp only [hs]; exact go
  · have : r3.length ≤ (p.drop s.tok.toNat).length := by rw [e2, f2, g2]; simp; omega
    rw [List.length_drop] at this
    simp only
    omega
  · intro n hn
    rcases List.mem_append.1 hn with h | h
    · exact e3 n h
    · exact g3 n h
  · rw [hpay]; omega
/-- what is read of a valid message's payload -/
theorem dec_back {m : Msg} (hm : m.Ok) {s : Shp} (hs : shpOf m.kind = s) : m.pay.length ≤ 200 ∧ s.tok ≤ m.pay.length ∧ m.pay.take s.tok.toNat = m.tok ∧ (s.dat = -1 ∨ (m.dat.length : Int) = s.dat) ∧
    ∃ l m2 r, m.args = l ++ m2 ∧ rdN s.fix.toNat (m.pay.drop s.tok.toNat) = some (l, r) ∧ ((s.grp = 0 ∧ m2 = [] ∧ r = m.dat) ∨ (0 < s.grp ∧ ∃ x, s.lo ≤ x ∧ x ≤ s.hi ∧ 0 ≤ x ∧ rdN 1 r = some ([x], encL m2 ++ m.dat) ∧ rdN (x * s.grp).toNat (encL m2 ++ m.dat) = some (m2, m.dat))) := by
  have so := shpOf_ok m.kind
  rw [hs] at so
  obtain ⟨k, tok, args, dat⟩ := m
  obtain ⟨⟨h1, h2⟩, ht, hd, hg, hdl, ha, hp⟩ := hm
  simp only at h1 h2 ht hd hg hdl ha hs
  rw [hs] at ht hd hg
  have hf := so.fix
  have hle : s.fix ≤ args.length := by
    unfold grpOk at hg
    split at hg <;> omega
  obtain ⟨l, m2, rfl, hl⟩ : ∃ l m2, args = l ++ m2 ∧ (l.length : Int) = s.fix := ⟨args.take s.fix.toNat, args.drop s.fix.toNat, (List.take_append_drop _ _).symm, by rw [List.length_take]; omega⟩
  have hpay := pay_two hs (tok := tok) (dat := dat) (l := l) (m := m2) hl
  have htl : s.tok.toNat = tok.length := by omega
  have hal : ∀ x ∈ l, 0 ≤ x ∧ x ≤ 4294967295 := fun x hx => ha x (List.mem_append_left _ hx)
  have ham : ∀ x ∈ m2, 0 ≤ x ∧ x ≤ 4294967295 := fun x hx => ha x (List.mem_append_right _ hx)
  have hfl : s.fix.toNat = l.length := by omega
  refine ⟨hp, ?_, ?_, hd, l, m2, gCode s (grpN s (l ++ m2).length) l.length ++ encL m2 ++ dat, rfl, ?_, ?_⟩
  · rw [hpay]; simp; omega
  · rw [hpay, htl]; simp
  · rw [hpay, htl, hfl]
    have : (tok ++ (encL l ++ (gCode s (grpN s (l ++ m2).length) l.length ++ encL m2)) ++ dat).drop tok.length = encL l ++ (gCode s (grpN s (l ++ m2).length) l.length ++ encL m2 ++ dat) := by simp
    rw [this]
    exact rdN_enc l _ hal
  · by_cases h0 : s.grp = 0
    · left
      unfold grpOk at hg
      rw [if_pos h0, List.length_append] at hg
      have : m2 = [] := List.eq_nil_of_length_eq_zero (by omega)
      subst this
      refine ⟨h0, rfl, ?_⟩
      rw [gCode_no (.inr h0)]
      simp [encL]
    · right
      have hgp := so.grp
      obtain ⟨b0, b1⟩ := grpN_bd so hg
      unfold grpOk at hg
      rw [if_neg h0] at hg
      have hx : grpN s (l ++ m2).length = (((l ++ m2).length : Int) - s.fix) / s.grp := by unfold grpN; rw [if_neg h0]
      have hmul : grpN s (l ++ m2).length * s.grp = m2.length := by
        rw [hx, Int.ediv_mul_cancel (Int.dvd_of_emod_eq_zero hg.2.1), List.length_append]
        omega
      refine ⟨by omega, grpN s (l ++ m2).length, by rw [hx]; exact hg.2.2.1, by rw [hx]; exact hg.2.2.2, b0, ?_, ?_⟩
      · have e : gCode s (grpN s (l ++ m2).length) l.length = encL [grpN s (l ++ m2).length] := by unfold gCode; rw [if_pos ⟨hl, by omega⟩]; simp [encL]
        rw [e, List.append_assoc]
        exact rdN_enc [_] _ (by intro x hx; rw [List.mem_singleton.1 hx]; omega)
      · rw [hmul, Int.toNat_natCast]
        exact rdN_enc m2 _ ham
end Go.Proofs.Ythkoijgobigdnaa
