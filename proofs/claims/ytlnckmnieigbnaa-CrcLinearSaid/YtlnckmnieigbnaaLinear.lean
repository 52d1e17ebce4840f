import Derived.Test.YtlnckmnieigbnaaAwake
import Derived.Test.YtlnckmnieigbnaaCrcLaw
import Derived.Test.YtlnckmnieigbnaaApp
namespace Go.Proofs.Ytlnckmnieigbnaa
open Go.RowKit

def x3 : List UInt8 → List UInt8 → List UInt8 → List UInt8
  | a :: l, b :: m, c :: n => (a ^^^ b ^^^ c) :: x3 l m n
  | _, _, _ => []

theorem x3_snoc (l m n : List UInt8) (a b c : UInt8) (h1 : l.length = m.length) (h2 : l.length = n.length) : x3 (l ++ [a]) (m ++ [b]) (n ++ [c]) = x3 l m n ++ [a ^^^ b ^^^ c] := by
  induction l generalizing m n with
  | nil =>
    have : m = [] := List.eq_nil_of_length_eq_zero (by simpa using h1.symm)
    have : n = [] := List.eq_nil_of_length_eq_zero (by simpa using h2.symm)
    subst_vars
    rfl
  | cons x l ih =>
    cases m with
    | nil => simp at h1
    | cons y m =>
      cases n with
      | nil => simp at h2
      | cons z n => simp only [List.cons_append, x3, List.cons.injEq, true_and]; exact ih m n (by simpa using h1) (by simpa using h2)
theorem x3_length (l m n : List UInt8) (h1 : l.length = m.length) (h2 : l.length = n.length) : (x3 l m n).length = l.length := by
  induction l generalizing m n with
  | nil => rfl
  | cons x l ih =>
    cases m with
    | nil => simp at h1
    | cons y m =>
      cases n with
      | nil => simp at h2
      | cons z n => simp only [x3, List.length_cons]; rw [ih m n (by simpa using h1) (by simpa using h2)]
theorem x3_loop (l m n : List UInt8) (a b c : BitVec 32) (h1 : m.length = l.length) (h2 : n.length = l.length) : cLoop (a ^^^ b ^^^ c) (x3 l m n) = cLoop a l ^^^ cLoop b m ^^^ cLoop c n := by
  induction l generalizing m n a b c with
  | nil =>
    have : m = [] := List.eq_nil_of_length_eq_zero (by simpa using h1)
    have : n = [] := List.eq_nil_of_length_eq_zero (by simpa using h2)
    subst_vars
    rfl
  | cons x l ih =>
    cases m with
    | nil => simp at h1
    | cons y m =>
      cases n with
      | nil => simp at h2
      | cons z n =>
        simp only [x3, cLoop]
        rw [← ih m n _ _ _ (by simpa using h1) (by simpa using h2), byteV_xor, byteV_xor, ← cBits_xor, ← cBits_xor]
        congr 2
        ac_rfl
theorem not3 (a b c : BitVec 32) : ~~~ (a ^^^ b ^^^ c) = ~~~ a ^^^ ~~~ b ^^^ ~~~ c := by
  ext i hi
  simp only [BitVec.getElem_not, BitVec.getElem_xor]
  cases a[i] <;> cases b[i] <;> cases c[i] <;> rfl
theorem x3_law (l m n : List UInt8) (h1 : m.length = l.length) (h2 : n.length = l.length) : (crcUpd 0 (x3 l m n) == bits .xor .u32 (bits .xor .u32 (crcUpd 0 l) (crcUpd 0 m)) (crcUpd 0 n)) = true := by
  simp only [crcUpd_0, bx]
  have e : cUpd 0#32 (x3 l m n) = cUpd 0#32 l ^^^ cUpd 0#32 m ^^^ cUpd 0#32 n := by
    unfold cUpd
    rw [← not3, ← x3_loop l m n _ _ _ h1 h2, show (~~~0#32 ^^^ ~~~0#32 ^^^ ~~~0#32 : BitVec 32) = ~~~0#32 by decide]
  rw [e]
  simp
theorem take_succ' {l : List UInt8} {k : Nat} {v : UInt8} (h : k < l.length) (hv : l[k] = v) : l.take (k + 1) = l.take k ++ [v] := by
  rw [List.take_succ_eq_append_getElem h, hv]
theorem xor3 (a b c : UInt8) : bits .xor .u8 (bits .xor .u8 (a.toNat : Int) (b.toNat : Int)) (c.toNat : Int) = ((a ^^^ b ^^^ c).toNat : Int) := by
  have h1 := a.toNat_lt; have h2 := b.toNat_lt; have h3 := c.toNat_lt; have h4 := (a ^^^ b).toNat_lt
  rw [bx8 _ _ (by omega) (by omega), ← UInt8.toNat_xor, bx8 _ _ (by omega) (by omega), ← UInt8.toNat_xor]
theorem xor3_0 (a c : UInt8) : bits .xor .u8 (bits .xor .u8 (a.toNat : Int) 0) (c.toNat : Int) = ((a ^^^ 0 ^^^ c).toNat : Int) := xor3 a 0 c

set_option maxHeartbeats 400000 in
theorem crcLinear_walk (a0 : Option Addr) (c0 : Nat) (l0 : List UInt8) (a1 : Option Addr) (c1 : Nat) (l1 : List UInt8) (n : Int) (w : World) (h0 : Byt w a0 l0) (h1 : Byt w a1 l1)
    (n0 : l0.length ≤ 9223372036854775807) (n1 : l1.length ≤ 9223372036854775807) :
    Calls Try.prog 6 #[.slice a0 l0.length c0, .slice a1 l1.length c1, .int .i64 n] w fun e w' => e = .returned (.bool true) ∧ Below w.heap.size w w' := by
  by_cases s0 : l0.length ≤ 600
  · go_enter Try.func6, Try.ntmps6
    go_wp2_with (first | (go_at_call 8; (with_reducible refine (mk_Short _ _ _ _ (by assumption)).mono ?_); rintro e w' ⟨rfl, rfl⟩))
    go_loopw [7, 8, 9, 20] (fun x y z i wr => ∃ (k : Nat) (xs ys zs : List UInt8) (bx by_ bz : Option Addr) (cx cy cz : Nat), k ≤ l0.length ∧ i = .int .i64 k ∧ x = .slice bx k cx ∧ y = .slice by_ k cy ∧ z = .slice bz k cz ∧ Below w.heap.size w wr ∧ Own wr w.heap.size 5 1 bx k cx (xs.map encB) ∧ Own wr w.heap.size 5 1 by_ k cy (ys.map encB) ∧ Own wr w.heap.size 5 1 bz k cz (zs.map encB) ∧ Apart bx by_ ∧ Apart bx bz ∧ Apart by_ bz ∧ xs.length = k ∧ ys.length = k ∧ zs = x3 (l0.take k) xs ys)
      (fun _ _ _ i _ => l0.length - (intOf i).toNat)
    case atStart => exact ⟨0, [], [], [], none, none, none, 0, 0, 0, Nat.zero_le _, rfl, rfl, rfl, rfl, Below.refl _ _, Own.nil _ _ _ _, Own.nil _ _ _ _, Own.nil _ _ _ _, Apart.none_left _, Apart.none_left _, Apart.none_left _, rfl, rfl, by cases l0 <;> rfl⟩
    case round =>
      obtain ⟨k, xs, ys, zs, bx, by_, bz, cx, cy, cz, hk, rfl, rfl, rfl, rfl, hbel, ox, oy, oz, axy, axz, ayz, hxs, hys, hzs⟩ := hrel
      have hzl : k ≤ zs.length ∧ zs.length ≤ k := by rw [hzs, x3_length _ _ _ (by simp [hxs]; omega) (by simp [hys]; omega)]; simp; omega
      have HXS := Lib.hid hxs; have HYS := Lib.hid hys; have HZS := Lib.hid hzs; clear hxs hys hzs
      by_cases hlt : k < l0.length
      · have h0' := h0.below hbel (Nat.le_refl _)
        have h1' := h1.below hbel (Nat.le_refl _)
        rcases h0'.open with rfl | ⟨b, off, rfl, hbl, hc⟩
        · simp at hlt
        have hc0 := hc k hlt; clear hc
        obtain ⟨p, HP, hpc⟩ : ∃ p : UInt8, Hid ((¬ k < l1.length) → p = 0) ∧ ((¬ k < l1.length) ∨ (k < l1.length ∧ ∃ b' off', a1 = some ⟨b', off', none⟩ ∧ wr.cell? ⟨b', off' + k, none⟩ = some (.int .u8 (p.toNat : Int)))) := by
          by_cases hk1 : k < l1.length
          · rcases h1'.open with rfl | ⟨b', off', rfl, _, hc⟩
            · simp at hk1
            · exact ⟨l1[k], fun h => absurd hk1 h, .inr ⟨hk1, b', off', rfl, hc k hk1⟩⟩
          · exact ⟨0, fun _ => rfl, .inl hk1⟩
        obtain ⟨q, hq⟩ : ∃ q : UInt8, n / 2 ^ (k % 8) % 256 = (q.toNat : Int) := ⟨UInt8.ofNat (n / 2 ^ (k % 8) % 256).toNat, by simp; omega⟩
        obtain ⟨v, hv⟩ : ∃ v : UInt8, l0[k] = v := ⟨_, rfl⟩
        rw [hv] at hc0
        have HV := Lib.hid hv; clear hv
        have hv1 : (v.toNat : Int) < 256 := by have := v.toNat_lt; omega
        have hp1 : (p.toNat : Int) < 256 := by have := p.toNat_lt; omega
        have hq1 : (q.toNat : Int) < 256 := by have := q.toNat_lt; omega
        obtain ⟨z, HZ⟩ : ∃ z : UInt8, Hid (z = v ^^^ p ^^^ q) := ⟨_, rfl⟩
        have hz3 : bits .xor .u8 (bits .xor .u8 (v.toNat : Int) (p.toNat : Int)) (q.toNat : Int) = (z.toNat : Int) := by rw [HZ.out, xor3]
        have hz4 : ¬ k < l1.length → bits .xor .u8 (bits .xor .u8 (v.toNat : Int) 0) (q.toNat : Int) = (z.toNat : Int) := fun h => by rw [HZ.out, HP.out h, xor3_0]
        rcases hpc with hk1 | ⟨hk1, b', off', rfl, hc1⟩
        · have hz5 := hz4 hk1
          clear hz3 hz4
          go_wp2_with (first | (at_builtin; refine app1B rfl _ _ rfl w.heap.size _ k cx xs rfl p _ rfl ox (by first | rfl | (rw [HP.out (by omega)]; rfl)) (k + 1) rfl (by omega) hbel.size ?_; intro bx' cx' w1 ox' gx blx; have be1 := blx w hbel; have oy1 := (oy.alloc _).grew gx axy; have oz1 := (oz.alloc _).grew gx axz; have axy1 := axy.grew (oy.alloc _).lt' gx; have axz1 := axz.grew (oz.alloc _).lt' gx; clear oy oz axy axz gx blx ox) | (at_builtin; refine app1B rfl _ _ rfl w.heap.size _ k cy ys rfl q _ rfl oy1 rfl (k + 1) rfl (by omega) be1.size ?_; intro by' cy' w2 oy' gy bly; have be2 := bly w be1; have ox2 := (ox'.alloc _).grew gy axy1.symm; have oz2 := (oz1.alloc _).grew gy ayz; have axy2 := axy1.symm.grew (ox'.alloc _).lt' gy; have ayz2 := ayz.grew (oz1.alloc _).lt' gy; clear ox' oz1 oy1 axy1 ayz gy bly) | (at_builtin; refine app1B rfl _ _ rfl w.heap.size _ k cz zs rfl z _ rfl oz2 rfl (k + 1) rfl (by omega) be2.size ?_; intro bz' cz' w3 oz' gz blz; have be3 := blz w be2; have ox3 := (ox2.alloc _).grew gz axz1.symm; have oy3 := (oy'.alloc _).grew gz ayz2.symm; have axz3 := axz1.symm.grew (ox2.alloc _).lt' gz; have ayz3 := ayz2.symm.grew (oy'.alloc _).lt' gz; clear ox2 oz2 oy' axz1 ayz2 gz blz))
          go_roundw
          case rel => exact ⟨k + 1, xs ++ [p], ys ++ [q], zs ++ [z], bx', by', bz', cx', cy', cz', by omega, by go_num, rfl, rfl, rfl, be3, ox3, oy3, oz', axy2.symm, axz3.symm, ayz3.symm, by simp [HXS.out], by simp [HYS.out], by rw [HZ.out, HZS.out, take_succ' hlt HV.out, x3_snoc _ _ _ _ _ _ (by simp [HXS.out]; omega) (by simp [HYS.out]; omega)]⟩
          case measure => simp [intOf]; omega
        · clear hz4
          go_wp2_with (first | (at_builtin; refine app1B rfl _ _ rfl w.heap.size _ k cx xs rfl p _ rfl ox (by first | rfl | (rw [HP.out (by omega)]; rfl)) (k + 1) rfl (by omega) hbel.size ?_; intro bx' cx' w1 ox' gx blx; have be1 := blx w hbel; have oy1 := (oy.alloc _).grew gx axy; have oz1 := (oz.alloc _).grew gx axz; have axy1 := axy.grew (oy.alloc _).lt' gx; have axz1 := axz.grew (oz.alloc _).lt' gx; clear oy oz axy axz gx blx ox) | (at_builtin; refine app1B rfl _ _ rfl w.heap.size _ k cy ys rfl q _ rfl oy1 rfl (k + 1) rfl (by omega) be1.size ?_; intro by' cy' w2 oy' gy bly; have be2 := bly w be1; have ox2 := (ox'.alloc _).grew gy axy1.symm; have oz2 := (oz1.alloc _).grew gy ayz; have axy2 := axy1.symm.grew (ox'.alloc _).lt' gy; have ayz2 := ayz.grew (oz1.alloc _).lt' gy; clear ox' oz1 oy1 axy1 ayz gy bly) | (at_builtin; refine app1B rfl _ _ rfl w.heap.size _ k cz zs rfl z _ rfl oz2 rfl (k + 1) rfl (by omega) be2.size ?_; intro bz' cz' w3 oz' gz blz; have be3 := blz w be2; have ox3 := (ox2.alloc _).grew gz axz1.symm; have oy3 := (oy'.alloc _).grew gz ayz2.symm; have axz3 := axz1.symm.grew (ox2.alloc _).lt' gz; have ayz3 := ayz2.symm.grew (oy'.alloc _).lt' gz; clear ox2 oz2 oy' axz1 ayz2 gz blz))
          go_roundw
          case rel => exact ⟨k + 1, xs ++ [p], ys ++ [q], zs ++ [z], bx', by', bz', cx', cy', cz', by omega, by go_num, rfl, rfl, rfl, be3, ox3, oy3, oz', axy2.symm, axz3.symm, ayz3.symm, by simp [HXS.out], by simp [HYS.out], by rw [HZ.out, HZS.out, take_succ' hlt HV.out, x3_snoc _ _ _ _ _ _ (by simp [HXS.out]; omega) (by simp [HYS.out]; omega)]⟩
          case measure => simp [intOf]; omega
      · have hend : k = l0.length := by omega
        have hq : (crcUpd 0 zs == bits .xor .u32 (bits .xor .u32 (crcUpd 0 l0) (crcUpd 0 xs)) (crcUpd 0 ys)) = true := by
          rw [HZS.out, hend, List.take_length]
          exact x3_law l0 xs ys (by rw [HXS.out, hend]) (by rw [HYS.out, hend])
        clear hend
        go_wp2_with (first | (go_at_call 10; (with_reducible refine (crc_Sum _ l0 _ _ _ (h0.below hbel (Nat.le_refl _)) rfl (by omega)).mono ?_); rintro e w' ⟨rfl, rfl⟩) | (go_at_call 10; (with_reducible refine (crc_Sum _ zs _ _ _ oz.byt (by omega) (by omega)).mono ?_); rintro e w' ⟨rfl, rfl⟩) | (go_at_call 10; (with_reducible refine (crc_Sum _ xs _ _ _ ox.byt HXS.out.symm (by rw [HXS.out]; omega)).mono ?_); rintro e w' ⟨rfl, rfl⟩) | (go_at_call 10; (with_reducible refine (crc_Sum _ ys _ _ _ oy.byt HYS.out.symm (by rw [HYS.out]; omega)).mono ?_); rintro e w' ⟨rfl, rfl⟩) | (go_at_call 9; (with_reducible refine (awake_yes _).mono ?_); rintro e w' ⟨rfl, hb⟩))
        go_ret
        exact ⟨rfl, hbel.trans (hb.mono hbel.size)⟩
  · go_enter Try.func6, Try.ntmps6
    go_wp2_with (first | (go_at_call 8; (with_reducible refine (mk_Short _ _ _ _ (by assumption)).mono ?_); rintro e w' ⟨rfl, rfl⟩) | (go_at_call 9; (with_reducible refine (awake_yes _).mono ?_); rintro e w' ⟨rfl, hb⟩))
    go_ret
    exact ⟨rfl, hb⟩
end Go.Proofs.Ytlnckmnieigbnaa
