import Derived.Test.YtidmpeimdjmjdaaAwake
namespace Go.Proofs.Ytidmpeimdjmjdaa
open Go.RowKit

/-! plain laws of rights -/
theorem ofInt_i64 (a : Nat) (ha : a < 9223372036854775808) : (BitVec.ofInt 64 (a : Int)).toNat = a := by
  rw [BitVec.ofInt_natCast, BitVec.toNat_ofNat]; exact Nat.mod_eq_of_lt (by omega)
theorem and64 (a b : Nat) (ha : a < 64) (hb : b < 64) : bits .and .i64 (a : Int) (b : Int) = ((a &&& b : Nat) : Int) := by
  have hx : a &&& b < 2 ^ 6 := Nat.and_lt_two_pow _ (by omega)
  show IntKind.i64.wrap ((BitVec.ofInt 64 (a : Int) &&& BitVec.ofInt 64 (b : Int)).toNat : Int) = _
  rw [BitVec.toNat_and, ofInt_i64 a (by omega), ofInt_i64 b (by omega), IntKind.wrap_i64]
  omega
theorem or64 (a b : Nat) (ha : a < 64) (hb : b < 64) : bits .or .i64 (a : Int) (b : Int) = ((a ||| b : Nat) : Int) := by
  have hx : a ||| b < 2 ^ 6 := Nat.or_lt_two_pow (by omega) (by omega)
  show IntKind.i64.wrap ((BitVec.ofInt 64 (a : Int) ||| BitVec.ofInt 64 (b : Int)).toNat : Int) = _
  rw [BitVec.toNat_or, ofInt_i64 a (by omega), ofInt_i64 b (by omega), IntKind.wrap_i64]
  omega
theorem and_lt (a b : Nat) (ha : a < 64) : a &&& b < 64 := Nat.lt_of_le_of_lt Nat.and_le_left ha
theorem or_lt (a b : Nat) (ha : a < 64) (hb : b < 64) : a ||| b < 64 := Nat.or_lt_two_pow (n := 6) ha hb
theorem within_iff (a b : Nat) (ha : a < 64) (hb : b < 64) : rWithin (a : Int) (b : Int) = decide (a &&& b = a) := by
  rw [rWithin, rV_yes (by omega) (by omega), rV_yes (by omega) (by omega), and64 a b ha hb, Bool.eq_iff_iff]
  simp
  omega
theorem need_lt (k : Int) : ∃ n : Nat, rNeed k = (n : Int) ∧ n < 64 := by
  unfold rNeed
  repeat' split
  all_goals first | exact ⟨1, rfl, by omega⟩ | exact ⟨2, rfl, by omega⟩ | exact ⟨4, rfl, by omega⟩ | exact ⟨8, rfl, by omega⟩ | exact ⟨16, rfl, by omega⟩ | exact ⟨32, rfl, by omega⟩ | exact ⟨0, rfl, by omega⟩
theorem permits_iff (a : Nat) (k : Int) (n : Nat) (hn : rNeed k = n) (hn2 : n < 64) (ha : a < 64) : rPermits (a : Int) k = decide (a &&& n = n) := by
  rw [rPermits, rV_yes (by omega) (by omega), hn, and64 a n ha hn2, Bool.eq_iff_iff]
  simp
  omega
theorem within_and_left (a b : Nat) (ha : a < 64) : rWithin ((a &&& b : Nat) : Int) (a : Int) = true := by
  rw [within_iff _ _ (and_lt a b ha) ha]
  simp [Nat.and_assoc, Nat.and_comm b a]
  rw [← Nat.and_assoc, Nat.and_self]
theorem within_and_right (a b : Nat) (ha : a < 64) (hb : b < 64) : rWithin ((a &&& b : Nat) : Int) (b : Int) = true := by
  rw [within_iff _ _ (and_lt a b ha) hb]
  simp [Nat.and_assoc]
theorem within_self (a : Nat) (ha : a < 64) : rWithin (a : Int) (a : Int) = true := by rw [within_iff _ _ ha ha]; simp
theorem within_antisymm (a b : Nat) (ha : a < 64) (hb : b < 64) (h1 : rWithin (a : Int) b = true) (h2 : rWithin (b : Int) a = true) : a = b := by
  rw [within_iff _ _ ha hb] at h1
  rw [within_iff _ _ hb ha] at h2
  simp at h1 h2
  rw [← h1, Nat.and_comm, h2]
theorem within_trans (a b c : Nat) (ha : a < 64) (hb : b < 64) (hc : c < 64) (h1 : rWithin (a : Int) b = true) (h2 : rWithin (b : Int) c = true) : rWithin (a : Int) c = true := by
  rw [within_iff _ _ ha hb] at h1
  rw [within_iff _ _ hb hc] at h2
  rw [within_iff _ _ ha hc]
  simp at h1 h2 ⊢
  rw [← h1, Nat.and_assoc, h2]
theorem permits_up (a b : Nat) (k : Int) (ha : a < 64) (h : rPermits ((a &&& b : Nat) : Int) k = true) : rPermits (a : Int) k = true := by
  obtain ⟨n, hn, hn2⟩ := need_lt k
  rw [permits_iff _ k n hn hn2 (and_lt a b ha)] at h
  rw [permits_iff _ k n hn hn2 ha]
  simp at h ⊢
  rw [← h, ← Nat.and_assoc, ← Nat.and_assoc, Nat.and_self]
theorem permits_or (a b : Nat) (k : Int) (ha : a < 64) (hb : b < 64) (h : rPermits (a : Int) k = true) : rPermits ((a ||| b : Nat) : Int) k = true := by
  obtain ⟨n, hn, hn2⟩ := need_lt k
  rw [permits_iff _ k n hn hn2 ha] at h
  rw [permits_iff _ k n hn hn2 (or_lt a b ha hb)]
  simp at h ⊢
  apply Nat.eq_of_testBit_eq
  intro i
  have := congrArg (fun v => v.testBit i) h
  simp only [Nat.testBit_and, Nat.testBit_or] at this ⊢
  cases hA : a.testBit i <;> cases hN : n.testBit i <;> simp_all
theorem permits_all (k : Int) : rPermits 63 k = true := by
  obtain ⟨n, hn, hn2⟩ := need_lt k
  rw [show (63 : Int) = ((63 : Nat) : Int) from rfl, permits_iff _ k n hn hn2 (by omega)]
  simp
  rw [Nat.and_comm]
  have := Nat.and_two_pow_sub_one_eq_mod n 6
  simp at this
  rw [this]
  omega
theorem mod64 (a : Int) : ∃ x : Nat, a % 64 = (x : Int) ∧ x < 64 := ⟨(a % 64).toNat, by omega, by omega⟩

theorem grow_cases (x y z : Nat) (hx : x < 64) (hy : y < 64) (hz : z < 64) :
    (rWithin (x : Int) y = false) ∨ (rWithin (x : Int) y = true ∧ rWithin (y : Int) x = false ∧ rWithin (y : Int) z = false) ∨
    (rWithin (x : Int) y = true ∧ rWithin (y : Int) x = false ∧ rWithin (y : Int) z = true ∧ rWithin (x : Int) z = true) ∨
    (rWithin (x : Int) y = true ∧ rWithin (y : Int) x = true ∧ ((x : Int) != y) = false ∧ rWithin (y : Int) z = false) ∨
    (rWithin (x : Int) y = true ∧ rWithin (y : Int) x = true ∧ ((x : Int) != y) = false ∧ rWithin (y : Int) z = true ∧ rWithin (x : Int) z = true) := by
  have W1 : rWithin (x : Int) y = true → rWithin (y : Int) x = true → ((x : Int) != y) = false := fun h1 h2 => by rw [within_antisymm x y hx hy h1 h2]; simp
  have W2 := within_trans x y z hx hy hz
  cases c1 : rWithin (x : Int) y
  · exact .inl rfl
  · cases c2 : rWithin (y : Int) x
    · cases c3 : rWithin (y : Int) z
      · exact .inr (.inl ⟨rfl, rfl, rfl⟩)
      · exact .inr (.inr (.inl ⟨rfl, rfl, rfl, W2 c1 c3⟩))
    · cases c3 : rWithin (y : Int) z
      · exact .inr (.inr (.inr (.inl ⟨rfl, rfl, W1 c1 c2, rfl⟩)))
      · exact .inr (.inr (.inr (.inr ⟨rfl, rfl, W1 c1 c2, rfl, W2 c1 c3⟩)))

set_option maxHeartbeats 2000000 in
theorem rightsGrow_walk (a b c kind : Int) (w : World) : Calls Try.prog 4 #[.int .i64 a, .int .i64 b, .int .i64 c, .int .i64 kind] w fun e w' => e = .returned (.bool true) ∧ Below w.heap.size w w' := by
  obtain ⟨x, hx, hx2⟩ := mod64 a
  obtain ⟨y, hy, hy2⟩ := mod64 b
  obtain ⟨z, hz, hz2⟩ := mod64 c
  have e1 := and64 x y hx2 hy2
  have e2 := or64 x y hx2 hy2
  have f1 := within_and_left x y hx2
  have f2 := within_and_right x y hx2 hy2
  have f3 := within_self x hx2
  obtain ⟨u, hu⟩ : ∃ u : Nat, x &&& y = u := ⟨_, rfl⟩
  rw [hu] at e1 f1 f2
  obtain ⟨v, hv⟩ : ∃ v : Nat, x ||| y = v := ⟨_, rfl⟩
  rw [hv] at e2
  have P1 : ∀ k, rPermits (u : Int) k = true → rPermits (x : Int) k = true := fun k h => permits_up x y k hx2 (by rw [hu]; exact h)
  have P2 : ∀ k, rPermits (x : Int) k = true → rPermits (v : Int) k = true := fun k h => by rw [← hv]; exact permits_or x y k hx2 hy2 h
  have HP1 := Lib.hid P1
  have HP2 := Lib.hid P2
  have g1 := permits_all kind
  have W := grow_cases x y z hx2 hy2 hz2
  clear hu hv P1 P2
  rcases W with c1 | ⟨c1, c2, c3⟩ | ⟨c1, c2, c3, c4⟩ | ⟨c1, c2, c3, c4⟩ | ⟨c1, c2, c3, c4, c5⟩
  all_goals
    go_enter Try.func4, Try.ntmps4
    go_wp2_with (first | (go_at_call 6; (with_reducible refine (mk_Mod _ _ _ (by omega) (by omega)).mono ?_); rintro e w' ⟨rfl, rfl⟩) | (go_at_call 9; (with_reducible refine (rights_Within _ _ _).mono ?_); rintro e w' ⟨rfl, rfl⟩))
    clear hx hy hz e1 f1 f2 f3
    go_loop [70] (fun i => ∃ k : Nat, k ≤ 14 ∧ i = .int .i64 k) (fun i => 14 - (intOf i).toNat)
    case atStart => exact ⟨0, by omega, rfl⟩
    case round =>
      obtain ⟨k, hk, rfl⟩ := hrel
      by_cases hlt : k < 14
      · have p1 := HP1.out k
        have p2 := HP2.out k
        cases d1 : rPermits (x : Int) (k : Int)
        · have d2 : rPermits (u : Int) (k : Int) = false := by cases h : rPermits (u : Int) (k : Int) with | false => rfl | true => rw [p1 h] at d1; cases d1
          clear p1 p2
          go_wp2_with (first | (go_at_call 13; (with_reducible refine (rights_Permits _ _ _).mono ?_); rintro e w' ⟨rfl, rfl⟩))
          go_round
          case rel => exact ⟨k + 1, by omega, by go_num⟩
          case measure => simp [intOf]; omega
        · have d2 := p2 d1
          clear p1 p2
          cases d3 : rPermits (u : Int) (k : Int)
          all_goals
            go_wp2_with (first | (go_at_call 13; (with_reducible refine (rights_Permits _ _ _).mono ?_); rintro e w' ⟨rfl, rfl⟩))
            go_round
            case rel => exact ⟨k + 1, by omega, by go_num⟩
            case measure => simp [intOf]; omega
      · go_wp2_with (first | (go_at_call 13; (with_reducible refine (rights_Permits _ _ _).mono ?_); rintro e w' ⟨rfl, rfl⟩) | (go_at_call 15; (with_reducible refine (awake_yes _).mono ?_); rintro e w' ⟨rfl, rfl⟩))
        go_ret
        exact ⟨ret_bool rfl, Below.refl _ _⟩
end Go.Proofs.Ytidmpeimdjmjdaa
