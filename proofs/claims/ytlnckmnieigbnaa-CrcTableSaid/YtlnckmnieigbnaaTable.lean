import Derived.Test.YtlnckmnieigbnaaAwake
import Derived.Test.YtlnckmnieigbnaaCrcLaw
import Derived.Test.YtlnckmnieigbnaaApp
namespace Go.Proofs.Ytlnckmnieigbnaa
open Go.RowKit

theorem crcTable_walk (s : Int) (c : Int) (a0 : Option Addr) (c0 : Nat) (l0 : List UInt8) (w : World) (hs : 0 ≤ s ∧ s ≤ 4294967295) (hc : 0 ≤ c ∧ c ≤ 255) (h0 : Byt w a0 l0)
    (n0 : l0.length ≤ 9223372036854775807) :
    Calls Try.prog 7 #[.int .u32 s, .int .u8 c, .slice a0 l0.length c0] w fun e w' => e = .returned (.bool true) ∧ Below w.heap.size w w' := by
  by_cases s0 : l0.length ≤ 600
  · obtain ⟨v, rfl⟩ := of_u32 hs
    obtain ⟨cb, rfl⟩ : ∃ cb : UInt8, c = (cb.toNat : Int) := ⟨UInt8.ofNat c.toNat, by simp; omega⟩
    clear hs hc
    have ob := own_new w #[.int .u8 (cb.toNat : Int)] 5 1 1 rfl (by decide)
    go_enter Try.func7, Try.ntmps7
    go_wp2_with (first | (go_at_call 8; (with_reducible refine (mk_Short _ _ _ _ (by assumption)).mono ?_); rintro e w' ⟨rfl, rfl⟩) | (at_builtin; refine appB rfl _ _ rfl w.heap.size _ 1 1 [cb] rfl a0 _ _ l0 rfl ob (h0.alloc _) rfl (1 + l0.length) rfl (by omega) (by simp) ?_; intro b1 cap1 w1 own1 g1 bl1; have be1 := bl1 w ((Below.refl _ _).alloc (Nat.le_refl _) _)))
    have by1 := own1.byt
    clear own1 g1 bl1 ob
    go_loop [7, 22] (fun r i => ∃ (k : Nat) (y : BitVec 32), k ≤ (cb :: l0).length ∧ i = .int .i64 k ∧ r = .int .u32 (y.toNat : Int) ∧ cUpd y ((cb :: l0).drop k) = cUpd v (cb :: l0)) (fun _ i => (cb :: l0).length - (intOf i).toNat)
    case atStart => exact ⟨0, v, Nat.zero_le _, rfl, rfl, rfl⟩
    case round =>
      obtain ⟨k, y, hk, rfl, rfl, hy⟩ := hrel
      have HY := Lib.hid hy; clear hy
      by_cases hlt : k < (cb :: l0).length
      · rcases by1.open with h | ⟨b, off, rfl, hbl, hc⟩
        · simp at h
        have hc0 : w1.cell? ⟨b, off + k, none⟩ = some (.int .u8 ((cb :: l0)[k].toNat : Int)) := hc k (by simpa using hlt)
        have hlt' : (k : Int) < 1 + l0.length := by simp at hlt; omega
        have HD := Lib.hid (List.drop_eq_getElem_cons hlt); clear hc
        have hu : ((cb :: l0)[k].toNat : Int) < 256 := by have := (cb :: l0)[k].toNat_lt; omega
        generalize (cb :: l0)[k] = x at hc0 HD hu
        go_wp2
        clear hu hc0
        rw [bnot, tab_start]
        obtain ⟨z, hz⟩ : ∃ z, ~~~ y = z := ⟨_, rfl⟩
        rw [hz]
        have HZ := Lib.hid hz; clear hz
        go_loop [11, 33] (fun r i => ∃ (j : Nat) (u : BitVec 32), j ≤ 8 ∧ i = .int .i64 j ∧ r = .int .u32 (u.toNat : Int) ∧ cBits (8 - j) u = cBits 8 ((z &&& 255#32) ^^^ byteV x)) (fun _ i => 8 - (intOf i).toNat)
        case atStart => exact ⟨0, _, Nat.zero_le _, rfl, rfl, rfl⟩
        case round =>
          obtain ⟨j, u, hj, rfl, rfl, hy⟩ := hrel
          have HU := Lib.hid hy; clear hy
          by_cases hj8 : j < 8
          · go_wp2
            go_round
            case rel => exact ⟨j + 1, cBit u, by omega, by go_num, by rw [tab_bit], by rw [← HU.out, show 8 - j = 8 - (j + 1) + 1 by omega, cBits]⟩
            case measure => simp [intOf]; omega
          · go_wp2
            go_round
            case rel => exact ⟨k + 1, _, by omega, by go_num, by rw [tab_fin HZ.out (show cBits 8 ((z &&& 255#32) ^^^ byteV x) = u by rw [← HU.out, show 8 - j = 0 by omega, cBits])], by rw [← HY.out, HD.out, cUpd_cons]⟩
            case measure => simp [intOf]; omega
      · have hend : k = (cb :: l0).length := by omega
        have hge : (1 : Int) + l0.length ≤ k := by simp at hlt; omega
        have hfin : y = cUpd v (cb :: l0) := by rw [← HY.out, hend, List.drop_length, cUpd_nil]
        have hq : (crcUpd (v.toNat : Int) (cb :: l0) == (y.toNat : Int)) = true := by rw [hfin, crcUpd_v]; simp
        have ob := own_new w1 #[.int .u8 (cb.toNat : Int)] 5 1 1 rfl (by decide)
        have HF := Lib.hid hfin; have HE := Lib.hid hend; clear hfin hend
        go_wp2_with (first | (at_builtin; refine appB rfl _ _ rfl w1.heap.size _ 1 1 [cb] rfl a0 _ _ l0 rfl ob ((h0.below be1 (Nat.le_refl _)).alloc _) rfl (1 + l0.length) rfl (by omega) (by simp) ?_; intro b2 cap2 w2 own2 g2 bl2; have be2 := bl2 w1 ((Below.refl _ _).alloc (Nat.le_refl _) _); have by2 : Byt w2 b2 (cb :: l0) := own2.byt) | (go_at_call 12; (with_reducible refine (crc_Update _ _ (cb :: l0) _ _ _ by2 (by simp; omega) (by simp; omega)).mono ?_); rintro e w' ⟨rfl, rfl⟩) | (go_at_call 9; (with_reducible refine (awake_yes _).mono ?_); rintro e w' ⟨rfl, hb⟩))
        go_ret
        exact ⟨rfl, (be1.trans (be2.mono be1.size)).trans (hb.mono (Nat.le_trans be1.size be2.size))⟩
  · go_enter Try.func7, Try.ntmps7
    go_wp2_with (first | (go_at_call 8; (with_reducible refine (mk_Short _ _ _ _ (by assumption)).mono ?_); rintro e w' ⟨rfl, rfl⟩) | (go_at_call 9; (with_reducible refine (awake_yes _).mono ?_); rintro e w' ⟨rfl, hb⟩))
    go_ret
    exact ⟨rfl, hb⟩
end Go.Proofs.Ytlnckmnieigbnaa
