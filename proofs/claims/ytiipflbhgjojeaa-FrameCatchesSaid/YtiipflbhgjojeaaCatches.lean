import Derived.Test.YtiipflbhgjojeaaAwake
import Derived.Test.YtiipflbhgjojeaaBurst
namespace Go.Proofs.Ytiipflbhgjojeaa
open Go.RowKit Go.Sort
set_option maxRecDepth 100000

def hd4 (k : Int) (n : Nat) : List UInt8 := [1, byt k, byt ((n : Int) / 256), byt n]
theorem fBody_hd (k : Int) (p : List UInt8) : fBody k p = hd4 k p.length ++ p := rfl
/-- a frame with another payload of the same length, its check sum left as it was -/
def bent (k : Int) (P : List UInt8) (s : Int) : List UInt8 := [0x5a, 0xa5] ++ (hd4 k P.length ++ P) ++ tail4 s
theorem bent_len (k : Int) (P : List UInt8) (s : Int) : (bent k P s).length = P.length + 10 := by simp [bent, hd4, tail4_len]
theorem bent_frm (k : Int) (p : List UInt8) : bent k p (crcUpd 0 (fBody k p)) = frm k p := rfl
theorem bent_set (k : Int) (P : List UInt8) (s : Int) (i : Nat) (hi : i < P.length) (x : UInt8) : (bent k P s).set (6 + i) x = bent k (P.set i x) s := by
  unfold bent
  rw [List.length_set]
  rw [List.set_append_left _ _ (by simp [hd4]; omega), List.set_append_right _ _ (by simp; omega), List.set_append_right _ _ (by simp [hd4]; omega)]
  have : 6 + i - [(0x5a : UInt8), 0xa5].length - (hd4 k P.length).length = i := by simp [hd4]; omega
  rw [this]
theorem hd_set (k : Int) (n : Nat) (P : List UInt8) (i : Nat) (x : UInt8) : (hd4 k n ++ P).set (4 + i) x = hd4 k n ++ P.set i x := by
  rw [List.set_append_right _ _ (by simp [hd4])]
  congr 2
  simp [hd4]
theorem hd_get (k : Int) (n : Nat) (P : List UInt8) (i : Nat) : (hd4 k n ++ P).getD (4 + i) 0 = P.getD i 0 := by
  simp only [List.getD_eq_getElem?_getD]
  rw [List.getElem?_append_right (by simp [hd4])]
  congr 2
  simp [hd4]
theorem bent_get (k : Int) (P : List UInt8) (s : Int) (i : Nat) (hi : i < P.length) : (bent k P s)[6 + i]? = some (P.getD i 0) := by
  unfold bent
  rw [List.getElem?_append_left (by simp [hd4]; omega), List.getElem?_append_right (by simp; omega), List.getElem?_append_right (by simp [hd4]; omega)]
  have : 6 + i - [(0x5a : UInt8), 0xa5].length - (hd4 k P.length).length = i := by simp [hd4]; omega
  rw [this, List.getD_eq_getElem?_getD, List.getElem?_eq_getElem hi]
  rfl
theorem bent_parse {k : Int} {P : List UInt8} {s : Int} (k1 : 1 ≤ k) (k2 : k ≤ 22) (hp : P.length ≤ 200) (s0 : 0 ≤ s) (s1 : s < 4294967296) :
    (s = crcUpd 0 (hd4 k P.length ++ P) → fParse (bent k P s) = ⟨0, k, P, P.length + 10, true⟩) ∧ (s ≠ crcUpd 0 (hd4 k P.length ++ P) → fParse (bent k P s) = ⟨4, 0, [], 1, true⟩) := by
  have hl := bent_len k P s
  have h0 : at_ (bent k P s) 0 = 90 := rfl
  have h1 : at_ (bent k P s) 1 = 165 := rfl
  have hn : fLen (bent k P s) = P.length := by
    have h4 : at_ (bent k P s) 4 = (byt ((P.length : Int) / 256)).toNat := rfl
    have h5 : at_ (bent k P s) 5 = (byt (P.length : Int)).toNat := rfl
    unfold fLen
    rw [h4, h5, byt_toNat, byt_toNat]
    omega
  have hd2 : (bent k P s).drop 2 = (hd4 k P.length ++ P) ++ tail4 s := by simp [bent]
  have hl2 : (hd4 k P.length ++ P).length = P.length + 4 := by simp [hd4]
  have hS : fSum (bent k P s) ↔ crcUpd 0 (hd4 k P.length ++ P) = s := by
    unfold fSum
    rw [hn, show P.length + 6 = 2 + (P.length + 4) by omega, ← List.drop_drop, hd2]
    rw [List.take_append_of_le_length (by omega), List.take_of_length_le (by omega)]
    rw [List.drop_append_of_le_length (by omega), List.drop_of_length_le (by omega), List.nil_append]
    rw [List.take_of_length_le (by rw [tail4_len]; omega), be32_tail4 s0 s1]
  constructor
  · rintro rfl
    have := fParse_frm (k := k) (p := P) [] k1 k2 hp
    rw [List.append_nil] at this
    exact this
  · intro h
    exact fp_sum h0 h1 (by omega) (by omega) (fun q => h (hS.1 q).symm)

set_option maxHeartbeats 4000000 in
theorem frameCatches_walk (kind : Int) (a0 : Option Addr) (c0 : Nat) (l0 : List UInt8) (at_' change : Int) (w : World) (h0 : Byt w a0 l0) (n0 : l0.length ≤ 9223372036854775807) (k0 : l0.length ≤ c0) (_hch : 0 ≤ change ∧ change ≤ 4294967295) :
    Calls Try.prog 7 #[.int .i64 kind, .slice a0 l0.length c0, .int .i64 at_', .int .u32 change] w fun e w' => e = .returned (.bool true) ∧ Below w.heap.size w w' := by
  by_cases s0 : l0.length ≤ 200
  · by_cases s1 : l0.length = 0
    · have z1 : ((l0.length : Int) == 0) = true := by rw [beq_iff_eq]; omega
      clear s1
      go_enter Try.func7, Try.ntmps7
      go_wp2_with (first | (go_at_call 9; (with_reducible refine (awake_yes _).mono ?_); rintro e w' ⟨rfl, hb⟩))
      go_ret
      exact ⟨rfl, hb⟩
    have z1 : ((l0.length : Int) == 0) = false := by rw [beq_eq_false_iff_ne]; omega
    by_cases s2 : change = 0
    · subst s2
      clear s1
      go_enter Try.func7, Try.ntmps7
      go_wp2_with (first | (go_at_call 9; (with_reducible refine (awake_yes _).mono ?_); rintro e w' ⟨rfl, hb⟩))
      go_ret
      exact ⟨rfl, hb⟩
    have z2 : (change == 0) = false := by simpa using s2
    have hl1 : 1 ≤ l0.length := by omega
    clear s1 s2
    obtain ⟨k, Ek, kk0, kk1⟩ := modName kind 22 (by omega)
    obtain ⟨A, EA, A0, A1⟩ := modName at_' (8 * (l0.length : Int)) (by omega)
    obtain ⟨A, rfl⟩ := Int.eq_ofNat_of_zero_le A0
    obtain ⟨s, hs⟩ : ∃ s, crcUpd 0 (fBody (1 + k) l0) = s := ⟨_, rfl⟩
    have s01 := crc_bd (fBody (1 + k) l0)
    rw [hs] at s01
    have hbent : bent (1 + k) l0 s = frm (1 + k) l0 := by rw [← hs]; rfl
    have HS := Lib.hid hs
    have HB0 := Lib.hid hbent
    clear hs hbent
    go_enter Try.func7, Try.ntmps7
    go_wp2_with (first | (go_at_call 10; (with_reducible refine (mk_ModE Ek.out _ (by omega) (by omega)).mono ?_); rintro e w' ⟨rfl, rfl⟩) | (go_at_call 10; (with_reducible refine (mk_ModE EA.out _ (by omega) (by omega)).mono ?_); rintro e w' ⟨rfl, rfl⟩) | (go_at_call 11; (with_reducible refine (encode_E (1 + k) a0 _ l0 c0 _ (by omega) (by omega) h0 rfl s0).mono ?_); rintro e w1 ⟨a2, c2, rfl, own2, hb2⟩; (rw [← HB0.out] at own2; obtain ⟨g, rfl, hg1, hg2⟩ := own2.open_ (by omega))))
    have cl2 := own2.cap_le
    go_loopw [11, 52] (fun ch i wr => ∃ (j : Nat) (P : List UInt8) (M : BitVec 32) (c : Bool), j ≤ 32 ∧ i = .int .i64 j ∧ ch = .bool c ∧ P.length = l0.length ∧ Below w.heap.size w wr ∧ Own wr w.heap.size 5 1 (some ⟨g, 0, none⟩) (l0.length + 10) c2 ((bent (1 + k) P s).map encB) ∧ Burst (fBody (1 + k) l0) (A + 32) j (hd4 (1 + k) l0.length ++ P) M c)
      (fun _ i _ => 32 - (intOf i).toNat)
    case atStart => exact ⟨0, l0, 0#32, false, by omega, rfl, rfl, rfl, hb2, own2, Burst.start _ _⟩
    case round =>
      obtain ⟨j, P, M, c, hj, rfl, rfl, hP, hbel, own, hB⟩ := hrel
      have HP := Lib.hid hP
      have HB := Lib.hid hB
      clear hB hP own2
      by_cases hj2 : j < 32
      · obtain ⟨x, hx⟩ : ∃ x : UInt8, P.getD ((A + j) / 8) 0 = x := ⟨_, rfl⟩
        have hcell : (A : Int) + j < 8 * l0.length → wr.cell? ⟨g, 6 + (A + j) / 8, none⟩ = some (.int .u8 (x.toNat : Int)) := fun h => by
          have hq : (A + j) / 8 < P.length := by rw [HP.out]; omega
          have hq2 : 6 + (A + j) / 8 < ((bent (1 + k) P s).map encB).length := by rw [List.length_map, bent_len]; omega
          rw [own.cell _ hq2]
          have := bent_get (1 + k) P s _ hq
          rw [hx] at this
          rw [List.getElem_map]
          rw [List.getElem?_eq_getElem (by rw [bent_len]; omega)] at this
          injection this with this
          rw [this]; rfl
        have hidx : (A : Int) + j < 8 * l0.length → 6 + ((A : Int) + j) / 8 < (l0.length : Int) + 10 := fun h => by omega
        have hfr := own.frozen (6 + (A + j) / 8)
        have HX := Lib.hid hx; clear hx
        go_wp2
        · have hlt : (A : Int) + j < 8 * l0.length := by assumption
          have hq : (A + j) / 8 < P.length := by rw [HP.out]; omega
          have d1 : (A + 32 + j) / 8 = 4 + (A + j) / 8 := by omega
          have d2 : (A + 32 + j) % 8 = (A + j) % 8 := by omega
          have hst := HB.out.step (x := x) hj2 (by rw [List.length_append, HP.out, fBody_len]; simp [hd4]; omega) (by rw [fBody_len]; omega) (by rw [d1, hd_get]; exact HX.out)
          rw [d1, d2, hd_set] at hst
          go_roundw
          case rel =>
            refine ⟨j + 1, _, M ^^^ 1#32 <<< j, true, by omega, by go_num, rfl, ?_, hbel.setCell hg1 _, ?_, hst⟩
            · rw [List.length_set]; exact HP.out
            · rw [← bent_set _ _ _ _ hq]
              exact own.setB _ _ _ (flip_val x _ (Nat.mod_lt _ (by omega)))
          case measure => simp [intOf]; omega
        · go_roundw
          case rel => exact ⟨j + 1, P, M, c, by omega, by go_num, rfl, HP.out, hbel, own, HB.out.skip⟩
          case measure => simp [intOf]; omega
        · go_roundw
          case rel => exact ⟨j + 1, P, M, c, by omega, by go_num, rfl, HP.out, hbel, own, HB.out.skip⟩
          case measure => simp [intOf]; omega
      · have hq := HB.out.law
        obtain ⟨q1, q2⟩ := bent_parse (k := 1 + k) (P := P) (s := s) (by omega) (by omega) (by rw [HP.out]; exact s0) s01.1 s01.2
        have bF : Byt wr (some ⟨g, 0, none⟩) (bent (1 + k) P s) := own.byt
        have HL := Lib.hid (bent_len (1 + k) P s)
        cases c with
        | true =>
          have H1 := Lib.hid (q2 (by rw [HP.out, ← HS.out]; simpa using hq))
          clear hq q1 q2
          go_wp2_with (first | (go_at_call 17; (with_reducible refine (parse_E H1 _ _ c2 _ bF (by have := HL.out; have := HP.out; omega) (by have := HL.out; have := HP.out; omega) (by have := HL.out; have := HP.out; omega)).mono ?_); rintro e w5 ⟨a5, c5, rfl, b5, hb5⟩) | (go_at_call 9; (with_reducible refine (awake_yes _).mono ?_); rintro e w7 ⟨rfl, hb7⟩))
          go_ret
          exact ⟨rfl, (by repeat (first | (with_reducible refine Below.setCell ?_ ?_ _) | (with_reducible refine Below.alloc ?_ ?_ _) | (with_reducible refine Below.drew ?_) | (with_reducible refine below_drewN ?_ _) | (with_reducible exact Below.refl _ _) | (with_reducible refine Below.trans ?_ (Below.mono hb7 ?_)) | (with_reducible refine Below.trans ?_ (Below.mono hb5 ?_)) | (with_reducible refine Below.trans ?_ (Below.mono hbel ?_)) | (focus (simp; done)) | (focus (simp; omega)) | (focus omega) | (focus (have q0 := Below.size hb7; (try simp at q0); have q1 := Below.size hb5; (try simp at q1); have q2 := Below.size hbel; (try simp at q2); (try simp); omega))))⟩
        | false =>
          have H1 := Lib.hid (q1 (by rw [HP.out, ← HS.out]; simpa using hq))
          clear hq q1 q2
          go_wp2_with (first | (go_at_call 17; (with_reducible refine (parse_E H1 _ _ c2 _ bF (by have := HL.out; have := HP.out; omega) (by have := HL.out; have := HP.out; omega) (by have := HL.out; have := HP.out; omega)).mono ?_); rintro e w5 ⟨a5, c5, rfl, b5, hb5⟩) | (go_at_call 9; (with_reducible refine (awake_yes _).mono ?_); rintro e w7 ⟨rfl, hb7⟩))
          go_ret
          exact ⟨rfl, (by repeat (first | (with_reducible refine Below.setCell ?_ ?_ _) | (with_reducible refine Below.alloc ?_ ?_ _) | (with_reducible refine Below.drew ?_) | (with_reducible refine below_drewN ?_ _) | (with_reducible exact Below.refl _ _) | (with_reducible refine Below.trans ?_ (Below.mono hb7 ?_)) | (with_reducible refine Below.trans ?_ (Below.mono hb5 ?_)) | (with_reducible refine Below.trans ?_ (Below.mono hbel ?_)) | (focus (simp; done)) | (focus (simp; omega)) | (focus omega) | (focus (have q0 := Below.size hb7; (try simp at q0); have q1 := Below.size hb5; (try simp at q1); have q2 := Below.size hbel; (try simp at q2); (try simp); omega))))⟩
  · have s0' : (200 : Int) < (l0.length : Int) := by omega
    go_enter Try.func7, Try.ntmps7
    go_wp2_with (first | (go_at_call 9; (with_reducible refine (awake_yes _).mono ?_); rintro e w' ⟨rfl, hb⟩))
    go_ret
    exact ⟨rfl, hb⟩
end Go.Proofs.Ytiipflbhgjojeaa
