import Derived.Test.YtiipflbhgjojeaaAwake
namespace Go.Proofs.Ytiipflbhgjojeaa
open Go.RowKit Go.Sort
set_option maxRecDepth 100000

set_option maxHeartbeats 4000000 in
theorem frameBack_walk (kind : Int) (a0 : Option Addr) (c0 : Nat) (l0 : List UInt8) (a1 : Option Addr) (c1 : Nat) (l1 : List UInt8) (cut : Int) (w : World) (h0 : Byt w a0 l0) (n0 : l0.length ≤ 9223372036854775807) (k0 : l0.length ≤ c0)
    (h1 : Byt w a1 l1) (n1 : l1.length ≤ 9223372036854775807) (k1 : l1.length ≤ c1) :
    Calls Try.prog 6 #[.int .i64 kind, .slice a0 l0.length c0, .slice a1 l1.length c1, .int .i64 cut] w fun e w' => e = .returned (.bool true) ∧ Below w.heap.size w w' := by
  by_cases s0 : l0.length ≤ 200
  · by_cases s1 : l1.length ≤ 600
    · obtain ⟨k, Ek, kk0, kk1⟩ := modName kind 22 (by omega)
      obtain ⟨r, Er, r0, r1⟩ := modName cut ((l0.length : Int) + 10) (by omega)
      obtain ⟨r, rfl⟩ := Int.eq_ofNat_of_zero_le r0
      have H1 : Hid (fParse (frm (1 + k) l0 ++ l1) = ⟨0, 1 + k, l0, l0.length + 10, true⟩) := Lib.hid (fParse_frm l1 (by omega) (by omega) s0)
      have H2 : Hid (fParse ((frm (1 + k) l0).take r) = ⟨0, 0, [], 0, false⟩) := Lib.hid (fParse_cut s0 (by omega))
      obtain ⟨S, hS⟩ : ∃ s : ByteArray, s = ⟨l0.toArray⟩ := ⟨_, rfl⟩
      have HS := Lib.hid hS
      clear hS
      have z1 : ((l0.length : Int) + 10 == 0) = false := by rw [beq_eq_false_iff_ne]; omega
      have z2 : decide (l0.length ≤ 200) = true := decide_eq_true s0
      go_enter Try.func6, Try.ntmps6
      go_wp2_with (first | (go_at_call 8; (with_reducible refine (mk_Short _ _ _ _ (by assumption)).mono ?_); rintro e w' ⟨rfl, rfl⟩) | (go_at_call 10; (with_reducible refine (mk_ModE Ek.out _ (by omega) (by omega)).mono ?_); rintro e w' ⟨rfl, rfl⟩) | (go_at_call 11; (with_reducible refine (encode_E (1 + k) a0 _ l0 c0 _ (by omega) (by omega) h0 rfl s0).mono ?_); rintro e w1 ⟨a2, c2, rfl, own2, hb2⟩; (have b2 : Byt w1 a2 (frm (1 + k) l0) := own2.byt; have cl2 := own2.cap_le; have h11 := h1.below hb2 (Nat.le_refl _))) | (go_at_call 13; (with_reducible refine (frame_SizeN _ s0 _).mono ?_); rintro e w' ⟨rfl, rfl⟩) | (at_builtin; refine appB rfl _ _ rfl w1.heap.size none 0 0 [] rfl a2 _ _ (frm (1 + k) l0) rfl (Own.nil _ _ _ _) b2 (by rw [frm_len]) (l0.length + 10) (by omega) (by omega) (Nat.le_refl _) ?_; intro a3 c3 w3 own3 g3 bl3; (have B3 := bl3 w1 (Below.refl _ _)); (have h13 := h11.below B3 (Nat.le_refl _))) | (at_builtin; refine appB rfl _ _ rfl w1.heap.size a3 _ c3 _ rfl a1 _ _ l1 rfl own3 h13 rfl (l0.length + 10 + l1.length) (by omega) (by omega) B3.size ?_; intro a4 c4 w4 own4 g4 bl4; (have B4 := bl4 w1 B3); (have b24 := b2.below B4 (Nat.le_refl _)); (have cl4 := own4.cap_le); (have b4 : Byt w4 a4 (frm (1 + k) l0 ++ l1) := own4.byt)) | (go_at_call 17; (with_reducible refine (parse_E H1 a4 _ c4 _ b4 (by rw [List.length_append, frm_len]) (by rw [List.length_append, frm_len]; omega) (by rw [List.length_append, frm_len]; omega)).mono ?_); rintro e w5 ⟨a5, c5, rfl, b5, hb5⟩; (have k5 := Blk.new w5 36 #[.int .i64 0, .int .i64 (1 + k), .slice a5 l0.length c5]; have b25 := (b24.below hb5 (Nat.le_refl _)).alloc (.cells #[.int .i64 0, .int .i64 (1 + k), .slice a5 l0.length c5] 36); have B5 : Below w.heap.size w w5 := (by repeat (first | (with_reducible refine Below.setCell ?_ ?_ _) | (with_reducible refine Below.alloc ?_ ?_ _) | (with_reducible refine Below.drew ?_) | (with_reducible refine below_drewN ?_ _) | (with_reducible exact Below.refl _ _) | (with_reducible refine Below.trans ?_ (Below.mono hb5 ?_)) | (with_reducible refine Below.trans ?_ (Below.mono B4 ?_)) | (with_reducible refine Below.trans ?_ (Below.mono hb2 ?_)) | (focus (simp; done)) | (focus (simp; omega)) | (focus omega) | (focus (have q0 := Below.size hb5; (try simp at q0); have q1 := Below.size B4; (try simp at q1); have q2 := Below.size hb2; (try simp at q2); (try simp); omega)))))) | (go_at_call 10; (with_reducible refine (mk_ModE Er.out _ (by omega) (by omega)).mono ?_); rintro e w' ⟨rfl, rfl⟩) | (go_at_call 17; (with_reducible refine (parse_E H2 a2 _ c2 _ (b25.take r) (by rw [List.length_take, frm_len]; omega) (by rw [List.length_take, frm_len]; omega) (by rw [List.length_take, frm_len]; omega)).mono ?_); rintro e w6 ⟨a6, c6, rfl, b6, hb6⟩; (have k6 := k5.below hb6 (by simp); have f0 := k6.cell 0; have f1 := k6.cell 1; have f2 := k6.cell 2; have fl := k6.lt; have kA : (convert 22 9 (.slice a5 l0.length c5)).run Try.prog (w6.alloc (.cells #[.int .i64 0, .int .i64 0, .slice a6 0 c6] 36)) = .ok (.string S) (w6.alloc (.cells #[.int .i64 0, .int .i64 0, .slice a6 0 c6] 36)) := (by rw [HS.out]; exact conv_str (((b5.alloc _).below hb6 (Nat.le_refl _)).alloc _) rfl); have kB : (convert 22 9 (.slice a0 l0.length c0)).run Try.prog (w6.alloc (.cells #[.int .i64 0, .int .i64 0, .slice a6 0 c6] 36)) = .ok (.string S) (w6.alloc (.cells #[.int .i64 0, .int .i64 0, .slice a6 0 c6] 36)) := (by rw [HS.out]; exact conv_str (h0.below (show Below w.heap.size w _ from (by repeat (first | (with_reducible refine Below.setCell ?_ ?_ _) | (with_reducible refine Below.alloc ?_ ?_ _) | (with_reducible refine Below.drew ?_) | (with_reducible refine below_drewN ?_ _) | (with_reducible exact Below.refl _ _) | (with_reducible refine Below.trans ?_ (Below.mono hb6 ?_)) | (with_reducible refine Below.trans ?_ (Below.mono B5 ?_)) | (focus (simp; done)) | (focus (simp; omega)) | (focus omega) | (focus (have q0 := Below.size hb6; (try simp at q0); have q1 := Below.size B5; (try simp at q1); (try simp); omega))))) (Nat.le_refl _)) rfl))) | (go_at_call 9; (with_reducible refine (awake_yes _).mono ?_); rintro e w7 ⟨rfl, hb7⟩))
      go_ret
      exact ⟨rfl, (by repeat (first | (with_reducible refine Below.setCell ?_ ?_ _) | (with_reducible refine Below.alloc ?_ ?_ _) | (with_reducible refine Below.drew ?_) | (with_reducible refine below_drewN ?_ _) | (with_reducible exact Below.refl _ _) | (with_reducible refine Below.trans ?_ (Below.mono hb7 ?_)) | (with_reducible refine Below.trans ?_ (Below.mono hb6 ?_)) | (with_reducible refine Below.trans ?_ (Below.mono B5 ?_)) | (focus (simp; done)) | (focus (simp; omega)) | (focus omega) | (focus (have q0 := Below.size hb7; (try simp at q0); have q1 := Below.size hb6; (try simp at q1); have q2 := Below.size B5; (try simp at q2); (try simp); omega))))⟩
    · have z2 : decide (l0.length ≤ 200) = true := decide_eq_true s0
      go_enter Try.func6, Try.ntmps6
      go_wp2_with (first | (go_at_call 8; (with_reducible refine (mk_Short _ _ _ _ (by assumption)).mono ?_); rintro e w' ⟨rfl, rfl⟩) | (go_at_call 9; (with_reducible refine (awake_yes _).mono ?_); rintro e w1 ⟨rfl, hb⟩))
      go_ret
      exact ⟨rfl, hb⟩
  · have s0' : (200 : Int) < (l0.length : Int) := by omega
    go_enter Try.func6, Try.ntmps6
    go_wp2_with (first | (go_at_call 9; (with_reducible refine (awake_yes _).mono ?_); rintro e w1 ⟨rfl, hb⟩))
    go_ret
    exact ⟨rfl, hb⟩
end Go.Proofs.Ytiipflbhgjojeaa
