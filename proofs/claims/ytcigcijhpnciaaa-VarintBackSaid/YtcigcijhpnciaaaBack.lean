import Derived.Test.YtcigcijhpnciaaaNear
import Derived.Test.YtcigcijhpnciaaaAwake
import Derived.Test.YtcigcijhpnciaaaQuiet
namespace Go.Proofs.Ytcigcijhpnciaaa
open Go.RowKit Go.Sort
set_option maxRecDepth 20000

theorem modU (v : Int) : ∃ x : Nat, v % 4294967296 = (x : Int) ∧ (x : Int) ≤ 4294967295 := ⟨(v % 4294967296).toNat, by omega, by omega⟩

set_option maxHeartbeats 1000000 in
theorem varintBack_walk (n : Int) (a0 : Option Addr) (c0 : Nat) (l0 : List UInt8) (w : World) (h0 : Byt w a0 l0) (n0 : l0.length ≤ 9223372036854775807) (k0 : l0.length ≤ c0) :
    Calls Try.prog 5 #[.int .i64 n, .slice a0 l0.length c0] w fun e w' => e = .returned (.bool true) ∧ RowKit.Below w.heap.size w w' := by
  by_cases s0 : l0.length ≤ 600
  · have m1 := mod_wf n 1000 (by omega)
    go_enter Try.func5, Try.ntmps5
    go_wp2_with (first | (go_at_call 14; (with_reducible refine (mk_Short _ _ _ _ (by assumption)).mono ?_); rintro e w' ⟨rfl, rfl⟩) | (go_at_call 7; (with_reducible refine (near_any n _).mono ?_); rintro e w1 ⟨v, rfl, hv1, hv2, hb⟩; (obtain ⟨x, hx, hx2⟩ := modU (v + n % 1000); have HX := Lib.hid hx2; clear hx2)) | (go_at_call 8; (with_reducible refine (mk_Mod _ _ _ (by omega) (by omega)).mono ?_); rintro e w' ⟨rfl, rfl⟩))
    clear hx m1 hv1 hv2
    obtain ⟨c, hc⟩ : ∃ c, vEnc (x : Int).toNat = c := ⟨_, rfl⟩
    have l1 : 1 ≤ c.length ∧ c.length ≤ 5 := by rw [← hc]; have := HX.out; exact ⟨vEnc_pos _, vEnc_len5 (by omega)⟩
    have q1 : decV (c ++ l0) = .tuple #[.int .i64 x, .int .i64 c.length, .int .i64 0] := decV_some (by rw [← hc, Int.toNat_natCast]; have := HX.out; exact vDec_enc (by omega) _)
    have q2 : vSize (x : Int) = (c.length : Int) := by rw [vSize_yes (by omega) HX.out, hc]
    have H1 := Lib.hid hc
    clear hc
    go_wp2_with (first | (go_at_call 9; (with_reducible refine (varint_Encode_yes _ c _ (by omega) HX.out H1.out).mono ?_); rintro e w2 ⟨a2, cap2, rfl, own2, hb2⟩) | (at_builtin; refine appB rfl _ _ rfl w2.heap.size none 0 0 [] rfl a2 _ _ c rfl (Own.nil _ _ _ _) own2.byt rfl c.length (by omega) (by omega) (Nat.le_refl _) ?_; intro b3 cap3 w3 own3 g3 bl3; have be3 := bl3 w2 (RowKit.Below.refl _ _); have h03 := h0.below (show RowKit.Below w.heap.size w w3 from (by repeat (first | (with_reducible refine Below.setCell ?_ ?_ _) | (with_reducible refine Below.alloc ?_ ?_ _) | (with_reducible refine Below.drew ?_) | (with_reducible refine below_drewN ?_ _) | (with_reducible exact Below.refl _ _) | (with_reducible refine Below.trans ?_ (Below.mono be3 ?_)) | (with_reducible refine Below.trans ?_ (Below.mono hb2 ?_)) | (with_reducible refine Below.trans ?_ (Below.mono hb ?_)) | (focus (simp; done)) | (focus (simp; omega)) | (focus omega) | (focus (have q0 := Below.size be3; (try simp at q0); have q1 := Below.size hb2; (try simp at q1); have q2 := Below.size hb; (try simp at q2); (try simp); omega))))) (Nat.le_refl _)) | (at_builtin; refine appB rfl _ _ rfl w2.heap.size _ _ _ _ rfl a0 _ _ l0 rfl own3 h03 rfl (c.length + l0.length) (by omega) (by omega) be3.size ?_; intro b4 cap4 w4 own4 g4 bl4; have be4 := bl4 w2 be3) | (go_at_call 16; (with_reducible refine (varint_Decode _ (c ++ l0) _ _ _ own4.byt (by simp) (by simp; omega)).mono ?_); rintro e w5 ⟨rfl, rfl⟩; (rw [q1])) | (go_at_call 11; (with_reducible refine (varint_Size _ _).mono ?_); rintro e w' ⟨rfl, rfl⟩))
    have be5 : RowKit.Below w.heap.size w w4 := (by repeat (first | (with_reducible refine Below.setCell ?_ ?_ _) | (with_reducible refine Below.alloc ?_ ?_ _) | (with_reducible refine Below.drew ?_) | (with_reducible refine below_drewN ?_ _) | (with_reducible exact Below.refl _ _) | (with_reducible refine Below.trans ?_ (Below.mono be4 ?_)) | (with_reducible refine Below.trans ?_ (Below.mono hb2 ?_)) | (with_reducible refine Below.trans ?_ (Below.mono hb ?_)) | (focus (simp; done)) | (focus (simp; omega)) | (focus omega) | (focus (have q0 := Below.size be4; (try simp at q0); have q1 := Below.size hb2; (try simp at q1); have q2 := Below.size hb; (try simp at q2); (try simp); omega))))
    have h04 := h0.below be5 (Nat.le_refl _)
    cases hd : vDec l0 with
    | none =>
      have q3 := decV_none hd
      clear hd
      go_wp2_with (first | (go_at_call 16; (with_reducible refine (varint_Decode _ l0 _ _ _ h04 rfl n0).mono ?_); rintro e w5 ⟨rfl, rfl⟩; (rw [q3])) | (go_at_call 13; (with_reducible refine (awake_yes _).mono ?_); rintro e w6 ⟨rfl, hb6⟩))
      go_ret
      exact ⟨rfl, be5.trans (hb6.mono be5.size)⟩
    | some r =>
      obtain ⟨v2, j⟩ := r
      have q3 := decV_some hd
      obtain ⟨o1, o2, o3, o4⟩ := vDec_only hd
      clear hd
      obtain ⟨d, hdd⟩ : ∃ d, vEnc (v2 : Int).toNat = d := ⟨_, rfl⟩
      have o1' : (v2 : Int) ≤ 4294967295 := by omega
      have jd : j ≤ d.length ∧ d.length ≤ j ∧ 1 ≤ j := by rw [← hdd, Int.toNat_natCast]; have := vEnc_pos v2; omega
      have tk : l0.take j = d := by rw [← hdd, Int.toNat_natCast]; exact o3
      have O1 := Lib.hid o1'
      have D1 := Lib.hid hdd
      have TK := Lib.hid tk
      clear o1 o1' o3 o4 hdd tk
      rcases h0.open with rfl | ⟨g0, off0, rfl, hg0, _⟩
      · simp at o2; omega
      obtain ⟨s1, hs1⟩ : ∃ s : ByteArray, s = ⟨d.toArray⟩ := ⟨_, rfl⟩
      have S1 := Lib.hid hs1
      clear hs1
      have jeq : ((j : Int) == (d.length : Int)) = true := by rw [beq_iff_eq]; omega
      have jl : decide (j ≤ l0.length) = true := decide_eq_true o2
      go_wp2_with (first | (go_at_call 16; (with_reducible refine (varint_Decode _ l0 _ _ _ h04 rfl n0).mono ?_); rintro e w5 ⟨rfl, rfl⟩; (rw [q3])) | (go_at_call 9; (with_reducible refine (varint_Encode_yes _ d _ (by omega) O1.out D1.out).mono ?_); rintro e w6 ⟨a6, cap6, rfl, own6, hb6⟩))
      have b06 := h04.below hb6 (Nat.le_refl _)
      have kA : ∀ d' os, (convert 25 9 (.slice (some ⟨g0, off0, none⟩) j c0)).run Try.prog (grow (redrawn w6 d') os) = .ok (.string s1) (grow (redrawn w6 d') os) := fun d' os => by
        rw [S1.out, ← TK.out]
        exact conv_str ((b06.take j).below (below_regrown w6 d' os) (Nat.le_refl _)) (by simp; omega)
      have kB : ∀ d' os, (convert 25 9 (.slice a6 d.length cap6)).run Try.prog (grow (redrawn w6 d') os) = .ok (.string s1) (grow (redrawn w6 d') os) := fun d' os => by
        rw [S1.out]
        exact conv_str (own6.byt.below (below_regrown w6 d' os) (Nat.le_refl _)) rfl
      have jc : j ≤ c0 := by omega
      (refine wp_region_quiet_below (by kernel_rfl) (by kernel_rfl) ?_; (repeat (go_big_quiet_step (first | (go_at_call 13; exact qb (awake_yes _))))); refine wpQuiet_nil ?_; intro wq hwq; have hbq := below_of_regrown hwq; clear hwq)
      go_wp2
      go_ret
      have be6 : RowKit.Below w.heap.size w w6 := (by repeat (first | (with_reducible refine Below.setCell ?_ ?_ _) | (with_reducible refine Below.alloc ?_ ?_ _) | (with_reducible refine Below.drew ?_) | (with_reducible refine below_drewN ?_ _) | (with_reducible exact Below.refl _ _) | (with_reducible refine Below.trans ?_ (Below.mono hb6 ?_)) | (with_reducible refine Below.trans ?_ (Below.mono be5 ?_)) | (focus (simp; done)) | (focus (simp; omega)) | (focus omega) | (focus (have q0 := Below.size hb6; (try simp at q0); have q1 := Below.size be5; (try simp at q1); (try simp); omega))))
      exact ⟨rfl, be6.trans (hbq.mono be6.size)⟩
  · go_enter Try.func5, Try.ntmps5
    go_wp2_with (first | (go_at_call 14; (with_reducible refine (mk_Short _ _ _ _ (by assumption)).mono ?_); rintro e w' ⟨rfl, rfl⟩) | (go_at_call 13; (with_reducible refine (awake_yes _).mono ?_); rintro e w1 ⟨rfl, hb⟩))
    go_ret
    exact ⟨rfl, hb⟩
end Go.Proofs.Ytcigcijhpnciaaa
