import Derived.Test.YtcigcijhpnciaaaNear
import Derived.Test.YtcigcijhpnciaaaAwake
namespace Go.Proofs.Ytcigcijhpnciaaa
open Go.RowKit
set_option maxRecDepth 20000

set_option maxHeartbeats 1000000 in
theorem varintCodes_walk (n : Int) (w : World) : Calls Try.prog 3 #[.int .i64 n] w fun e w' => e = .returned (.bool true) ∧ Below w.heap.size w w' := by
  go_enter Try.func3, Try.ntmps3
  go_wp2_with (first | (go_at_call 7; (with_reducible refine (near_any _ _).mono ?_); rintro e w1 ⟨v, rfl, hv1, hv2, hb⟩) | (go_at_call 8; (with_reducible refine (mk_Mod _ _ _ (by omega) (by omega)).mono ?_); rintro e w' ⟨rfl, rfl⟩))
  have hz := hb.size
  go_loopw [16] (fun i wr => ∃ k : Nat, k ≤ 3 ∧ i = .int .i64 k ∧ Below w.heap.size w wr ∧ w1.heap.size < wr.heap.size ∧ ∀ j, j < 3 → ∃ x, wr.cell? ⟨w1.heap.size, j, none⟩ = some (.int .i64 x)) (fun i _ => 3 - (intOf i).toNat)
  case atStart =>
    refine ⟨0, by omega, rfl, (by repeat (first | (with_reducible refine Below.setCell ?_ ?_ _) | (with_reducible refine Below.alloc ?_ ?_ _) | (with_reducible refine Below.drew ?_) | (with_reducible refine below_drewN ?_ _) | (with_reducible exact Below.refl _ _) | (with_reducible refine Below.trans ?_ (Below.mono hb ?_)) | (focus (simp; done)) | (focus (simp; omega)) | (focus omega) | (focus (have q0 := Below.size hb; (try simp at q0); (try simp); omega)))), by simp, fun j hj => ?_⟩
    rw [World.cell?_alloc_mark]
    match j, hj with
    | 0, _ => exact ⟨_, rfl⟩
    | 1, _ => exact ⟨_, rfl⟩
    | 2, _ => exact ⟨_, rfl⟩
  case round =>
    obtain ⟨k, hk, rfl, hbel, hsz, hc⟩ := hrel
    by_cases hlt : k < 3
    · obtain ⟨x, hx⟩ := hc k hlt
      have HC := Lib.hid hc
      clear hc
      by_cases hr : 0 ≤ x ∧ x ≤ 4294967295
      · obtain ⟨h1, h2⟩ := hr
        obtain ⟨c, hcc⟩ : ∃ c, vEnc x.toNat = c := ⟨_, rfl⟩
        have HE := Lib.hid hcc
        clear hcc
        go_wp2_with (first | (go_at_call 9; (with_reducible refine (varint_Encode_yes _ c _ h1 h2 HE.out).mono ?_); rintro e w2 ⟨a2, cap2, rfl, own2, hb2⟩) | (go_at_call 10; (with_reducible refine (ref02_Encode_yes _ c _ h1 h2 HE.out).mono ?_); rintro e w3 ⟨a3, cap3, rfl, own3, hb3⟩; (have k2 := conv_str (cap := cap2) (own2.below hb3 (Nat.le_refl _)).byt (n := c.length) rfl; have k3 := conv_str (cap := cap3) own3.byt (n := c.length) rfl)) | (go_at_call 11; (with_reducible refine (varint_Size _ _).mono ?_); rintro e w' ⟨rfl, rfl⟩) | (go_at_call 12; (with_reducible refine (ref02_Size _ _).mono ?_); rintro e w' ⟨rfl, rfl⟩))
        have be3 : Below w.heap.size w w3 := (by repeat (first | (with_reducible refine Below.setCell ?_ ?_ _) | (with_reducible refine Below.alloc ?_ ?_ _) | (with_reducible refine Below.drew ?_) | (with_reducible refine below_drewN ?_ _) | (with_reducible exact Below.refl _ _) | (with_reducible refine Below.trans ?_ (Below.mono hb3 ?_)) | (with_reducible refine Below.trans ?_ (Below.mono hb2 ?_)) | (with_reducible refine Below.trans ?_ (Below.mono hbel ?_)) | (focus (simp; done)) | (focus (simp; omega)) | (focus omega) | (focus (have q0 := Below.size hb3; (try simp at q0); have q1 := Below.size hb2; (try simp at q1); have q2 := Below.size hbel; (try simp at q2); (try simp); omega))))
        have be4 : Below wr.heap.size wr w3 := (by repeat (first | (with_reducible refine Below.setCell ?_ ?_ _) | (with_reducible refine Below.alloc ?_ ?_ _) | (with_reducible refine Below.drew ?_) | (with_reducible refine below_drewN ?_ _) | (with_reducible exact Below.refl _ _) | (with_reducible refine Below.trans ?_ (Below.mono hb3 ?_)) | (with_reducible refine Below.trans ?_ (Below.mono hb2 ?_)) | (focus (simp; done)) | (focus (simp; omega)) | (focus omega) | (focus (have q0 := Below.size hb3; (try simp at q0); have q1 := Below.size hb2; (try simp at q1); (try simp); omega))))
        have hz3 := be4.size
        go_roundw
        case rel => exact ⟨k + 1, by omega, by go_num, be3, by omega, fun j hj => by
          obtain ⟨y, hy⟩ := HC.out j hj
          exact ⟨y, by rw [← hy]; exact be4.cell (p := ⟨w1.heap.size, j, none⟩) hsz⟩⟩
        case measure => simp [intOf]; omega
      · have kn := fun w => conv_str (w := w) (a := none) (l := []) (n := 0) (cap := 0) (Byt.nil _ _) rfl
        go_wp2_with (first | (go_at_call 9; (with_reducible refine (varint_Encode_no _ _ hr).mono ?_); rintro e w2 ⟨rfl, hb2⟩) | (go_at_call 10; (with_reducible refine (ref02_Encode_no _ _ hr).mono ?_); rintro e w3 ⟨rfl, hb3⟩) | (go_at_call 11; (with_reducible refine (varint_Size _ _).mono ?_); rintro e w' ⟨rfl, rfl⟩) | (go_at_call 12; (with_reducible refine (ref02_Size _ _).mono ?_); rintro e w' ⟨rfl, rfl⟩))
        have be3 : Below w.heap.size w w3 := (by repeat (first | (with_reducible refine Below.setCell ?_ ?_ _) | (with_reducible refine Below.alloc ?_ ?_ _) | (with_reducible refine Below.drew ?_) | (with_reducible refine below_drewN ?_ _) | (with_reducible exact Below.refl _ _) | (with_reducible refine Below.trans ?_ (Below.mono hb3 ?_)) | (with_reducible refine Below.trans ?_ (Below.mono hb2 ?_)) | (with_reducible refine Below.trans ?_ (Below.mono hbel ?_)) | (focus (simp; done)) | (focus (simp; omega)) | (focus omega) | (focus (have q0 := Below.size hb3; (try simp at q0); have q1 := Below.size hb2; (try simp at q1); have q2 := Below.size hbel; (try simp at q2); (try simp); omega))))
        have be4 : Below wr.heap.size wr w3 := (by repeat (first | (with_reducible refine Below.setCell ?_ ?_ _) | (with_reducible refine Below.alloc ?_ ?_ _) | (with_reducible refine Below.drew ?_) | (with_reducible refine below_drewN ?_ _) | (with_reducible exact Below.refl _ _) | (with_reducible refine Below.trans ?_ (Below.mono hb3 ?_)) | (with_reducible refine Below.trans ?_ (Below.mono hb2 ?_)) | (focus (simp; done)) | (focus (simp; omega)) | (focus omega) | (focus (have q0 := Below.size hb3; (try simp at q0); have q1 := Below.size hb2; (try simp at q1); (try simp); omega))))
        have hz3 := be4.size
        go_roundw
        case rel => exact ⟨k + 1, by omega, by go_num, be3, by omega, fun j hj => by
          obtain ⟨y, hy⟩ := HC.out j hj
          exact ⟨y, by rw [← hy]; exact be4.cell (p := ⟨w1.heap.size, j, none⟩) hsz⟩⟩
        case measure => simp [intOf]; omega
    · go_wp2_with (first | (go_at_call 13; (with_reducible refine (awake_yes _).mono ?_); rintro e w2 ⟨rfl, hb2⟩))
      go_ret
      exact ⟨rfl, (by repeat (first | (with_reducible refine Below.setCell ?_ ?_ _) | (with_reducible refine Below.alloc ?_ ?_ _) | (with_reducible refine Below.drew ?_) | (with_reducible refine below_drewN ?_ _) | (with_reducible exact Below.refl _ _) | (with_reducible refine Below.trans ?_ (Below.mono hb2 ?_)) | (with_reducible refine Below.trans ?_ (Below.mono hbel ?_)) | (focus (simp; done)) | (focus (simp; omega)) | (focus omega) | (focus (have q0 := Below.size hb2; (try simp at q0); have q1 := Below.size hbel; (try simp at q1); (try simp); omega))))⟩
end Go.Proofs.Ytcigcijhpnciaaa
