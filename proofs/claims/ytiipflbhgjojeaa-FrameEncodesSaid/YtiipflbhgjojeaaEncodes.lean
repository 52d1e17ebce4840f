import Derived.Test.YtiipflbhgjojeaaAwake
namespace Go.Proofs.Ytiipflbhgjojeaa
open Go.RowKit Go.Sort
set_option maxRecDepth 100000

/-- a slice of bytes that lies in a cell -/
def SlAt (w : World) (B j : Nat) : Prop := ∃ (a : Option Addr) (c : Nat) (L : List UInt8), w.cell? ⟨B, j, none⟩ = some (.slice a L.length c) ∧ Byt w a L ∧ L.length ≤ 1000 ∧ L.length ≤ c
theorem SlAt.below {w w' : World} {B j : Nat} (h : SlAt w B j) (hb : Below w.heap.size w w') (hB : B < w.heap.size) : SlAt w' B j := by
  obtain ⟨a, c, L, h1, h2, h3⟩ := h
  exact ⟨a, c, L, by rw [← h1]; exact hb.cell (p := ⟨B, j, none⟩) hB, h2.below hb (Nat.le_refl _), h3⟩
def IntAt (w : World) (B j : Nat) : Prop := ∃ z : Int, w.cell? ⟨B, j, none⟩ = some (.int .i64 z)
theorem IntAt.below {w w' : World} {B j : Nat} (h : IntAt w B j) (hb : Below w.heap.size w w') (hB : B < w.heap.size) : IntAt w' B j := by
  obtain ⟨z, h1⟩ := h
  exact ⟨z, by rw [← h1]; exact hb.cell (p := ⟨B, j, none⟩) hB⟩

set_option maxHeartbeats 4000000 in
theorem frameEncodes_walk (kind : Int) (a0 : Option Addr) (c0 : Nat) (l0 : List UInt8) (n : Int) (w : World) (h0 : Byt w a0 l0) (n0 : l0.length ≤ 9223372036854775807) (k0 : l0.length ≤ c0) :
    Calls Try.prog 3 #[.int .i64 kind, .slice a0 l0.length c0, .int .i64 n] w fun e w' => e = .returned (.bool true) ∧ Below w.heap.size w w' := by
  by_cases s0 : l0.length ≤ 600
  · obtain ⟨m3, E3, m30, m31⟩ := modName n 3 (by omega)
    obtain ⟨mk, Ek, mk0, mk1⟩ := modName kind 260 (by omega)
    obtain ⟨mn, En, mn0, mn1⟩ := modName n 204 (by omega)
    obtain ⟨g3, hg3⟩ : ∃ g : Nat, 199 + m3 = (g : Int) := ⟨(199 + m3).toNat, by omega⟩
    have g4 : g3 ≤ 201 := by omega
    go_enter Try.func3, Try.ntmps3
    go_wp2_with (first | (go_at_call 8; (with_reducible refine (mk_Short _ _ _ _ (by assumption)).mono ?_); rintro e w' ⟨rfl, rfl⟩) | (go_at_call 10; (with_reducible refine (mk_ModE E3.out _ (by omega) (by omega)).mono ?_); rintro e w' ⟨rfl, rfl⟩) | (go_at_call 10; (with_reducible refine (mk_ModE Ek.out _ (by omega) (by omega)).mono ?_); rintro e w' ⟨rfl, rfl⟩) | ((with_reducible refine wp_makeB g3 g3 ?_ ?_ ?_ ?_ ?_); (focus (show Value.int _ _ = Value.int _ _; first | rfl | (rw [hg3]))); (focus (show Value.int _ _ = Value.int _ _; first | rfl | (rw [hg3]))); (focus omega); (focus omega); intro W B0 be0 z0))
    have z0' := be0.size
    obtain ⟨lg, hlg⟩ : ∃ lg, List.replicate g3 (0 : UInt8) = lg := ⟨_, rfl⟩
    have lgl : lg.length = g3 := by rw [← hlg, List.length_replicate]
    have bG : Byt W (some ⟨w.heap.size, 0, none⟩) lg := by rw [← hlg]; exact B0.rowL
    go_loopw [30] (fun i wr => ∃ q : Nat, q ≤ 2 ∧ i = .int .i64 q ∧ Below w.heap.size w wr ∧ w.heap.size + 1 < wr.heap.size ∧ (∀ j, j < 2 → IntAt wr (w.heap.size + 1) j) ∧ Byt wr (some ⟨w.heap.size, 0, none⟩) lg) (fun i _ => 2 - (intOf i).toNat)
    case atStart =>
      refine ⟨0, by omega, rfl, (by repeat (first | (with_reducible refine Below.setCell ?_ ?_ _) | (with_reducible refine Below.alloc ?_ ?_ _) | (with_reducible refine Below.drew ?_) | (with_reducible refine below_drewN ?_ _) | (with_reducible exact Below.refl _ _) | (with_reducible refine Below.trans ?_ (Below.mono be0 ?_)) | (focus (simp; done)) | (focus (simp; omega)) | (focus omega) | (focus (have q0 := Below.size be0; (try simp at q0); (try simp); omega)))), by simp; omega, fun j hj => ?_, bG.alloc _⟩
      have kb := Blk.new W 3 #[.int .i64 kind, .int .i64 (mk - 2)]
      rw [z0] at kb
      have : j = 0 ∨ j = 1 := by omega
      rcases this with rfl | rfl
      · exact ⟨_, kb.cell 0⟩
      · exact ⟨_, kb.cell 1⟩
    case round =>
      obtain ⟨q, hq, rfl, bel, lA, hI, bGr⟩ := hrel
      have HI := Lib.hid hI
      clear hI hlg bG B0 z0 z0'
      by_cases hlt : q < 2
      · obtain ⟨z, q0⟩ := HI.out q hlt
        obtain ⟨wo, rfl⟩ : ∃ wo : World, wo = wr := ⟨_, rfl⟩
        have ql : decide ((q : Int) < 2) = true := by simp; omega
        have h0o := h0.below bel (Nat.le_refl _)
        go_wp2
        clear q0
        go_loopw [38] (fun i wr => ∃ s : Nat, s ≤ 2 ∧ i = .int .i64 s ∧ Below wo.heap.size wo wr ∧ wo.heap.size < wr.heap.size ∧ ∀ j, j < 2 → SlAt wr wo.heap.size j) (fun i _ => 2 - (intOf i).toNat)
        case atStart =>
          refine ⟨0, by omega, rfl, (by repeat (first | (with_reducible refine Below.setCell ?_ ?_ _) | (with_reducible refine Below.alloc ?_ ?_ _) | (with_reducible refine Below.drew ?_) | (with_reducible refine below_drewN ?_ _) | (with_reducible exact Below.refl _ _) | (focus (simp; done)) | (focus (simp; omega)) | (focus omega))), by simp, fun j hj => ?_⟩
          have kb := Blk.new wo 22 #[.slice a0 l0.length c0, .slice (some ⟨w.heap.size, 0, none⟩) g3 g3]
          have : j = 0 ∨ j = 1 := by omega
          rcases this with rfl | rfl
          · exact ⟨a0, c0, l0, kb.cell 0, h0o.alloc _, by omega, k0⟩
          · exact ⟨some ⟨w.heap.size, 0, none⟩, g3, lg, (kb.cell 1).trans (by rw [lgl]; rfl), bGr.alloc _, by omega, by omega⟩
        case round =>
          obtain ⟨s, hs, rfl, bel2, lB, hS⟩ := hrel
          have HS := Lib.hid hS
          clear hS
          by_cases hlt2 : s < 2
          · obtain ⟨a, c, L, r0, bL, L1, Lc⟩ := HS.out s hlt2
            have kn := fun w => conv_str (w := w) (a := none) (l := []) (n := 0) (cap := 0) (Byt.nil _ _) rfl
            by_cases ck : z < 0 ∨ 255 < z
            · go_wp2_with (first | (go_at_call 11; (with_reducible refine (frame_Encode_no z _ _ _ _ ck).mono ?_); rintro e w' ⟨rfl, rfl⟩) | (go_at_call 12; (with_reducible refine (ref03_Encode_no z _ _ _ _ ck).mono ?_); rintro e w' ⟨rfl, rfl⟩))
              go_roundw
              case rel => exact ⟨s + 1, by omega, by go_num, bel2, lB, HS.out⟩
              case measure => simp [intOf]; omega
            obtain ⟨ck0, ck1⟩ : 0 ≤ z ∧ z ≤ 255 := by omega
            by_cases cl : 200 < L.length
            · go_wp2_with (first | (go_at_call 11; (with_reducible refine (frame_Encode_long z _ _ _ _ ck0 ck1 cl).mono ?_); rintro e w' ⟨rfl, rfl⟩) | (go_at_call 12; (with_reducible refine (ref03_Encode_long z _ _ _ _ ck0 ck1 cl).mono ?_); rintro e w' ⟨rfl, rfl⟩))
              go_roundw
              case rel => exact ⟨s + 1, by omega, by go_num, bel2, lB, HS.out⟩
              case measure => simp [intOf]; omega
            clear kn
            obtain ⟨S, hSx⟩ : ∃ s : ByteArray, s = ⟨(frm z L).toArray⟩ := ⟨_, rfl⟩
            have HSx := Lib.hid hSx
            clear hSx
            go_wp2_with (first | (go_at_call 11; (with_reducible refine (encode_E z a _ L c _ ck0 ck1 bL rfl (by omega)).mono ?_); rintro e w5 ⟨a5, c5, rfl, own5, hb5⟩; (have bL5 := bL.below hb5 (Nat.le_refl _))) | (go_at_call 12; (with_reducible refine (refencode_E z a _ L c _ ck0 ck1 bL5 rfl (by omega)).mono ?_); rintro e w6 ⟨a6, c6, rfl, own6, hb6⟩; (have kA : (convert 22 9 (.slice a5 (L.length + 10) c5)).run Try.prog w6 = .ok (.string S) w6 := (by rw [HSx.out]; exact conv_str (Byt.below own5.byt hb6 (Nat.le_refl _)) (by rw [frm_len])); have kB : (convert 22 9 (.slice a6 (L.length + 10) c6)).run Try.prog w6 = .ok (.string S) w6 := (by rw [HSx.out]; exact conv_str own6.byt (by rw [frm_len])))))
            have bq : Below wr.heap.size wr w6 := (by repeat (first | (with_reducible refine Below.setCell ?_ ?_ _) | (with_reducible refine Below.alloc ?_ ?_ _) | (with_reducible refine Below.drew ?_) | (with_reducible refine below_drewN ?_ _) | (with_reducible exact Below.refl _ _) | (with_reducible refine Below.trans ?_ (Below.mono hb6 ?_)) | (with_reducible refine Below.trans ?_ (Below.mono hb5 ?_)) | (focus (simp; done)) | (focus (simp; omega)) | (focus omega) | (focus (have q0 := Below.size hb6; (try simp at q0); have q1 := Below.size hb5; (try simp at q1); (try simp); omega))))
            go_roundw
            case rel => exact ⟨s + 1, by omega, by go_num, bel2.trans (bq.mono bel2.size), by have := bq.size; omega, fun j hj => (HS.out j hj).below bq lB⟩
            case measure => simp [intOf]; omega
          · go_wp2
            go_roundw
            case rel => exact ⟨q + 1, by omega, by go_num, bel.trans (bel2.mono bel.size), by have := bel2.size; omega, fun j hj => (HI.out j hj).below bel2 lA, bGr.below bel2 (Nat.le_refl _)⟩
            case measure => simp [intOf]; omega
      · go_wp2_with (first | (go_at_call 13; (with_reducible refine (frame_Size _ _).mono ?_); rintro e w' ⟨rfl, rfl⟩) | (go_at_call 14; (with_reducible refine (ref03_Size _ _).mono ?_); rintro e w' ⟨rfl, rfl⟩) | (go_at_call 10; (with_reducible refine (mk_ModE En.out _ (by omega) (by omega)).mono ?_); rintro e w' ⟨rfl, rfl⟩) | (go_at_call 9; (with_reducible refine (awake_yes _).mono ?_); rintro e w7 ⟨rfl, hb7⟩))
        go_ret
        exact ⟨rfl, (by repeat (first | (with_reducible refine Below.setCell ?_ ?_ _) | (with_reducible refine Below.alloc ?_ ?_ _) | (with_reducible refine Below.drew ?_) | (with_reducible refine below_drewN ?_ _) | (with_reducible exact Below.refl _ _) | (with_reducible refine Below.trans ?_ (Below.mono hb7 ?_)) | (with_reducible refine Below.trans ?_ (Below.mono bel ?_)) | (focus (simp; done)) | (focus (simp; omega)) | (focus omega) | (focus (have q0 := Below.size hb7; (try simp at q0); have q1 := Below.size bel; (try simp at q1); (try simp); omega))))⟩
  · go_enter Try.func3, Try.ntmps3
    go_wp2_with (first | (go_at_call 8; (with_reducible refine (mk_Short _ _ _ _ (by assumption)).mono ?_); rintro e w' ⟨rfl, rfl⟩) | (go_at_call 9; (with_reducible refine (awake_yes _).mono ?_); rintro e w1 ⟨rfl, hb⟩))
    go_ret
    exact ⟨rfl, hb⟩
end Go.Proofs.Ytiipflbhgjojeaa
