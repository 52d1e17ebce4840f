import Derived.Test.YtcigcijhpnciaaaCodes
import Derived.Test.YtcigcijhpnciaaaSpoilt
namespace Go.Proofs.Ytcigcijhpnciaaa
open Go.RowKit
set_option maxRecDepth 20000

/-- a cell that holds a slice of bytes which can be read -/
def CellB (w : World) (p : Addr) : Prop := ∃ a c l, w.cell? p = some (.slice a (List.length l) c) ∧ Byt w a l ∧ l.length ≤ 9223372036854775807

theorem decV_form (l : List UInt8) : ∃ a b c : Int, decV l = .tuple #[.int .i64 a, .int .i64 b, .int .i64 c] := by
  unfold decV
  split <;> exact ⟨_, _, _, rfl⟩
theorem bits_or_byte (a b : Int) : ∃ z : UInt8, Value.int .u8 (bits .or .u8 a b) = encB z := by
  have h : bits .or .u8 a b = IntKind.u8.wrap ((BitVec.ofInt 8 a ||| BitVec.ofInt 8 b).toNat : Int) := rfl
  rw [h, show ∀ x, IntKind.u8.wrap x = x % 256 from fun x => by simp [IntKind.wrap, IntKind.signed, IntKind.bits]]
  exact ⟨_, byte_mod _⟩

theorem Row.grew2 {w w1 w2 : World} {base : Nat} {A b1 b2 : Option Addr} {xs : List Value} (h : Row w A xs) (g1 : Grew base w w1 none b1) (g2 : Grew base w1 w2 b1 b2) : Row w2 A xs :=
  h.keep fun b _ _ hlt => by
    have h1 := g1.below0
    rw [g2.1.block b (by have := h1.size; omega) fun e => by
      rcases g1.2.1 with q | q
      · rw [q] at e; cases e
      · rw [q] at e; injection e with e; omega]
    exact h1.block b hlt

set_option maxHeartbeats 4000000 in
theorem varintReads_walk (a0 : Option Addr) (c0 : Nat) (l0 : List UInt8) (n at_ by_ : Int) (w : World) (cc : l0.length ≤ c0) (h0 : Byt w a0 l0) (hm : l0.length ≤ 9223372036854775807) :
    Calls Try.prog 4 #[.slice a0 l0.length c0, .int .i64 n, .int .i64 at_, .int .i64 by_] w fun e w' => e = .returned (.bool true) ∧ Below w.heap.size w w' := by
  by_cases hs : l0.length ≤ 600
  · go_enter Try.func4, Try.ntmps4
    go_wp2_with (first | (go_at_call 14; (with_reducible refine (mk_Short _ _ _ _ (by omega)).mono ?_); rintro e w' ⟨rfl, rfl⟩) | (go_at_call 7; (with_reducible refine (near_any _ _).mono ?_); rintro e w1 ⟨v, rfl, hv1, hv2, hb⟩; (obtain ⟨r, Er, r0, r1⟩ := modName v 4294967296 (by omega))) | (go_at_call 8; (with_reducible refine (mk_ModE Er.out _ (by omega) (by omega)).mono ?_); rintro e w' ⟨rfl, rfl⟩) | (go_at_call 10; (with_reducible refine (ref02_Encode_yes r _ _ r0 (by omega) rfl).mono ?_); rintro e w2 ⟨a2, cap2, rfl, own2, hb2⟩; (have v5 := vEnc_len5 (n := r.toNat) (by omega); generalize vEnc r.toNat = c at own2 v5 ⊢; have be2 : RowKit.Below w.heap.size w w2 := (by repeat (first | (with_reducible refine Below.setCell ?_ ?_ _) | (with_reducible refine Below.alloc ?_ ?_ _) | (with_reducible refine Below.drew ?_) | (with_reducible refine below_drewN ?_ _) | (with_reducible exact Below.refl _ _) | (with_reducible refine Below.trans ?_ (Below.mono hb2 ?_)) | (with_reducible refine Below.trans ?_ (Below.mono hb ?_)) | (focus (simp; done)) | (focus (simp; omega)) | (focus omega) | (focus (have q0 := Below.size hb2; (try simp at q0); have q1 := Below.size hb; (try simp at q1); (try simp); omega)))); have hc2 := own2.byt; have h02 := h0.below be2 (Nat.le_refl _))) | (go_at_call 15; (with_reducible refine (mk_Spoilt a2 _ cap2 c at_ by_ w2 hc2 rfl (by omega)).mono ?_); rintro e w3 ⟨a3, cap3, l3, rfl, hb3, hl3, bel3⟩; (have be3 : RowKit.Below w.heap.size w w3 := be2.trans (bel3.mono be2.size); have hc3 := hc2.below bel3 (Nat.le_refl _); have h03 := h02.below bel3 (Nat.le_refl _))) | (at_builtin; refine appB rfl (.const (.slice none 0 0)) _ rfl w.heap.size none 0 0 [] rfl a2 _ _ c rfl (Own.nil _ _ _ _) hc3 rfl c.length (by omega) (by omega) be3.size ?_; intro b4 cap4 w4 own4 g4 bl4; have be4 := bl4 w be3; rw [List.nil_append] at own4; have be34 := g4.below0; have h04 := h03.below be34 (Nat.le_refl _); have hc4 := hc3.below be34 (Nat.le_refl _); have h34 := hb3.below be34 (Nat.le_refl _)) | (at_builtin; refine appB rfl (.tmp 37) _ rfl w.heap.size b4 _ _ c rfl a0 _ _ l0 rfl own4 h04 rfl (c.length + l0.length) (by omega) (by omega) be4.size ?_; intro b5 cap5 w5 own5 g5 bl5; have be5 := bl5 w be4))
    have h05 : Byt w5 a0 l0 := Row.grew2 h03 g4 g5
    have hc5 : Byt w5 a2 c := Row.grew2 hc3 g4 g5
    have h35 : Byt w5 a3 l3 := Row.grew2 hb3 g4 g5
    clear hc2 h02 hc3 h03 h04 hc4 h34 bel3 be34 g4 g5 bl4 bl5 be2 be3 be4 own4 own2 hb2 hb hb3
    obtain ⟨z1, hz1⟩ : ∃ z, Value.int .u8 (by_ % 256) = encB z := ⟨_, byte_mod _⟩
    obtain ⟨z2, hz2⟩ := bits_or_byte (by_ % 256) 128
    obtain ⟨z3, hz3⟩ := bits_or_byte (at_ % 256) 128
    refine wp_named (fun W6 => RowKit.Below w.heap.size w W6 ∧ ∀ j, j < 6 → CellB W6 ⟨w5.heap.size + 1 + 1, j, none⟩) ⟨(by repeat (first | (with_reducible refine Below.setCell ?_ ?_ _) | (with_reducible refine Below.alloc ?_ ?_ _) | (with_reducible refine Below.drew ?_) | (with_reducible refine below_drewN ?_ _) | (with_reducible exact Below.refl _ _) | (with_reducible refine Below.trans ?_ (Below.mono be5 ?_)) | (focus (simp; done)) | (focus (simp; omega)) | (focus omega) | (focus (have q0 := Below.size be5; (try simp at q0); (try simp); omega)))), fun j hj => ?_⟩ ?_
    · have hk : ∀ (C5 C3 C6 : Array Value) (e1 e2 e3 : TypeId) (j : Nat), (((w5.alloc (.cells C5 e1)).alloc (.cells C3 e2)).alloc (.cells C6 e3)).cell? ⟨w5.heap.size + 1 + 1, j, none⟩ = C6[j]? := fun C5 C3 C6 e1 e2 e3 j => by
        have := World.cell?_alloc_mark ((w5.alloc (.cells C5 e1)).alloc (.cells C3 e2)) C6 e3 (0, 0) j
        simpa using this
      unfold CellB
      rw [hk]
      match j, hj with
      | 0, _ => exact ⟨_, _, l0, rfl, ((h05.alloc _).alloc _).alloc _, by omega⟩
      | 1, _ => exact ⟨_, _, c, rfl, ((hc5.alloc _).alloc _).alloc _, by omega⟩
      | 2, _ => exact ⟨_, _, l3, rfl, ((h35.alloc _).alloc _).alloc _, by omega⟩
      | 3, _ => exact ⟨b5, cap5, c ++ l0, by simp, ((own5.byt.alloc _).alloc _).alloc _, by simp; omega⟩
      | 4, _ => exact ⟨_, _, [255, 255, 255, 255, z1], rfl, ((byt_new (by rw [hz1]; rfl)).alloc _).alloc _, by simp⟩
      | 5, _ => exact ⟨some ⟨w5.heap.size + 1, 0, none⟩, _, [z2, z3, 0], rfl, by
          have := (byt_new (w := w5.alloc (.cells #[.int .u8 255, .int .u8 255, .int .u8 255, .int .u8 255, .int .u8 (by_ % 256)] 5)) (C := #[.int .u8 (bits .or .u8 (by_ % 256) 128), .int .u8 (bits .or .u8 (at_ % 256) 128), .int .u8 0]) (e := 5) (m := (0, 0)) (l := [z2, z3, 0]) (by rw [hz2, hz3]; rfl))
          rw [World.size_alloc] at this
          exact this.alloc _, by simp⟩
    rintro W6 ⟨be6, hcells⟩
    clear h05 hc5 h35 be5 own5 hz1 hz2 hz3
    have HC := Lib.hid hcells
    clear hcells
    go_loop [52] (fun i => ∃ k : Nat, k ≤ 6 ∧ i = .int .i64 k) (fun i => 6 - (intOf i).toNat)
    case atStart => exact ⟨0, by omega, rfl⟩
    case round =>
      obtain ⟨k, hk, rfl⟩ := hrel
      by_cases hlt : k < 6
      · obtain ⟨ax, cx, lx, hcell, hbx, hlx⟩ := HC.out k hlt
        obtain ⟨x1, x2, x3, hx⟩ := decV_form lx
        have HX := Lib.hid hx
        clear hx
        go_wp2_with (first | (go_at_call 16; (with_reducible refine (varint_Decode _ lx _ _ _ hbx rfl hlx).mono ?_); rintro e w' ⟨rfl, rfl⟩; (rw [HX.out])) | (go_at_call 17; (with_reducible refine (ref02_Decode _ lx _ _ _ hbx rfl hlx).mono ?_); rintro e w' ⟨rfl, rfl⟩; (rw [HX.out])))
        go_round
        case rel => exact ⟨k + 1, by omega, by go_num⟩
        case measure => simp [intOf]; omega
      · go_wp2_with (first | (go_at_call 13; (with_reducible refine (awake_yes _).mono ?_); rintro e w2 ⟨rfl, hb2⟩))
        go_ret
        exact ⟨rfl, be6.trans (hb2.mono be6.size)⟩
  · go_enter Try.func4, Try.ntmps4
    go_wp2_with (first | (go_at_call 14; (with_reducible refine (mk_Short _ _ _ _ (by omega)).mono ?_); rintro e w' ⟨rfl, rfl⟩) | (go_at_call 13; (with_reducible refine (awake_yes _).mono ?_); rintro e w2 ⟨rfl, hb2⟩))
    go_ret
    exact ⟨rfl, hb2⟩
end Go.Proofs.Ytcigcijhpnciaaa
