/- frame.Size, frame.Encode, and the reference's -/
import Derived.Test.YtlfccoakodnbaaaBuf
import Derived.Test.YtlfccoakodnbaaaFrameLaw
namespace Go.Proofs.Ytlfccoakodnbaaa
open Go.RowKit
set_option maxRecDepth 20000

def fSize (n : Int) : Int := if 0 ≤ n ∧ n ≤ 200 then n + 10 else 0
theorem frame_Size (n : Int) (w : World) : Calls Try.prog 46 #[.int .i64 n] w fun e w' => e = .returned (.int .i64 (fSize n)) ∧ w = w' := by
  by_cases h : 0 ≤ n ∧ n ≤ 200
  · obtain ⟨h1, h2⟩ := h
    have H := Lib.hid (show fSize n = n + 10 by unfold fSize; rw [if_pos ⟨h1, h2⟩])
    go_enter Try.func46, Try.ntmps46
    go_wp2
    go_ret
    exact ⟨ret_int (by rw [H.out]; try omega), rfl⟩
  · have H := Lib.hid (show fSize n = 0 by unfold fSize; rw [if_neg h])
    by_cases h1 : n < 0
    all_goals
      go_enter Try.func46, Try.ntmps46
      go_wp2
      go_ret
      exact ⟨ret_int (by rw [H.out]), rfl⟩
theorem fSize_nat (n : Nat) (h : n ≤ 200) : fSize n = ((n + 10 : Nat) : Int) := by unfold fSize; rw [if_pos (by omega)]; omega
theorem frame_SizeN (n : Nat) (h : n ≤ 200) (w : World) : Calls Try.prog 46 #[.int .i64 n] w fun e w' => e = .returned (.int .i64 ((n + 10 : Nat) : Int)) ∧ w = w' := fSize_nat n h ▸ frame_Size n w

/-- what Encode hands back -/
def FrmRet (k : Int) (p : List UInt8) (w : World) (e : Ending) (w' : World) : Prop := ∃ a c, e = .returned (.tuple #[.slice a (p.length + 10) c, .int .i64 0]) ∧ Own w' w.heap.size 5 1 a (p.length + 10) c ((frm k p).map encB) ∧ Below w.heap.size w w'
theorem frm_no (k : Int) (p : List UInt8) : (frm k p).length = p.length + 10 := frm_len k p

theorem frm_made (k : Int) (p : List UInt8) : splice ((((((((List.replicate (p.length + 10) (0 : UInt8)).set 0 0x5a).set 1 0xa5).set 2 1).set 3 (byt k)).set 4 (byt ((p.length : Int) / 256))).set 5 (byt p.length))) 6 p = ([0x5a, 0xa5] ++ fBody k p) ++ [0, 0, 0, 0] := by
  have e : List.replicate (p.length + 10) (0 : UInt8) = 0 :: 0 :: 0 :: 0 :: 0 :: 0 :: List.replicate (p.length + 4) 0 := by
    rw [show p.length + 10 = p.length + 4 + 1 + 1 + 1 + 1 + 1 + 1 by omega]
    simp only [List.replicate_succ]
  rw [e]
  unfold splice fBody
  simp only [List.set_cons_zero, List.set_cons_succ]
  have e2 : (byt k :: byt ((p.length : Int) / 256) :: byt p.length :: List.replicate (p.length + 4) (0 : UInt8)).drop (3 + p.length) = [0, 0, 0, 0] := by
    rw [show 3 + p.length = p.length + 3 by omega]
    simp only [List.drop_succ_cons, List.drop_replicate]
    rw [show p.length + 4 - p.length = 4 by omega]
    rfl
  rw [show 6 + p.length = 3 + p.length + 3 by omega]
  simp only [List.drop_succ_cons, e2]
  simp
theorem set_tail (A T : List UInt8) (z : Nat) (x : UInt8) : (A ++ T).set (A.length + z) x = A ++ T.set z x := by
  rw [List.set_append_right _ _ (by omega)]; simp
theorem tail_at (s : Int) (z : Nat) (hz : z < 4) : (tail4 s)[z]'(by rw [tail4_len]; exact hz) = byt (s / 2 ^ (8 * (3 - z))) := by
  have : z = 0 ∨ z = 1 ∨ z = 2 ∨ z = 3 := by omega
  rcases this with rfl | rfl | rfl | rfl
  · rfl
  · rfl
  · rfl
  · show byt s = byt (s / 1)
    rw [Int.ediv_one]
theorem tail_step {s : Int} {T : List UInt8} {z : Nat} (hz : z < 4) (hT : T.length = 4) (h : T.take z = (tail4 s).take z) (x : UInt8) (hx : x = byt (s / 2 ^ (8 * (3 - z)))) : (T.set z x).take (z + 1) = (tail4 s).take (z + 1) := by
  rw [List.take_succ_eq_append_getElem (by simpa using by omega), List.take_succ_eq_append_getElem (by rw [tail4_len]; exact hz), tail_at s z hz, ← hx]
  rw [List.take_set_of_le (by omega), h]
  simp

theorem enc_byt {x y : Int} (h : x = y % 256) : Value.int .u8 x = encB (byt y) := by rw [h, encB_byt]
theorem body_at {w : World} {g : Nat} {k : Int} {p T : List UInt8} {t : TypeId} (h : Blk w g t (([0x5a, 0xa5] ++ fBody k p ++ T).map encB).toArray) : Byt w (some ⟨g, 2, none⟩) (fBody k p) := by
  have h1 : Byt w (some ⟨g, 0, none⟩) ([0x5a, 0xa5] ++ fBody k p ++ T) := h.rowL
  have h2 := (h1.drop 2).take (fBody k p).length
  rw [Nat.zero_add] at h2
  have e : (([0x5a, 0xa5] ++ fBody k p ++ T).drop 2).take (fBody k p).length = fBody k p := by simp
  rwa [e] at h2
theorem crc_ref (a : Option Addr) (l : List UInt8) (n cap : Nat) {s : Int} (h : Hid (crcUpd 0 l = s)) (w : World) (hb : Byt w a l) (hn : n = l.length) (hl : l.length ≤ 9223372036854775807) :
    Calls Try.prog 37 #[.slice a n cap] w fun e w' => e = .returned (.int .u32 s) ∧ w = w' := h.out ▸ ref_crc_Sum a l n cap w hb hn hl
theorem crc_own (a : Option Addr) (l : List UInt8) (n cap : Nat) {s : Int} (h : Hid (crcUpd 0 l = s)) (w : World) (hb : Byt w a l) (hn : n = l.length) (hl : l.length ≤ 9223372036854775807) :
    Calls Try.prog 47 #[.slice a n cap] w fun e w' => e = .returned (.int .u32 s) ∧ w = w' := h.out ▸ crc_Sum a l n cap w hb hn hl
theorem ref03_Encode_no (k : Int) (a : Option Addr) (n c : Nat) (w : World) (hk : k < 0 ∨ 255 < k) : Calls Try.prog 27 #[.int .i64 k, .slice a n c] w fun e w' => e = .returned (.tuple #[.slice none 0 0, .int .i64 8]) ∧ w = w' := by
  rcases hk with hk | hk
  all_goals
    go_enter Try.func27, Try.ntmps27
    go_wp2
    go_ret2
    exact ⟨rfl, rfl⟩
theorem ref03_Encode_long (k : Int) (a : Option Addr) (n c : Nat) (w : World) (h0 : 0 ≤ k) (h1 : k ≤ 255) (hn : 200 < n) : Calls Try.prog 27 #[.int .i64 k, .slice a n c] w fun e w' => e = .returned (.tuple #[.slice none 0 0, .int .i64 7]) ∧ w = w' := by
  go_enter Try.func27, Try.ntmps27
  go_wp2
  go_ret2
  exact ⟨rfl, rfl⟩
theorem own_lit {w : World} {C : Array Value} {l : List UInt8} {e : TypeId} {n : Nat} (h : C.toList = l.map encB) (hn : n = l.length := by rfl) (hm : l.length ≤ 100000000000 := by simp) : Own (w.alloc (.cells C e)) w.heap.size e 1 (some ⟨w.heap.size, 0, none⟩) n n (l.map encB) := by
  subst hn
  have hs : C.size = l.length := by rw [← Array.length_toList, h, List.length_map]
  have := own_new w C e 1 l.length (by omega) (by unfold maxLen; omega)
  rwa [h] at this
theorem lit6 {x y z k1 k2 k3 : Int} (h1 : x = k1 % 256) (h2 : y = k2 % 256) (h3 : z = k3 % 256) : (#[.int .u8 90, .int .u8 165, .int .u8 1, .int .u8 x, .int .u8 y, .int .u8 z] : Array Value).toList = [0x5a, 0xa5, 1, byt k1, byt k2, byt k3].map encB := by
  rw [enc_byt h1, enc_byt h2, enc_byt h3]; rfl
theorem lit4 {x y z u k1 k2 k3 k4 : Int} (h1 : x = k1 % 256) (h2 : y = k2 % 256) (h3 : z = k3 % 256) (h4 : u = k4 % 256) : (#[.int .u8 x, .int .u8 y, .int .u8 z, .int .u8 u] : Array Value).toList = [byt k1, byt k2, byt k3, byt k4].map encB := by
  rw [enc_byt h1, enc_byt h2, enc_byt h3, enc_byt h4]; rfl
theorem body_row {w : World} {g : Nat} {k : Int} {p : List UInt8} (h1 : Byt w (some ⟨g, 0, none⟩) ([0x5a, 0xa5] ++ fBody k p)) : Byt w (some ⟨g, 2, none⟩) (fBody k p) := by
  have h2 := h1.drop 2
  rw [Nat.zero_add] at h2
  exact h2
set_option maxHeartbeats 1000000 in
theorem ref03_Encode (k : Int) (a : Option Addr) (p : List UInt8) (c : Nat) (w : World) (h0 : 0 ≤ k) (h1 : k ≤ 255) (hb : Byt w a p) (hp : p.length ≤ 200) :
    Calls Try.prog 27 #[.int .i64 k, .slice a p.length c] w (FrmRet k p w) := by
  obtain ⟨s, hs⟩ : ∃ s, crcUpd 0 (fBody k p) = s := ⟨_, rfl⟩
  have s01 := crc_bd (fBody k p)
  rw [hs] at s01
  have HS := Lib.hid hs
  clear hs
  go_enter Try.func27, Try.ntmps27
  go_wp2_with (first | (at_builtin; refine appB rfl _ _ rfl w.heap.size (some ⟨w.heap.size, 0, none⟩) 6 6 [0x5a, 0xa5, 1, byt k, byt ((p.length : Int) / 256), byt p.length] rfl a _ _ p rfl (own_lit (lit6 (by omega) (by omega) (by omega))) (hb.alloc _) rfl (p.length + 6) (by omega) (by omega) (by simp) ?_; intro b1 cap1 w1 own1 g1 bl1; (have be1 := bl1 w (by repeat (first | (with_reducible refine Below.setCell ?_ ?_ _) | (with_reducible refine Below.alloc ?_ ?_ _) | (with_reducible refine Below.drew ?_) | (with_reducible refine below_drewN ?_ _) | (with_reducible exact Below.refl _ _) | (focus (simp; done)) | (focus (simp; omega)) | (focus omega)))); (obtain ⟨gg, rfl, hg1, hg2⟩ := own1.open_ (by omega)); (have cl1 := own1.cap_le); (have b2 : Byt w1 (some ⟨gg, 2, none⟩) (fBody k p) := body_row own1.byt)) | (go_at_call 37; (with_reducible refine (crc_ref _ (fBody k p) _ _ HS _ b2 (by have := fBody_len k p; omega) (by have := fBody_len k p; omega)).mono ?_); rintro e w' ⟨rfl, rfl⟩) | (at_builtin; refine appB rfl _ _ rfl w.heap.size (some ⟨gg, 0, none⟩) (p.length + 6) cap1 ([0x5a, 0xa5] ++ fBody k p) rfl (some ⟨w1.heap.size, 0, none⟩) 4 4 (tail4 s) rfl (own1.alloc _) (byt_new (lit4 (by first | rfl | omega) (by first | rfl | omega) (by first | rfl | omega) (by first | rfl | omega))) rfl (p.length + 10) (by omega) (by omega) (by simp; omega) ?_; intro b2' cap2 w2 own2 g2 bl2; (have be2 := bl2 w (by repeat (first | (with_reducible refine Below.setCell ?_ ?_ _) | (with_reducible refine Below.alloc ?_ ?_ _) | (with_reducible refine Below.drew ?_) | (with_reducible refine below_drewN ?_ _) | (with_reducible exact Below.refl _ _) | (with_reducible refine Below.trans ?_ (Below.mono be1 ?_)) | (focus (simp; done)) | (focus (simp; omega)) | (focus omega) | (focus (have q0 := Below.size be1; (try simp at q0); (try simp); omega)))))))
  go_ret2
  refine ⟨_, _, rfl, ?_, be2⟩
  have e : [0x5a, 0xa5] ++ fBody k p ++ tail4 s = frm k p := by rw [← HS.out]; rfl
  rwa [e] at own2
end Go.Proofs.Ytlfccoakodnbaaa
