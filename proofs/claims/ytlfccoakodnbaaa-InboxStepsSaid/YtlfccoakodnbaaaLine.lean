/- law 25: line, bytes as a line may deliver them -/
import Derived.Test.YtlfccoakodnbaaaMake
import Derived.Test.YtlfccoakodnbaaaFrame
import Derived.Test.YtlfccoakodnbaaaSpoilt
import Derived.Deep.DeepCutAuto
import Derived.Outline
namespace Go.Proofs.Ytlfccoakodnbaaa
set_option linter.unusedVariables false
open Go.RowKit Go.Sort
set_option maxRecDepth 100000

def LineR (p : Nat) (d : Dk) (n : Nat) (w : World) (e : Ending) (w' : World) : Prop :=
  ∃ (l : List UInt8) (k m : Nat) (a : Option Addr) (c : Nat), Hid (m = l.length) ∧ e = .returned (.slice a m c) ∧ m ≤ (n - 1) * 28 ∧ Own w' w.heap.size 5 1 a m c (l.map encB) ∧ DeckAt w' p d k ∧ w.grownBy w' (some p)
theorem refencode_E (k : Int) (a : Option Addr) (n : Nat) (p : List UInt8) (c : Nat) (w : World) (h0 : 0 ≤ k) (h1 : k ≤ 255) (hb : Byt w a p) (hn : n = p.length) (hp : p.length ≤ 200) :
    Calls Try.prog 27 #[.int .i64 k, .slice a n c] w (FrmRet k p w) := by subst hn; exact ref03_Encode k a p c w h0 h1 hb hp
theorem line_len {a : Option Addr} {n m c : Nat} (h : n = m) : Value.slice a n c = Value.slice a m c := by rw [h]
theorem line_fin {w w5 w' : World} {p k kk n c : Nat} {d : Dk} {a a' : Option Addr} {e : TypeId} {xs : List Value} (hd0 : DeckAt w p d k) (hd : DeckAt w5 p d kk) (g : w.grownBy w5 (some p)) (own : Own w5 w.heap.size e 1 a n c xs) (gr : Grew w.heap.size w5 w' a a') : DeckAt w' p d kk ∧ w.grownBy w' (some p) := by
  have hp := hd0.lt
  have hs := g.size
  refine ⟨hd.grew hd0 gr hs own.base_le, ⟨gr.1.os.trans g.os, gr.1.tape.trans g.tape, gr.1.output.trans g.output, Nat.le_trans g.size gr.1.size, fun q hq hne => (gr.1.block q (by omega) (fun e => by have := own.base_le q e.symm; omega)).trans (g.block q hq hne)⟩⟩
set_option maxHeartbeats 4000000 in
theorem law_line (p n : Nat) (d : Dk) (k : Nat) (w : World) (N : Int) (hN : N = n) (hn0 : 1 ≤ n) (hn : n ≤ 100) (hd : DeckAt w p d k) :
    Calls Try.prog 7 #[.pointer (some ⟨p, 0, none⟩), .int .i64 N] w (LineR p d n w) := by
  subst hN
  have hp := hd.lt
  go_enter Try.func7, Try.ntmps7
  go_wp2_with (first | (go_at_call 19; (with_reducible refine (deck_Next p _ _ d k hd (by omega) (by omega)).mono ?_); rintro e w1 ⟨v, rfl, v0, v1, -, hd1, g1⟩; (try simp only [Int.zero_add])))
  go_loopw [5, 6, 7] (fun s r f wr => ∃ (l : List UInt8) (j kk : Nat) (a : Option Addr) (c : Nat), s = .slice a l.length c ∧ r = .int .i64 j ∧ l.length + j * 28 ≤ (n - 1) * 28 ∧ Own wr w.heap.size 5 1 a l.length c (l.map encB) ∧ DeckAt wr p d kk ∧ w.grownBy wr (some p)) (fun _ r _ _ => (intOf r).toNat)
  case atStart =>
    obtain ⟨j, rfl⟩ := Int.eq_ofNat_of_zero_le v0
    exact ⟨[], j, _, none, 0, rfl, rfl, by simp; omega, Own.nil _ _ _ _, hd1, g1⟩
  case round =>
    obtain ⟨l, j, kk, a, c, rfl, rfl, hl, own, hdr, gr⟩ := hrel
    by_cases hj : 0 < j
    · have hsz := gr.size
      have hlp : (0 : Int) < (j : Int) := by omega
      go_upto_if 27 with (first | (go_at_call 19; (with_reducible refine (deck_Next p 23 _ d kk hdr (by omega) (by omega)).mono ?_); rintro e w2 ⟨u, rfl, u0, u1, -, hd2, g2⟩; ((try simp only [Int.zero_add]); have own2 := own.grown g2 hp; have gg2 := gr.trans g2)) | (go_at_call 28; (with_reducible refine (deck_Bytes p 12 _ d _ 12 rfl hd2 (by omega)).mono ?_); rintro e w3 ⟨q, k3, ba, bc, rfl, hql, ownq, hd3, g3⟩; (have own3 := own2.grown g3 hp; have gg3 := gg2.trans g3; have hql' : q.length ≤ 12 := hql)) | (go_at_call 27; (with_reducible refine (refencode_E (1 + u) _ _ q _ _ (by omega) (by omega) ownq.byt rfl (by omega)).mono ?_); rintro e w4 ⟨fa, fc, rfl, ownf, hb4⟩; (have own4 := own3.below hb4 (Nat.le_refl _); have hd4 := hd3.below hb4; have gg4 := gg3.then_below hb4)) | (go_at_call 19; (with_reducible refine (deck_Next p 4 _ d _ hd4 (by omega) (by omega)).mono ?_); rintro e w5 ⟨y, rfl, y0, y1, -, hd5, g5⟩; ((try simp only [Int.zero_add]); have own5 := own4.grown g5 hp; have gg5 := gg4.trans g5; have ownf5 := ownf.grown g5 (by have := gg3.size; omega))))
      have hfq : (frm (1 + u) q).length = q.length + 10 := frm_no _ _
      have hs5 := gg5.size
      obtain ⟨j, rfl⟩ : ∃ j', j = j' + 1 := ⟨j - 1, by omega⟩
      clear hlp hj
      by_cases hy : y = 3
      · subst hy
        go_wp2_with (first | (go_at_call 19; (with_reducible refine (deck_Next p 40 _ d _ hd5 (by omega) (by omega)).mono ?_); rintro e w6 ⟨x6, rfl, xa6, xb6, -, hd6, g6⟩; ((try simp only [Int.zero_add]); have own6 := own5.grown g6 hp; have gg6 := gg5.trans g6; have ownf6 := ownf5.grown g6 (by have := gg3.size; omega); have hs6 := gg6.size)) | (go_at_call 19; (with_reducible refine (deck_Next p 1024 _ d _ hd6 (by omega) (by omega)).mono ?_); rintro e w7 ⟨x7, rfl, xa7, xb7, -, hd7, g7⟩; ((try simp only [Int.zero_add]); have own7 := own6.grown g7 hp; have gg7 := gg6.trans g7; have ownf7 := ownf6.grown g7 (by have := gg3.size; omega); have hs7 := gg7.size)) | (go_at_call 29; (with_reducible refine (mk_Spoilt fa _ fc (frm (1 + u) q) _ _ _ ownf7.byt (frm_no _ _).symm (by omega)).mono ?_); rintro e w8 ⟨sa, sc, sl, rfl, sby, sl1, sl2, hb8⟩; (have own8 := own7.below hb8 (Nat.le_refl _); have hd8 := hd7.below hb8; have gg8 := gg7.then_below hb8; have hs8 := gg8.size; have sl3 : sl.length ≤ 28 := by omega)) | (at_builtin; refine appB rfl _ _ rfl w.heap.size a _ c l rfl sa _ sc (sl) rfl own8 (sby) (by first | rfl | exact hfq.symm) (l ++ (sl)).length (by first | (rw [List.length_append]; done) | (rw [List.length_append]; omega)) (by rw [List.length_append]; omega) hs8 ?_; intro b' c' w' own' gr' bl'; have fin := line_fin hd hd8 gg8 own8 gr'))
        go_roundw
        case rel => exact ⟨l ++ (sl), j, _, b', c', line_len (by first | (rw [List.length_append]; done) | (rw [List.length_append]; omega)), by go_num, by rw [List.length_append]; omega, own', fin.1, fin.2⟩
        case measure => first | (simp [intOf]; done) | (simp [intOf]; omega)
      · have z0 : (y == 3) = false := by rw [beq_eq_false_iff_ne]; omega
        go_wp2_with ((at_builtin; refine appB rfl _ _ rfl w.heap.size a _ c l rfl fa _ fc (frm (1 + u) q) rfl own5 (ownf5.byt) (by first | rfl | exact hfq.symm) (l ++ (frm (1 + u) q)).length (by first | (rw [List.length_append]; done) | (rw [List.length_append]; omega)) (by rw [List.length_append]; omega) hs5 ?_; intro b' c' w' own' gr' bl'; have fin := line_fin hd hd5 gg5 own5 gr'))
        go_roundw
        case rel => exact ⟨l ++ (frm (1 + u) q), j, _, b', c', line_len (by first | (rw [List.length_append]; done) | (rw [List.length_append]; omega)), by go_num, by rw [List.length_append]; omega, own', fin.1, fin.2⟩
        case measure => first | (simp [intOf]; done) | (simp [intOf]; omega)
    · have hj0 : j = 0 := by omega
      subst hj0
      go_wp2
      go_ret
      exact ⟨l, kk, l.length, a, c, Lib.hid rfl, rfl, by omega, own, hdr, gr⟩
end Go.Proofs.Ytlfccoakodnbaaa
