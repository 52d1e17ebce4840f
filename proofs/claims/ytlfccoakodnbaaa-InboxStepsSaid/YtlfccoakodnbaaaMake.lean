/- signalbrokermake.Secret, Deck.Bytes -/
import Derived.Test.YtlfccoakodnbaaaDeck
import Derived.Test.YtlfccoakodnbaaaBuf
import Derived.Test.YtlfccoakodnbaaaFrameLaw
import Derived.Outline
namespace Go.Proofs.Ytlfccoakodnbaaa
open Go.RowKit Go.Sort
set_option maxRecDepth 20000

theorem _root_.Go.World.grownBy.then_grew {w w2 w3 : World} {p : Nat} {b b' : Option Addr} (h : w.grownBy w2 (some p)) (g : Grew w.heap.size w2 w3 b b') (hb : ∀ k, b.map (·.block) = some k → w.heap.size ≤ k) : w.grownBy w3 (some p) :=
  ⟨g.1.os.trans h.os, g.1.tape.trans h.tape, g.1.output.trans h.output, Nat.le_trans h.size g.1.size, fun k hk hne => (g.1.block k (Nat.lt_of_lt_of_le hk h.size) (fun e => by have := hb k e.symm; omega)).trans (h.block k hk hne)⟩
theorem _root_.Go.World.grownBy.then_alloc {w w2 : World} {p : Nat} (h : w.grownBy w2 (some p)) (o : Obj) : w.grownBy (w2.alloc o) (some p) :=
  ⟨h.os, h.tape, h.output, by have := h.size; simp; omega, fun k hk hne => (Below.heap_alloc w2 o k (Nat.lt_of_lt_of_le hk h.size)).trans (h.block k hk hne)⟩
theorem _root_.Go.World.grownBy.then_below {w w2 w3 : World} {p : Nat} (h : w.grownBy w2 (some p)) (hb : Below w2.heap.size w2 w3) : w.grownBy w3 (some p) := h.trans (hb.grown_any _)
theorem _root_.Go.World.grownBy.then_set {w w2 : World} {p g o : Nat} {v : Value} (h : w.grownBy w2 (some p)) (hg : w.heap.size ≤ g) : w.grownBy (w2.setCell ⟨g, o, none⟩ v) (some p) :=
  ⟨h.os, h.tape, h.output, by simpa [World.setCell] using h.size, fun k hk hne => (Below.heap_setCell w2 ⟨g, o, none⟩ v k (fun e => by simp only at e; omega)).trans (h.block k hk hne)⟩
/-- a deck behind an append to another row -/
theorem DeckAt.grew {W0 w w' : World} {base p k k0 : Nat} {d : Dk} {b b' : Option Addr} (h : DeckAt w p d k) (h0 : DeckAt W0 p d k0) (g : Grew base w w' b b') (hs : W0.heap.size ≤ w.heap.size) (hb : ∀ k, b.map (·.block) = some k → W0.heap.size ≤ k) : DeckAt w' p d k := by
  have hp := h0.lt
  exact h.closed h0 (fun _ x _ h1 _ => g.1.block x (by omega) (fun e => by have := hb x e.symm; omega)) (g.1.block p (by omega) (fun e => by have := hb p e.symm; omega))

theorem byt_int {v : Int} (h0 : 0 ≤ v) (h1 : v < 256) : v = ((byt v).toNat : Int) := by
  unfold byt
  simp
  omega
def BytesR (p : Nat) (d : Dk) (n : Nat) (w : World) (e : Ending) (w' : World) : Prop :=
  ∃ (l : List UInt8) (k : Nat) (a : Option Addr) (c : Nat), e = .returned (.slice a l.length c) ∧ l.length ≤ n ∧ Own w' w.heap.size 5 1 a l.length c (l.map encB) ∧ DeckAt w' p d k ∧ w.grownBy w' (some p)
set_option maxHeartbeats 1000000 in
theorem deck_Bytes (p n : Nat) (w : World) (d : Dk) (k : Nat) (N : Int) (hN : N = n) (hd : DeckAt w p d k) (hn : n ≤ 1000000) :
    Calls Try.prog 28 #[.pointer (some ⟨p, 0, none⟩), .int .i64 N] w (BytesR p d n w) := by
  subst hN
  have hp := hd.lt
  go_enter Try.func28, Try.ntmps28
  go_wp2_with (first | (go_at_call 19; (with_reducible refine (deck_Next p _ _ d k hd (by omega) (by omega)).mono ?_); rintro e w1 ⟨v, rfl, v0, v1, -, hd1, g1⟩; (try simp only [Int.zero_add])))
  go_loopw [5, 6] (fun s r wr => ∃ (l : List UInt8) (j kk : Nat) (a : Option Addr) (c : Nat), s = .slice a l.length c ∧ r = .int .i64 j ∧ l.length + j ≤ n ∧ Own wr w.heap.size 5 1 a l.length c (l.map encB) ∧ DeckAt wr p d kk ∧ w.grownBy wr (some p)) (fun _ r _ => (intOf r).toNat)
  case atStart =>
    obtain ⟨j, rfl⟩ := Int.eq_ofNat_of_zero_le v0
    exact ⟨[], j, _, none, 0, rfl, rfl, by simp; omega, Own.nil _ _ _ _, hd1, g1⟩
  case round =>
    obtain ⟨l, j, kk, a, c, rfl, rfl, hl, own, hdr, gr⟩ := hrel
    by_cases hj : 0 < j
    · have hsz := gr.size
      have hlp : (0 : Int) < (j : Int) := by omega
      go_wp2_with (first | (go_at_call 19; (with_reducible refine (deck_Next p 256 _ d kk hdr (by omega) (by omega)).mono ?_); rintro e w2 ⟨u, rfl, u0, u1, -, hd2, g2⟩; ((try simp only [Int.zero_add]); have own2 := own.grown g2 hp; have gg := gr.trans g2; have hs2 := gg.size)) | (at_builtin; refine app1B rfl _ _ rfl w.heap.size a l.length c l rfl (byt u) u rfl own2 (byt_int u0 u1) (l.length + 1) rfl (by omega) hs2 ?_; intro b3 c3 w3 own3 gr3 bl3))
      go_roundw
      case rel =>
        refine ⟨l ++ [byt u], j - 1, _, b3, c3, by simp, by go_num, by simp; omega, by simpa using own3, (hd2.alloc _).grew hd gr3 (by simp; omega) own2.base_le, (gg.then_alloc _).then_grew gr3 own2.base_le⟩
      case measure => simp [intOf]; omega
    · have hj0 : j = 0 := by omega
      subst hj0
      go_wp2
      go_ret
      exact ⟨l, kk, a, c, rfl, by omega, own, hdr, gr⟩
end Go.Proofs.Ytlfccoakodnbaaa
