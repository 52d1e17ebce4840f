/- signalbrokermake.Deck: numbers that are taken one after the other -/
import Derived.Test.YtgngmmmdhhjbhaaMk
import Derived.Test.YtgngmmmdhhjbhaaQuiet
import Derived.Test.YtgngmmmdhhjbhaaReg
import Derived.Outline
namespace Go.Proofs.Ytgngmmmdhhjbhaa
open Go.RowKit Go.Sort
set_option maxRecDepth 100000

/-- the number that comes next, and where the deck stands behind it -/
def dVal (l : List Int) (k : Nat) (n : Int) : Int := if h : k < l.length then l[k] % n else 0
def dPos (l : List Int) (k : Nat) : Nat := if k < l.length then k + 1 else k
theorem dVal_bd (l : List Int) (k : Nat) {n : Int} (h : 1 ≤ n) : 0 ≤ dVal l k n ∧ dVal l k n < n := by
  unfold dVal
  split
  · exact ⟨Int.emod_nonneg _ (by omega), Int.emod_lt_of_pos _ (by omega)⟩
  · omega
/-- a deck's list, and the slice that holds it -/
structure Dk where
  a : Option Addr
  c : Nat
  l : List Int
/-- a deck lies in the block p, and stands at its number k -/
def DeckAt (w : World) (p : Nat) (d : Dk) (k : Nat) : Prop := Blk w p 64 #[.slice d.a d.l.length d.c, .int .i64 k] ∧ Ints w d.a d.l ∧ d.l.length ≤ 9223372036854775807 ∧ k ≤ d.l.length ∧ (d.l = [] ∨ ∀ b, d.a.map (·.block) = some b → b ≠ p)
/-- the post of a draw: 'lo' and the next number below 'n' -/
def DeckRet (p : Nat) (d : Dk) (k : Nat) (lo n : Int) (w : World) (e : Ending) (w' : World) : Prop := ∃ v : Int, e = .returned (.int .i64 (lo + v)) ∧ 0 ≤ v ∧ v < n ∧ Hid (dVal d.l k n = v) ∧ DeckAt w' p d (dPos d.l k) ∧ w.grownBy w' (some p)

theorem DeckRet.mk {p k : Nat} {d : Dk} {lo n x v : Int} {w w' : World} (hx : x = lo + v) (h0 : 0 ≤ v) (h1 : v < n) (hv : dVal d.l k n = v) (hd : DeckAt w' p d (dPos d.l k)) (g : w.grownBy w' (some p)) : DeckRet p d k lo n w (.returned (.int .i64 x)) w' :=
  ⟨v, by rw [hx], h0, h1, Lib.hid hv, hd, g⟩

theorem DeckAt.lt {w : World} {p k : Nat} {d : Dk} (h : DeckAt w p d k) : p < w.heap.size := h.1.lt
theorem DeckAt.arr {w : World} {p k : Nat} {d : Dk} (h : DeckAt w p d k) : d.l = [] ∨ ∀ b, d.a.map (·.block) = some b → b < w.heap.size := by
  rcases h.2.1 with hz | ⟨b, off, e, hlt, _⟩
  · exact .inl (by simpa using hz)
  · exact .inr fun b' hb' => by rw [e] at hb'; simp at hb'; omega
/-- a deck stays where other old blocks stay -/
theorem DeckAt.keep {w w' : World} {p k : Nat} {d : Dk} (h : DeckAt w p d k) (hk : ∀ b, b < w.heap.size → w'.heap[b]? = w.heap[b]?) : DeckAt w' p d k := by
  obtain ⟨h1, h2, h3⟩ := h
  exact ⟨(hk p h1.lt).trans h1, Row.keep h2 fun b _ _ hlt => hk b hlt, h3⟩
theorem DeckAt.below {w w' : World} {p k : Nat} {d : Dk} (h : DeckAt w p d k) (hb : Below w.heap.size w w') : DeckAt w' p d k := h.keep hb.block
theorem DeckAt.alloc {w : World} {p k : Nat} {d : Dk} (h : DeckAt w p d k) (o : Obj) : DeckAt (w.alloc o) p d k := h.keep fun b hb => Below.heap_alloc w o b hb
theorem DeckAt.set {w : World} {p k g o : Nat} {d : Dk} (h : DeckAt w p d k) (hg : g ≠ p) (ha : d.l = [] ∨ ∀ b, d.a.map (·.block) = some b → b ≠ g) (v : Value) : DeckAt (w.setCell ⟨g, o, none⟩ v) p d k := by
  obtain ⟨h1, h2, h3⟩ := h
  refine ⟨h1.far (fun e => hg e.symm) _, ?_, h3⟩
  rcases ha with ha | ha
  · exact .inl (by rw [ha]; rfl)
  · exact Row.far h2 (fun e => by
      cases hq : d.a with
      | none => rw [hq] at e; cases e
      | some ad => rw [hq] at e; injection e with e; exact ha ad.block (by rw [hq]; rfl) e) _
/-- a deck in a world between, where the old blocks but p stay, and p itself -/
theorem DeckAt.closed {W0 w w' : World} {p k k0 : Nat} {d : Dk} (h : DeckAt w p d k) (h0 : DeckAt W0 p d k0) (hB : d.l ≠ [] → ∀ b, d.a.map (·.block) = some b → b < W0.heap.size → b ≠ p → w'.heap[b]? = w.heap[b]?) (hp : w'.heap[p]? = w.heap[p]?) : DeckAt w' p d k := by
  refine ⟨hp.trans h.1, ?_, h.2.2⟩
  by_cases hl : d.l = []
  · exact .inl (by rw [hl]; rfl)
  · have hn := h.2.2.2.2.resolve_left hl
    rcases h0.2.1 with hz | ⟨b', off', e', hlt', _⟩
    · exact .inl hz
    · refine Row.keep h.2.1 fun b off e _ => ?_
      have hq : d.a.map (·.block) = some b := by rw [e]; rfl
      rw [e] at e'
      injection e' with e'
      injection e' with e1 _ _
      exact hB hl b hq (by omega) (hn b hq)

theorem _root_.Go.RowKit.Below.grown_any {w w' : World} (h : Below w.heap.size w w') (r : Option Nat) : w.grownBy w' r := ⟨h.os, h.tape, h.output, h.size, fun k hk _ => h.block k hk⟩
theorem Blk.grown {w w' : World} {g p : Nat} {t : TypeId} {cs : Array Value} (h : Blk w g t cs) (hg : w.grownBy w' (some p)) (hne : g ≠ p) : Blk w' g t cs := (hg.block g h.lt (fun e => hne (by injection e))).trans h
theorem Row.grown {w w' : World} {p : Nat} {a : Option Addr} {xs : List Value} (h : Row w a xs) (hg : w.grownBy w' (some p)) (hne : ∀ b, a.map (·.block) = some b → b ≠ p) : Row w' a xs :=
  h.keep fun b off e hlt => hg.block b hlt fun e' => hne b (by rw [e]; rfl) (by injection e')
theorem Own.grown {w w' : World} {base : Nat} {e : TypeId} {size n cap p : Nat} {a : Option Addr} {xs : List Value} (h : Own w base e size a n cap xs) (hg : w.grownBy w' (some p)) (hp : p < base) : Own w' base e size a n cap xs :=
  h.keep fun b _ hb hlt => hg.block b hlt fun e' => by injection e' with e'; omega
theorem Blk.ofGrown {w w' : World} {g base : Nat} {a a' : Option Addr} {t : TypeId} {cs : Array Value} (h : Blk w g t cs) (hg : Grew base w w' a a') (hne : a.map (·.block) ≠ some g) : Blk w' g t cs := (hg.1.block g h.lt (fun e => hne e.symm)).trans h
theorem grownBy_drewN (w : World) (n : Nat) (r : Option Nat) : w.grownBy (w.drewN n) r := ⟨rfl, rfl, rfl, Nat.le_refl _, fun _ _ _ => rfl⟩
theorem grownBy_set (w : World) (p o : Nat) (v : Value) : w.grownBy (w.setCell ⟨p, o, none⟩ v) (some p) :=
  ⟨rfl, rfl, rfl, by simp [World.setCell], fun k _ hk => Below.heap_setCell w ⟨p, o, none⟩ v k fun e => hk (by rw [e])⟩

set_option maxHeartbeats 1000000 in
theorem deck_Next (p : Nat) (n : Int) (w : World) (d : Dk) (k : Nat) (hd : DeckAt w p d k) (h1 : 1 ≤ n) (h2 : n ≤ 4611686018427387904) :
    Calls Try.prog 28 #[.pointer (some ⟨p, 0, none⟩), .int .i64 n] w (DeckRet p d k 0 n w) := by
  obtain ⟨a, c, l⟩ := d
  obtain ⟨hblk, hl, hlen, hk, hap⟩ := hd
  simp only at hblk hl hlen hk hap
  have c0 : w.cell? ⟨p, 0, none⟩ = some (.slice a l.length c) := hblk.cell 0
  have c1 : w.cell? ⟨p, 1, none⟩ = some (.int .i64 k) := hblk.cell 1
  by_cases hlt : k < l.length
  · have d1 : decide (l.length ≤ k) = false := decide_eq_false (by omega)
    have fz : w.frozen? ⟨p, 1, none⟩ = false := hblk.frozen 1
    go_enter Try.func28, Try.ntmps28
    go_wp2
    go_quiet (fail)
    go_wp2
    rcases hl.open with h0 | ⟨b, off, rfl, hbl, hc⟩
    · rw [h0] at hlt; simp at hlt
    have hbp : b ≠ p := hap.elim (fun h => by rw [h] at hlt; simp at hlt) fun h => h b rfl
    refine wp_named (fun W => w.grownBy W (some p) ∧ Blk W p 64 #[.slice (some ⟨b, off, none⟩) l.length c, .int .i64 ((k + 1 : Nat) : Int)] ∧ Ints W (some ⟨b, off, none⟩) l) ⟨(grownBy_drewN w nq _).trans (grownBy_set _ p 1 _), (hblk.drewN nq).set 1 _, Row.far hl (fun e => hbp (by simpa using e)) _⟩ ?_
    rintro W ⟨gW, bW, iW⟩
    have e0 : W.cell? ⟨p, 0, none⟩ = some (.slice (some ⟨b, off, none⟩) l.length c) := bW.cell 0
    have e1 : W.cell? ⟨p, 1, none⟩ = some (.int .i64 ((k + 1 : Nat) : Int)) := bW.cell 1
    have e2 : W.cell? ⟨b, off + k, none⟩ = some (.int .i64 l[k]) := by
      rcases iW.open with h0 | ⟨b', off', e, _, hc'⟩
      · rw [h0] at hlt; simp at hlt
      · injection e with e
        injection e with e1 e2 _
        rw [e1, e2]; exact hc' k hlt
    have e3 : IntKind.i64.wrap (((k + 1 : Nat) : Int) - 1) = (k : Int) := by rw [IntKind.wrap_i64]; omega
    clear c0 c1 fz hc hl hblk
    obtain ⟨r, Er, r0, r1⟩ := modName l[k] n (by omega)
    go_quiet ((first | (go_at_call 17; exact qs_add (mk_ModE Er.out _ (by omega) (by omega))) | (go_at_call 17; exact qs (mk_ModE Er.out _ (by omega) (by omega)))))
    go_wp2
    go_ret
    exact DeckRet.mk (Int.zero_add r).symm r0 r1 (by rw [dVal, dif_pos hlt]; exact Er.out) (by rw [dPos, if_pos hlt]; exact ⟨bW.drewN _, iW, hlen, by simp only; omega, hap⟩) (gW.trans (grownBy_drewN _ _ _))
  · have d1 : decide (l.length ≤ k) = true := decide_eq_true (by omega)
    go_enter Try.func28, Try.ntmps28
    go_wp2
    go_quiet (fail)
    go_wp2
    go_ret
    exact DeckRet.mk (v := 0) rfl (by omega) (by omega) (by rw [dVal, dif_neg hlt]) (by rw [dPos, if_neg hlt]; exact ⟨hblk, hl, hlen, hk, hap⟩) (grownBy_drewN _ _ _)

theorem deck_Range (p : Nat) (lo hi : Int) (w : World) (d : Dk) (k : Nat) (hd : DeckAt w p d k) (h0 : 0 ≤ lo) (h1 : lo ≤ hi) (h2 : hi ≤ 1073741824) :
    Calls Try.prog 40 #[.pointer (some ⟨p, 0, none⟩), .int .i64 lo, .int .i64 hi] w (DeckRet p d k lo (hi - lo + 1) w) := by
  have e1 : wrap64 (hi - lo) = hi - lo := by rw [wrap64]; omega
  go_enter Try.func40, Try.ntmps40
  go_wp2_with (first | (go_at_call 28; (with_reducible refine (deck_Next p _ _ d k hd (by omega) (by omega)).mono ?_); rintro e w1 ⟨v, rfl, v0, v1, hv, hd1, g1⟩))
  go_ret
  exact DeckRet.mk (by omega) v0 v1 hv.out hd1 g1
theorem mk_New (a : Option Addr) (c : Nat) (l : List Int) (w : World) (hl : Ints w a l) (hlen : l.length ≤ 9223372036854775807) :
    Calls Try.prog 12 #[.slice a l.length c] w fun e w' => e = .returned (.pointer (some ⟨w.heap.size, 0, none⟩)) ∧ DeckAt w' w.heap.size ⟨a, c, l⟩ 0 ∧ Below w.heap.size w w' := by
  go_enter Try.func12, Try.ntmps12
  go_wp2
  go_ret
  refine ⟨rfl, ⟨Blk.new _ _ _, hl.alloc _, hlen, Nat.zero_le _, ?_⟩, (by repeat (first | (with_reducible refine Below.setCell ?_ ?_ _) | (with_reducible refine Below.alloc ?_ ?_ _) | (with_reducible refine Below.drew ?_) | (with_reducible refine below_drewN ?_ _) | (with_reducible exact Below.refl _ _) | (focus (simp; done)) | (focus (simp; omega)) | (focus omega)))⟩
  rcases hl with h | ⟨b, off, rfl, hlt, _⟩
  · exact .inl (by simpa using h)
  · exact .inr fun b' hb => by simp at hb; omega
end Go.Proofs.Ytgngmmmdhhjbhaa
