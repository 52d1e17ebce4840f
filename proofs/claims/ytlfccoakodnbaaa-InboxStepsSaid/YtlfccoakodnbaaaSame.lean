/- lists of items, and signalbrokerref03.Same -/
import Derived.Test.YtlfccoakodnbaaaBuf
import Derived.Test.YtlfccoakodnbaaaStr
import Derived.Test.YtlfccoakodnbaaaQuiet
namespace Go.Proofs.Ytlfccoakodnbaaa
set_option linter.unusedVariables false
open Go.RowKit Go.Sort
set_option maxRecDepth 20000

/-- an item as it lies in memory: its numbers, its payload, and the slice of it -/
structure It where
  code : Int
  kind : Int
  pay : List UInt8
  a : Option Addr
  c : Nat
def It.cells (x : It) : List Value := [.int .i64 x.code, .int .i64 x.kind, .slice x.a x.pay.length x.c]
def It.key (x : It) : Int × Int × List UInt8 := (x.code, x.kind, x.pay)
def itCells (l : List It) : List Value := l.flatMap It.cells
def Items (w : World) (a : Option Addr) (l : List It) : Prop := Row w a (itCells l) ∧ ∀ x ∈ l, Byt w x.a x.pay
def sameL (l m : List It) : Bool := decide (l.map It.key = m.map It.key)
theorem itCells_len : ∀ l : List It, (itCells l).length = 3 * l.length
  | [] => rfl
  | x :: l => by
    have := itCells_len l
    simp only [itCells, List.flatMap_cons, List.length_append, List.length_cons] at this ⊢
    rw [this]
    simp [It.cells]
    omega
theorem itCells_get : ∀ (l : List It) (i : Nat) (h : i < l.length) (j : Nat) (_ : j < 3), (itCells l)[3 * i + j]? = ((l[i]).cells)[j]?
  | p :: l, 0, _, j, hj => by
    simp only [itCells, List.flatMap_cons]
    rw [Nat.mul_zero, Nat.zero_add, List.getElem?_append_left (by simp [It.cells]; omega)]
    rfl
  | p :: l, i + 1, h, j, hj => by
    have := itCells_get l i (by simpa using h) j hj
    simp only [itCells, List.flatMap_cons] at this ⊢
    rw [List.getElem?_append_right (by simp [It.cells]; omega)]
    simp only [List.getElem_cons_succ]
    rw [← this]
    congr 1
    simp [It.cells]
    omega
theorem itCells_append (l : List It) (x : It) : itCells (l ++ [x]) = itCells l ++ x.cells := by simp [itCells]
theorem row_item {w : World} {g off : Nat} {l : List It} (h : Row w (some ⟨g, off, none⟩) (itCells l)) (x : Nat) (hx : x < l.length) :
    w.cell? ⟨g, off + x * 3, none⟩ = some (.int .i64 l[x].code) ∧ w.cell? ⟨g, off + x * 3 + 1, none⟩ = some (.int .i64 l[x].kind) ∧ w.cell? ⟨g, off + x * 3 + 2, none⟩ = some (.slice l[x].a l[x].pay.length l[x].c) ∧ g < w.heap.size := by
  have hl := itCells_len l
  rcases h with h | ⟨b, o, e, hlt, hc⟩
  · rw [h] at hl; simp at hl; omega
  · injection e with e
    injection e with e1 e2 _
    subst e1 e2
    have key : ∀ j, j < 3 → ∀ v, (l[x].cells)[j]? = some v → w.cell? ⟨g, off + x * 3 + j, none⟩ = some v := fun j hj v hv => by
      have q0 : 3 * x + j < (itCells l).length := by omega
      have := hc (3 * x + j) q0
      rw [show off + x * 3 + j = off + (3 * x + j) by omega, this]
      have q := itCells_get l x hx j hj
      rw [hv, List.getElem?_eq_getElem q0] at q
      exact q
    exact ⟨key 0 (by omega) _ rfl, key 1 (by omega) _ rfl, key 2 (by omega) _ rfl, hlt⟩
theorem Items.below {w w' : World} {B : Nat} {a : Option Addr} {l : List It} (h : Items w a l) (hb : Below B w w') (hB : w.heap.size ≤ B) : Items w' a l :=
  ⟨h.1.below hb hB, fun x hx => (h.2 x hx).below hb hB⟩
theorem Items.nil (w : World) (a : Option Addr) : Items w a [] := ⟨.inl rfl, by simp⟩
theorem Items.open {w : World} {a : Option Addr} {l : List It} (h : Items w a l) (hl : 0 < l.length) : ∃ b off, a = some ⟨b, off, none⟩ := by
  rcases h.1 with h0 | ⟨b, off, e, _⟩
  · have := itCells_len l; rw [h0] at this; simp at this; omega
  · exact ⟨b, off, e⟩
theorem sameL_no {l m : List It} {k : Nat} (h1 : k < l.length) (h2 : k < m.length) (h : l[k].key ≠ m[k].key) : sameL l m = false := by
  unfold sameL
  rw [decide_eq_false_iff_not]
  intro q
  have := congrArg (·[k]?) q
  simp [h1, h2] at this
  exact h this
theorem sameL_yes {l m : List It} (h : l.map It.key = m.map It.key) : sameL l m = true := decide_eq_true h
theorem sameL_refl (l : List It) : sameL l l = true := sameL_yes rfl

set_option maxHeartbeats 2000000 in
theorem ref03_Same (a b : Option Addr) (l m : List It) (na nb ca cb : Nat) (w : World) (hl : Items w a l) (hm : Items w b m) (ha : na = l.length) (hb : nb = m.length) (l9 : l.length ≤ 1000000000000) (m9 : m.length ≤ 1000000000000) :
    Calls Try.prog 12 #[.slice a na ca, .slice b nb cb] w fun e w' => e = .returned (.bool (sameL l m)) ∧ Below w.heap.size w w' := by
  subst ha hb
  by_cases hlen : l.length = m.length
  · have z1 : ((l.length : Int) != (m.length : Int)) = false := by rw [bne_eq_false_iff_eq]; omega
    have HL : l.length ≤ m.length ∧ m.length ≤ l.length := by omega
    clear hlen
    go_enter Try.func12, Try.ntmps12
    go_wp2
    go_loopw [14] (fun i wr => ∃ k : Nat, k ≤ l.length ∧ i = .int .i64 k ∧ Below w.heap.size w wr ∧ (l.take k).map It.key = (m.take k).map It.key) (fun i _ => l.length - (intOf i).toNat)
    case atStart => exact ⟨0, by omega, rfl, Below.refl _ _, rfl⟩
    case round =>
      obtain ⟨k, hk, rfl, bel, heq⟩ := hrel
      have HE := Lib.hid heq
      clear heq
      by_cases hlt : k < l.length
      · obtain ⟨ba, oa, rfl⟩ := hl.open (by omega)
        obtain ⟨bb, ob, rfl⟩ := hm.open (by omega)
        have km : k < m.length := by omega
        have il := hl.below bel (Nat.le_refl _)
        have im := hm.below bel (Nat.le_refl _)
        obtain ⟨x0, x1, x2, xb⟩ := row_item il.1 k hlt
        obtain ⟨y0, y1, y2, yb⟩ := row_item im.1 k km
        have bx := il.2 _ (List.getElem_mem hlt)
        have by_ := im.2 _ (List.getElem_mem km)
        obtain ⟨x, hx⟩ : ∃ x, l[k] = x := ⟨_, rfl⟩
        obtain ⟨y, hy⟩ : ∃ y, m[k] = y := ⟨_, rfl⟩
        rw [hx] at x0 x1 x2 bx
        rw [hy] at y0 y1 y2 by_
        have HX := Lib.hid hx
        have HY := Lib.hid hy
        clear hx hy il im
        obtain ⟨xc, xk, xp, xa, xcap⟩ := x
        obtain ⟨yc, yk, yp, ya, ycap⟩ := y
        simp only at x0 x1 x2 y0 y1 y2 bx by_
        obtain ⟨S1, hS1⟩ : ∃ s : ByteArray, s = ⟨xp.toArray⟩ := ⟨_, rfl⟩
        obtain ⟨S2, hS2⟩ : ∃ s : ByteArray, s = ⟨yp.toArray⟩ := ⟨_, rfl⟩
        have kA : ∀ n, (convert 23 9 (.slice xa xp.length xcap)).run Try.prog ((wr.alloc (.cells #[.int .i64 xc, .int .i64 xk, .slice xa xp.length xcap] 49)).drewN n) = .ok (.string S1) ((wr.alloc (.cells #[.int .i64 xc, .int .i64 xk, .slice xa xp.length xcap] 49)).drewN n) := fun n => by
          rw [hS1]; exact conv_str (bx.alloc _) rfl
        have kB : ∀ n, (convert 23 9 (.slice ya yp.length ycap)).run Try.prog ((wr.alloc (.cells #[.int .i64 xc, .int .i64 xk, .slice xa xp.length xcap] 49)).drewN n) = .ok (.string S2) ((wr.alloc (.cells #[.int .i64 xc, .int .i64 xk, .slice xa xp.length xcap] 49)).drewN n) := fun n => by
          rw [hS2]; exact conv_str (by_.alloc _) rfl
        have kx : (k : Int) < (l.length : Int) := by omega
        have ky : (k : Int) < (m.length : Int) := by omega
        by_cases c1 : xc ≠ yc
        · have HF := Lib.hid (sameL_no hlt km (by rw [HX.out, HY.out]; intro q; injection q with q _; exact c1 q))
          have z2 : (xc != yc) = true := by rw [bne_iff_ne]; exact c1
          clear c1 hS1 hS2 bx by_ HL
          go_wp2
          go_quiet (fail)
          go_wp2
          go_ret
          exact ⟨ret_bool HF.out.symm, (by repeat (first | (with_reducible refine Below.setCell ?_ ?_ _) | (with_reducible refine Below.alloc ?_ ?_ _) | (with_reducible refine Below.drew ?_) | (with_reducible refine below_drewN ?_ _) | (with_reducible exact Below.refl _ _) | (with_reducible refine Below.trans ?_ (Below.mono bel ?_)) | (focus (simp; done)) | (focus (simp; omega)) | (focus omega) | (focus (have q0 := Below.size bel; (try simp at q0); (try simp); omega))))⟩
        obtain rfl : xc = yc := Decidable.of_not_not c1
        clear c1
        have z2 : (xc != xc) = false := by simp
        by_cases c2 : xk ≠ yk
        · have HF := Lib.hid (sameL_no hlt km (by rw [HX.out, HY.out]; intro q; injection q with _ q; injection q with q _; exact c2 q))
          have z3 : (xk != yk) = true := by rw [bne_iff_ne]; exact c2
          clear c2 hS1 hS2 bx by_ HL
          go_wp2
          go_quiet (fail)
          go_wp2
          go_ret
          exact ⟨ret_bool HF.out.symm, (by repeat (first | (with_reducible refine Below.setCell ?_ ?_ _) | (with_reducible refine Below.alloc ?_ ?_ _) | (with_reducible refine Below.drew ?_) | (with_reducible refine below_drewN ?_ _) | (with_reducible exact Below.refl _ _) | (with_reducible refine Below.trans ?_ (Below.mono bel ?_)) | (focus (simp; done)) | (focus (simp; omega)) | (focus omega) | (focus (have q0 := Below.size bel; (try simp at q0); (try simp); omega))))⟩
        obtain rfl : xk = yk := Decidable.of_not_not c2
        clear c2
        by_cases c3 : xp ≠ yp
        · have HF := Lib.hid (sameL_no hlt km (by rw [HX.out, HY.out]; intro q; injection q with _ q; injection q with _ q; exact c3 q))
          have z4 : (S1.toList == S2.toList) = false := by rw [hS1, hS2]; exact str_ne c3
          clear c3 hS1 hS2 bx by_ HL
          go_wp2
          go_quiet (fail)
          go_wp2
          go_ret
          exact ⟨ret_bool HF.out.symm, (by repeat (first | (with_reducible refine Below.setCell ?_ ?_ _) | (with_reducible refine Below.alloc ?_ ?_ _) | (with_reducible refine Below.drew ?_) | (with_reducible refine below_drewN ?_ _) | (with_reducible exact Below.refl _ _) | (with_reducible refine Below.trans ?_ (Below.mono bel ?_)) | (focus (simp; done)) | (focus (simp; omega)) | (focus omega) | (focus (have q0 := Below.size bel; (try simp at q0); (try simp); omega))))⟩
        · obtain rfl : xp = yp := Decidable.of_not_not c3
          have HK := Lib.hid (show l[k].key = m[k].key by rw [HX.out, HY.out]; rfl)
          obtain rfl : S1 = S2 := by rw [hS1, hS2]
          clear c3 hS1 hS2 bx by_ HL
          go_wp2
          go_quiet (fail)
          go_wp2
          go_roundw
          case rel => exact ⟨k + 1, by omega, by go_num, (by repeat (first | (with_reducible refine Below.setCell ?_ ?_ _) | (with_reducible refine Below.alloc ?_ ?_ _) | (with_reducible refine Below.drew ?_) | (with_reducible refine below_drewN ?_ _) | (with_reducible exact Below.refl _ _) | (with_reducible refine Below.trans ?_ (Below.mono bel ?_)) | (focus (simp; done)) | (focus (simp; omega)) | (focus omega) | (focus (have q0 := Below.size bel; (try simp at q0); (try simp); omega)))), by
            rw [List.take_succ_eq_append_getElem hlt, List.take_succ_eq_append_getElem km, List.map_append, List.map_append, HE.out]
            congr 1
            simp only [List.map_cons, List.map_nil]
            rw [HK.out]⟩
          case measure => simp [intOf]; omega
      · have HF : Hid (sameL l m = true) := sameL_yes (by
          have := HE.out
          rwa [List.take_of_length_le (by omega), List.take_of_length_le (by omega)] at this)
        go_wp2
        go_ret
        exact ⟨ret_bool HF.out.symm, bel⟩
  · have z1 : ((l.length : Int) != (m.length : Int)) = true := by rw [bne_iff_ne]; omega
    have HF := Lib.hid (show sameL l m = false from decide_eq_false fun q => hlen (by have := congrArg List.length q; simpa using this))
    clear hlen
    go_enter Try.func12, Try.ntmps12
    go_wp2
    go_ret
    exact ⟨ret_bool HF.out.symm, (by repeat (first | (with_reducible refine Below.setCell ?_ ?_ _) | (with_reducible refine Below.alloc ?_ ?_ _) | (with_reducible refine Below.drew ?_) | (with_reducible refine below_drewN ?_ _) | (with_reducible exact Below.refl _ _) | (focus (simp; done)) | (focus (simp; omega)) | (focus omega)))⟩
end Go.Proofs.Ytlfccoakodnbaaa
