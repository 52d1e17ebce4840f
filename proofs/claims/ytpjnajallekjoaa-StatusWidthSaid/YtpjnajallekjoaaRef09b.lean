/- signalbrokerref09: idle, Set, candidate -/
import Derived.Test.YtpjnajallekjoaaRef09
namespace Go.Proofs.Ytpjnajallekjoaa
set_option linter.unusedVariables false
open Go.RowKit Go.Sort
set_option maxRecDepth 100000

theorem liCells_get : ∀ (l : List (Int × Int)) (i : Nat) (h : i < l.length), (liCells l)[2 * i]? = some (.int .i64 l[i].1) ∧ (liCells l)[2 * i + 1]? = some (.int .i64 l[i].2)
  | x :: l, 0, _ => ⟨rfl, rfl⟩
  | x :: l, i + 1, h => by
    have := liCells_get l i (by simpa using h)
    have e : liCells (x :: l) = [.int .i64 x.1, .int .i64 x.2] ++ liCells l := rfl
    rw [e, show 2 * (i + 1) = 2 + 2 * i by omega, show 2 + 2 * i + 1 = 2 + (2 * i + 1) by omega, List.getElem?_append_right (by simp), List.getElem?_append_right (by simp)]
    simpa using this
/-- the two cells of a light -/
theorem light_cell {w : World} {base : Nat} {la : Option Addr} {n lc : Nat} {ls : List (Int × Int)} (h : Own w base 90 2 la n lc (liCells ls)) (hn : ls.length = n) (i : Nat) (hi : i < ls.length) :
    ∃ g, la = some ⟨g, 0, none⟩ ∧ base ≤ g ∧ g < w.heap.size ∧ w.cell? ⟨g, i * 2, none⟩ = some (.int .i64 ls[i].1) ∧ w.cell? ⟨g, i * 2 + 1, none⟩ = some (.int .i64 ls[i].2) ∧ w.frozen? ⟨g, i * 2, none⟩ = false ∧ w.frozen? ⟨g, i * 2 + 1, none⟩ = false := by
  obtain ⟨g, rfl, h1, h2⟩ := h.open_ (by omega)
  have hl := liCells_len ls
  obtain ⟨q0, q1⟩ := liCells_get ls i hi
  refine ⟨g, rfl, h1, h2, ?_, ?_, h.frozen _, h.frozen _⟩
  · rw [h.cell (i * 2) (by omega)]
    rw [show 2 * i = i * 2 by omega, List.getElem?_eq_getElem (by omega)] at q0
    exact q0
  · rw [h.cell (i * 2 + 1) (by omega)]
    rw [show 2 * i + 1 = i * 2 + 1 by omega, List.getElem?_eq_getElem (by omega)] at q1
    exact q1
@[reducible] def cAgg (la : Option Addr) (n lc : Nat) (g : Int) (na : Option Addr) (nc : Nat) (wt : Int) : Value := .agg #[.slice la n lc, .int .i64 g, .slice na 2 nc, .int .i64 wt]
def IdleR (ps : List Ph) (ls : List (Int × Int)) (ring : Int) (w : World) (e : Ending) (w' : World) : Prop :=
  ∃ b : Bool, e = .returned (.bool b) ∧ (b = true → ∀ i (h : i < ps.length) (h' : i < ls.length), ps[i].ring = ring → ls[i].1 = 0) ∧ Below w.heap.size w w'
set_option maxHeartbeats 4000000 in
theorem ref09_idle (base jb jc jb2 jc2 : Nat) (ps : List Ph) (cs : List Int) (s ring : Int) (base' : Nat) (ls : List (Int × Int)) (nx : List Int) (g wt : Int) (la : Option Addr) (lc : Nat) (na : Option Addr) (nc : Nat) (w : World) (hj : JAt w base jb jc jb2 jc2 ps cs s) (hc : CtlV w base' ps ls nx g wt la lc na nc) :
    Calls Try.prog 56 #[jAgg jb jc jb2 jc2 ps.length s, cAgg la ps.length lc g na nc wt, .int .i64 ring] w (IdleR ps ls ring w) := by
  have hn := hj.n1
  have hlw := hj.lw
  go_enter Try.func56, Try.ntmps56
  go_wp2
  go_loopw [12] (fun s12 wr => ∃ i : Nat, s12 = .int .i64 i ∧ i ≤ ps.length ∧ (∀ k (h : k < ps.length) (h' : k < ls.length), k < i → ps[k].ring = ring → ls[k].1 = 0) ∧ Blk wr w.heap.size 55 #[.slice (some ⟨jb, 0, none⟩) ps.length jc, .slice (some ⟨jb2, 0, none⟩) ps.length jc2, .int .i64 s] ∧ RowKit.Below w.heap.size w wr) (fun s _ => ps.length - (intOf s).toNat)
  case atStart => exact ⟨0, rfl, by omega, fun _ _ _ h => by omega, (Blk.new _ _ _).alloc _, (by repeat (first | (with_reducible refine Below.setCell ?_ ?_ _) | (with_reducible refine Below.alloc ?_ ?_ _) | (with_reducible refine Below.drew ?_) | (with_reducible refine below_drewN ?_ _) | (with_reducible exact Below.refl _ _) | (focus (simp; done)) | (focus (simp; omega)) | (focus omega)))⟩
  case round =>
    obtain ⟨i, rfl, hi, hac, kj, be⟩ := hrel
    have HAC := Lib.hid hac
    clear hac
    have j0 := kj.cell 0
    have jl := kj.lt
    by_cases hlt : i < ps.length
    · have hil : i < ls.length := by have := hc.ll; omega
      obtain ⟨p0, p1, p2, p3, p4, p5, p6, p7⟩ := row_phase (hj.below (be.mono hlw)).ph i hlt
      have hjb : jb < wr.heap.size := by have := hj.lb; have := be.size; omega
      obtain ⟨G, rfl, hG, hGl, x0, x1, -, -⟩ := light_cell (hc.lo.below be (Nat.le_refl _)) hc.ll i hil
      obtain ⟨rr, hrr⟩ : ∃ rr, ps[i].ring = rr := ⟨_, rfl⟩
      obtain ⟨lm, hlm⟩ : ∃ lm, ls[i].1 = lm := ⟨_, rfl⟩
      rw [hrr] at p0
      rw [hlm] at x0
      have HRR := Lib.hid hrr
      have HLM := Lib.hid hlm
      clear hrr hlm
      by_cases hr : rr = ring ∧ lm ≠ 0
      · obtain ⟨rfl, hne⟩ := hr
        have z0 : (lm != 0) = true := by rw [bne_iff_ne]; exact hne
        go_wp2_with fail
        go_ret
        exact ⟨false, rfl, (fun h => by cases h), (by repeat (first | (with_reducible refine Below.setCell ?_ ?_ _) | (with_reducible refine Below.alloc ?_ ?_ _) | (with_reducible refine Below.drew ?_) | (with_reducible refine below_drewN ?_ _) | (with_reducible exact Below.refl _ _) | (with_reducible refine Below.trans ?_ (Below.mono be ?_)) | (focus (simp; done)) | (focus (simp; omega)) | (focus omega) | (focus (have q0 := Below.size be; (try simp at q0); (try simp); omega))))⟩
      · have HNR := Lib.hid hr
        by_cases hr1 : rr = ring
        · subst hr1
          have hz : lm = 0 := by
            rcases Int.lt_trichotomy lm 0 with h | h | h
            · exact absurd ⟨rfl, by omega⟩ hr
            · exact h
            · exact absurd ⟨rfl, by omega⟩ hr
          have z0 : (lm != 0) = false := by rw [hz]; rfl
          have HZ := Lib.hid hz
          clear hr hz
          go_wp2_with fail
          go_roundw
          case rel =>
            refine ⟨i + 1, by go_num, by omega, fun k h h' hk hrk => ?_, kj.alloc _, (by repeat (first | (with_reducible refine Below.setCell ?_ ?_ _) | (with_reducible refine Below.alloc ?_ ?_ _) | (with_reducible refine Below.drew ?_) | (with_reducible refine below_drewN ?_ _) | (with_reducible exact Below.refl _ _) | (with_reducible refine Below.trans ?_ (Below.mono be ?_)) | (focus (simp; done)) | (focus (simp; omega)) | (focus omega) | (focus (have q0 := Below.size be; (try simp at q0); (try simp); omega))))⟩
            by_cases hki : k < i
            · exact HAC.out k h h' hki hrk
            · obtain rfl : k = i := by omega
              rw [HLM.out, HZ.out]
          case measure => simp [intOf]; omega
        · have z0 : (rr == ring) = false := by rw [beq_eq_false_iff_ne]; exact hr1
          have HN := Lib.hid hr1
          clear hr hr1
          go_wp2_with fail
          go_roundw
          case rel =>
            refine ⟨i + 1, by go_num, by omega, fun k h h' hk hrk => ?_, kj.alloc _, (by repeat (first | (with_reducible refine Below.setCell ?_ ?_ _) | (with_reducible refine Below.alloc ?_ ?_ _) | (with_reducible refine Below.drew ?_) | (with_reducible refine below_drewN ?_ _) | (with_reducible exact Below.refl _ _) | (with_reducible refine Below.trans ?_ (Below.mono be ?_)) | (focus (simp; done)) | (focus (simp; omega)) | (focus omega) | (focus (have q0 := Below.size be; (try simp at q0); (try simp); omega))))⟩
            by_cases hki : k < i
            · exact HAC.out k h h' hki hrk
            · obtain rfl : k = i := by omega
              exact absurd (HRR.out.symm.trans hrk) HN.out
          case measure => simp [intOf]; omega
    · obtain rfl : i = ps.length := by omega
      go_wp2
      go_ret
      exact ⟨true, rfl, fun _ k h h' hrk => HAC.out k h h' h hrk, (by repeat (first | (with_reducible refine Below.setCell ?_ ?_ _) | (with_reducible refine Below.alloc ?_ ?_ _) | (with_reducible refine Below.drew ?_) | (with_reducible refine below_drewN ?_ _) | (with_reducible exact Below.refl _ _) | (with_reducible refine Below.trans ?_ (Below.mono be ?_)) | (focus (simp; done)) | (focus (simp; omega)) | (focus omega) | (focus (have q0 := Below.size be; (try simp at q0); (try simp); omega))))⟩
def SomeI (w : World) (e : Ending) (w' : World) : Prop := ∃ n : Int, e = .returned (.int .i64 n) ∧ Below w.heap.size w w'
set_option maxHeartbeats 4000000 in
theorem ref09_Set (base' : Nat) (ps : List Ph) (ls : List (Int × Int)) (nx : List Int) (g wt : Int) (la : Option Addr) (lc : Nat) (na : Option Addr) (nc : Nat) (w : World) (hc : CtlV w base' ps ls nx g wt la lc na nc) (h8 : ps.length ≤ 8) :
    Calls Try.prog 58 #[cAgg la ps.length lc g na nc wt] w (SomeI w) := by
  go_enter Try.func58, Try.ntmps58
  go_wp2
  go_loopw [3, 9] (fun s3 s9 wr => ∃ (i : Nat) (N : Int), s3 = .int .i64 N ∧ s9 = .int .i64 i ∧ i ≤ ps.length ∧ RowKit.Below w.heap.size w wr) (fun _ s _ => ps.length - (intOf s).toNat)
  case atStart => exact ⟨0, 0, rfl, rfl, by omega, (by repeat (first | (with_reducible refine Below.setCell ?_ ?_ _) | (with_reducible refine Below.alloc ?_ ?_ _) | (with_reducible refine Below.drew ?_) | (with_reducible refine below_drewN ?_ _) | (with_reducible exact Below.refl _ _) | (focus (simp; done)) | (focus (simp; omega)) | (focus omega)))⟩
  case round =>
    obtain ⟨i, N, rfl, rfl, hi, be⟩ := hrel
    by_cases hlt : i < ps.length
    · have hil : i < ls.length := by have := hc.ll; omega
      obtain ⟨G, rfl, hG, hGl, x0, x1, -, -⟩ := light_cell (hc.lo.below be (Nat.le_refl _)) hc.ll i hil
      obtain ⟨lm, hlm⟩ : ∃ lm, ls[i].1 = lm := ⟨_, rfl⟩
      rw [hlm] at x0
      clear hlm
      by_cases hz : lm = 0
      · subst hz
        go_wp2_with fail
        go_roundw
        case rel => exact ⟨i + 1, N, rfl, by go_num, by omega, (by repeat (first | (with_reducible refine Below.setCell ?_ ?_ _) | (with_reducible refine Below.alloc ?_ ?_ _) | (with_reducible refine Below.drew ?_) | (with_reducible refine below_drewN ?_ _) | (with_reducible exact Below.refl _ _) | (with_reducible refine Below.trans ?_ (Below.mono be ?_)) | (focus (simp; done)) | (focus (simp; omega)) | (focus omega) | (focus (have q0 := Below.size be; (try simp at q0); (try simp); omega))))⟩
        case measure => simp [intOf]; omega
      · have z0 : (lm != 0) = true := by rw [bne_iff_ne]; exact hz
        clear hz
        go_wp2_with fail
        go_roundw
        case rel => exact ⟨i + 1, _, rfl, by go_num, by omega, (by repeat (first | (with_reducible refine Below.setCell ?_ ?_ _) | (with_reducible refine Below.alloc ?_ ?_ _) | (with_reducible refine Below.drew ?_) | (with_reducible refine below_drewN ?_ _) | (with_reducible exact Below.refl _ _) | (with_reducible refine Below.trans ?_ (Below.mono be ?_)) | (focus (simp; done)) | (focus (simp; omega)) | (focus omega) | (focus (have q0 := Below.size be; (try simp at q0); (try simp); omega))))⟩
        case measure => simp [intOf]; omega
    · obtain rfl : i = ps.length := by omega
      go_wp2
      go_ret
      exact ⟨N, rfl, be⟩
def CandR (ps : List Ph) (ring : Int) (w : World) (e : Ending) (w' : World) : Prop := ∃ q : Int, e = .returned (.int .i64 q) ∧ InRing ps ring q ∧ Below w.heap.size w w'
set_option maxHeartbeats 4000000 in
theorem ref09_candidate (base jb jc jb2 jc2 : Nat) (ps : List Ph) (cs : List Int) (s : Int) (base' : Nat) (ls : List (Int × Int)) (nx : List Int) (g wt : Int) (la : Option Addr) (lc : Nat) (na : Option Addr) (nc : Nat) (tg R : Nat) (w : World) (hj : JAt w base jb jc jb2 jc2 ps cs s) (hc : CtlV w base' ps ls nx g wt la lc na nc) (ht : tg < ps.length) (hR : R < 2) :
    Calls Try.prog 55 #[jAgg jb jc jb2 jc2 ps.length s, cAgg la ps.length lc g na nc wt, .int .i64 (R : Int), .int .i64 (tg : Int)] w (CandR ps R w) := by
  have hn := hj.n1
  have hlw := hj.lw
  obtain ⟨t0, -, -, -, -, -, -, -⟩ := row_phase (hj.below ((by repeat (first | (with_reducible refine Below.setCell ?_ ?_ _) | (with_reducible refine Below.alloc ?_ ?_ _) | (with_reducible refine Below.drew ?_) | (with_reducible refine below_drewN ?_ _) | (with_reducible exact Below.refl _ _) | (focus (simp; done)) | (focus (simp; omega)) | (focus omega))) : RowKit.Below base w w)).ph tg ht
  have hjb0 : jb < w.heap.size := by have := hj.lb; omega
  obtain ⟨tr, htr⟩ : ∃ tr, ps[tg].ring = tr := ⟨_, rfl⟩
  rw [htr] at t0
  have HTR := Lib.hid htr
  clear htr
  by_cases he : tr = (R : Int)
  · subst he
    go_enter Try.func55, Try.ntmps55
    go_wp2
    go_ret
    exact ⟨_, rfl, .inr ⟨tg, ht, rfl, HTR.out⟩, (by repeat (first | (with_reducible refine Below.setCell ?_ ?_ _) | (with_reducible refine Below.alloc ?_ ?_ _) | (with_reducible refine Below.drew ?_) | (with_reducible refine below_drewN ?_ _) | (with_reducible exact Below.refl _ _) | (focus (simp; done)) | (focus (simp; omega)) | (focus omega)))⟩
  · have z0 : (tr == (R : Int)) = false := by rw [beq_eq_false_iff_ne]; exact he
    clear he
    go_enter Try.func55, Try.ntmps55
    go_wp2
    clear t0 z0
    go_loopw [9, 24] (fun s9 s24 wr => ∃ (i : Nat) (F : Int), s9 = .int .i64 F ∧ s24 = .int .i64 i ∧ i ≤ ps.length ∧ InRing ps R F ∧ Blk wr w.heap.size 55 #[.slice (some ⟨jb, 0, none⟩) ps.length jc, .slice (some ⟨jb2, 0, none⟩) ps.length jc2, .int .i64 s] ∧ Blk wr (w.heap.size + 1) 59 #[.slice la ps.length lc, .int .i64 g, .slice na 2 nc, .int .i64 wt] ∧ RowKit.Below w.heap.size w wr) (fun _ s _ => ps.length - (intOf s).toNat)
    case atStart => exact ⟨0, -1, rfl, rfl, by omega, .inl rfl, (Blk.new _ _ _).alloc _, Blk.next _ _ _ _, (by repeat (first | (with_reducible refine Below.setCell ?_ ?_ _) | (with_reducible refine Below.alloc ?_ ?_ _) | (with_reducible refine Below.drew ?_) | (with_reducible refine below_drewN ?_ _) | (with_reducible exact Below.refl _ _) | (focus (simp; done)) | (focus (simp; omega)) | (focus omega)))⟩
    case round =>
      obtain ⟨i, F, rfl, rfl, hi, hF, kj, kc, be⟩ := hrel
      have HF := Lib.hid hF
      clear hF
      obtain ⟨j0, j1, j2⟩ : wr.cell? ⟨w.heap.size, 0, none⟩ = _ ∧ wr.cell? ⟨w.heap.size, 1, none⟩ = _ ∧ wr.cell? ⟨w.heap.size, 2, none⟩ = _ := ⟨kj.cell 0, kj.cell 1, kj.cell 2⟩
      obtain ⟨c0, c1, c2, c3⟩ := kc.four'
      have jl := kj.lt
      have cl := kc.lt
      by_cases hlt : i < ps.length
      · obtain ⟨p0, p1, p2, p3, p4, p5, p6, p7⟩ := row_phase (hj.below (be.mono hlw)).ph i hlt
        have hjb : jb < wr.heap.size := by have := be.size; omega
        obtain ⟨rr, hrr⟩ : ∃ rr, ps[i].ring = rr := ⟨_, rfl⟩
        rw [hrr] at p0
        have HRR := Lib.hid hrr
        clear hrr
        by_cases hr1 : rr = (R : Int)
        · subst hr1
          have hnR : R < nx.length := by have := hc.nx.1; omega
          obtain ⟨G, rfl, hG, hGl⟩ := hc.no.open_ (by omega)
          have y0 := (hc.no.below be (Nat.le_refl _)).cell R (by simpa using hnR)
          obtain ⟨y, hy⟩ : ∃ y, nx[R] = y := ⟨_, rfl⟩
          simp only [List.getElem_map, encI, hy] at y0
          have hGr : G < wr.heap.size := by have := be.size; omega
          clear hy
          go_wp2_with (first | (go_at_call 53; (with_reducible refine (ref06_Conflict (some ⟨jb2, 0, none⟩) cs ps.length jc2 (i : Int) (tg : Int) _ (hj.below (show RowKit.Below base w _ from (by repeat (first | (with_reducible refine Below.setCell ?_ ?_ _) | (with_reducible refine Below.alloc ?_ ?_ _) | (with_reducible refine Below.drew ?_) | (with_reducible refine below_drewN ?_ _) | (with_reducible exact Below.refl _ _) | (with_reducible refine Below.trans ?_ (Below.mono be ?_)) | (focus (simp; done)) | (focus (simp; omega)) | (focus omega) | (focus (have q0 := Below.size be; (try simp at q0); (try simp); omega)))))).cf hj.cl.symm (by omega)).mono ?_); rintro e w2 ⟨b2, rfl, rfl⟩))
          all_goals first | (go_ret; exact ⟨_, rfl, .inr ⟨i, hlt, rfl, HRR.out⟩, (by repeat (first | (with_reducible refine Below.setCell ?_ ?_ _) | (with_reducible refine Below.alloc ?_ ?_ _) | (with_reducible refine Below.drew ?_) | (with_reducible refine below_drewN ?_ _) | (with_reducible exact Below.refl _ _) | (with_reducible refine Below.trans ?_ (Below.mono be ?_)) | (focus (simp; done)) | (focus (simp; omega)) | (focus omega) | (focus (have q0 := Below.size be; (try simp at q0); (try simp); omega))))⟩) | (go_roundw; (case rel => exact ⟨i + 1, _, rfl, by go_num, by omega, by first | exact HF.out | exact .inr ⟨i, hlt, rfl, HRR.out⟩, kj.alloc _, kc.alloc _, (by repeat (first | (with_reducible refine Below.setCell ?_ ?_ _) | (with_reducible refine Below.alloc ?_ ?_ _) | (with_reducible refine Below.drew ?_) | (with_reducible refine below_drewN ?_ _) | (with_reducible exact Below.refl _ _) | (with_reducible refine Below.trans ?_ (Below.mono be ?_)) | (focus (simp; done)) | (focus (simp; omega)) | (focus omega) | (focus (have q0 := Below.size be; (try simp at q0); (try simp); omega))))⟩); (case measure => simp [intOf]; omega))
        · have z0 : (rr != (R : Int)) = true := by rw [bne_iff_ne]; exact hr1
          have HN := Lib.hid hr1
          clear hr1
          go_wp2_with fail
          go_roundw
          case rel => exact ⟨i + 1, F, rfl, by go_num, by omega, HF.out, kj.alloc _, kc.alloc _, (by repeat (first | (with_reducible refine Below.setCell ?_ ?_ _) | (with_reducible refine Below.alloc ?_ ?_ _) | (with_reducible refine Below.drew ?_) | (with_reducible refine below_drewN ?_ _) | (with_reducible exact Below.refl _ _) | (with_reducible refine Below.trans ?_ (Below.mono be ?_)) | (focus (simp; done)) | (focus (simp; omega)) | (focus omega) | (focus (have q0 := Below.size be; (try simp at q0); (try simp); omega))))⟩
          case measure => simp [intOf]; omega
      · obtain rfl : i = ps.length := by omega
        go_wp2
        go_ret
        exact ⟨F, rfl, HF.out, (by repeat (first | (with_reducible refine Below.setCell ?_ ?_ _) | (with_reducible refine Below.alloc ?_ ?_ _) | (with_reducible refine Below.drew ?_) | (with_reducible refine below_drewN ?_ _) | (with_reducible exact Below.refl _ _) | (with_reducible refine Below.trans ?_ (Below.mono be ?_)) | (focus (simp; done)) | (focus (simp; omega)) | (focus omega) | (focus (have q0 := Below.size be; (try simp at q0); (try simp); omega))))⟩
end Go.Proofs.Ytpjnajallekjoaa
