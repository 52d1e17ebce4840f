/- signalbrokerlaw14.light, bent -/
import Derived.Test.YtgngmmmdhhjbhaaTkAwk
namespace Go.Proofs.Ytgngmmmdhhjbhaa
set_option linter.unusedVariables false
open Go.RowKit Go.Sort
set_option maxRecDepth 100000

def LightR (l : List Tk) (w : World) (e : Ending) (w' : World) : Prop := ∃ b : Bool, e = .returned (.bool b) ∧ Hid (b = true → l.length ≤ 20 ∧ ∀ r ∈ l, r.sec.length ≤ 50) ∧ Below w.heap.size w w'
set_option maxHeartbeats 4000000 in
theorem law_light (a : Option Addr) (l : List Tk) (n c : Nat) (w : World) (h : Tks w a l) (hn : n = l.length) (l9 : n ≤ 9223372036854775807) :
    Calls Try.prog 9 #[.slice a n c] w (LightR l w) := by
  subst hn
  go_enter Try.func9, Try.ntmps9
  go_wp2_with fail
  go_loopw [7] (fun s7 wr => ∃ i : Nat, s7 = .int .i64 i ∧ i ≤ l.length ∧ Hid (∀ k (h : k < l.length), k < i → l[k].sec.length ≤ 50) ∧ RowKit.Below w.heap.size w wr) (fun s _ => l.length - (intOf s).toNat)
  case atStart => exact ⟨0, rfl, by omega, Lib.hid fun k _ h => by omega, (by repeat (first | (with_reducible refine Below.setCell ?_ ?_ _) | (with_reducible refine Below.alloc ?_ ?_ _) | (with_reducible refine Below.drew ?_) | (with_reducible refine below_drewN ?_ _) | (with_reducible exact Below.refl _ _) | (focus (simp; done)) | (focus (simp; omega)) | (focus omega)))⟩
  case round =>
    obtain ⟨i, rfl, hi, hall, be⟩ := hrel
    by_cases hlt : i < l.length
    · obtain ⟨ba, oa, rfl⟩ := h.open (by omega)
      have hr := h.below be (Nat.le_refl _)
      obtain ⟨x0, x1, x2, x3, x4, x5, xb⟩ := row_tok hr.row i hlt
      have HX := Lib.hid (show ∀ m, l[i].sec.length = m → m ≤ 50 → ∀ k (h : k < l.length), k < i + 1 → l[k].sec.length ≤ 50 from fun m e q k hk h1 => by
        by_cases z : k = i
        · subst z; omega
        · exact hall.out k hk (by omega))
      obtain ⟨x, hx⟩ : ∃ x, l[i] = x := ⟨_, rfl⟩
      rw [hx] at x0 x1 x2 x3 x4 x5 HX
      clear hx hr
      obtain ⟨us, sec, par, rt, cl, un, la, lc⟩ := x
      simp only at x0 x1 x2 x3 x4 x5 HX
      have kx : (i : Int) < (l.length : Int) := by omega
      by_cases h9 : sec.length ≤ 50
      · have HY := Lib.hid (HX.out _ rfl h9)
        have h9i : ¬ (50 : Int) < (sec.length : Int) := by omega
        go_wp2_with fail
        go_roundw
        case rel => exact ⟨i + 1, by go_num, by omega, HY, (by repeat (first | (with_reducible refine Below.setCell ?_ ?_ _) | (with_reducible refine Below.alloc ?_ ?_ _) | (with_reducible refine Below.drew ?_) | (with_reducible refine below_drewN ?_ _) | (with_reducible exact Below.refl _ _) | (with_reducible refine Below.trans ?_ (Below.mono be ?_)) | (focus (simp; done)) | (focus (simp; omega)) | (focus omega) | (focus (have q0 := Below.size be; (try simp at q0); (try simp); omega))))⟩
        case measure => simp [intOf]; omega
      · have h9i : (50 : Int) < (sec.length : Int) := by omega
        go_wp2_with fail
        go_ret
        exact ⟨false, rfl, Lib.hid (fun q => by cases q), (by repeat (first | (with_reducible refine Below.setCell ?_ ?_ _) | (with_reducible refine Below.alloc ?_ ?_ _) | (with_reducible refine Below.drew ?_) | (with_reducible refine below_drewN ?_ _) | (with_reducible exact Below.refl _ _) | (with_reducible refine Below.trans ?_ (Below.mono be ?_)) | (focus (simp; done)) | (focus (simp; omega)) | (focus omega) | (focus (have q0 := Below.size be; (try simp at q0); (try simp); omega))))⟩
    · obtain rfl : i = l.length := by omega
      go_wp2_with fail
      go_ret
      refine ⟨_, rfl, Lib.hid fun q => ⟨?_, fun r hr => ?_⟩, be⟩
      · simp at q; omega
      · obtain ⟨k, hk, rfl⟩ := List.mem_iff_getElem.1 hr
        exact hall.out k hk hk
/-- one cell of a token is written over -/
theorem TkL.set1 {W : World} {B : Nat} {l : List Tk} {xb xc : Nat} (h : TkL W B l (some ⟨xb, 0, none⟩) xc) {j : Nat} (hj : j < l.length) (y : Tk) (c : Nat) (v : Value) (hc : c < 6) (e : y.cells = l[j].cells.set c v) (hy : Own W B 5 1 y.a y.sec.length y.c (y.sec.map encB)) :
    TkL (W.setCell ⟨xb, j * 6 + c, none⟩ v) B (l.set j y) (some ⟨xb, 0, none⟩) xc := by
  have far : ∀ {n cap : Nat} {b : Option Addr} {xs : List Value}, Own W B 5 1 b n cap xs → Own (W.setCell ⟨xb, j * 6 + c, none⟩ v) B 5 1 b n cap xs := fun o =>
    o.far (p := ⟨xb, _, none⟩) (fun q => h.own.apart3 o (by decide) xb rfl q) _
  refine ⟨?_, fun r hr => ?_⟩
  · rw [List.length_set, tkCells_set1 _ _ hj y c v hc e]
    exact h.own.set _ _
  · rcases List.mem_or_eq_of_mem_set hr with q | q
    · exact far (h.sec r q)
    · rw [q]; exact far hy
theorem TkL.g8 {W : World} {B : Nat} {l : List Tk} {xa : Option Addr} {xc : Nat} (h : TkL W B l xa xc) (hn : l.length ≤ 20) (hs : ∀ t ∈ l, t.sec.length ≤ 100000) : TkG W xa l xc :=
  ⟨h.tks, fun e => (h.own.none_len e).2, fun t ht => ⟨fun e => (h.sec t ht).none_len e, hs t ht⟩, hn⟩
def BentR (w : World) (e : Ending) (w' : World) : Prop := ∃ (a : Option Addr) (l : List Tk) (n c : Nat), e = .returned (.slice a n c) ∧ Hid (n = l.length) ∧ TkG w' a l c ∧ Below w.heap.size w w'
theorem set_all {α : Type} {P : α → Prop} {l : List α} (h : ∀ r ∈ l, P r) {k : Nat} {y : α} (hy : P y) : ∀ r ∈ l.set k y, P r := fun r hr => by
  rcases List.mem_or_eq_of_mem_set hr with q | q
  · exact h r q
  · rw [q]; exact hy
theorem Tks.tail {w : World} {xb : Nat} {t : Tk} {l : List Tk} (h : Tks w (some ⟨xb, 0, none⟩) (t :: l)) : Tks w (some ⟨xb, 6, none⟩) l := by
  refine ⟨?_, fun r hr => h.sec r (by simp [hr])⟩
  rcases h.row with h0 | ⟨b, off, e, hlt, hc⟩
  · have := tkCells_len (t :: l)
    rw [h0] at this
    simp at this
  · injection e with e
    injection e with e1 e2 _
    subst e1 e2
    refine .inr ⟨xb, 6, rfl, hlt, fun i hi => ?_⟩
    have hi2 : 6 + i < (tkCells (t :: l)).length := by
      rw [tkCells_len] at hi ⊢
      simp only [List.length_cons]
      omega
    have := hc (6 + i) hi2
    rw [Nat.zero_add] at this
    rw [this]
    have e : tkCells (t :: l) = t.cells ++ tkCells l := rfl
    rw [List.getElem_of_eq e, List.getElem_append_right (by simp [Tk.cells])]
    simp [Tk.cells]
set_option maxHeartbeats 8000000 in
theorem law_bent (a : Option Addr) (l : List Tk) (n c : Nat) (which by_ : Int) (w : World) (h : Tks w a l) (hn : n = l.length) (h8 : l.length = 8) (hl : ∀ r ∈ l, r.sec.length ≤ 8) :
    Calls Try.prog 15 #[.slice a n c, .int .i64 which, .int .i64 by_] w (BentR w) := by
  obtain rfl : n = 8 := by omega
  obtain ⟨j, Ej, j0, j1⟩ := modName by_ 8 (by decide)
  obtain ⟨j, rfl⟩ : ∃ j' : Nat, j = j' := ⟨j.toNat, by omega⟩
  obtain ⟨r, Er, r0, r1⟩ := modName which 7 (by decide)
  have HN := Lib.hid hn
  obtain ⟨q, Eq⟩ : ∃ q, by_.tdiv 8 = q := ⟨_, rfl⟩
  have HL1 : Hid (∀ r ∈ l, r.sec.length ≤ 100000) := Lib.hid (fun r hr => by have := hl r hr; omega)
  clear hn
  go_enter Try.func15, Try.ntmps15
  go_upto_region 2 with ((go_at_call 41; (with_reducible refine (ref14_Copy a l 8 c _ h HN.out (by decide) HL1.out).mono ?_); rintro e w2 ⟨xa, xc, l2, rfl, hk, hn2, il, hb⟩))
  have HL2 : Hid (∀ r ∈ l2, r.sec.length ≤ 100000) := Lib.hid (fun r hr => by
    have q : r.key ∈ l.map Tk.key := by rw [← hk.out]; exact List.mem_map_of_mem hr
    obtain ⟨x, hx, e⟩ := List.mem_map.1 q
    have e2 : x.sec = r.sec := congrArg TkK.sec e
    rw [← e2]; exact HL1.out x hx)
  clear hk h hl h8
  have hjl : j < l2.length := by rw [← hn2.out]; omega
  have HJ := Lib.hid hjl
  obtain ⟨xb, rfl, hxB, -⟩ := il.own.open_ (by omega)
  clear hjl
  go_upto_region 3 with ((go_at_call 17; (with_reducible refine (mk_ModE Ej.out _ (by decide) (by decide)).mono ?_); rintro e wz ⟨rfl, rfl⟩))
  obtain ⟨y0, y1, y2, y3, y4, y5, yl⟩ := row_tok il.own.row j HJ.out
  simp only [Nat.zero_add] at y0 y1 y2 y3 y4 y5
  have yf := il.own.frozen
  have NEW : ∀ (y : Tk) (cc : Nat) (v : Value) (_ : cc < 6) (_ : y.cells = (l2[j]'HJ.out).cells.set cc v) (_ : y.sec.length ≤ 100000) (W : World) (_ : Below w.heap.size w W) (hi : TkL W w.heap.size l2 (some ⟨xb, 0, none⟩) xc) (_ : Own W w.heap.size 5 1 y.a y.sec.length y.c (y.sec.map encB)),
      BentR w (.returned (.slice (some ⟨xb, 0, none⟩) 8 xc)) (W.setCell ⟨xb, j * 6 + cc, none⟩ v) := fun y cc v hcc e hs W bW hi hy =>
    ⟨_, l2.set j y, 8, _, rfl, Lib.hid (by rw [List.length_set]; exact hn2.out), (hi.set1 HJ.out y cc v hcc e hy).g8 (by rw [List.length_set, ← hn2.out]; decide) (set_all HL2.out hs), bW.grown (grownBy_set _ xb _ v) bW.size (fun k e => by injection e with e; omega)⟩
  have HNEW := Lib.hid NEW
  clear NEW
  obtain ⟨t, ht⟩ : ∃ t, l2[j]'HJ.out = t := ⟨_, rfl⟩
  have HT := Lib.hid ht
  have hg := il.sec _ (List.getElem_mem HJ.out)
  have hgl := HL2.out _ (List.getElem_mem HJ.out)
  rw [ht] at y0 y1 y2 y3 y4 y5 HNEW hg hgl
  clear ht
  obtain ⟨us, sec, par, rt, cl, un, la, lc⟩ := t
  simp only at y0 y1 y2 y3 y4 y5 hg hgl
  have hq : r = 0 ∨ r = 1 ∨ r = 2 ∨ r = 3 ∨ r = 4 ∨ r = 5 ∨ r = 6 := by omega
  rcases hq with rfl | rfl | rfl | rfl | rfl | rfl | rfl
  · go_wp2_with ((go_at_call 17; (with_reducible refine (mk_ModE Er.out _ (by decide) (by decide)).mono ?_); rintro e wz ⟨rfl, rfl⟩))
    go_ret
    exact HNEW.out ⟨!us, sec, par, rt, cl, un, la, lc⟩ 0 _ (by decide) rfl hgl _ hb il hg
  · obtain ⟨m, Em, m0, m1⟩ := modName (wrap64 q) 10 (by decide)
    go_wp2_with (first | (go_at_call 17; (with_reducible refine (mk_ModE Er.out _ (by decide) (by decide)).mono ?_); rintro e wz ⟨rfl, rfl⟩) | (go_at_call 17; (with_reducible refine (mk_ModE Em.out _ (by decide) (by decide)).mono ?_); rintro e wz ⟨rfl, rfl⟩))
    go_ret
    exact HNEW.out ⟨us, sec, m - 1, rt, cl, un, la, lc⟩ 2 _ (by decide) rfl hgl _ hb il hg
  · obtain ⟨m, Em, m0, m1⟩ := modName (wrap64 q) 66 (by decide)
    go_wp2_with (first | (go_at_call 17; (with_reducible refine (mk_ModE Er.out _ (by decide) (by decide)).mono ?_); rintro e wz ⟨rfl, rfl⟩) | (go_at_call 17; (with_reducible refine (mk_ModE Em.out _ (by decide) (by decide)).mono ?_); rintro e wz ⟨rfl, rfl⟩))
    go_ret
    exact HNEW.out ⟨us, sec, par, m - 1, cl, un, la, lc⟩ 3 _ (by decide) rfl hgl _ hb il hg
  · obtain ⟨m, Em, m0, m1⟩ := modName (wrap64 q) 6 (by decide)
    go_wp2_with (first | (go_at_call 17; (with_reducible refine (mk_ModE Er.out _ (by decide) (by decide)).mono ?_); rintro e wz ⟨rfl, rfl⟩) | (go_at_call 17; (with_reducible refine (mk_ModE Em.out _ (by decide) (by decide)).mono ?_); rintro e wz ⟨rfl, rfl⟩))
    go_ret
    exact HNEW.out ⟨us, sec, par, rt, m - 1, un, la, lc⟩ 4 _ (by decide) rfl hgl _ hb il hg
  · obtain ⟨m, Em, m0, m1⟩ := modName (wrap64 q) 30 (by decide)
    go_wp2_with (first | (go_at_call 17; (with_reducible refine (mk_ModE Er.out _ (by decide) (by decide)).mono ?_); rintro e wz ⟨rfl, rfl⟩) | (go_at_call 17; (with_reducible refine (mk_ModE Em.out _ (by decide) (by decide)).mono ?_); rintro e wz ⟨rfl, rfl⟩))
    go_ret
    exact HNEW.out ⟨us, sec, par, rt, cl, m - 1, la, lc⟩ 5 _ (by decide) rfl hgl _ hb il hg
  · obtain ⟨m, Em, m0, m1⟩ := modName (wrap64 q) 2 (by decide)
    obtain ⟨m, rfl⟩ : ∃ m' : Nat, m = m' := ⟨m.toNat, by omega⟩
    go_wp2_with (first | (go_at_call 17; (with_reducible refine (mk_ModE Er.out _ (by decide) (by decide)).mono ?_); rintro e wz ⟨rfl, rfl⟩) | (go_at_call 17; (with_reducible refine (mk_ModE Em.out _ (by decide) (by decide)).mono ?_); rintro e wz ⟨rfl, rfl⟩) | (go_at_call 16; (with_reducible refine (mk_Secret _ _).mono ?_); rintro e w5 ⟨sa, sc, rfl, own5, hb5⟩; ((have il5 := il.below hb5); (have cap5 := own5.cap_le); clear y0 y1 y2 y3 y4 y5 yl yf; (obtain ⟨y0, y1, y2, y3, y4, y5, yl⟩ := row_tok il5.own.row j HJ.out); (simp only [Nat.zero_add] at y0 y1 y2 y3 y4 y5); (have yf := il5.own.frozen))))
    go_ret
    have hlen : ((secX by_).take (7 + m)).length = 7 + m := by rw [List.length_take, secX_len]; omega
    have hown := (own5.mono hb.size).takeB (7 + m) (by omega)
    refine HNEW.out ⟨us, (secX by_).take (7 + m), par, rt, cl, un, sa, sc⟩ 1 (.slice sa (7 + m) sc) (by decide) ?_ (by simp only [hlen]; omega) _ (by repeat (first | (with_reducible refine Below.setCell ?_ ?_ _) | (with_reducible refine Below.alloc ?_ ?_ _) | (with_reducible refine Below.drew ?_) | (with_reducible refine below_drewN ?_ _) | (with_reducible exact Below.refl _ _) | (with_reducible refine Below.trans ?_ (Below.mono hb5 ?_)) | (with_reducible refine Below.trans ?_ (Below.mono hb ?_)) | (focus (simp; done)) | (focus (simp; omega)) | (focus omega) | (focus (have q0 := Below.size hb5; (try simp at q0); have q1 := Below.size hb; (try simp at q1); (try simp); omega)))) il5 ?_
    · simp only [Tk.cells, hlen]
      rfl
    · simp only [hlen]
      exact hown
  · have ht8 := il.tks
    obtain ⟨t0, l3, rfl⟩ : ∃ t l, l2 = t :: l := by
      cases l2 with
      | nil => have := hn2.out; simp at this
      | cons t l => exact ⟨t, l, rfl⟩
    have hcap := il.own.cap_le
    have hx8 : ¬ xc = 1 := by have := hn2.out; omega
    go_wp2_with ((go_at_call 17; (with_reducible refine (mk_ModE Er.out _ (by decide) (by decide)).mono ?_); rintro e wz ⟨rfl, rfl⟩))
    go_ret
    exact ⟨_, l3, 7, _, rfl, Lib.hid (by have := hn2.out; simp at this; omega), ⟨ht8.tail, (fun e => by cases e), fun t ht => ⟨fun e => (il.sec t (by simp [ht])).none_len e, HL2.out t (by simp [ht])⟩, by have := hn2.out; simp at this; omega⟩, hb⟩
end Go.Proofs.Ytgngmmmdhhjbhaa
