/- signalbrokerref19.Mark -/
import Derived.Test.YtbanejpihdhbdaaRef19s
namespace Go.Proofs.Ytbanejpihdhbdaa
set_option linter.unusedVariables false
open Go.RowKit Go.Sort
set_option maxRecDepth 100000

def Lg.mark (now : Int) (l : Lg) : Lg := ⟨l.ju, l.ph, l.fr, l.to_, wMark l.fr l.to_ l.si now⟩
def Rq.mark (now : Int) (r : Rq) : Rq := { r with legs := r.legs.map (Lg.mark now) }
def markM (l : List Rk) (now : Int) : List Rk := l.map fun r => (r.1, r.2.1, r.2.2.1, r.2.2.2.1, r.2.2.2.2.map (Lg.mark now))
theorem mark_key (l : List Rq) (now : Int) : (l.map (Rq.mark now)).map Rq.key = markM (l.map Rq.key) now := by
  simp [markM, Rq.key, Rq.mark, Function.comp_def]
/-- the list in which request i has other legs -/
def legsAt (l : List Rq) (i : Nat) (x : List Lg) : List Rq := match l[i]? with
  | none => l
  | some r => l.set i { r with legs := x }
theorem lgCells_set : ∀ (l : List Lg) (j : Nat) (_ : j < l.length) (y : Lg), lgCells (l.set j y) = (((((lgCells l).set (j * 5) (.int .i64 y.ju)).set (j * 5 + 1) (.int .i64 y.ph)).set (j * 5 + 2) (.int .i64 y.fr)).set (j * 5 + 3) (.int .i64 y.to_)).set (j * 5 + 4) (.int .i64 y.si)
  | p :: l, 0, _, y => by simp [lgCells, Lg.cells]
  | p :: l, j + 1, h, y => by
    have := lgCells_set l j (by simpa using h) y
    simp only [lgCells, List.flatMap_cons, List.set_cons_succ] at this ⊢
    rw [this]
    have e : ∀ k, (j + 1) * 5 + k = j * 5 + k + 5 := fun k => by omega
    rw [show (j + 1) * 5 = j * 5 + 5 by omega]
    simp only [Lg.cells, List.cons_append, List.nil_append, show ∀ k, j * 5 + 5 + k = (j * 5 + k) + 1 + 1 + 1 + 1 + 1 from fun k => by omega, show j * 5 + 5 = j * 5 + 1 + 1 + 1 + 1 + 1 by omega, List.set_cons_succ]
theorem rqCells_same {l : List Rq} {i : Nat} (hi : i < l.length) {r : Rq} (hr : r.cells = l[i].cells) : rqCells (l.set i r) = rqCells l := by
  have e : ∀ m : List Rq, rqCells m = (m.map Rq.cells).flatten := fun m => by simp [rqCells, List.flatMap]
  rw [e, e, List.map_set, hr]
  congr 1
  rw [show l[i].cells = (l.map Rq.cells)[i]'(by simpa using hi) by simp, List.set_getElem_self]
/-- a leg is written over -/
theorem RqL.setLeg {W : World} {B : Nat} {l : List Rq} {xa : Option Addr} {xc : Nat} (h : RqL W B l xa xc) {i : Nat} (hi : i < l.length) {g : Nat} (hg : l[i].a = some ⟨g, 0, none⟩) {j : Nat} (hj : j < l[i].legs.length) (y : Lg) :
    RqL (((((W.setCell ⟨g, j * 5, none⟩ (.int .i64 y.ju)).setCell ⟨g, j * 5 + 1, none⟩ (.int .i64 y.ph)).setCell ⟨g, j * 5 + 2, none⟩ (.int .i64 y.fr)).setCell ⟨g, j * 5 + 3, none⟩ (.int .i64 y.to_)).setCell ⟨g, j * 5 + 4, none⟩ (.int .i64 y.si)) B (l.set i { l[i] with legs := l[i].legs.set j y }) xa xc := by
  have far : ∀ {e : TypeId} {n cap : Nat} {b : Option Addr} {xs : List Value}, Own W B e 5 b n cap xs → b.map (·.block) ≠ some g → Own (((((W.setCell ⟨g, j * 5, none⟩ (.int .i64 y.ju)).setCell ⟨g, j * 5 + 1, none⟩ (.int .i64 y.ph)).setCell ⟨g, j * 5 + 2, none⟩ (.int .i64 y.fr)).setCell ⟨g, j * 5 + 3, none⟩ (.int .i64 y.to_)).setCell ⟨g, j * 5 + 4, none⟩ (.int .i64 y.si)) B e 5 b n cap xs := fun o q => ((((o.far (p := ⟨g, _, none⟩) q _).far (p := ⟨g, _, none⟩) q _).far (p := ⟨g, _, none⟩) q _).far (p := ⟨g, _, none⟩) q _).far (p := ⟨g, _, none⟩) q _
  have hgb : (l[i].a).map (·.block) = some g := by rw [hg]; rfl
  refine ⟨?_, ?_, ?_⟩
  · rw [rqCells_same hi (by simp [Rq.cells]), List.length_set]
    exact far h.own fun e => h.own.apart3 (h.legs _ (List.getElem_mem hi)) (by decide) g e hgb
  · intro r hr
    obtain ⟨k, hk, rfl⟩ := List.mem_iff_getElem.1 hr
    rw [List.length_set] at hk
    by_cases e : k = i
    · subst e
      rw [List.getElem_set_self]
      simp only [List.length_set]
      have o := h.legs _ (List.getElem_mem hi)
      rw [hg] at o ⊢
      rw [lgCells_set _ _ hj]
      exact ((((o.set _ _).set _ _).set _ _).set _ _).set _ _
    · rw [List.getElem_set_ne (by omega)]
      refine far (h.legs _ (List.getElem_mem hk)) fun q => ?_
      rcases Nat.lt_or_gt_of_ne e with e | e
      · exact h.ap k i hi e g q hgb
      · exact h.ap i k hk e g hgb q
  · intro a b hb hab
    rw [List.length_set] at hb
    have e : ∀ k (hk : k < l.length), ((l.set i { l[i] with legs := l[i].legs.set j y })[k]'(by simpa using hk)).a = l[k].a := fun k hk => by
      by_cases e : k = i
      · subst e; rw [List.getElem_set_self]
      · rw [List.getElem_set_ne (by omega)]
    rw [e a (by omega), e b hb]
    exact h.ap a b hb hab
def MarkR (l : List Rk) (now : Int) (n : Nat) (w : World) (e : Ending) (w' : World) : Prop :=
  ∃ (xa : Option Addr) (xc : Nat) (l2 : List Rq), e = .returned (.slice xa n xc) ∧ Hid (l2.map Rq.key = markM l now) ∧ Hid (n = l2.length) ∧ RqL w' w.heap.size l2 xa xc ∧ Below w.heap.size w w'
theorem legs_le {l2 l : List Rq} (h : l2.map Rq.key = l.map Rq.key) {N : Nat} (hl : ∀ r ∈ l, r.legs.length ≤ N) : ∀ r ∈ l2, r.legs.length ≤ N := fun r hr => by
  have : r.key ∈ l.map Rq.key := by rw [← h]; exact List.mem_map_of_mem hr
  obtain ⟨q, hq, e⟩ := List.mem_map.1 this
  have e2 : q.legs = r.legs := congrArg (fun k : Rk => k.2.2.2.2) e
  rw [← e2]
  exact hl q hq
theorem RqLt.set {l : List Rq} {i : Nat} {X X' : Rq} {a : Option Addr} {b1 : Nat} (h : RqLt (l.set i X) a b1) (e : X'.a = X.a) : RqLt (l.set i X') a b1 := by
  refine ⟨h.1, fun r hr => ?_⟩
  obtain ⟨k, hk, rfl⟩ := List.mem_iff_getElem.1 hr
  rw [List.length_set] at hk
  have h2 := h.2 ((l.set i X)[k]'(by rw [List.length_set]; exact hk)) (List.getElem_mem _)
  by_cases q : k = i
  · subst q
    rw [List.getElem_set_self] at h2 ⊢
    rw [e]; exact h2
  · rw [List.getElem_set_ne (by omega)] at h2 ⊢
    exact h2
theorem BelX.below_from {w Z W : World} {B g : Nat} (h : BelX Z [(g, g + 1)] W) (hb : Below B w Z) (hB : B = w.heap.size) (hg : B ≤ g) : Below B w W :=
  ⟨h.1.trans hb.os, h.2.1.trans hb.tape, h.2.2.1.trans hb.output, Nat.le_trans hb.size h.2.2.2.1, fun k hk => (h.2.2.2.2 k ⟨by have := hb.size; omega, fun r hr => by simp at hr; subst hr; simp only; omega⟩).trans (hb.block k hk)⟩
section
variable {α : Type} (f : α → α) (l : List α)
def mkTo (j : Nat) : List α := (l.take j).map f ++ l.drop j
theorem mkTo_zero : mkTo f l 0 = l := by simp [mkTo]
theorem mkTo_all : mkTo f l l.length = l.map f := by simp [mkTo]
theorem mkTo_len (j : Nat) : (mkTo f l j).length = l.length := by simp [mkTo]; omega
theorem mkTo_get (j : Nat) (h : j < l.length) : (mkTo f l j)[j]'(by rw [mkTo_len]; exact h) = l[j] := by
  have h1 : ((l.take j).map f).length = j := by simp; omega
  simp only [mkTo]
  rw [List.getElem_append_right (by omega)]
  have e : j + (j - ((l.take j).map f).length) = j := by omega
  simp only [List.getElem_drop, e]
theorem set_same {l : List α} {i : Nat} (h : i < l.length) {x : α} (hx : l[i] = x) : l = l.set i x := by subst hx; exact (List.set_getElem_self _).symm
theorem mkTo_set (j : Nat) (h : j < l.length) : (mkTo f l j).set j (f l[j]) = mkTo f l (j + 1) := by
  have h1 : ((l.take j).map f).length = j := by simp; omega
  unfold mkTo
  rw [List.set_append_right _ _ (by omega), h1, Nat.sub_self, ← List.take_append_getElem h, List.map_append, List.append_assoc, List.drop_eq_getElem_cons h]
  rfl
end
set_option maxHeartbeats 4000000 in
theorem ref19_Mark (a : Option Addr) (l : List Rq) (n c : Nat) (now : Int) (w : World) (h : Rqs w a l) (hn : n = l.length) (l9 : n ≤ 100000) (hl : ∀ r ∈ l, r.legs.length ≤ 100000) :
    Calls Try.prog 34 #[.slice a n c, .int .i64 now] w (MarkR (l.map Rq.key) now n w) := by
  have HN := Lib.hid hn
  clear hn
  go_enter Try.func34, Try.ntmps34
  go_upto_region 2 with ((go_at_call 51; (with_reducible refine (ref19_Copy a l n c _ h HN.out l9 hl).mono ?_); rintro e w2 ⟨xa, xc, l2, rfl, hk, hn2, il, hb⟩))
  obtain rfl := hn2.out
  have hl2 := legs_le hk.out hl
  obtain ⟨B, hB⟩ : ∃ B, w.heap.size = B := ⟨_, rfl⟩
  rw [hB] at il hb
  clear hn2 h HN
  go_wp2_with fail
  go_loopw [14] (fun s14 wr => ∃ i : Nat, s14 = .int .i64 i ∧ i ≤ l2.length ∧ RqL wr B (mkTo (Rq.mark now) l2 i) xa xc ∧ RowKit.Below B w wr) (fun s _ => l2.length - (intOf s).toNat)
  case atStart => exact ⟨0, rfl, by omega, by rw [mkTo_zero]; exact il, hb⟩
  case round =>
    clear il hb
    obtain ⟨i, rfl, hi, il, hb⟩ := hrel
    have HLL := Lib.hid (mkTo_len (Rq.mark now) l2 i)
    by_cases hlt : i < l2.length
    · obtain ⟨xb, rfl, -, -⟩ := il.own.open_ (by rw [HLL.out]; omega)
      have hq := il.rqs
      have kx : (i : Int) < (l2.length : Int) := by omega
      obtain ⟨x0, x1, x2, x3, x4, xl⟩ := row_req hq.row i (by rw [HLL.out]; exact hlt)
      rw [mkTo_get _ _ _ hlt] at x0 x1 x2 x3 x4
      simp only [Nat.zero_add] at x0 x1 x2 x3 x4
      have HS0 := Lib.hid (show mkTo (Rq.mark now) l2 i = (mkTo (Rq.mark now) l2 i).set i { l2[i] with legs := mkTo (Lg.mark now) l2[i].legs 0 } from by
        rw [mkTo_zero (Lg.mark now)]
        exact set_same (by rw [mkTo_len]; exact hlt) (mkTo_get _ _ _ hlt))
      have HS1 := Lib.hid (show (mkTo (Rq.mark now) l2 i).set i { l2[i] with legs := mkTo (Lg.mark now) l2[i].legs l2[i].legs.length } = mkTo (Rq.mark now) l2 (i + 1) from by
        rw [← mkTo_set _ _ _ hlt, mkTo_all]; rfl)
      have hlg := hl2 _ (List.getElem_mem hlt)
      obtain ⟨x, hx⟩ : ∃ x, l2[i] = x := ⟨_, rfl⟩
      rw [hx] at x0 x1 x2 x3 x4 HS0 HS1 hlg
      obtain ⟨lq, hlq⟩ : ∃ lq, mkTo (Rq.mark now) l2 i = lq := ⟨_, rfl⟩
      rw [hlq] at il HS0 HS1 HLL
      have hwB := hb.size
      clear hx hlq hq
      obtain ⟨id, veh, cls, til, lg, la, lc⟩ := x
      simp only at x0 x1 x2 x3 x4 HS0 HS1 hlg
      go_upto_region 5 with fail
      obtain ⟨V, hV⟩ : ∃ V, wr.heap.size = V := ⟨_, rfl⟩
      refine wp_named (fun Y => Blk Y V 45 #[.int .i64 id, .int .i64 veh, .int .i64 cls, .int .i64 til, .slice la lg.length lc] ∧ RqL Y B (lq.set i ⟨id, veh, cls, til, mkTo (Lg.mark now) lg 0, la, lc⟩) (some ⟨xb, 0, none⟩) xc ∧ RowKit.Below B w Y) ⟨by rw [← hV]; exact Blk.new _ _ _, by rw [← HS0.out]; exact il.alloc _, (by repeat (first | (with_reducible refine Below.setCell ?_ ?_ _) | (with_reducible refine Below.alloc ?_ ?_ _) | (with_reducible refine Below.drew ?_) | (with_reducible refine below_drewN ?_ _) | (with_reducible exact Below.refl _ _) | (with_reducible refine Below.trans ?_ (Below.mono hb ?_)) | (focus (simp; done)) | (focus (simp; omega)) | (focus omega) | (focus (have q0 := Below.size hb; (try simp at q0); (try simp); omega))))⟩ ?_
      rw [hV]
      have hVB : B ≤ V := by rw [← hV]; omega
      clear hV il hb hwB x0 x1 x2 x3 x4 xl
      rintro Y ⟨kV, il, hb⟩
      obtain ⟨v0, v1, v2, v3, v4, vf, vl⟩ := kV.five
      go_wp2_with fail
      go_loopw [21] (fun s21 wz => ∃ j : Nat, s21 = .int .i64 j ∧ j ≤ lg.length ∧ Blk wz V 45 #[.int .i64 id, .int .i64 veh, .int .i64 cls, .int .i64 til, .slice la lg.length lc] ∧ RqL wz B (lq.set i ⟨id, veh, cls, til, mkTo (Lg.mark now) lg j, la, lc⟩) (some ⟨xb, 0, none⟩) xc ∧ RowKit.Below B w wz) (fun s _ => lg.length - (intOf s).toNat)
      case atStart => exact ⟨0, rfl, by omega, kV, il, hb⟩
      case round =>
        clear kV il hb v0 v1 v2 v3 v4 vf vl
        obtain ⟨j, rfl, hj, kV, il, hb⟩ := hrel
        by_cases hjl : j < lg.length
        · have jx : (j : Int) < (lg.length : Int) := by omega
          have hil : i < (lq.set i (⟨id, veh, cls, til, mkTo (Lg.mark now) lg j, la, lc⟩ : Rq)).length := by rw [List.length_set, HLL.out]; exact hlt
          have o := il.legs _ (List.getElem_mem hil)
          rw [List.getElem_set_self] at o
          simp only [mkTo_len] at o
          obtain ⟨g, rfl, gB, gl⟩ := o.open_ (by omega)
          obtain ⟨y0, y1, y2, y3, y4, yl⟩ := row_leg o.row j (by rw [mkTo_len]; exact hjl)
          rw [mkTo_get _ _ _ hjl] at y0 y1 y2 y3 y4
          simp only [Nat.zero_add] at y0 y1 y2 y3 y4
          have HST := Lib.hid (mkTo_set (Lg.mark now) lg j hjl)
          obtain ⟨z, hz⟩ : ∃ z, lg[j] = z := ⟨_, rfl⟩
          rw [hz] at y0 y1 y2 y3 y4 HST
          clear hz
          obtain ⟨ju, ph, fr, to_, si⟩ := z
          simp only at y0 y1 y2 y3 y4
          obtain ⟨v0, v1, v2, v3, v4, vf, vl⟩ := kV.five
          go_upto_region 8 with fail
          obtain ⟨L, hL⟩ : ∃ L, wr.heap.size = L := ⟨_, rfl⟩
          refine wp_named (fun Z => Blk Z L 25 #[.int .i64 ju, .int .i64 ph, .int .i64 fr, .int .i64 to_, .int .i64 si] ∧ Blk Z V 45 #[.int .i64 id, .int .i64 veh, .int .i64 cls, .int .i64 til, .slice (some ⟨g, 0, none⟩) lg.length lc] ∧ RqL Z B (lq.set i ⟨id, veh, cls, til, mkTo (Lg.mark now) lg j, some ⟨g, 0, none⟩, lc⟩) (some ⟨xb, 0, none⟩) xc ∧ RowKit.Below B w Z ∧ L + 1 ≤ Z.heap.size) ⟨by rw [← hL]; exact Blk.new _ _ _, kV.alloc _, il.alloc _, (by repeat (first | (with_reducible refine Below.setCell ?_ ?_ _) | (with_reducible refine Below.alloc ?_ ?_ _) | (with_reducible refine Below.drew ?_) | (with_reducible refine below_drewN ?_ _) | (with_reducible exact Below.refl _ _) | (with_reducible refine Below.trans ?_ (Below.mono hb ?_)) | (focus (simp; done)) | (focus (simp; omega)) | (focus omega) | (focus (have q0 := Below.size hb; (try simp at q0); (try simp); omega)))), by rw [← hL]; simp⟩ ?_
          rw [hL]
          have hgL : g < L := by rw [← hL]; exact yl
          have hgV := Lib.hid (show g ≠ V from fun e => by
            have q := o.past kV (by decide)
            exact q (by rw [← e]; rfl))
          clear hL v0 v1 v2 v3 v4 vf vl y0 y1 y2 y3 y4 yl o kV il hb hil gl
          rintro Z ⟨kL, kV, il, hb, hLz⟩
          have vl := kV.lt
          have il2 := Lib.hid il
          have HLT := Lib.hid (RqLt.set il.rlt (X' := ⟨id, veh, cls, til, mkTo (Lg.mark now) lg (j + 1), some ⟨g, 0, none⟩, lc⟩) rfl)
          apply wp_region_tab [(g, (g+1))] 8 36 [some 26, some 27, some 28, some 29, some 30, some 31, some 32, none] [⟨[8], [], [], []⟩, ⟨[0, 8], [0], [0], []⟩, ⟨[8], [], [], []⟩, ⟨[8], [], [], []⟩, ⟨[8], [], [], []⟩, ⟨[3, 4, 8], [3, 4], [3, 4], []⟩, ⟨[0, 1, 2, 3, 4, 5, 8], [1, 2], [1, 2], []⟩, ⟨[0, 1, 2, 3, 4, 5, 6, 8], [5, 6, 8], [5, 6, 8], [8]⟩, ⟨[], [], [], []⟩] [0, 1, 2, 3, 4, 5, 6, 7] [7] [psiTrue, psiTrue, psiTrue, psiTrue, psiTrue, psiTrue, psiTrue, (fun f lo hi v b0 b1 W => RqL W B (lq.set i ⟨id, veh, cls, til, mkTo (Lg.mark now) lg (j + 1), some ⟨g, 0, none⟩, lc⟩) (some ⟨xb, 0, none⟩) xc), (fun f lo hi v b0 b1 W => (b0 = g ∧ b1 = (g+1)) ∧ W.heap[g]? = Z.heap[g]?)] [kVal _, kVal _, kVal _, kVal _, kVal _, kVal _, kVal _, kTrue]
          · kernel_rfl
          · kernel_rfl
          · rfl
          · rfl
          rotate_left 2
          refine ⟨?oR1_0, ?oR1_1, ?oR1_2, ?oR1_3, ?oR1_4, ?oR1_5, ?oR1_6, ?oR1_7, trivial⟩
          case hx => exact ⟨⟨by omega, by omega⟩, by simp, trivial⟩
          case hX => exact ⟨fun _ _ _ _ => ⟨⟨rfl, rfl⟩, rfl⟩, trivial⟩
          case oR1_0 => intro f lo hi w hb hx hf hk hrg R hR; (try replace hb := BelX.zero hb); (try simp (decide := true) only [go_sem] at hf); (try simp (decide := true) only [go_sem] at hk); go_simp; exact hR _ _ (rpost_val rfl rfl (Below.refl _ _) rfl)
          case oR1_1 =>
            intro f lo hi w hb hx hf hk hrg R hR; (try replace hb := BelX.zero hb); (try simp (decide := true) only [go_sem] at hf); (try simp (decide := true) only [go_sem] at hk)
            have k := hb.blk kV (by have := hgV.out; simp; omega)
            have e := k.cell 4
            go_simp
            exact hR _ _ (rpost_val rfl rfl (Below.refl _ _) rfl)
          case oR1_2 => intro f lo hi w hb hx hf hk hrg R hR; (try replace hb := BelX.zero hb); (try simp (decide := true) only [go_sem] at hf); (try simp (decide := true) only [go_sem] at hk); go_simp; exact hR _ _ (rpost_val rfl rfl (Below.refl _ _) rfl)
          case oR1_3 =>
            intro f lo hi w hb hx hf hk hrg R hR; (try replace hb := BelX.zero hb); (try simp (decide := true) only [go_sem] at hf); (try simp (decide := true) only [go_sem] at hk)
            have k := hb.blk kL (by simp; omega)
            obtain ⟨c0, c1, c2, c3, c4, -, hl⟩ := k.five
            go_simp
            exact hR _ _ (rpost_val rfl rfl (Below.refl _ _) rfl)
          case oR1_4 => intro f lo hi w hb hx hf hk hrg R hR; (try replace hb := BelX.zero hb); (try simp (decide := true) only [go_sem] at hf); (try simp (decide := true) only [go_sem] at hk); go_simp; exact hR _ _ (rpost_val rfl rfl (Below.refl _ _) rfl)
          case oR1_5 =>
            intro f lo hi w hb hx hf hk hrg R hR; (try replace hb := BelX.zero hb); (try simp (decide := true) only [go_sem] at hf); (try simp (decide := true) only [go_sem] at hk)
            go_simp
            (with_reducible refine (ref18_Mark ju ph fr to_ si now w).mono ?_)
            rintro e w' ⟨rfl, hb5⟩
            exact ⟨_, rfl, hR _ _ (rpost_val rfl rfl hb5 rfl)⟩
          case oR1_6 => intro f lo hi w hb hx hf hk hrg R hR; (try replace hb := BelX.zero hb); (try simp (decide := true) only [go_sem] at hf); (try simp (decide := true) only [go_sem] at hk); go_simp; exact hR _ _ (rpost_val rfl rfl (Below.refl _ _) rfl)
          case oR1_7 =>
            intro f lo hi w hb hx hf hk hrg R hR; (try replace hb := BelX.zero hb); (try simp (decide := true) only [go_sem] at hf); (try simp (decide := true) only [go_sem] at hk)
            have ilw : RqL w B _ _ _ := il2.out.keep fun b hlt => by
              by_cases e : b = g
              · rw [e]; exact hf.2
              · exact hb.2.2.2.2 b ⟨hlt, fun r hr => by simp at hr; subst hr; simp only; omega⟩
            have hil : i < (lq.set i (⟨id, veh, cls, til, mkTo (Lg.mark now) lg j, some ⟨g, 0, none⟩, lc⟩ : Rq)).length := by rw [List.length_set, HLL.out]; exact hlt
            have o := ilw.legs _ (List.getElem_mem hil)
            rw [List.getElem_set_self] at o
            simp only [mkTo_len] at o
            obtain ⟨y0, y1, y2, y3, y4, yl⟩ := row_leg o.row j (by rw [mkTo_len]; exact hjl)
            simp only [Nat.zero_add] at y0 y1 y2 y3 y4
            have yf := o.frozen
            have fin := ilw.setLeg hil (g := g) (by rw [List.getElem_set_self]) (j := j) (by rw [List.getElem_set_self]; simp only [mkTo_len]; exact hjl) (Lg.mark now ⟨ju, ph, fr, to_, si⟩)
            simp only [List.set_set, List.getElem_set_self, HST.out] at fin
            have hX0 : lo 8 = g ∧ hi 8 = g + 1 := XOk.get _ _ hx 0 _ rfl
            go_simp
            exact hR _ _ (rpost_some rfl rfl (touch_grown ((((grownBy_set _ g _ _).trans (grownBy_set _ g _ _)).trans ((grownBy_set _ g _ _).trans (grownBy_set _ g _ _))).trans (grownBy_set _ g _ _)) (List.mem_singleton.2 rfl) hX0.1 hX0.2) fin)
          case hcl =>
            refine ⟨Closed.true _ _ _ _, Closed.true _ _ _ _, Closed.true _ _ _ _, Closed.true _ _ _ _, Closed.true _ _ _ _, Closed.true _ _ _ _, Closed.true _ _ _ _, ?cR1_7, ?cR1_8, trivial⟩
            · exact fun f lo hi v b0 b1 w w' h hs hB hown hU hX => h.keepIn HLT.out fun b _ hb => by
                by_cases e : b = g
                · rw [e]; exact hX 0 _ rfl (by simp) g (Nat.le_refl _) (Nat.lt_succ_self _)
                · exact hB b ⟨hb, fun r hr => by simp at hr; subst hr; simp only; omega⟩
            · exact fun f lo hi v b0 b1 w w' h hs hB hown hU hX => by
                obtain ⟨⟨rfl, rfl⟩, h⟩ := h
                exact ⟨⟨rfl, rfl⟩, (hown _ (Nat.le_refl _) (Nat.lt_succ_self _)).trans h⟩
          intro f lo hi W7 hbr hx hf hk hrg; (try replace hbr := BelX.zero hbr); clear hx; (try simp (decide := true) only [go_sem] at hf); (try simp (decide := true) only [go_sem] at hk)
          have kV7 := hbr.blk kV (by have := hgV.out; simp; omega)
          have hb7 := hbr.below_from hb hB.symm gB
          go_simp
          clear hk
          go_wp2_with fail
          go_roundw
          case rel => exact ⟨j + 1, by go_num, by omega, kV7, hf, hb7⟩
          case measure => simp [intOf]; omega
        · obtain rfl : j = lg.length := by omega
          rw [HS1.out] at il
          go_wp2_with fail
          go_roundw
          case rel => exact ⟨i + 1, by go_num, by omega, il, hb⟩
          case measure => simp [intOf]; omega
    · obtain rfl : i = l2.length := by omega
      rw [mkTo_all] at il
      go_wp2_with fail
      go_ret
      exact ⟨xa, xc, l2.map (Rq.mark now), rfl, Lib.hid (by rw [mark_key, hk.out]), Lib.hid (by simp), by rw [hB]; exact il, by rw [hB]; exact hb⟩
end Go.Proofs.Ytbanejpihdhbdaa
