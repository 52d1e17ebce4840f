/- request.Claims; a claim's five numbers are laid as a leg's are: ⟨agency, id, phase, class, since⟩ -/
import Derived.Test.YtbanejpihdhbdaaIndex
namespace Go.Proofs.Ytbanejpihdhbdaa
set_option linter.unusedVariables false
open Go.RowKit Go.Sort
set_option maxRecDepth 100000

theorem info_claim : (Try.prog.info? 47).map (fun i => (i.zero, i.size, i.bytes)) = some (some (.agg #[.int .i64 0, .int .i64 0, .int .i64 0, .int .i64 0, .int .i64 0]), 5, 40) := by kernel_rfl
/-- append of one claim that has just been laid -/
theorem app1Cl {ops : Array Oper} {rest : List Oper} {o : Oper} {a : Act} {Q : Exit → Act → World → Prop} {w : World} (hgd : o.guard = none) (s x : Operand) (ho : o.op = .call { callee := .builtin .append, args := #[s, x], argTypes := #[42, 42] })
    (B : Nat) (xa : Option Addr) (n xc : Nat) (l : List Lg) (hs : a.eval s = .slice xa n xc) (hn : n = l.length) (j p f t s5 : Int) (X : Nat) (hx : a.eval x = .slice (some ⟨X, 0, none⟩) 1 1) (hX : Blk w X 47 #[.int .i64 j, .int .i64 p, .int .i64 f, .int .i64 t, .int .i64 s5])
    (own : Own w B 47 5 xa n xc (lgCells l)) (hB : B ≤ w.heap.size) (hbig : n ≤ 1000000)
    (h : ∀ xb xd w', Own w' B 47 5 xb (n + 1) xd (lgCells (l ++ [⟨j, p, f, t, s5⟩])) → Grew B w w' xa xb → (∀ W, Below B W w → Below B W w') → wpList Try.prog ops Q rest (a.put o.dst (.slice xb (n + 1) xd)) w') : wpList Try.prog ops Q (o :: rest) a w := by
  obtain ⟨i0, hi, hz0, hz1, hz2⟩ := info_parts info_claim
  have hr : Row w (some ⟨X, 0, none⟩) (Lg.cells ⟨j, p, f, t, s5⟩) := .inr ⟨X, 0, rfl, hX.lt, fun i hi => by
    rw [Nat.zero_add, hX.cell]
    have : i = 0 ∨ i = 1 ∨ i = 2 ∨ i = 3 ∨ i = 4 := by simp [Lg.cells] at hi; omega
    rcases this with rfl | rfl | rfl | rfl | rfl <;> rfl⟩
  refine wp_append_row _ hgd s x _ ho B _ i0 _ 5 40 Try.underlying42 hi hz0 hz1 hz2 rfl (by decide) xa n xc _ hs (some ⟨X, 0, none⟩) 1 1 hx own (Lg.cells ⟨j, p, f, t, s5⟩) rfl hr (by simp [Lg.cells, Value.oneCell']) (by simp only [maxLen]; omega) (by omega) hB ?_
  intro xb xd w' own' gr
  exact h xb xd w' (by rw [lgCells_append]; simpa [lgCells] using own') gr (Grew.step own gr)
/-- the claims of one request at the junction j: of the first leg there, if it is live -/
def clOf (ag j : Int) (r : Rk) : List Lg :=
  match r.2.2.2.2.find? fun g => decide (g.ju = j) with
  | none => []
  | some g => if g.si = -1 then [] else [⟨ag, r.1, g.ph, r.2.2.1, g.si⟩]
def clM (ag j : Int) (l : List Rk) : List Lg := l.flatMap (clOf ag j)
theorem clOf_no {ag j : Int} {r : Rk} {lg : List Lg} (e : r.2.2.2.2 = lg) (h : ∀ k, k < lg.length → ¬ ∃ h : k < lg.length, lg[k].ju = j) : clOf ag j r = [] := by
  unfold clOf
  rw [e, List.find?_eq_none.2]
  intro x hx
  obtain ⟨k, hk, rfl⟩ := List.mem_iff_getElem.1 hx
  have := h k hk
  simpa using fun e => this ⟨hk, e⟩
theorem find_at {lg : List Lg} {j : Int} {k : Nat} (hP : ∃ h : k < lg.length, lg[k].ju = j) (ho : ∀ i, i < k → ¬ ∃ h : i < lg.length, lg[i].ju = j) : ∃ h : k < lg.length, (lg.find? fun g => decide (g.ju = j)) = some lg[k] := by
  obtain ⟨h, e⟩ := hP
  refine ⟨h, ?_⟩
  rw [List.find?_eq_some_iff_getElem]
  refine ⟨by simpa using e, k, h, rfl, fun i hi => ?_⟩
  have := ho i hi
  simpa using fun e => this ⟨by omega, e⟩
theorem clOf_len (ag j : Int) (r : Rk) : (clOf ag j r).length ≤ 1 := by
  unfold clOf
  split
  · simp
  · split <;> simp
theorem clM_succ {ag j : Int} {l : List Rq} {i : Nat} (h : i < l.length) : clM ag j ((l.take (i + 1)).map Rq.key) = clM ag j ((l.take i).map Rq.key) ++ clOf ag j l[i].key := by
  rw [← List.take_append_getElem h, List.map_append]
  simp [clM]
def ClR (k : List Lg) (w : World) (e : Ending) (w' : World) : Prop :=
  ∃ (xa : Option Addr) (n xc : Nat), e = .returned (.slice xa n xc) ∧ Hid (n = k.length) ∧ Own w' w.heap.size 47 5 xa n xc (lgCells k) ∧ Below w.heap.size w w'
set_option maxHeartbeats 8000000 in
theorem request_Claims (a : Option Addr) (l : List Rq) (n c : Nat) (ag j : Int) (w : World) (h : Rqs w a l) (hn : n = l.length) (l9 : n ≤ 1000) (hl : ∀ r ∈ l, r.legs.length ≤ 10000) :
    Calls Try.prog 16 #[.slice a n c, .int .i64 ag, .int .i64 j] w (ClR (clM ag j (l.map Rq.key)) w) := by
  subst hn
  go_enter Try.func16, Try.ntmps16
  go_upto_region 2 with fail
  obtain ⟨V, hV⟩ : ∃ V, w.heap.size = V := ⟨_, rfl⟩
  refine wp_named (fun Y => Blk Y V 3 #[.int .i64 j] ∧ Rqs Y a l ∧ RowKit.Below V w Y ∧ V ≤ Y.heap.size) ⟨by rw [← hV]; exact Blk.new _ _ _, h.alloc _, by rw [← hV]; exact (by repeat (first | (with_reducible refine Below.setCell ?_ ?_ _) | (with_reducible refine Below.alloc ?_ ?_ _) | (with_reducible refine Below.drew ?_) | (with_reducible refine below_drewN ?_ _) | (with_reducible exact Below.refl _ _) | (focus (simp; done)) | (focus (simp; omega)) | (focus omega))), by rw [← hV]; simp⟩ ?_
  rw [hV]
  clear h
  rintro Y ⟨kV, h, be, hY⟩
  go_wp2_with fail
  go_loopw [7, 14] (fun s7 s14 wr => ∃ (i m : Nat) (ca : Option Addr) (cc : Nat), s7 = .slice ca m cc ∧ s14 = .int .i64 i ∧ i ≤ l.length ∧ m ≤ i ∧ Hid (m = (clM ag j ((l.take i).map Rq.key)).length) ∧ Own wr Y.heap.size 47 5 ca m cc (lgCells (clM ag j ((l.take i).map Rq.key))) ∧ RowKit.Below Y.heap.size Y wr) (fun _ s _ => l.length - (intOf s).toNat)
  case atStart => exact ⟨0, 0, none, 0, rfl, rfl, by omega, by omega, Lib.hid rfl, Own.nil _ _ _ _, (by repeat (first | (with_reducible refine Below.setCell ?_ ?_ _) | (with_reducible refine Below.alloc ?_ ?_ _) | (with_reducible refine Below.drew ?_) | (with_reducible refine below_drewN ?_ _) | (with_reducible exact Below.refl _ _) | (focus (simp; done)) | (focus (simp; omega)) | (focus omega)))⟩
  case round =>
    obtain ⟨i, m, ca, cc, rfl, rfl, hi, hm, hmk, own, bw⟩ := hrel
    by_cases hlt : i < l.length
    · obtain ⟨ba, oa, rfl⟩ := h.open (by omega)
      have hr := h.below bw (Nat.le_refl _)
      obtain ⟨x0, x1, x2, x3, x4, xb⟩ := row_req hr.row i hlt
      have hg := hr.legs _ (List.getElem_mem hlt)
      have hgl := hl _ (List.getElem_mem hlt)
      have HX := Lib.hid (clM_succ (ag := ag) (j := j) hlt)
      obtain ⟨x, hx⟩ : ∃ x, l[i] = x := ⟨_, rfl⟩
      rw [hx] at x0 x1 x2 x3 x4 hg hgl HX
      clear hx hr
      obtain ⟨id, veh, cls, til, lg, la, lc⟩ := x
      simp only at x0 x1 x2 x3 x4 hg hgl
      have kx : (i : Int) < (l.length : Int) := by omega
      have kVr := kV.below bw kV.lt
      have hbw := bw.size
      obtain ⟨kl, hkl⟩ : ∃ kl, clM ag j ((l.take i).map Rq.key) = kl := ⟨_, rfl⟩
      rw [hkl] at HX own hmk
      clear hkl
      go_upto_region 5 with fail
      obtain ⟨X, hX⟩ : ∃ X, wr.heap.size = X := ⟨_, rfl⟩
      refine wp_named (fun Z => Blk Z X 45 #[.int .i64 id, .int .i64 veh, .int .i64 cls, .int .i64 til, .slice la lg.length lc] ∧ Row Z la (lgCells lg) ∧ Own Z Y.heap.size 47 5 ca m cc (lgCells kl) ∧ Blk Z V 3 #[.int .i64 j] ∧ RowKit.Below Y.heap.size Y Z) ⟨by rw [← hX]; exact Blk.new _ _ _, hg.alloc _, own.alloc _, kVr.alloc _, (by repeat (first | (with_reducible refine Below.setCell ?_ ?_ _) | (with_reducible refine Below.alloc ?_ ?_ _) | (with_reducible refine Below.drew ?_) | (with_reducible refine below_drewN ?_ _) | (with_reducible exact Below.refl _ _) | (with_reducible refine Below.trans ?_ (Below.mono bw ?_)) | (focus (simp; done)) | (focus (simp; omega)) | (focus omega) | (focus (have q0 := Below.size bw; (try simp at q0); (try simp); omega))))⟩ ?_
      have hYX : Y.heap.size ≤ X := by omega
      rw [hX]
      clear hX hbw x0 x1 x2 x3 x4 xb hg own kVr bw
      rintro Z ⟨kX, hg, own, kV2, bz⟩
      obtain ⟨v0, v1, v2, v3, v4, vf, vl⟩ := kX.five
      go_upto_region 6 with ((go_at_call 47; (with_reducible refine (indexFunc_Leg la lg lg.length lc V j _ hg rfl (by omega) kV2).mono ?_); rintro e w2 ⟨r, rfl, hr, hb2⟩; ((have kX2 := kX.below hb2 vl); clear v0 v1 v2 v3 v4 vf vl; (obtain ⟨v0, v1, v2, v3, v4, vf, vl⟩ := kX2.five))))
      have own2 := own.below hb2 (Nat.le_refl _)
      have hg2 := hg.below hb2 (Nat.le_refl _)
      have bz2 : RowKit.Below Y.heap.size Y w2 := (by repeat (first | (with_reducible refine Below.setCell ?_ ?_ _) | (with_reducible refine Below.alloc ?_ ?_ _) | (with_reducible refine Below.drew ?_) | (with_reducible refine below_drewN ?_ _) | (with_reducible exact Below.refl _ _) | (with_reducible refine Below.trans ?_ (Below.mono hb2 ?_)) | (with_reducible refine Below.trans ?_ (Below.mono bz ?_)) | (focus (simp; done)) | (focus (simp; omega)) | (focus omega) | (focus (have q0 := Below.size hb2; (try simp at q0); have q1 := Below.size bz; (try simp at q1); (try simp); omega))))
      have hs2 := bz2.size
      clear hb2 bz hg own kV2 kX
      rcases hr.out with ⟨rfl, hno⟩ | ⟨k, hk, rfl, hP, ho⟩
      · have HNO := Lib.hid (clOf_no (ag := ag) (r := Rq.key ⟨id, veh, cls, til, lg, la, lc⟩) rfl hno)
        clear hno
        go_wp2_with fail
        go_roundw
        case rel => exact ⟨i + 1, m, ca, cc, rfl, by go_num, by omega, by omega, Lib.hid (by rw [HX.out, HNO.out, List.append_nil]; exact hmk.out), by rw [HX.out, HNO.out, List.append_nil]; exact own2, bz2⟩
        case measure => simp [intOf]; omega
      · obtain ⟨hk', hf⟩ := find_at hP ho
        have HF := Lib.hid hf
        clear hf hP ho
        obtain ⟨lb, lo', rfl⟩ := hg2.open_lg (by omega)
        obtain ⟨y0, y1, y2, y3, y4, yl⟩ := row_leg hg2 k hk'
        obtain ⟨z, hz⟩ : ∃ z, lg[k] = z := ⟨_, rfl⟩
        rw [hz] at y0 y1 y2 y3 y4 HF
        clear hz
        obtain ⟨ju, ph, fr, to_, si⟩ := z
        simp only at y0 y1 y2 y3 y4
        have kz : ¬ ((k : Int) < 0) := by omega
        have kl2 : (k : Int) < (lg.length : Int) := by omega
        by_cases hs : si = -1
        · subst hs
          have HNO : Hid (clOf ag j (Rq.key ⟨id, veh, cls, til, lg, some ⟨lb, lo', none⟩, lc⟩) = []) := Lib.hid (by unfold clOf; rw [show (Rq.key ⟨id, veh, cls, til, lg, some ⟨lb, lo', none⟩, lc⟩).2.2.2.2 = lg from rfl, HF.out]; rfl)
          go_wp2_with fail
          go_roundw
          case rel => exact ⟨i + 1, m, ca, cc, rfl, by go_num, by omega, by omega, Lib.hid (by rw [HX.out, HNO.out, List.append_nil]; exact hmk.out), by rw [HX.out, HNO.out, List.append_nil]; exact own2, bz2⟩
          case measure => simp [intOf]; omega
        · have HNO : Hid (clOf ag j (Rq.key ⟨id, veh, cls, til, lg, some ⟨lb, lo', none⟩, lc⟩) = [⟨ag, id, ph, cls, si⟩]) := Lib.hid (by unfold clOf; rw [show (Rq.key ⟨id, veh, cls, til, lg, some ⟨lb, lo', none⟩, lc⟩).2.2.2.2 = lg from rfl, HF.out]; simp only; rw [if_neg hs]; rfl)
          have zs : (si == -1) = false := by rw [beq_eq_false_iff_ne]; exact hs
          go_upto_region 8 with fail
          obtain ⟨L, hL⟩ : ∃ L, w2.heap.size = L := ⟨_, rfl⟩
          refine wp_named (fun U => Blk U L 25 #[.int .i64 ju, .int .i64 ph, .int .i64 fr, .int .i64 to_, .int .i64 si] ∧ Blk U X 45 #[.int .i64 id, .int .i64 veh, .int .i64 cls, .int .i64 til, .slice (some ⟨lb, lo', none⟩) lg.length lc] ∧ Own U Y.heap.size 47 5 ca m cc (lgCells kl) ∧ RowKit.Below Y.heap.size Y U) ⟨by rw [← hL]; exact Blk.new _ _ _, kX2.alloc _, own2.alloc _, (by repeat (first | (with_reducible refine Below.setCell ?_ ?_ _) | (with_reducible refine Below.alloc ?_ ?_ _) | (with_reducible refine Below.drew ?_) | (with_reducible refine below_drewN ?_ _) | (with_reducible exact Below.refl _ _) | (with_reducible refine Below.trans ?_ (Below.mono bz2 ?_)) | (focus (simp; done)) | (focus (simp; omega)) | (focus omega) | (focus (have q0 := Below.size bz2; (try simp at q0); (try simp); omega))))⟩ ?_
          rw [hL]
          clear hL own2 bz2 kX2 v0 v1 v2 v3 v4 vf vl y0 y1 y2 y3 y4 yl hg2 hs2
          rintro U ⟨kL, kX, own, bu⟩
          obtain ⟨v0, v1, v2, v3, v4, vf, vl⟩ := kX.five
          obtain ⟨u0, u1, u2, u3, u4, uf, ul⟩ := kL.five
          have hsu := bu.size
          go_wp2_with ((at_builtin; refine app1Cl rfl _ _ rfl Y.heap.size ca m cc kl rfl hmk.out ag id ph cls si U.heap.size rfl (Blk.new _ _ _) (own.alloc _) (by simp; omega) (by omega) ?_; intro xb xd w7 own7 g7 bl7))
          go_roundw
          case rel => exact ⟨i + 1, m + 1, xb, xd, rfl, by go_num, by omega, by omega, Lib.hid (by rw [HX.out, HNO.out, List.length_append, ← hmk.out]; rfl), by rw [HX.out, HNO.out]; exact own7, bl7 _ (by repeat (first | (with_reducible refine Below.setCell ?_ ?_ _) | (with_reducible refine Below.alloc ?_ ?_ _) | (with_reducible refine Below.drew ?_) | (with_reducible refine below_drewN ?_ _) | (with_reducible exact Below.refl _ _) | (with_reducible refine Below.trans ?_ (Below.mono bu ?_)) | (focus (simp; done)) | (focus (simp; omega)) | (focus omega) | (focus (have q0 := Below.size bu; (try simp at q0); (try simp); omega))))⟩
          case measure => simp [intOf]; omega
    · obtain rfl : i = l.length := by omega
      go_wp2_with fail
      go_ret
      rw [List.take_length] at hmk own
      rw [← hV] at be hY
      exact ⟨ca, m, cc, rfl, hmk, own.mono hY, (by repeat (first | (with_reducible refine Below.setCell ?_ ?_ _) | (with_reducible refine Below.alloc ?_ ?_ _) | (with_reducible refine Below.drew ?_) | (with_reducible refine below_drewN ?_ _) | (with_reducible exact Below.refl _ _) | (with_reducible refine Below.trans ?_ (Below.mono bw ?_)) | (with_reducible refine Below.trans ?_ (Below.mono be ?_)) | (focus (simp; done)) | (focus (simp; omega)) | (focus omega) | (focus (have q0 := Below.size bw; (try simp at q0); have q1 := Below.size be; (try simp at q1); (try simp); omega))))⟩
end Go.Proofs.Ytbanejpihdhbdaa
