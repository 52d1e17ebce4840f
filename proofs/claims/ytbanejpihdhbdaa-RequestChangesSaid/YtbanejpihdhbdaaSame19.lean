/- signalbrokerref19.Same: lists with the same keys -/
import Derived.Test.YtbanejpihdhbdaaReq
import Derived.Test.YtbanejpihdhbdaaReg
import Derived.Test.YtbanejpihdhbdaaQuiet
namespace Go.Proofs.Ytbanejpihdhbdaa
set_option linter.unusedVariables false
open Go.RowKit Go.Sort
set_option maxRecDepth 100000

theorem key_at {l1 l2 : List Rq} (h : l1.map Rq.key = l2.map Rq.key) {i : Nat} (h1 : i < l1.length) (h2 : i < l2.length) : l1[i].key = l2[i].key := by
  have := congrArg (fun l : List Rk => l[i]?) h
  simpa [h1, h2] using this
set_option maxHeartbeats 8000000 in
theorem ref19_Same (a b : Option Addr) (l1 l2 : List Rq) (n1 c1 n2 c2 : Nat) (w : World) (h1 : Rqs w a l1) (h2 : Rqs w b l2) (hn1 : n1 = l1.length) (hn2 : n2 = l2.length) (hk : l1.map Rq.key = l2.map Rq.key) (l9 : n1 ≤ 100000) (hl : ∀ r ∈ l1, r.legs.length ≤ 100000) :
    Calls Try.prog 11 #[.slice a n1 c1, .slice b n2 c2] w fun e w' => e = .returned (.bool true) ∧ RowKit.Below w.heap.size w w' := by
  obtain rfl : n1 = n2 := by
    have := congrArg List.length hk
    simp only [List.length_map] at this
    omega
  subst hn1
  have HN2 := Lib.hid hn2
  have HK := Lib.hid hk
  clear hn2 hk
  go_enter Try.func11, Try.ntmps11
  go_wp2_with fail
  go_loopw [17] (fun s17 wr => ∃ i : Nat, s17 = .int .i64 i ∧ i ≤ l1.length ∧ RowKit.Below w.heap.size w wr) (fun s _ => l1.length - (intOf s).toNat)
  case atStart => exact ⟨0, rfl, by omega, (by repeat (first | (with_reducible refine Below.setCell ?_ ?_ _) | (with_reducible refine Below.alloc ?_ ?_ _) | (with_reducible refine Below.drew ?_) | (with_reducible refine below_drewN ?_ _) | (with_reducible exact Below.refl _ _) | (focus (simp; done)) | (focus (simp; omega)) | (focus omega)))⟩
  case round =>
    obtain ⟨i, rfl, hi, bw⟩ := hrel
    by_cases hlt : i < l1.length
    · have hlt2 : i < l2.length := by rw [← HN2.out]; exact hlt
      obtain ⟨ba, oa, rfl⟩ := h1.open (by omega)
      obtain ⟨bb, ob, rfl⟩ := h2.open (by omega)
      have hr1 := h1.below bw (Nat.le_refl _)
      have hr2 := h2.below bw (Nat.le_refl _)
      obtain ⟨x0, x1, x2, x3, x4, xb⟩ := row_req hr1.row i hlt
      obtain ⟨y0, y1, y2, y3, y4, yb⟩ := row_req hr2.row i hlt2
      have hg1 := hr1.legs _ (List.getElem_mem hlt)
      have hg2 := hr2.legs _ (List.getElem_mem hlt2)
      have hke := key_at HK.out hlt hlt2
      have hgl := hl _ (List.getElem_mem hlt)
      obtain ⟨x, hx⟩ : ∃ x, l1[i] = x := ⟨_, rfl⟩
      obtain ⟨y, hy⟩ : ∃ y, l2[i] = y := ⟨_, rfl⟩
      rw [hx] at x0 x1 x2 x3 x4 hg1 hke hgl
      rw [hy] at y0 y1 y2 y3 y4 hg2 hke
      have HYE : Hid (∃ h : i < l2.length, l2[i] = y) := Lib.hid ⟨hlt2, hy⟩
      clear hx hy hr1 hr2 hlt2
      obtain ⟨id, veh, cls, til, lg, la, lc⟩ := x
      obtain ⟨id2, veh2, cls2, til2, lg2, la2, lc2⟩ := y
      simp only [Rq.key, Prod.mk.injEq] at hke
      obtain ⟨rfl, rfl, rfl, rfl, rfl⟩ := hke
      simp only at x0 x1 x2 x3 x4 y0 y1 y2 y3 y4 hg1 hg2 hgl
      have kx : (i : Int) < (l1.length : Int) := by omega
      have hbw := bw.size
      go_upto_region 6 with fail
      obtain ⟨X, hX⟩ : ∃ X, wr.heap.size = X := ⟨_, rfl⟩
      refine wp_named (fun Z => Blk Z X 45 #[.int .i64 id, .int .i64 veh, .int .i64 cls, .int .i64 til, .slice la lg.length lc] ∧ Row Z la (lgCells lg) ∧ Row Z la2 (lgCells lg) ∧ Rqs Z (some ⟨bb, ob, none⟩) l2 ∧ RowKit.Below w.heap.size w Z) ⟨by rw [← hX]; exact Blk.new _ _ _, hg1.alloc _, hg2.alloc _, (h2.below bw (Nat.le_refl _)).alloc _, (by repeat (first | (with_reducible refine Below.setCell ?_ ?_ _) | (with_reducible refine Below.alloc ?_ ?_ _) | (with_reducible refine Below.drew ?_) | (with_reducible refine below_drewN ?_ _) | (with_reducible exact Below.refl _ _) | (with_reducible refine Below.trans ?_ (Below.mono bw ?_)) | (focus (simp; done)) | (focus (simp; omega)) | (focus omega) | (focus (have q0 := Below.size bw; (try simp at q0); (try simp); omega))))⟩ ?_
      rw [hX]
      clear hX hbw x0 x1 x2 x3 x4 xb y0 y1 y2 y3 y4 yb hg1 hg2 bw
      rintro Z ⟨kX, hg1, hg2, hz2, bz⟩
      obtain ⟨y0, y1, y2, y3, y4, yb⟩ : _ ∧ _ ∧ _ ∧ _ ∧ _ ∧ _ := by
        obtain ⟨hl2, e⟩ := HYE.out
        have := row_req hz2.row i hl2
        rw [e] at this
        exact this
      simp only at y0 y1 y2 y3 y4
      go_upto_region 7 with fail
      obtain ⟨Y, hY⟩ : ∃ Y, Z.heap.size = Y := ⟨_, rfl⟩
      refine wp_named (fun U => Blk U X 45 #[.int .i64 id, .int .i64 veh, .int .i64 cls, .int .i64 til, .slice la lg.length lc] ∧ Blk U Y 45 #[.int .i64 id, .int .i64 veh, .int .i64 cls, .int .i64 til, .slice la2 lg.length lc2] ∧ Row U la (lgCells lg) ∧ Row U la2 (lgCells lg) ∧ RowKit.Below w.heap.size w U) ⟨kX.alloc _, by rw [← hY]; exact Blk.new _ _ _, hg1.alloc _, hg2.alloc _, (by repeat (first | (with_reducible refine Below.setCell ?_ ?_ _) | (with_reducible refine Below.alloc ?_ ?_ _) | (with_reducible refine Below.drew ?_) | (with_reducible refine below_drewN ?_ _) | (with_reducible exact Below.refl _ _) | (with_reducible refine Below.trans ?_ (Below.mono bz ?_)) | (focus (simp; done)) | (focus (simp; omega)) | (focus omega) | (focus (have q0 := Below.size bz; (try simp at q0); (try simp); omega))))⟩ ?_
      rw [hY]
      clear hY kX hg1 hg2 hz2 bz y0 y1 y2 y3 y4 yb
      rintro U ⟨kX, kY, hg1, hg2, bu⟩
      obtain ⟨v0, v1, v2, v3, v4, vf, vl⟩ := kX.five
      obtain ⟨y0, y1, y2, y3, y4, yf, yl⟩ := kY.five
      go_wp2_with fail
      go_loopw [64] (fun s64 wy => ∃ jx : Nat, s64 = .int .i64 jx ∧ jx ≤ lg.length ∧ RowKit.Below U.heap.size U wy) (fun s _ => lg.length - (intOf s).toNat)
      case atStart => exact ⟨0, rfl, by omega, (by repeat (first | (with_reducible refine Below.setCell ?_ ?_ _) | (with_reducible refine Below.alloc ?_ ?_ _) | (with_reducible refine Below.drew ?_) | (with_reducible refine below_drewN ?_ _) | (with_reducible exact Below.refl _ _) | (focus (simp; done)) | (focus (simp; omega)) | (focus omega)))⟩
      case round =>
        obtain ⟨jx, rfl, hjx, by_⟩ := hrel
        by_cases hjl : jx < lg.length
        · have kjl : (jx : Int) < (lg.length : Int) := by omega
          obtain ⟨lb, lo', rfl⟩ := hg1.open_lg (by omega)
          obtain ⟨lb2, lo2, rfl⟩ := hg2.open_lg (by omega)
          obtain ⟨z0, z1, z2, z3, z4, zl⟩ := row_leg (hg1.below by_ (Nat.le_refl _)) jx hjl
          have HZE : Hid (∃ h : jx < lg.length, lg[jx] = lg[jx]) := Lib.hid ⟨hjl, rfl⟩
          obtain ⟨z, hz⟩ : ∃ z, lg[jx] = z := ⟨_, rfl⟩
          have HZ : Hid (∃ h : jx < lg.length, lg[jx] = z) := Lib.hid ⟨hjl, hz⟩
          rw [hz] at z0 z1 z2 z3 z4
          clear hz HZE
          obtain ⟨ju, ph, fr, to_, si⟩ := z
          simp only at z0 z1 z2 z3 z4
          have kXy := kX.below by_ kX.lt
          have kYy := kY.below by_ kY.lt
          have hg2y := hg2.below by_ (Nat.le_refl _)
          clear v0 v1 v2 v3 v4 vf vl y0 y1 y2 y3 y4 yf yl
          go_upto_region 12 with fail
          obtain ⟨L, hL⟩ : ∃ L, wr.heap.size = L := ⟨_, rfl⟩
          refine wp_named (fun S => Blk S L 25 #[.int .i64 ju, .int .i64 ph, .int .i64 fr, .int .i64 to_, .int .i64 si] ∧ Blk S Y 45 #[.int .i64 id, .int .i64 veh, .int .i64 cls, .int .i64 til, .slice (some ⟨lb2, lo2, none⟩) lg.length lc2] ∧ Row S (some ⟨lb2, lo2, none⟩) (lgCells lg) ∧ RowKit.Below U.heap.size U S) ⟨by rw [← hL]; exact Blk.new _ _ _, kYy.alloc _, hg2y.alloc _, (by repeat (first | (with_reducible refine Below.setCell ?_ ?_ _) | (with_reducible refine Below.alloc ?_ ?_ _) | (with_reducible refine Below.drew ?_) | (with_reducible refine below_drewN ?_ _) | (with_reducible exact Below.refl _ _) | (with_reducible refine Below.trans ?_ (Below.mono by_ ?_)) | (focus (simp; done)) | (focus (simp; omega)) | (focus omega) | (focus (have q0 := Below.size by_; (try simp at q0); (try simp); omega))))⟩ ?_
          rw [hL]
          clear hL kXy kYy hg2y by_ z0 z1 z2 z3 z4 zl
          rintro S ⟨kL, kS, hgs, bs⟩
          obtain ⟨z0, z1, z2, z3, z4, zl⟩ : _ ∧ _ ∧ _ ∧ _ ∧ _ ∧ _ := by
            obtain ⟨hh, e⟩ := HZ.out
            have := row_leg hgs jx hh
            rw [e] at this
            exact this
          simp only at z0 z1 z2 z3 z4
          obtain ⟨u0, u1, u2, u3, u4, uf, ul⟩ := kL.five
          obtain ⟨y0, y1, y2, y3, y4, yf, yl⟩ := kS.five
          have rr1 : ∀ d os o, (grow (redrawn S d) os).cell? ⟨Y, o, none⟩ = S.cell? ⟨Y, o, none⟩ := fun d os o => cells_regrown S d os _ o yl
          have rr2 : ∀ d os o, (grow (redrawn S d) os).cell? ⟨L, o, none⟩ = S.cell? ⟨L, o, none⟩ := fun d os o => cells_regrown S d os _ o ul
          have rr3 : ∀ d os o, (grow (redrawn S d) os).cell? ⟨lb2, o, none⟩ = S.cell? ⟨lb2, o, none⟩ := fun d os o => cells_regrown S d os _ o zl
          (refine wp_region_quiet_below (by kernel_rfl) (by kernel_rfl) ?_; (repeat (go_big_quiet_step (fail))); refine wpQuiet_nil ?_; intro wq hwq; have hbq := below_of_regrown hwq; clear hwq)
          go_wp2_with fail
          go_roundw
          case rel => exact ⟨jx + 1, by go_num, by omega, (by repeat (first | (with_reducible refine Below.setCell ?_ ?_ _) | (with_reducible refine Below.alloc ?_ ?_ _) | (with_reducible refine Below.drew ?_) | (with_reducible refine below_drewN ?_ _) | (with_reducible exact Below.refl _ _) | (with_reducible refine Below.trans ?_ (Below.mono hbq ?_)) | (with_reducible refine Below.trans ?_ (Below.mono bs ?_)) | (focus (simp; done)) | (focus (simp; omega)) | (focus omega) | (focus (have q0 := Below.size hbq; (try simp at q0); have q1 := Below.size bs; (try simp at q1); (try simp); omega))))⟩
          case measure => simp [intOf]; omega
        · obtain rfl : jx = lg.length := by omega
          go_wp2_with fail
          go_roundw
          case rel => exact ⟨i + 1, by go_num, by omega, (by repeat (first | (with_reducible refine Below.setCell ?_ ?_ _) | (with_reducible refine Below.alloc ?_ ?_ _) | (with_reducible refine Below.drew ?_) | (with_reducible refine below_drewN ?_ _) | (with_reducible exact Below.refl _ _) | (with_reducible refine Below.trans ?_ (Below.mono by_ ?_)) | (with_reducible refine Below.trans ?_ (Below.mono bu ?_)) | (focus (simp; done)) | (focus (simp; omega)) | (focus omega) | (focus (have q0 := Below.size by_; (try simp at q0); have q1 := Below.size bu; (try simp at q1); (try simp); omega))))⟩
          case measure => simp [intOf]; omega
    · obtain rfl : i = l1.length := by omega
      go_wp2_with fail
      go_ret
      exact ⟨rfl, bw⟩
end Go.Proofs.Ytbanejpihdhbdaa
