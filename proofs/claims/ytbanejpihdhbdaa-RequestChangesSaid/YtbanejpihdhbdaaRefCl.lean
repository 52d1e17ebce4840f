/- signalbrokerref19.Claims -/
import Derived.Test.YtbanejpihdhbdaaLawCl
namespace Go.Proofs.Ytbanejpihdhbdaa
set_option linter.unusedVariables false
open Go.RowKit Go.Sort
set_option maxRecDepth 100000

def lvK (ag j : Int) (r : Rk) : List Lg := lvOf ag j r.1 r.2.2.1 r.2.2.2.2
def clN (ag j : Int) (l : List Rk) : List Lg := l.flatMap (lvK ag j)
theorem clN_succ {ag j : Int} {l : List Rq} {i : Nat} (h : i < l.length) : clN ag j ((l.take (i + 1)).map Rq.key) = clN ag j ((l.take i).map Rq.key) ++ lvOf ag j l[i].id l[i].cls l[i].legs := by
  rw [← List.take_append_getElem h, List.map_append]
  simp [clN, lvK, Rq.key]
set_option maxHeartbeats 8000000 in
theorem ref19_Claims (a : Option Addr) (l : List Rq) (n c : Nat) (ag j : Int) (w : World) (h : Rqs w a l) (hn : n = l.length) (l9 : n ≤ 100) (hl : ∀ r ∈ l, r.legs.length ≤ 100) :
    Calls Try.prog 31 #[.slice a n c, .int .i64 ag, .int .i64 j] w (ClR (clN ag j (l.map Rq.key)) w) := by
  subst hn
  go_enter Try.func31, Try.ntmps31
  go_wp2_with fail
  go_loopw [7, 14] (fun s7 s14 wr => ∃ (i m : Nat) (ca : Option Addr) (cc : Nat), s7 = .slice ca m cc ∧ s14 = .int .i64 i ∧ i ≤ l.length ∧ m ≤ 100 * i ∧ Hid (m = (clN ag j ((l.take i).map Rq.key)).length) ∧ Own wr w.heap.size 47 5 ca m cc (lgCells (clN ag j ((l.take i).map Rq.key))) ∧ RowKit.Below w.heap.size w wr) (fun _ s _ => l.length - (intOf s).toNat)
  case atStart => exact ⟨0, 0, none, 0, rfl, rfl, by omega, by omega, Lib.hid rfl, Own.nil _ _ _ _, (by repeat (first | (with_reducible refine Below.setCell ?_ ?_ _) | (with_reducible refine Below.alloc ?_ ?_ _) | (with_reducible refine Below.drew ?_) | (with_reducible refine below_drewN ?_ _) | (with_reducible exact Below.refl _ _) | (focus (simp; done)) | (focus (simp; omega)) | (focus omega)))⟩
  case round =>
    obtain ⟨i, m, ca, cc, rfl, rfl, hi, hm, hmk, own, bw⟩ := hrel
    by_cases hlt : i < l.length
    · obtain ⟨ba, oa, rfl⟩ := h.open (by omega)
      have hr := h.below bw (Nat.le_refl _)
      obtain ⟨x0, x1, x2, x3, x4, xb⟩ := row_req hr.row i hlt
      have hg := hr.legs _ (List.getElem_mem hlt)
      have hg0 := h.legs _ (List.getElem_mem hlt)
      have hgl := hl _ (List.getElem_mem hlt)
      have HX := Lib.hid (clN_succ (ag := ag) (j := j) hlt)
      obtain ⟨x, hx⟩ : ∃ x, l[i] = x := ⟨_, rfl⟩
      rw [hx] at x0 x1 x2 x3 x4 hg hg0 hgl HX
      clear hx hr
      obtain ⟨id, veh, cls, til, lg, la, lc⟩ := x
      simp only at x0 x1 x2 x3 x4 hg hg0 hgl HX
      have kx : (i : Int) < (l.length : Int) := by omega
      have hbw := bw.size
      obtain ⟨kl, hkl⟩ : ∃ kl, clN ag j ((l.take i).map Rq.key) = kl := ⟨_, rfl⟩
      rw [hkl] at HX own hmk
      clear hkl
      go_upto_region 5 with fail
      obtain ⟨X, hX⟩ : ∃ X, wr.heap.size = X := ⟨_, rfl⟩
      refine wp_named (fun Z => Blk Z X 45 #[.int .i64 id, .int .i64 veh, .int .i64 cls, .int .i64 til, .slice la lg.length lc] ∧ Row Z la (lgCells lg) ∧ Own Z w.heap.size 47 5 ca m cc (lgCells kl) ∧ RowKit.Below w.heap.size w Z ∧ X + 1 ≤ Z.heap.size) ⟨by rw [← hX]; exact Blk.new _ _ _, hg.alloc _, own.alloc _, (by repeat (first | (with_reducible refine Below.setCell ?_ ?_ _) | (with_reducible refine Below.alloc ?_ ?_ _) | (with_reducible refine Below.drew ?_) | (with_reducible refine below_drewN ?_ _) | (with_reducible exact Below.refl _ _) | (with_reducible refine Below.trans ?_ (Below.mono bw ?_)) | (focus (simp; done)) | (focus (simp; omega)) | (focus omega) | (focus (have q0 := Below.size bw; (try simp at q0); (try simp); omega)))), by simp [hX]⟩ ?_
      have hwX : w.heap.size ≤ X := by omega
      rw [hX]
      clear hX hbw x0 x1 x2 x3 x4 xb hg own bw
      rintro Z ⟨kX, hg, own, bz, hZX⟩
      obtain ⟨v0, v1, v2, v3, v4, vf, vl⟩ := kX.five
      go_wp2_with fail
      go_loopw [7, 21] (fun s7 s21 wy => ∃ (jx m' : Nat) (ca : Option Addr) (cc : Nat), s7 = .slice ca m' cc ∧ s21 = .int .i64 jx ∧ jx ≤ lg.length ∧ m' ≤ 100 * i + jx ∧ Hid (m' = (kl ++ lvOf ag j id cls (lg.take jx)).length) ∧ Own wy w.heap.size 47 5 ca m' cc (lgCells (kl ++ lvOf ag j id cls (lg.take jx))) ∧ Blk wy X 45 #[.int .i64 id, .int .i64 veh, .int .i64 cls, .int .i64 til, .slice la lg.length lc] ∧ RowKit.Below w.heap.size w wy) (fun _ s _ => lg.length - (intOf s).toNat)
      case atStart => exact ⟨0, m, ca, cc, rfl, rfl, by omega, by omega, Lib.hid (by simpa [lvOf] using hmk.out), by simpa [lvOf] using own, kX, bz⟩
      case round =>
        clear own kX bz v0 v1 v2 v3 v4 vf vl hg hmk
        obtain ⟨jx, m', ca, cc, rfl, rfl, hjx, hm', hmk, own, kX, bz⟩ := hrel
        obtain ⟨v0, v1, v2, v3, v4, vf, vl⟩ := kX.five
        by_cases hjl : jx < lg.length
        · have kjl : (jx : Int) < (lg.length : Int) := by omega
          obtain ⟨lb, lo', rfl⟩ := hg0.open_lg (by omega)
          obtain ⟨y0, y1, y2, y3, y4, yl⟩ := row_leg (hg0.below bz (Nat.le_refl _)) jx hjl
          have HT := Lib.hid (show lvOf ag j id cls (lg.take (jx + 1)) = lvOf ag j id cls (lg.take jx) ++ lvOf ag j id cls [lg[jx]] by rw [← List.take_append_getElem hjl, lvOf_append])
          obtain ⟨z, hz⟩ : ∃ z, lg[jx] = z := ⟨_, rfl⟩
          rw [hz] at y0 y1 y2 y3 y4 HT
          clear hz
          obtain ⟨ju, ph, fr, to_, si⟩ := z
          simp only at y0 y1 y2 y3 y4
          obtain ⟨kk, hkk⟩ : ∃ kk, kl ++ lvOf ag j id cls (lg.take jx) = kk := ⟨_, rfl⟩
          rw [hkk] at hmk own
          have HKK := Lib.hid hkk
          clear hkk
          have hbz := bz.size
          by_cases hok : ju = j ∧ si ≠ -1
          · obtain ⟨hju, hs⟩ := hok
            have HY := Lib.hid (lvOf_cons_yes (ag := ag) (id := id) (cls := cls) (j := j) (g := ⟨ju, ph, fr, to_, si⟩) (t := []) hju hs)
            have zju : (ju == j) = true := by rw [beq_iff_eq]; exact hju
            have zsi : (si != -1) = true := by simpa using hs
            go_upto_region 8 with fail
            obtain ⟨L, hL⟩ : ∃ L, wr.heap.size = L := ⟨_, rfl⟩
            refine wp_named (fun U => Blk U L 25 #[.int .i64 j, .int .i64 ph, .int .i64 fr, .int .i64 to_, .int .i64 si] ∧ Blk U X 45 #[.int .i64 id, .int .i64 veh, .int .i64 cls, .int .i64 til, .slice (some ⟨lb, lo', none⟩) lg.length lc] ∧ Own U w.heap.size 47 5 ca m' cc (lgCells kk) ∧ RowKit.Below w.heap.size w U) ⟨by rw [← hL]; exact Blk.new _ _ _, kX.alloc _, own.alloc _, (by repeat (first | (with_reducible refine Below.setCell ?_ ?_ _) | (with_reducible refine Below.alloc ?_ ?_ _) | (with_reducible refine Below.drew ?_) | (with_reducible refine below_drewN ?_ _) | (with_reducible exact Below.refl _ _) | (with_reducible refine Below.trans ?_ (Below.mono bz ?_)) | (focus (simp; done)) | (focus (simp; omega)) | (focus omega) | (focus (have q0 := Below.size bz; (try simp at q0); (try simp); omega))))⟩ ?_
            rw [hL]
            clear hL own bz kX v0 v1 v2 v3 v4 vf vl y0 y1 y2 y3 y4 yl hbz
            rintro U ⟨kL, kX, own, bu⟩
            obtain ⟨v0, v1, v2, v3, v4, vf, vl⟩ := kX.five
            obtain ⟨u0, u1, u2, u3, u4, uf, ul⟩ := kL.five
            have hsu := bu.size
            go_wp2_with ((at_builtin; refine app1Cl rfl _ _ rfl w.heap.size ca m' cc kk rfl hmk.out ag id ph cls si U.heap.size rfl (Blk.new _ _ _) (own.alloc _) (by simp; omega) (by omega) ?_; intro xb xd w7 own7 g7 bl7))
            have kX7 : Blk w7 X 45 #[.int .i64 id, .int .i64 veh, .int .i64 cls, .int .i64 til, .slice (some ⟨lb, lo', none⟩) lg.length lc] := (g7.1.block X (by simp; omega) (fun e => own.past kX (by decide) e.symm)).trans (kX.alloc _)
            go_roundw
            case rel => exact ⟨jx + 1, m' + 1, xb, xd, rfl, by go_num, by omega, by omega, Lib.hid (by rw [HT.out, HY.out, ← List.append_assoc, HKK.out, List.length_append, ← hmk.out]; rfl), by rw [HT.out, HY.out, ← List.append_assoc, HKK.out]; exact own7, kX7, bl7 _ (by repeat (first | (with_reducible refine Below.setCell ?_ ?_ _) | (with_reducible refine Below.alloc ?_ ?_ _) | (with_reducible refine Below.drew ?_) | (with_reducible refine below_drewN ?_ _) | (with_reducible exact Below.refl _ _) | (with_reducible refine Below.trans ?_ (Below.mono bu ?_)) | (focus (simp; done)) | (focus (simp; omega)) | (focus omega) | (focus (have q0 := Below.size bu; (try simp at q0); (try simp); omega))))⟩
            case measure => simp [intOf]; omega
          · have HN := Lib.hid (lvOf_cons_no (ag := ag) (id := id) (cls := cls) (j := j) (g := ⟨ju, ph, fr, to_, si⟩) (t := []) hok)
            by_cases hju : ju = j
            · have hs : si = -1 := by
                rcases Int.decEq si (-1) with h | h
                · exact absurd ⟨hju, h⟩ hok
                · exact h
              have zju : (ju == j) = true := by rw [beq_iff_eq]; exact hju
              subst hs
              go_wp2_with fail
              go_roundw
              case rel => exact ⟨jx + 1, m', ca, cc, rfl, by go_num, by omega, by omega, Lib.hid (by rw [HT.out, HN.out, ← List.append_assoc, HKK.out]; simpa [lvOf] using hmk.out), by rw [HT.out, HN.out, ← List.append_assoc, HKK.out]; simpa [lvOf] using own.alloc _, kX.alloc _, (by repeat (first | (with_reducible refine Below.setCell ?_ ?_ _) | (with_reducible refine Below.alloc ?_ ?_ _) | (with_reducible refine Below.drew ?_) | (with_reducible refine below_drewN ?_ _) | (with_reducible exact Below.refl _ _) | (with_reducible refine Below.trans ?_ (Below.mono bz ?_)) | (focus (simp; done)) | (focus (simp; omega)) | (focus omega) | (focus (have q0 := Below.size bz; (try simp at q0); (try simp); omega))))⟩
              case measure => simp [intOf]; omega
            · have zju : (ju == j) = false := by rw [beq_eq_false_iff_ne]; exact hju
              go_wp2_with fail
              go_roundw
              case rel => exact ⟨jx + 1, m', ca, cc, rfl, by go_num, by omega, by omega, Lib.hid (by rw [HT.out, HN.out, ← List.append_assoc, HKK.out]; simpa [lvOf] using hmk.out), by rw [HT.out, HN.out, ← List.append_assoc, HKK.out]; simpa [lvOf] using own.alloc _, kX.alloc _, (by repeat (first | (with_reducible refine Below.setCell ?_ ?_ _) | (with_reducible refine Below.alloc ?_ ?_ _) | (with_reducible refine Below.drew ?_) | (with_reducible refine below_drewN ?_ _) | (with_reducible exact Below.refl _ _) | (with_reducible refine Below.trans ?_ (Below.mono bz ?_)) | (focus (simp; done)) | (focus (simp; omega)) | (focus omega) | (focus (have q0 := Below.size bz; (try simp at q0); (try simp); omega))))⟩
              case measure => simp [intOf]; omega
        · obtain rfl : jx = lg.length := by omega
          rw [List.take_length] at hmk own
          go_wp2_with fail
          go_roundw
          case rel => exact ⟨i + 1, m', ca, cc, rfl, by go_num, by omega, by omega, Lib.hid (by rw [HX.out]; exact hmk.out), by rw [HX.out]; exact own, bz⟩
          case measure => simp [intOf]; omega
    · obtain rfl : i = l.length := by omega
      go_wp2_with fail
      go_ret
      rw [List.take_length] at hmk own
      exact ⟨ca, m, cc, rfl, hmk, own, bw⟩
end Go.Proofs.Ytbanejpihdhbdaa
