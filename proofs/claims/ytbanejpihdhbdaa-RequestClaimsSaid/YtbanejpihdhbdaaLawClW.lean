/- signalbrokerlaw19.RequestClaims: the walk -/
import Derived.Test.YtbanejpihdhbdaaLawCl
namespace Go.Proofs.Ytbanejpihdhbdaa
set_option linter.unusedVariables false
open Go.RowKit Go.Sort
set_option maxRecDepth 100000

theorem mark_live {l0 : List Rk} {t : Int} {l : List Rq} (h : l.map Rq.key = markM l0 t) {i x : Nat} (hi : i < l.length) (hx : x < l[i].legs.length) (hs : l[i].legs[x].si ≠ -1) : l[i].legs[x].fr ≤ t ∧ t ≤ l[i].legs[x].to_ := by
  have h1 : l[i].key ∈ markM l0 t := by rw [← h]; exact List.mem_map_of_mem (List.getElem_mem hi)
  simp only [markM, List.mem_map] at h1
  obtain ⟨r, -, e⟩ := h1
  have e2 : l[i].legs = r.2.2.2.2.map (Lg.mark t) := (congrArg (fun k : Rk => k.2.2.2.2) e).symm
  have h2 : l[i].legs[x] ∈ r.2.2.2.2.map (Lg.mark t) := by rw [← e2]; exact List.getElem_mem hx
  obtain ⟨g, -, e3⟩ := List.mem_map.1 h2
  rw [← e3] at hs ⊢
  simp only [Lg.mark, wMark] at hs ⊢
  split at hs
  · assumption
  · exact absurd rfl hs
theorem kept_all {l l2 : List Rq} {v : Int} (h : l2.map Rq.key = (l.map Rq.key).filter (pWithout v)) {i : Nat} (hi : i < l2.length) : l2[i].veh ≠ v := by
  have h1 : l2[i].key ∈ (l.map Rq.key).filter (pWithout v) := by rw [← h]; exact List.mem_map_of_mem (List.getElem_mem hi)
  have h2 := (List.mem_filter.1 h1).2
  simpa [pWithout, Rq.key] using h2
def cntV (v : Int) (l : List Rq) : Nat := l.countP fun r => r.veh == v
theorem kept_count {l l2 : List Rq} {v : Int} (h : l2.map Rq.key = (l.map Rq.key).filter (pWithout v)) : l2.length + cntV v l = l.length := by
  have h1 : l2.length = l.countP fun r => !(r.veh == v) := by
    rw [← List.length_map (f := Rq.key), h, ← List.countP_eq_length_filter, List.countP_map]
    rfl
  rw [h1, List.length_eq_countP_add_countP (fun r : Rq => r.veh == v), Nat.add_comm]
  unfold cntV
  congr 1
  congr 1
  funext r
  rw [Bool.eq_iff_iff]
  simp
theorem cntV_succ {v : Int} {l : List Rq} {i : Nat} (h : i < l.length) : cntV v (l.take (i + 1)) = cntV v (l.take i) + (if l[i].veh = v then 1 else 0) := by
  unfold cntV
  rw [← List.take_append_getElem h, List.countP_append]
  congr 1
  by_cases e : l[i].veh = v
  · rw [if_pos e, List.countP_cons_of_pos (by simpa using e)]; rfl
  · rw [if_neg e, List.countP_cons_of_neg (by simpa using e)]; rfl
theorem kept_til {l l2 : List Rq} {v : Int} (h : l2.map Rq.key = (l.map Rq.key).filter (pExpire v)) {i : Nat} (hi : i < l2.length) : v ≤ l2[i].til := by
  have h1 : l2[i].key ∈ (l.map Rq.key).filter (pExpire v) := by rw [← h]; exact List.mem_map_of_mem (List.getElem_mem hi)
  have h2 : decide (v ≤ l2[i].til) = true := (List.mem_filter.1 h1).2
  exact of_decide_eq_true h2
set_option maxHeartbeats 8000000 in
theorem requestClaims_walk (a0 : Option Addr) (c0 : Nat) (l0 : List Int) (w1v w2v w3v : Int) (w : World) (h0 : Ints w a0 l0) (n0 : l0.length ≤ 9223372036854775807) :
    Calls Try.prog 4 #[.slice a0 l0.length c0, .int .i64 w1v, .int .i64 w2v, .int .i64 w3v] w fun e w' => e = .returned (.bool true) ∧ RowKit.Below w.heap.size w w' := by
  obtain ⟨j, Ej'⟩ : ∃ j, w1v % 4 = j := ⟨_, rfl⟩
  obtain ⟨t, Et'⟩ : ∃ t, w2v % 30 = t := ⟨_, rfl⟩
  obtain ⟨v, Ev'⟩ : ∃ v, w3v % 4 = v := ⟨_, rfl⟩
  have t0 : 0 ≤ t := by omega
  have t1 : t < 30 := by omega
  have Ej := Lib.hid Ej'
  have Et := Lib.hid Et'
  have Ev := Lib.hid Ev'
  clear Ej' Et' Ev'
  go_enter Try.func4, Try.ntmps4
  go_upto_region 4 with (first | (go_at_call 9; (with_reducible refine (mk_ModE Et.out _ (by decide) (by decide)).mono ?_); rintro e wz ⟨rfl, rfl⟩) | (go_at_call 9; (with_reducible refine (mk_ModE Ej.out _ (by decide) (by decide)).mono ?_); rintro e wz ⟨rfl, rfl⟩) | (go_at_call 14; (with_reducible refine (mk_New a0 c0 l0 _ h0 n0).mono ?_); rintro e w1 ⟨rfl, hd1, hb1⟩) | (go_at_call 15; (with_reducible refine (deck_Requests _ ⟨a0, c0, l0⟩ 0 4 t _ hd1 (by decide) t0 (by omega)).mono ?_); rintro e w2 ⟨kd, n, l, xa, xc, rfl, hn, hok, il, hd2, g2⟩))
  have be2 : RowKit.Below w.heap.size w w2 := ⟨g2.os.trans hb1.os, g2.tape.trans hb1.tape, g2.output.trans hb1.output, Nat.le_trans hb1.size g2.size, fun k hk => (g2.block k (by have := hb1.size; omega) (fun e => by injection e with e; omega)).trans (hb1.block k hk)⟩
  obtain ⟨ol, oh, om⟩ := hok.out
  have hok4 : RqsOk (l.map Rq.key) 4 := by rw [om]; exact markM_ok oh t0 (by omega)
  have HOK := Lib.hid hok4
  have HLIVE := Lib.hid (fun i x (hi : i < l.length) (hx : x < l[i].legs.length) (hs : l[i].legs[x].si ≠ -1) => mark_live om hi hx hs)
  have hl4 : l.length ≤ 4 := by have := hok4.n.2; simpa using this
  have HLG := Lib.hid (hok4.legsLen)
  have hlok := il.lgOk (fun r hr => by have := hok4.legsLen r hr; omega)
  have hqs := il.rqs
  obtain rfl := hn.out
  clear om oh hok4 hok hd1 hb1 hd2 g2 hn il h0
  go_upto_region 5 with ((go_at_call 16; (with_reducible refine (request_Claims xa l l.length xc 2 j _ hqs rfl (by omega) (fun r hr => by have := HLG.out r hr; omega)).mono ?_); rintro e w3 ⟨ca, m, cc, rfl, hm, own, hb3⟩))
  have be3 : RowKit.Below w.heap.size w w3 := (by repeat (first | (with_reducible refine Below.setCell ?_ ?_ _) | (with_reducible refine Below.alloc ?_ ?_ _) | (with_reducible refine Below.drew ?_) | (with_reducible refine below_drewN ?_ _) | (with_reducible exact Below.refl _ _) | (with_reducible refine Below.trans ?_ (Below.mono hb3 ?_)) | (with_reducible refine Below.trans ?_ (Below.mono be2 ?_)) | (focus (simp; done)) | (focus (simp; omega)) | (focus omega) | (focus (have q0 := Below.size hb3; (try simp at q0); have q1 := Below.size be2; (try simp at q1); (try simp); omega))))
  have hq3 := hqs.below hb3 (Nat.le_refl _)
  have HM := Lib.hid hm.out
  obtain ⟨B3, hB3⟩ : ∃ B3, w3.heap.size = B3 := ⟨_, rfl⟩
  have hbw := be3.size
  clear hb3 be2 hqs hm
  go_wp2_with fail
  go_loopw [12, 38] (fun s12 s38 wr => ∃ i k : Nat, s12 = .int .i64 k ∧ s38 = .int .i64 i ∧ i ≤ l.length ∧ Hid (k = (clM 2 j ((l.take i).map Rq.key)).length) ∧ k ≤ 3 * i ∧ RowKit.Below w3.heap.size w3 wr) (fun _ s _ => l.length - (intOf s).toNat)
  case atStart => exact ⟨0, 0, rfl, rfl, by omega, Lib.hid rfl, by omega, (by repeat (first | (with_reducible refine Below.setCell ?_ ?_ _) | (with_reducible refine Below.alloc ?_ ?_ _) | (with_reducible refine Below.drew ?_) | (with_reducible refine below_drewN ?_ _) | (with_reducible exact Below.refl _ _) | (focus (simp; done)) | (focus (simp; omega)) | (focus omega)))⟩
  case round =>
    obtain ⟨i, k, rfl, rfl, hi, hk, hk3, bw⟩ := hrel
    by_cases hlt : i < l.length
    · obtain ⟨ba, oa, rfl⟩ := hq3.open (by omega)
      have hr := hq3.below bw (Nat.le_refl _)
      obtain ⟨x0, x1, x2, x3, x4, xb⟩ := row_req hr.row i hlt
      have hg := hr.legs _ (List.getElem_mem hlt)
      have hgl := HLG.out _ (List.getElem_mem hlt)
      have HOKi := Lib.hid (show LegsOk l[i].legs from (HOK.out.mem _ (List.mem_map_of_mem (List.getElem_mem hlt))).2.2.2.2)
      have HX := Lib.hid (show clM 2 j ((l.take (i + 1)).map Rq.key) = clM 2 j ((l.take i).map Rq.key) ++ lvOf 2 j l[i].id l[i].cls l[i].legs from (clM_succ (ag := 2) (j := j) hlt).trans (congrArg _ (clOf_lv (ag := 2) (j := j) (r := l[i].key) HOKi.out)))
      have HCL := Lib.hid (fun x hx hj hs k hk => cl_at (ag := 2) (j := j) hlt HOKi.out (x := x) hx hj hs (k := k) hk)
      have HLI := Lib.hid (HLIVE.out i)
      obtain ⟨x, hx⟩ : ∃ x, l[i] = x := ⟨_, rfl⟩
      rw [hx] at x0 x1 x2 x3 x4 hg hgl HX HOKi HCL
      have HLI := Lib.hid (fun y (hy : y < x.legs.length) (hs : x.legs[y].si ≠ -1) => show x.legs[y].fr ≤ t ∧ t ≤ x.legs[y].to_ by subst hx; exact HLIVE.out i y hlt hy hs)
      clear hx hr
      obtain ⟨id, veh, cls, til, lg, la, lc⟩ := x
      simp only at x0 x1 x2 x3 x4 hg hgl HX HCL HLI HOKi
      have kx : (i : Int) < (l.length : Int) := by omega
      have hbw := bw.size
      have ownr := own.below bw (Nat.le_refl _)
      go_upto_region 9 with fail
      obtain ⟨X, hX⟩ : ∃ X, wr.heap.size = X := ⟨_, rfl⟩
      refine wp_named (fun Z => Blk Z X 45 #[.int .i64 id, .int .i64 veh, .int .i64 cls, .int .i64 til, .slice la lg.length lc] ∧ Row Z la (lgCells lg) ∧ Row Z ca (lgCells (clM 2 j (l.map Rq.key))) ∧ RowKit.Below w3.heap.size w3 Z) ⟨by rw [← hX]; exact Blk.new _ _ _, hg.alloc _, ownr.row.alloc _, (by repeat (first | (with_reducible refine Below.setCell ?_ ?_ _) | (with_reducible refine Below.alloc ?_ ?_ _) | (with_reducible refine Below.drew ?_) | (with_reducible refine below_drewN ?_ _) | (with_reducible exact Below.refl _ _) | (with_reducible refine Below.trans ?_ (Below.mono bw ?_)) | (focus (simp; done)) | (focus (simp; omega)) | (focus omega) | (focus (have q0 := Below.size bw; (try simp at q0); (try simp); omega))))⟩ ?_
      rw [hX]
      clear hX hbw x0 x1 x2 x3 x4 xb hg ownr bw
      rintro Z ⟨kX, hg, rc, bz⟩
      obtain ⟨v0, v1, v2, v3, v4, vf, vl⟩ := kX.five
      go_wp2_with fail
      go_loopw [12, 45] (fun s12 s45 wy => ∃ jx k' : Nat, s12 = .int .i64 k' ∧ s45 = .int .i64 jx ∧ jx ≤ lg.length ∧ Hid (k' = (clM 2 j ((l.take i).map Rq.key)).length + (lvOf 2 j id cls (lg.take jx)).length) ∧ k' ≤ 3 * i + jx ∧ RowKit.Below Z.heap.size Z wy) (fun _ s _ => lg.length - (intOf s).toNat)
      case atStart => exact ⟨0, k, rfl, rfl, by omega, Lib.hid (by rw [hk.out]; rfl), by omega, (by repeat (first | (with_reducible refine Below.setCell ?_ ?_ _) | (with_reducible refine Below.alloc ?_ ?_ _) | (with_reducible refine Below.drew ?_) | (with_reducible refine below_drewN ?_ _) | (with_reducible exact Below.refl _ _) | (focus (simp; done)) | (focus (simp; omega)) | (focus omega)))⟩
      case round =>
        obtain ⟨jx, k', rfl, rfl, hjx, hk', hk3', by_⟩ := hrel
        clear v0 v1 v2 v3 v4 vf vl
        have kXy := kX.below by_ kX.lt
        obtain ⟨v0, v1, v2, v3, v4, vf, vl⟩ := kXy.five
        by_cases hjl : jx < lg.length
        · have kjl : (jx : Int) < (lg.length : Int) := by omega
          obtain ⟨lb, lo', rfl⟩ := hg.open_lg (by omega)
          have hgy := hg.below by_ (Nat.le_refl _)
          obtain ⟨y0, y1, y2, y3, y4, yl⟩ := row_leg hgy jx hjl
          have HT := Lib.hid (show lvOf 2 j id cls (lg.take (jx + 1)) = lvOf 2 j id cls (lg.take jx) ++ lvOf 2 j id cls [lg[jx]] by rw [← List.take_append_getElem hjl, lvOf_append])
          have HC := Lib.hid (fun hj hs k hk => HCL.out jx hjl hj hs k hk)
          have HL := Lib.hid (HLI.out jx hjl)
          obtain ⟨z, hz⟩ : ∃ z, lg[jx] = z := ⟨_, rfl⟩
          rw [hz] at y0 y1 y2 y3 y4 HT HL
          simp only [hz] at HC
          clear hz hgy
          obtain ⟨ju, ph, fr, to_, si⟩ := z
          simp only at y0 y1 y2 y3 y4 HC HL
          by_cases hju : ju = j
          · by_cases hs : si = -1
            · have HN := Lib.hid (lvOf_cons_no (ag := 2) (id := id) (cls := cls) (j := j) (g := ⟨ju, ph, fr, to_, si⟩) (t := []) (fun q => q.2 hs))
              subst hs
              have zju : (ju != j) = false := by simpa using hju
              go_wp2_with fail
              go_roundw
              case rel => exact ⟨jx + 1, k', rfl, by go_num, by omega, Lib.hid (by rw [HT.out, HN.out]; exact hk'.out.trans (by simp [lvOf])), by omega, (by repeat (first | (with_reducible refine Below.setCell ?_ ?_ _) | (with_reducible refine Below.alloc ?_ ?_ _) | (with_reducible refine Below.drew ?_) | (with_reducible refine below_drewN ?_ _) | (with_reducible exact Below.refl _ _) | (with_reducible refine Below.trans ?_ (Below.mono by_ ?_)) | (focus (simp; done)) | (focus (simp; omega)) | (focus omega) | (focus (have q0 := Below.size by_; (try simp at q0); (try simp); omega))))⟩
              case measure => simp [intOf]; omega
            · have zju : (ju != j) = false := by simpa using hju
              have zsi : (si == -1) = false := by rw [beq_eq_false_iff_ne]; exact hs
              obtain ⟨hkm, hkv⟩ := HC.out hju hs k' hk'.out
              obtain ⟨hfr, hto⟩ := HL.out hs
              have HY := Lib.hid (lvOf_cons_yes (ag := 2) (id := id) (cls := cls) (j := j) (g := ⟨ju, ph, fr, to_, si⟩) (t := []) hju hs)
              have HKM := Lib.hid hkm
              have HKV : Hid (∃ h, (clM 2 j (l.map Rq.key))[k']'h = ⟨2, id, ph, cls, si⟩) := Lib.hid ⟨hkm, hkv⟩
              have hkm2 : (k' : Int) < (m : Int) := by have := HM.out; omega
              have hkm3 : ¬ ((m : Int) ≤ (k' : Int)) := by omega
              have hfr2 : ¬ (t < fr) := by omega
              have hto2 : ¬ (to_ < t) := by omega
              obtain ⟨cb, co, rfl⟩ := rc.open_lg (by omega)
              have rcy := rc.below by_ (Nat.le_refl _)
              clear hkv hkm
              go_upto_region 12 with fail
              obtain ⟨L, hL⟩ : ∃ L, wr.heap.size = L := ⟨_, rfl⟩
              refine wp_named (fun U => Blk U L 25 #[.int .i64 j, .int .i64 ph, .int .i64 fr, .int .i64 to_, .int .i64 si] ∧ Blk U X 45 #[.int .i64 id, .int .i64 veh, .int .i64 cls, .int .i64 til, .slice (some ⟨lb, lo', none⟩) lg.length lc] ∧ Row U (some ⟨cb, co, none⟩) (lgCells (clM 2 j (l.map Rq.key))) ∧ RowKit.Below Z.heap.size Z U) ⟨by rw [← hL]; exact Blk.new _ _ _, kXy.alloc _, rcy.alloc _, (by repeat (first | (with_reducible refine Below.setCell ?_ ?_ _) | (with_reducible refine Below.alloc ?_ ?_ _) | (with_reducible refine Below.drew ?_) | (with_reducible refine below_drewN ?_ _) | (with_reducible exact Below.refl _ _) | (with_reducible refine Below.trans ?_ (Below.mono by_ ?_)) | (focus (simp; done)) | (focus (simp; omega)) | (focus omega) | (focus (have q0 := Below.size by_; (try simp at q0); (try simp); omega))))⟩ ?_
              rw [hL]
              clear hL kXy rcy by_ v0 v1 v2 v3 v4 vf vl y0 y1 y2 y3 y4 yl
              rintro U ⟨kL, kX, rcu, bu⟩
              obtain ⟨v0, v1, v2, v3, v4, vf, vl⟩ := kX.five
              obtain ⟨u0, u1, u2, u3, u4, uf, ul⟩ := kL.five
              obtain ⟨z0, z1, z2, z3, z4, zl⟩ := row_leg rcu k' HKM.out
              obtain ⟨hkm, hkv⟩ := HKV.out
              rw [hkv] at z0 z1 z2 z3 z4
              clear hkm hkv
              simp only at z0 z1 z2 z3 z4
              go_upto_region 13 with fail
              have rr1 : ∀ d os o, (grow (redrawn U d) os).cell? ⟨X, o, none⟩ = U.cell? ⟨X, o, none⟩ := fun d os o => cells_regrown U d os _ o vl
              have rr2 : ∀ d os o, (grow (redrawn U d) os).cell? ⟨L, o, none⟩ = U.cell? ⟨L, o, none⟩ := fun d os o => cells_regrown U d os _ o ul
              have rr3 : ∀ d os o, (grow (redrawn U d) os).cell? ⟨cb, o, none⟩ = U.cell? ⟨cb, o, none⟩ := fun d os o => cells_regrown U d os _ o zl
              (refine wp_region_quiet_below (by kernel_rfl) (by kernel_rfl) ?_; (repeat (go_big_quiet_step (fail))); refine wpQuiet_nil ?_; intro wq hwq; have hbq := below_of_regrown hwq; clear hwq)
              go_wp2_with fail
              go_roundw
              case rel => exact ⟨jx + 1, k' + 1, by go_num, by go_num, by omega, Lib.hid (by rw [HT.out, HY.out, hk'.out]; simp [lvOf]; omega), by omega, (by repeat (first | (with_reducible refine Below.setCell ?_ ?_ _) | (with_reducible refine Below.alloc ?_ ?_ _) | (with_reducible refine Below.drew ?_) | (with_reducible refine below_drewN ?_ _) | (with_reducible exact Below.refl _ _) | (with_reducible refine Below.trans ?_ (Below.mono hbq ?_)) | (with_reducible refine Below.trans ?_ (Below.mono bu ?_)) | (focus (simp; done)) | (focus (simp; omega)) | (focus omega) | (focus (have q0 := Below.size hbq; (try simp at q0); have q1 := Below.size bu; (try simp at q1); (try simp); omega))))⟩
              case measure => simp [intOf]; omega
          · have zju : (ju != j) = true := by simpa using hju
            have HN := Lib.hid (lvOf_cons_no (ag := 2) (id := id) (cls := cls) (j := j) (g := ⟨ju, ph, fr, to_, si⟩) (t := []) (fun q => hju q.1))
            go_wp2_with fail
            go_roundw
            case rel => exact ⟨jx + 1, k', rfl, by go_num, by omega, Lib.hid (by rw [HT.out, HN.out]; exact hk'.out.trans (by simp [lvOf])), by omega, (by repeat (first | (with_reducible refine Below.setCell ?_ ?_ _) | (with_reducible refine Below.alloc ?_ ?_ _) | (with_reducible refine Below.drew ?_) | (with_reducible refine below_drewN ?_ _) | (with_reducible exact Below.refl _ _) | (with_reducible refine Below.trans ?_ (Below.mono by_ ?_)) | (focus (simp; done)) | (focus (simp; omega)) | (focus omega) | (focus (have q0 := Below.size by_; (try simp at q0); (try simp); omega))))⟩
            case measure => simp [intOf]; omega
        · obtain rfl : jx = lg.length := by omega
          go_wp2_with fail
          go_roundw
          case rel => exact ⟨i + 1, k', rfl, by go_num, by omega, Lib.hid (by rw [HX.out, List.length_append, hk'.out, List.take_length]), by omega, (by repeat (first | (with_reducible refine Below.setCell ?_ ?_ _) | (with_reducible refine Below.alloc ?_ ?_ _) | (with_reducible refine Below.drew ?_) | (with_reducible refine below_drewN ?_ _) | (with_reducible exact Below.refl _ _) | (with_reducible refine Below.trans ?_ (Below.mono by_ ?_)) | (with_reducible refine Below.trans ?_ (Below.mono bz ?_)) | (focus (simp; done)) | (focus (simp; omega)) | (focus omega) | (focus (have q0 := Below.size by_; (try simp at q0); have q1 := Below.size bz; (try simp at q1); (try simp); omega))))⟩
          case measure => simp [intOf]; omega
    · obtain rfl : i = l.length := by omega
      rw [List.take_length] at hk
      obtain rfl : k = m := hk.out.trans HM.out.symm
      have be4 : RowKit.Below w.heap.size w wr := (by repeat (first | (with_reducible refine Below.setCell ?_ ?_ _) | (with_reducible refine Below.alloc ?_ ?_ _) | (with_reducible refine Below.drew ?_) | (with_reducible refine below_drewN ?_ _) | (with_reducible exact Below.refl _ _) | (with_reducible refine Below.trans ?_ (Below.mono bw ?_)) | (with_reducible refine Below.trans ?_ (Below.mono be3 ?_)) | (focus (simp; done)) | (focus (simp; omega)) | (focus omega) | (focus (have q0 := Below.size bw; (try simp at q0); have q1 := Below.size be3; (try simp at q1); (try simp); omega))))
      have hq4 := hq3.below bw (Nat.le_refl _)
      clear bw be3 hq3 hk hi own hbw
      go_wp2_with (first | (go_at_call 9; (with_reducible refine (mk_ModE Ev.out _ (by decide) (by decide)).mono ?_); rintro e wz ⟨rfl, rfl⟩) | (go_at_call 17; (with_reducible refine (request_Without xa l l.length xc v _ hq4 rfl (by omega) (fun r hr => (hlok r hr).1)).mono ?_); rintro e w5 ⟨n2, ya, yc, l2, rfl, hk2, hn2, il2, hb5⟩))
      have be5 : RowKit.Below w.heap.size w w5 := (by repeat (first | (with_reducible refine Below.setCell ?_ ?_ _) | (with_reducible refine Below.alloc ?_ ?_ _) | (with_reducible refine Below.drew ?_) | (with_reducible refine below_drewN ?_ _) | (with_reducible exact Below.refl _ _) | (with_reducible refine Below.trans ?_ (Below.mono hb5 ?_)) | (with_reducible refine Below.trans ?_ (Below.mono be4 ?_)) | (focus (simp; done)) | (focus (simp; omega)) | (focus omega) | (focus (have q0 := Below.size hb5; (try simp at q0); have q1 := Below.size be4; (try simp at q1); (try simp); omega))))
      have hq5 := hq4.below hb5 (Nat.le_refl _)
      have hv2 := Lib.hid (fun i (hi : i < l2.length) => kept_all hk2.out (i := i) hi)
      have hcnt := Lib.hid (kept_count (l := l) hk2.out)
      have hl2 : l2.length ≤ 4 := by have := hcnt.out; omega
      obtain rfl := hn2.out
      clear hb5 be4 hq4 hk2 hn2
      go_loopw [18, 100] (fun s18 s100 wr => ∃ i : Nat, s18 = .int .i64 i ∧ s100 = .int .i64 i ∧ i ≤ l2.length ∧ RowKit.Below w5.heap.size w5 wr) (fun _ s _ => l2.length - (intOf s).toNat)
      case atStart => exact ⟨0, rfl, rfl, by omega, (by repeat (first | (with_reducible refine Below.setCell ?_ ?_ _) | (with_reducible refine Below.alloc ?_ ?_ _) | (with_reducible refine Below.drew ?_) | (with_reducible refine below_drewN ?_ _) | (with_reducible exact Below.refl _ _) | (focus (simp; done)) | (focus (simp; omega)) | (focus omega)))⟩
      case round =>
        obtain ⟨i, rfl, rfl, hi, bw⟩ := hrel
        by_cases hlt : i < l2.length
        · obtain ⟨yb, rfl, -, -⟩ := il2.own.open_ (by omega)
          obtain ⟨x0, x1, x2, x3, x4, xb⟩ := row_req (il2.rqs.below bw (Nat.le_refl _)).row i hlt
          have hvi := hv2.out i hlt
          obtain ⟨x, hx⟩ : ∃ x, l2[i] = x := ⟨_, rfl⟩
          rw [hx] at x0 x1 x2 x3 x4 hvi
          clear hx
          obtain ⟨id, veh, cls, til, lg, la, lc⟩ := x
          simp only [Nat.zero_add] at x0 x1 x2 x3 x4 hvi
          have zv : (veh == v) = false := by rw [beq_eq_false_iff_ne]; exact hvi
          have kx : (i : Int) < (l2.length : Int) := by omega
          go_wp2_with fail
          go_roundw
          case rel => exact ⟨i + 1, by go_num, by go_num, by omega, (by repeat (first | (with_reducible refine Below.setCell ?_ ?_ _) | (with_reducible refine Below.alloc ?_ ?_ _) | (with_reducible refine Below.drew ?_) | (with_reducible refine below_drewN ?_ _) | (with_reducible exact Below.refl _ _) | (with_reducible refine Below.trans ?_ (Below.mono bw ?_)) | (focus (simp; done)) | (focus (simp; omega)) | (focus omega) | (focus (have q0 := Below.size bw; (try simp at q0); (try simp); omega))))⟩
          case measure => simp [intOf]; omega
        · obtain rfl : i = l2.length := by omega
          have be6 : RowKit.Below w.heap.size w wr := (by repeat (first | (with_reducible refine Below.setCell ?_ ?_ _) | (with_reducible refine Below.alloc ?_ ?_ _) | (with_reducible refine Below.drew ?_) | (with_reducible refine below_drewN ?_ _) | (with_reducible exact Below.refl _ _) | (with_reducible refine Below.trans ?_ (Below.mono bw ?_)) | (with_reducible refine Below.trans ?_ (Below.mono be5 ?_)) | (focus (simp; done)) | (focus (simp; omega)) | (focus omega) | (focus (have q0 := Below.size bw; (try simp at q0); have q1 := Below.size be5; (try simp at q1); (try simp); omega))))
          have hq6 := hq5.below bw (Nat.le_refl _)
          clear bw be5 hq5 il2 hi
          go_wp2_with fail
          go_loopw [18, 113] (fun s18 s113 wy => ∃ i k2 : Nat, s18 = .int .i64 k2 ∧ s113 = .int .i64 i ∧ i ≤ l.length ∧ Hid (k2 = l2.length + cntV v (l.take i)) ∧ k2 ≤ 4 + i ∧ RowKit.Below wr.heap.size wr wy) (fun _ s _ => l.length - (intOf s).toNat)
          case atStart => exact ⟨0, l2.length, rfl, rfl, by omega, Lib.hid rfl, by omega, (by repeat (first | (with_reducible refine Below.setCell ?_ ?_ _) | (with_reducible refine Below.alloc ?_ ?_ _) | (with_reducible refine Below.drew ?_) | (with_reducible refine below_drewN ?_ _) | (with_reducible exact Below.refl _ _) | (focus (simp; done)) | (focus (simp; omega)) | (focus omega)))⟩
          case round =>
            obtain ⟨i, k2, rfl, rfl, hi, hc, hk2, bw⟩ := hrel
            by_cases hlt : i < l.length
            · obtain ⟨yb, yo, rfl⟩ := hq6.open (by omega)
              obtain ⟨x0, x1, x2, x3, x4, xb⟩ := row_req (hq6.below bw (Nat.le_refl _)).row i hlt
              have HC := Lib.hid (cntV_succ (v := v) hlt)
              obtain ⟨x, hx⟩ : ∃ x, l[i] = x := ⟨_, rfl⟩
              rw [hx] at x0 x1 x2 x3 x4 HC
              clear hx
              obtain ⟨id, veh, cls, til, lg, la, lc⟩ := x
              simp only at x0 x1 x2 x3 x4 HC
              have kx : (i : Int) < (l.length : Int) := by omega
              by_cases hv : veh = v
              · have zv : (veh == v) = true := by rw [beq_iff_eq]; exact hv
                have HC2 := Lib.hid (HC.out.trans (by rw [if_pos hv]))
                clear hv
                go_wp2_with fail
                go_roundw
                case rel => exact ⟨i + 1, k2 + 1, by go_num, by go_num, by omega, Lib.hid (by rw [HC2.out, hc.out, Nat.add_assoc]), by omega, (by repeat (first | (with_reducible refine Below.setCell ?_ ?_ _) | (with_reducible refine Below.alloc ?_ ?_ _) | (with_reducible refine Below.drew ?_) | (with_reducible refine below_drewN ?_ _) | (with_reducible exact Below.refl _ _) | (with_reducible refine Below.trans ?_ (Below.mono bw ?_)) | (focus (simp; done)) | (focus (simp; omega)) | (focus omega) | (focus (have q0 := Below.size bw; (try simp at q0); (try simp); omega))))⟩
                case measure => simp [intOf]; omega
              · have zv : (veh == v) = false := by rw [beq_eq_false_iff_ne]; exact hv
                have HC2 := Lib.hid (HC.out.trans (by rw [if_neg hv]))
                clear hv
                go_wp2_with fail
                go_roundw
                case rel => exact ⟨i + 1, k2, rfl, by go_num, by omega, Lib.hid (by rw [HC2.out, hc.out]; rfl), by omega, (by repeat (first | (with_reducible refine Below.setCell ?_ ?_ _) | (with_reducible refine Below.alloc ?_ ?_ _) | (with_reducible refine Below.drew ?_) | (with_reducible refine below_drewN ?_ _) | (with_reducible exact Below.refl _ _) | (with_reducible refine Below.trans ?_ (Below.mono bw ?_)) | (focus (simp; done)) | (focus (simp; omega)) | (focus omega) | (focus (have q0 := Below.size bw; (try simp at q0); (try simp); omega))))⟩
                case measure => simp [intOf]; omega
            · obtain rfl : i = l.length := by omega
              rw [List.take_length] at hc
              obtain rfl : k2 = l.length := hc.out.trans hcnt.out
              have be7 : RowKit.Below w.heap.size w wr := (by repeat (first | (with_reducible refine Below.setCell ?_ ?_ _) | (with_reducible refine Below.alloc ?_ ?_ _) | (with_reducible refine Below.drew ?_) | (with_reducible refine below_drewN ?_ _) | (with_reducible exact Below.refl _ _) | (with_reducible refine Below.trans ?_ (Below.mono bw ?_)) | (with_reducible refine Below.trans ?_ (Below.mono be6 ?_)) | (focus (simp; done)) | (focus (simp; omega)) | (focus omega) | (focus (have q0 := Below.size bw; (try simp at q0); have q1 := Below.size be6; (try simp at q1); (try simp); omega))))
              have hq7 := hq6.below bw (Nat.le_refl _)
              clear bw be6 hq6 hi hc hk2 hcnt hv2
              go_wp2_with ((go_at_call 18; (with_reducible refine (request_Expire xa l l.length xc (t + 10) _ hq7 rfl (by omega) (fun r hr => (hlok r hr).1)).mono ?_); rintro e w5 ⟨n3, za, zc, l3, rfl, hk3, hn3, il3, hb5⟩))
              have be8 : RowKit.Below w.heap.size w w5 := (by repeat (first | (with_reducible refine Below.setCell ?_ ?_ _) | (with_reducible refine Below.alloc ?_ ?_ _) | (with_reducible refine Below.drew ?_) | (with_reducible refine below_drewN ?_ _) | (with_reducible exact Below.refl _ _) | (with_reducible refine Below.trans ?_ (Below.mono hb5 ?_)) | (with_reducible refine Below.trans ?_ (Below.mono be7 ?_)) | (focus (simp; done)) | (focus (simp; omega)) | (focus omega) | (focus (have q0 := Below.size hb5; (try simp at q0); have q1 := Below.size be7; (try simp at q1); (try simp); omega))))
              have ht3 := Lib.hid (fun i (hi : i < l3.length) => kept_til hk3.out (i := i) hi)
              have hl3 : l3.length ≤ 4 := by
                have h1 := congrArg List.length hk3.out
                have h2 := List.length_filter_le (pExpire (t + 10)) (l.map Rq.key)
                simp only [List.length_map] at h1 h2
                omega
              obtain rfl := hn3.out
              clear hb5 be7 hq7 hk3 hn3
              go_loopw [129] (fun s129 wy => ∃ i : Nat, s129 = .int .i64 i ∧ i ≤ l3.length ∧ RowKit.Below w5.heap.size w5 wy) (fun s _ => l3.length - (intOf s).toNat)
              case atStart => exact ⟨0, rfl, by omega, (by repeat (first | (with_reducible refine Below.setCell ?_ ?_ _) | (with_reducible refine Below.alloc ?_ ?_ _) | (with_reducible refine Below.drew ?_) | (with_reducible refine below_drewN ?_ _) | (with_reducible exact Below.refl _ _) | (focus (simp; done)) | (focus (simp; omega)) | (focus omega)))⟩
              case round =>
                obtain ⟨i, rfl, hi, bw⟩ := hrel
                by_cases hlt : i < l3.length
                · obtain ⟨yb, rfl, -, -⟩ := il3.own.open_ (by omega)
                  obtain ⟨x0, x1, x2, x3, x4, xb⟩ := row_req (il3.rqs.below bw (Nat.le_refl _)).row i hlt
                  have hvi := ht3.out i hlt
                  obtain ⟨x, hx⟩ : ∃ x, l3[i] = x := ⟨_, rfl⟩
                  rw [hx] at x0 x1 x2 x3 x4 hvi
                  clear hx
                  obtain ⟨id, veh, cls, til, lg, la, lc⟩ := x
                  simp only [Nat.zero_add] at x0 x1 x2 x3 x4 hvi
                  have zv : ¬ (til < t + 10) := by omega
                  have kx : (i : Int) < (l3.length : Int) := by omega
                  go_wp2_with fail
                  go_roundw
                  case rel => exact ⟨i + 1, by go_num, by omega, (by repeat (first | (with_reducible refine Below.setCell ?_ ?_ _) | (with_reducible refine Below.alloc ?_ ?_ _) | (with_reducible refine Below.drew ?_) | (with_reducible refine below_drewN ?_ _) | (with_reducible exact Below.refl _ _) | (with_reducible refine Below.trans ?_ (Below.mono bw ?_)) | (focus (simp; done)) | (focus (simp; omega)) | (focus omega) | (focus (have q0 := Below.size bw; (try simp at q0); (try simp); omega))))⟩
                  case measure => simp [intOf]; omega
                · obtain rfl : i = l3.length := by omega
                  go_wp2_with ((go_at_call 8; (with_reducible refine (law_awake _).mono ?_); rintro e w9 ⟨rfl, hb9⟩))
                  go_ret
                  exact ⟨rfl, (by repeat (first | (with_reducible refine Below.setCell ?_ ?_ _) | (with_reducible refine Below.alloc ?_ ?_ _) | (with_reducible refine Below.drew ?_) | (with_reducible refine below_drewN ?_ _) | (with_reducible exact Below.refl _ _) | (with_reducible refine Below.trans ?_ (Below.mono hb9 ?_)) | (with_reducible refine Below.trans ?_ (Below.mono bw ?_)) | (with_reducible refine Below.trans ?_ (Below.mono be8 ?_)) | (focus (simp; done)) | (focus (simp; omega)) | (focus omega) | (focus (have q0 := Below.size hb9; (try simp at q0); have q1 := Below.size bw; (try simp at q1); have q2 := Below.size be8; (try simp at q2); (try simp); omega))))⟩
end Go.Proofs.Ytbanejpihdhbdaa
