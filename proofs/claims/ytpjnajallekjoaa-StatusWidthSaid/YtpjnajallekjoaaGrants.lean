/- StatusGrants: the walk -/
import Derived.Test.YtpjnajallekjoaaAwake
import Derived.Deep.DeepCutAuto
namespace Go.Proofs.Ytpjnajallekjoaa
set_option linter.unusedVariables false
open Go.RowKit Go.Sort
set_option maxRecDepth 100000

theorem boolOf_bool (b : Bool) : boolOf (.bool b) = some b := rfl
attribute [go_sem] boolOf_bool
theorem RqsOk.leg {l : List Rq} {q : Int} (h : RqsOk (l.map Rq.key) q) {i : Nat} (hi : i < l.length) {k : Nat} (hk : k < l[i].legs.length) : lgV l[i].legs[k] = true := (h.mem _ (List.mem_map_of_mem (List.getElem_mem hi))).2.2.2.2.v k hk
theorem lgV_bd {x : Lg} (h : lgV x = true) : (0 ≤ x.ju ∧ x.ju < 4) ∧ (0 ≤ x.ph ∧ x.ph < 8) := by
  simp only [lgV, wValid, decide_eq_true_eq] at h
  omega
theorem DeckAt.keepB {W W' : World} {p B k : Nat} {d : Dk} (h : DeckAt W p d k) (hB : ∀ b, b < B → W'.heap[b]? = W.heap[b]?) (hp : p < B) (ha : d.l = [] ∨ ∀ b, d.a.map (·.block) = some b → b < B) : DeckAt W' p d k := by
  refine ⟨(hB p hp).trans h.1, ?_, h.2.2⟩
  rcases ha with ha | ha
  · exact .inl (by rw [ha]; rfl)
  · exact Row.keep h.2.1 fun b off e _ => hB b (ha b (by rw [e]; rfl))
theorem ints_old {w : World} {a : Option Addr} {l : List Int} (h : Ints w a l) : l = [] ∨ ∀ b, a.map (·.block) = some b → b < w.heap.size := by
  rcases h with hz | ⟨b, off, e, hlt, _⟩
  · exact .inl (by simpa using hz)
  · exact .inr fun b' hb' => by rw [e] at hb'; simp at hb'; omega
theorem below_grown {w W W' : World} {B p : Nat} (hb : Below B w W) (g : W.grownBy W' (some p)) (hp : B ≤ p) (hs : B ≤ W.heap.size) : Below B w W' :=
  ⟨g.os.trans hb.os, g.tape.trans hb.tape, g.output.trans hb.output, Nat.le_trans hb.size g.size, fun k hk => (g.block k (by omega) (fun e => by injection e with e; omega)).trans (hb.block k hk)⟩
set_option maxHeartbeats 16000000 in
theorem statusGrants_walk (a0 : Option Addr) (c0 : Nat) (l0 : List Int) (a1 : Option Addr) (c1 : Nat) (l1 : List Int) (now : Int) (w : World) (h0 : Ints w a0 l0) (n0 : l0.length ≤ 9223372036854775807) (h1 : Ints w a1 l1) (n1 : l1.length ≤ 9223372036854775807) :
    Calls Try.prog 3 #[.slice a0 l0.length c0, .slice a1 l1.length c1, .int .i64 now] w fun e w' => e = .returned (.bool true) ∧ RowKit.Below w.heap.size w w' := by
  obtain ⟨n, HN, hn0, hn1⟩ := modName now 30 (by decide)
  go_enter Try.func3, Try.ntmps3
  go_upto_region 2 with ((go_at_call 6; (with_reducible refine (mk_New a0 c0 l0 _ h0 n0).mono ?_); rintro e w1 ⟨rfl, hd1, hb1⟩))
  have h1' := h1.below hb1 (Nat.le_refl _)
  have hz1 := hd1.lt
  go_upto_region 4 with (first | (go_at_call 6; (with_reducible refine (mk_New a1 c1 l1 _ h1' n1).mono ?_); rintro e w2 ⟨rfl, hd2, hb2⟩) | (go_at_call 7; (with_reducible refine (law_views _ _ _ _ hd2).mono ?_); rintro e w3 ⟨k3, vn, its, va, vc, rfl, hvn, hv4, -, vd, -, g3⟩) | (go_at_call 8; (with_reducible refine (mk_ModE HN.out _ (by decide) (by decide)).mono ?_); rintro e w4 ⟨rfl, rfl⟩))
  have hz2 := hb1.size
  have hz3 := hb2.size
  have hz4 := g3.size
  have hd1' : DeckAt w3 w.heap.size ⟨a0, c0, l0⟩ 0 := hd1.keepB (B := w1.heap.size) (fun b hb => (g3.block b (by omega) (fun e => by injection e with e; omega)).trans (hb2.block b hb)) hz1 ((ints_old h0).imp id fun h b hb => Nat.lt_of_lt_of_le (h b hb) hz2)
  have be3 : RowKit.Below w.heap.size w w3 := below_grown ((by repeat (first | (with_reducible refine Below.setCell ?_ ?_ _) | (with_reducible refine Below.alloc ?_ ?_ _) | (with_reducible refine Below.drew ?_) | (with_reducible refine below_drewN ?_ _) | (with_reducible exact Below.refl _ _) | (with_reducible refine Below.trans ?_ (Below.mono hb2 ?_)) | (with_reducible refine Below.trans ?_ (Below.mono hb1 ?_)) | (focus (simp; done)) | (focus (simp; omega)) | (focus omega) | (focus (have q0 := Below.size hb2; (try simp at q0); have q1 := Below.size hb1; (try simp at q1); (try simp); omega))))) g3 hz2 (by omega)
  have vd3 := vd
  have hpb : w.heap.size < w2.heap.size := by omega
  have hzz : w.heap.size ≤ w3.heap.size := by omega
  clear hd1 hd2 hb1 hb2 g3 h1' h0 h1 hz1 hz2 hz3 hz4 vd n0 n1
  go_upto_region 5 with ((go_at_call 9; (with_reducible refine (deck_Requests w.heap.size ⟨a0, c0, l0⟩ 0 4 n _ hd1' (by decide) hn0 (by omega)).mono ?_); rintro e w5 ⟨k5, rn, l, ra, rc, rfl, hrn, hl0, il, hd5, g5⟩))
  have HOK : Hid (RqsOk (l.map Rq.key) 4) := Lib.hid (by
    obtain ⟨l00, q1, q2⟩ := hl0.out
    rw [q2]
    exact markM_ok q1 hn0 (by omega))
  have hl4 : l.length ≤ 4 := by have := HOK.out.n.2; simpa using this
  have be5 : RowKit.Below w.heap.size w w5 := below_grown be3 g5 (Nat.le_refl _) hzz
  have vd5 := (vd3.vwsGrown g5 hpb).l.vws
  have HOKV := Lib.hid vd3.ok
  have rq5 := il.rqs
  obtain rfl := hrn.out
  obtain rfl := hvn.out
  clear hd1' be3 vd3 hd5 g5 il hl0 hzz hpb hrn hvn
  go_wp2_with fail
  go_loopw [29] (fun s29 wr => ∃ i : Nat, s29 = .int .i64 i ∧ i ≤ l.length ∧ RowKit.Below w5.heap.size w5 wr) (fun s _ => l.length - (intOf s).toNat)
  case atStart => exact ⟨0, rfl, by omega, (by repeat (first | (with_reducible refine Below.setCell ?_ ?_ _) | (with_reducible refine Below.alloc ?_ ?_ _) | (with_reducible refine Below.drew ?_) | (with_reducible refine below_drewN ?_ _) | (with_reducible exact Below.refl _ _) | (focus (simp; done)) | (focus (simp; omega)) | (focus omega)))⟩
  case round =>
    obtain ⟨i, rfl, hi, be⟩ := hrel
    by_cases hlt : i < l.length
    · have kx : (i : Int) < (l.length : Int) := by omega
      obtain ⟨bl, ol, rfl⟩ := rq5.open (by omega)
      have hr := rq5.below be (Nat.le_refl _)
      obtain ⟨x0, x1, x2, x3, x4, xb⟩ := row_req hr.row i hlt
      have hg := hr.legs _ (List.getElem_mem hlt)
      have hgl := HOK.out.legsLen _ (List.getElem_mem hlt)
      have HLV := Lib.hid (show ∀ y ∈ l[i].legs, (0 ≤ y.ju ∧ y.ju < 4) ∧ (0 ≤ y.ph ∧ y.ph < 8) from fun y hy => by
        obtain ⟨k, hk, rfl⟩ := List.mem_iff_getElem.1 hy
        exact lgV_bd (HOK.out.leg hlt hk))
      obtain ⟨x, hx⟩ : ∃ x, l[i] = x := ⟨_, rfl⟩
      rw [hx] at x0 x1 x2 x3 x4 hg hgl HLV
      clear hx hr
      obtain ⟨id, veh, cls, til, lg, la, lc⟩ := x
      simp only at x0 x1 x2 x3 x4 hg hgl HLV
      go_upto_region 7 with fail
      obtain ⟨V, hV⟩ : ∃ V, wr.heap.size = V := ⟨_, rfl⟩
      refine wp_named (fun Y => Blk Y V 32 #[.int .i64 id, .int .i64 veh, .int .i64 cls, .int .i64 til, .slice la lg.length lc] ∧ Row Y la (lgCells lg) ∧ RowKit.Below w5.heap.size w5 Y) ⟨by rw [← hV]; exact Blk.new _ _ _, hg.alloc _, (by repeat (first | (with_reducible refine Below.setCell ?_ ?_ _) | (with_reducible refine Below.alloc ?_ ?_ _) | (with_reducible refine Below.drew ?_) | (with_reducible refine below_drewN ?_ _) | (with_reducible exact Below.refl _ _) | (with_reducible refine Below.trans ?_ (Below.mono be ?_)) | (focus (simp; done)) | (focus (simp; omega)) | (focus omega) | (focus (have q0 := Below.size be; (try simp at q0); (try simp); omega))))⟩ ?_
      rw [hV]
      clear hV hg be x0 x1 x2 x3 x4 xb
      rintro Y ⟨kV, hg, be⟩
      obtain ⟨v0, v1, v2, v3, v4, vf, vl⟩ := kV.five
      go_wp2_with fail
      go_loopw [36] (fun s36 wz => ∃ k : Nat, s36 = .int .i64 k ∧ k ≤ lg.length ∧ RowKit.Below Y.heap.size Y wz) (fun s _ => lg.length - (intOf s).toNat)
      case atStart => exact ⟨0, rfl, by omega, (by repeat (first | (with_reducible refine Below.setCell ?_ ?_ _) | (with_reducible refine Below.alloc ?_ ?_ _) | (with_reducible refine Below.drew ?_) | (with_reducible refine below_drewN ?_ _) | (with_reducible exact Below.refl _ _) | (focus (simp; done)) | (focus (simp; omega)) | (focus omega)))⟩
      case round =>
        obtain ⟨k, rfl, hk, bz⟩ := hrel
        have be2 : RowKit.Below w5.heap.size w5 wr := (by repeat (first | (with_reducible refine Below.setCell ?_ ?_ _) | (with_reducible refine Below.alloc ?_ ?_ _) | (with_reducible refine Below.drew ?_) | (with_reducible refine below_drewN ?_ _) | (with_reducible exact Below.refl _ _) | (with_reducible refine Below.trans ?_ (Below.mono bz ?_)) | (with_reducible refine Below.trans ?_ (Below.mono be ?_)) | (focus (simp; done)) | (focus (simp; omega)) | (focus omega) | (focus (have q0 := Below.size bz; (try simp at q0); have q1 := Below.size be; (try simp at q1); (try simp); omega))))
        by_cases hkl : k < lg.length
        · have kx2 : (k : Int) < (lg.length : Int) := by omega
          obtain ⟨bg, og, rfl⟩ := hg.open_lg (by omega)
          obtain ⟨y0, y1, y2, y3, y4, yb⟩ := row_leg (hg.below bz (Nat.le_refl _)) k hkl
          have hbd := HLV.out _ (List.getElem_mem hkl)
          obtain ⟨z, hz⟩ : ∃ z, lg[k] = z := ⟨_, rfl⟩
          rw [hz] at y0 y1 y2 y3 y4 hbd
          clear hz
          obtain ⟨ju, ph, fr, to_, si⟩ := z
          simp only at y0 y1 y2 y3 y4 hbd
          obtain ⟨J, rfl⟩ := Int.eq_ofNat_of_zero_le hbd.1.1
          obtain ⟨P, rfl⟩ := Int.eq_ofNat_of_zero_le hbd.2.1
          go_upto_region 10 with fail
          obtain ⟨G, hG⟩ : ∃ G, wr.heap.size = G := ⟨_, rfl⟩
          refine wp_named (fun U => Blk U G 34 #[.int .i64 J, .int .i64 P, .int .i64 fr, .int .i64 to_, .int .i64 si] ∧ RowKit.Below Y.heap.size Y U ∧ RowKit.Below w5.heap.size w5 U) ⟨by rw [← hG]; exact Blk.new _ _ _, (by repeat (first | (with_reducible refine Below.setCell ?_ ?_ _) | (with_reducible refine Below.alloc ?_ ?_ _) | (with_reducible refine Below.drew ?_) | (with_reducible refine below_drewN ?_ _) | (with_reducible exact Below.refl _ _) | (with_reducible refine Below.trans ?_ (Below.mono bz ?_)) | (focus (simp; done)) | (focus (simp; omega)) | (focus omega) | (focus (have q0 := Below.size bz; (try simp at q0); (try simp); omega)))), (by repeat (first | (with_reducible refine Below.setCell ?_ ?_ _) | (with_reducible refine Below.alloc ?_ ?_ _) | (with_reducible refine Below.drew ?_) | (with_reducible refine below_drewN ?_ _) | (with_reducible exact Below.refl _ _) | (with_reducible refine Below.trans ?_ (Below.mono be2 ?_)) | (focus (simp; done)) | (focus (simp; omega)) | (focus omega) | (focus (have q0 := Below.size be2; (try simp at q0); (try simp); omega))))⟩ ?_
          rw [hG]
          clear hG y0 y1 y2 y3 y4 yb bz be2 v0 v1 v2 v3 v4 vf vl
          rintro U ⟨kG, bU, be2⟩
          have hvU := vd5.below be2 (Nat.le_refl _)
          obtain ⟨g0, g1, g2, g3, g4, gf, gl⟩ := kG.five
          obtain ⟨lv, hlv⟩ : ∃ lv, (decide (fr ≤ n) && decide (n ≤ to_)) = lv := ⟨_, rfl⟩
          have HLVE := Lib.hid hlv
          clear hlv
          go_cut [14] (fun s14 wx => s14 = .bool lv ∧ U = wx)
          case first =>
            by_cases q1 : fr ≤ n
            · by_cases q2 : n ≤ to_
              · go_wp2_with fail
                go_meet
                exact ⟨by rw [← HLVE.out]; simp [q1, q2], rfl⟩
              · go_wp2_with fail
                go_meet
                exact ⟨by rw [← HLVE.out]; simp [q1, q2], rfl⟩
            · go_wp2_with fail
              go_meet
              exact ⟨by rw [← HLVE.out]; simp; omega, rfl⟩
          case rest =>
            obtain ⟨rfl, rfl⟩ := hcut
            obtain ⟨ob, hob⟩ : ∃ ob : Bool, ob = true ↔ ∃ h : J < its.length, P < its[J].cs.length := ⟨@decide _ (Classical.propDecidable _), @decide_eq_true_iff _ (Classical.propDecidable _)⟩
            have HOB := Lib.hid hob
            clear hob
            go_upto_region 11 with fail
            go_cut [15] (fun s15 wx => s15 = .bool ob ∧ RowKit.Below U.heap.size U wx)
            case first =>
              have r1 : ∀ (d : Nat) (os : Array Obj) (o : Nat), (grow (redrawn U d) os).cell? ⟨G, o, none⟩ = U.cell? ⟨G, o, none⟩ := fun d os o => cells_regrown _ _ _ _ _ gl
              by_cases hJ : J < its.length
              · have kJ : (J : Int) < (its.length : Int) := by omega
                have z2 : decide (J < its.length) = true := decide_eq_true hJ
                have z2' : decide ((J : Int) < (its.length : Int)) = true := decide_eq_true kJ
                obtain ⟨ba, oa, rfl⟩ := hvU.open (by omega)
                obtain ⟨y0, y1, y2, y3, yb⟩ := row_view hvU.row J hJ
                have HOB2 : Hid (ob = true ↔ P < its[J].cs.length) := Lib.hid ⟨fun h => (HOB.out.1 h).2, fun h => HOB.out.2 ⟨hJ, h⟩⟩
                obtain ⟨x, hx⟩ : ∃ x, its[J] = x := ⟨_, rfl⟩
                rw [hx] at y0 y1 y2 y3 HOB2
                clear hx
                have r2 : ∀ (d : Nat) (os : Array Obj) (o : Nat), (grow (redrawn U d) os).cell? ⟨ba, o, none⟩ = U.cell? ⟨ba, o, none⟩ := fun d os o => cells_regrown _ _ _ _ _ yb
                by_cases hP : P < x.cs.length
                · have kP : (P : Int) < (x.cs.length : Int) := by omega
                  have z4 : decide (P < x.cs.length) = true := decide_eq_true hP
                  have z4' : decide ((P : Int) < (x.cs.length : Int)) = true := decide_eq_true kP
                  have e := Lib.hid (HOB2.out.2 hP)
                  (refine wp_region_quiet_below (by kernel_rfl) (by kernel_rfl) ?_; (repeat (go_big_quiet_step (first | (go_at_call 10; fail)))); refine wpQuiet_nil ?_; intro wq hwq; have hbq := below_of_regrown hwq; clear hwq)
                  go_wp2_with fail
                  go_meet
                  exact ⟨by rw [e.out], hbq⟩
                · have z4 : decide (P < x.cs.length) = false := decide_eq_false hP
                  have z4' : decide ((P : Int) < (x.cs.length : Int)) = false := decide_eq_false (by omega)
                  have e : Hid (ob = false) := Lib.hid (by cases ob with
                    | false => rfl
                    | true => exact absurd (HOB2.out.1 rfl) hP)
                  clear hP
                  (refine wp_region_quiet_below (by kernel_rfl) (by kernel_rfl) ?_; (repeat (go_big_quiet_step (first | (go_at_call 10; fail)))); refine wpQuiet_nil ?_; intro wq hwq; have hbq := below_of_regrown hwq; clear hwq)
                  go_wp2_with fail
                  go_meet
                  exact ⟨by rw [e.out], hbq⟩
              · have z2 : decide (J < its.length) = false := decide_eq_false hJ
                have z2' : decide ((J : Int) < (its.length : Int)) = false := decide_eq_false (by omega)
                have e : Hid (ob = false) := Lib.hid (by cases ob with
                  | false => rfl
                  | true => exact absurd (HOB.out.1 rfl).1 hJ)
                clear hJ
                (refine wp_region_quiet_below (by kernel_rfl) (by kernel_rfl) ?_; (repeat (go_big_quiet_step (first | (go_at_call 10; fail)))); refine wpQuiet_nil ?_; intro wq hwq; have hbq := below_of_regrown hwq; clear hwq)
                go_wp2_with fail
                go_meet
                exact ⟨by rw [e.out], hbq⟩
            case rest =>
              obtain ⟨rfl, bq⟩ := hcut
              have kG2 := kG.below bq gl
              have hv2 := hvU.below bq (Nat.le_refl _)
              clear g0 g1 g2 g3 g4 gf
              obtain ⟨g0, g1, g2, g3, g4, gf, gl2⟩ := kG2.five
              cases lv with
              | false =>
                have HF : Hid (codeM J P fr to_ (its.map Vx.key) n = 1) := Lib.hid (codeM_off HLVE.out)
                go_wp2_with ((go_at_call 10; (with_reducible refine (status_Code J P fr to_ si va its its.length vc n _ hv2 rfl).mono ?_); rintro e w7 ⟨rfl, hb7⟩; (rw [HF.out])))
                go_roundw
                case rel => exact ⟨k + 1, by go_num, by omega, (by repeat (first | (with_reducible refine Below.setCell ?_ ?_ _) | (with_reducible refine Below.alloc ?_ ?_ _) | (with_reducible refine Below.drew ?_) | (with_reducible refine below_drewN ?_ _) | (with_reducible exact Below.refl _ _) | (with_reducible refine Below.trans ?_ (Below.mono hb7 ?_)) | (with_reducible refine Below.trans ?_ (Below.mono bq ?_)) | (with_reducible refine Below.trans ?_ (Below.mono bU ?_)) | (focus (simp; done)) | (focus (simp; omega)) | (focus omega) | (focus (have q0 := Below.size hb7; (try simp at q0); have q1 := Below.size bq; (try simp at q1); have q2 := Below.size bU; (try simp at q2); (try simp); omega))))⟩
                case measure => simp [intOf]; omega
              | true =>
                cases ob with
                | false =>
                  have HF : Hid (codeM J P fr to_ (its.map Vx.key) n = 1) := Lib.hid (by
                    by_cases hJ : J < its.length
                    · exact codeM_outP hJ rfl (fun q => by have := HOB.out.2 ⟨hJ, by omega⟩; cases this)
                    · exact codeM_out (by simp; omega))
                  go_wp2_with ((go_at_call 10; (with_reducible refine (status_Code J P fr to_ si va its its.length vc n _ hv2 rfl).mono ?_); rintro e w7 ⟨rfl, hb7⟩; (rw [HF.out])))
                  go_roundw
                  case rel => exact ⟨k + 1, by go_num, by omega, (by repeat (first | (with_reducible refine Below.setCell ?_ ?_ _) | (with_reducible refine Below.alloc ?_ ?_ _) | (with_reducible refine Below.drew ?_) | (with_reducible refine below_drewN ?_ _) | (with_reducible exact Below.refl _ _) | (with_reducible refine Below.trans ?_ (Below.mono hb7 ?_)) | (with_reducible refine Below.trans ?_ (Below.mono bq ?_)) | (with_reducible refine Below.trans ?_ (Below.mono bU ?_)) | (focus (simp; done)) | (focus (simp; omega)) | (focus omega) | (focus (have q0 := Below.size hb7; (try simp at q0); have q1 := Below.size bq; (try simp at q1); have q2 := Below.size bU; (try simp at q2); (try simp); omega))))⟩
                  case measure => simp [intOf]; omega
                | true =>
                  obtain ⟨hJ, hP⟩ := HOB.out.1 rfl
                  have kJ : (J : Int) < (its.length : Int) := by omega
                  obtain ⟨ba, oa, rfl⟩ := hv2.open (by omega)
                  obtain ⟨y0, y1, y2, y3, yb⟩ := row_view hv2.row J hJ
                  have hic := hv2.cs _ (List.getElem_mem hJ)
                  obtain ⟨x, hx⟩ : ∃ x, its[J] = x := ⟨_, rfl⟩
                  rw [hx] at y0 y1 y2 y3 hic
                  have hP2 : P < x.cs.length := by rw [← hx]; exact hP
                  have HI := Lib.hid (codeM_in HLVE.out hJ hx hP2)
                  clear hx hP
                  obtain ⟨xf, xo, xcs, xns, xca, xcc, xna, xnc⟩ := x
                  simp only at y0 y1 y2 y3 hic hP2 HI
                  have kP : (P : Int) < (xcs.length : Int) := by omega
                  obtain ⟨cb, co, rfl, cl, c0'⟩ := hic.get P hP2
                  obtain ⟨z, hz⟩ : ∃ z, xcs[P] = z := ⟨_, rfl⟩
                  rw [hz] at c0' HI
                  clear hz hic
                  cases xo with
                  | false =>
                    have HF : Hid (codeM J P fr to_ (its.map Vx.key) n = 2) := Lib.hid (by rw [HI.out, if_neg (by simp)])
                    go_wp2_with ((go_at_call 10; (with_reducible refine (status_Code J P fr to_ si (some ⟨ba, oa, none⟩) its its.length vc n _ (hv2.alloc _) rfl).mono ?_); rintro e w7 ⟨rfl, hb7⟩; (rw [HF.out])))
                    go_roundw
                    case rel => exact ⟨k + 1, by go_num, by omega, (by repeat (first | (with_reducible refine Below.setCell ?_ ?_ _) | (with_reducible refine Below.alloc ?_ ?_ _) | (with_reducible refine Below.drew ?_) | (with_reducible refine below_drewN ?_ _) | (with_reducible exact Below.refl _ _) | (with_reducible refine Below.trans ?_ (Below.mono hb7 ?_)) | (with_reducible refine Below.trans ?_ (Below.mono bq ?_)) | (with_reducible refine Below.trans ?_ (Below.mono bU ?_)) | (focus (simp; done)) | (focus (simp; omega)) | (focus omega) | (focus (have q0 := Below.size hb7; (try simp at q0); have q1 := Below.size bq; (try simp at q1); have q2 := Below.size bU; (try simp at q2); (try simp); omega))))⟩
                    case measure => simp [intOf]; omega
                  | true =>
                    cases xf with
                    | true =>
                      have HF : Hid (codeM J P fr to_ (its.map Vx.key) n = 2) := Lib.hid (by rw [HI.out, if_neg (by simp)])
                      go_wp2_with ((go_at_call 10; (with_reducible refine (status_Code J P fr to_ si (some ⟨ba, oa, none⟩) its its.length vc n _ (hv2.alloc _) rfl).mono ?_); rintro e w7 ⟨rfl, hb7⟩; (rw [HF.out])))
                      go_roundw
                      case rel => exact ⟨k + 1, by go_num, by omega, (by repeat (first | (with_reducible refine Below.setCell ?_ ?_ _) | (with_reducible refine Below.alloc ?_ ?_ _) | (with_reducible refine Below.drew ?_) | (with_reducible refine below_drewN ?_ _) | (with_reducible exact Below.refl _ _) | (with_reducible refine Below.trans ?_ (Below.mono hb7 ?_)) | (with_reducible refine Below.trans ?_ (Below.mono bq ?_)) | (with_reducible refine Below.trans ?_ (Below.mono bU ?_)) | (focus (simp; done)) | (focus (simp; omega)) | (focus omega) | (focus (have q0 := Below.size hb7; (try simp at q0); have q1 := Below.size bq; (try simp at q1); have q2 := Below.size bU; (try simp at q2); (try simp); omega))))⟩
                      case measure => simp [intOf]; omega
                    | false =>
                      by_cases hz1 : z = 1
                      · subst hz1
                        have HF : Hid (codeM J P fr to_ (its.map Vx.key) n = 3) := Lib.hid (by rw [HI.out, if_pos (by simp)])
                        go_wp2_with ((go_at_call 10; (with_reducible refine (status_Code J P fr to_ si (some ⟨ba, oa, none⟩) its its.length vc n _ (hv2.alloc _) rfl).mono ?_); rintro e w7 ⟨rfl, hb7⟩; (rw [HF.out])))
                        go_roundw
                        case rel => exact ⟨k + 1, by go_num, by omega, (by repeat (first | (with_reducible refine Below.setCell ?_ ?_ _) | (with_reducible refine Below.alloc ?_ ?_ _) | (with_reducible refine Below.drew ?_) | (with_reducible refine below_drewN ?_ _) | (with_reducible exact Below.refl _ _) | (with_reducible refine Below.trans ?_ (Below.mono hb7 ?_)) | (with_reducible refine Below.trans ?_ (Below.mono bq ?_)) | (with_reducible refine Below.trans ?_ (Below.mono bU ?_)) | (focus (simp; done)) | (focus (simp; omega)) | (focus omega) | (focus (have q0 := Below.size hb7; (try simp at q0); have q1 := Below.size bq; (try simp at q1); have q2 := Below.size bU; (try simp at q2); (try simp); omega))))⟩
                        case measure => simp [intOf]; omega
                      · have HF : Hid (codeM J P fr to_ (its.map Vx.key) n = 2) := Lib.hid (by rw [HI.out, if_neg (by simp [hz1])])
                        have z1 : (z == 1) = false := by rw [beq_eq_false_iff_ne]; exact hz1
                        clear hz1
                        go_wp2_with ((go_at_call 10; (with_reducible refine (status_Code J P fr to_ si (some ⟨ba, oa, none⟩) its its.length vc n _ (hv2.alloc _) rfl).mono ?_); rintro e w7 ⟨rfl, hb7⟩; (rw [HF.out])))
                        go_roundw
                        case rel => exact ⟨k + 1, by go_num, by omega, (by repeat (first | (with_reducible refine Below.setCell ?_ ?_ _) | (with_reducible refine Below.alloc ?_ ?_ _) | (with_reducible refine Below.drew ?_) | (with_reducible refine below_drewN ?_ _) | (with_reducible exact Below.refl _ _) | (with_reducible refine Below.trans ?_ (Below.mono hb7 ?_)) | (with_reducible refine Below.trans ?_ (Below.mono bq ?_)) | (with_reducible refine Below.trans ?_ (Below.mono bU ?_)) | (focus (simp; done)) | (focus (simp; omega)) | (focus omega) | (focus (have q0 := Below.size hb7; (try simp at q0); have q1 := Below.size bq; (try simp at q1); have q2 := Below.size bU; (try simp at q2); (try simp); omega))))⟩
                        case measure => simp [intOf]; omega
        · obtain rfl : k = lg.length := by omega
          go_wp2_with fail
          go_roundw
          case rel => exact ⟨i + 1, by go_num, by omega, be2⟩
          case measure => simp [intOf]; omega
    · obtain rfl : i = l.length := by omega
      go_wp2_with ((go_at_call 11; (with_reducible refine (awake_yes _).mono ?_); rintro e w7 ⟨rfl, hb7⟩))
      go_ret
      exact ⟨rfl, (by repeat (first | (with_reducible refine Below.setCell ?_ ?_ _) | (with_reducible refine Below.alloc ?_ ?_ _) | (with_reducible refine Below.drew ?_) | (with_reducible refine below_drewN ?_ _) | (with_reducible exact Below.refl _ _) | (with_reducible refine Below.trans ?_ (Below.mono hb7 ?_)) | (with_reducible refine Below.trans ?_ (Below.mono be ?_)) | (with_reducible refine Below.trans ?_ (Below.mono be5 ?_)) | (focus (simp; done)) | (focus (simp; omega)) | (focus omega) | (focus (have q0 := Below.size hb7; (try simp at q0); have q1 := Below.size be; (try simp at q1); have q2 := Below.size be5; (try simp at q2); (try simp); omega))))⟩
end Go.Proofs.Ytpjnajallekjoaa
