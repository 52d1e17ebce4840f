/- signalbrokerref23.Of -/
import Derived.Test.YtpjnajallekjoaaOf
namespace Go.Proofs.Ytpjnajallekjoaa
set_option linter.unusedVariables false
open Go.RowKit Go.Sort
set_option maxRecDepth 100000

theorem take_more {l : List Int} {i : Nat} (hi : i < l.length) {x : Int} (h : l[i] = x) : l.take i ++ [x] = l.take (i + 1) := by
  rw [← h, List.take_append_getElem]
theorem Own.apart2 {w : World} {base base2 : Nat} {e e' : TypeId} {size size' n n' cap cap' : Nat} {a b : Option Addr} {xs ys : List Value} (h : Own w base e size a n cap xs) (h' : Own w base2 e' size' b n' cap' ys) (hne : e ≠ e') : Apart a b := by
  intro k ha hb
  rcases h.2 with ⟨hv, _⟩ | ⟨g', c, cur, hv, _, hh, _⟩
  · injection hv with ha' _ _
    rw [ha'] at ha
    cases ha
  · injection hv with ha' _ _
    rw [ha'] at ha
    injection ha with ha
    simp only at ha
    subst ha
    exact h'.ne_blk (g := g') (t := e) (cs := cur) hh (Ne.symm hne) hb
set_option maxHeartbeats 8000000 in
theorem ref23_Of (base jb jc jb2 jc2 : Nat) (ps : List Ph) (cs : List Int) (s : Int) (lb : Nat) (ls : List (Int × Int)) (la : Option Addr) (lc : Nat) (g wt : Int) (na : Option Addr) (nn nc : Nat) (lat : Bool) (ph gr : Int) (ea : Option Addr) (en ec : Nat) (w : World) (hj : JAt w base jb jc jb2 jc2 ps cs s) (hl : Lts w lb ps ls la lc) :
    Calls Try.prog 24 #[jAgg jb jc jb2 jc2 ps.length s, sAgg la ps.length lc g na nn nc wt lat, .agg #[.int .i64 ph, .int .i64 gr, .slice ea en ec]] w (VwR lat (!lat && (ph != -1)) ps.length (ofC lat ls) (ofN lat ps ls) w) := by
  have hn := hj.n1
  have hlw := hj.lw
  obtain ⟨hl, hll, hlok⟩ := hl
  go_enter Try.func24, Try.ntmps24
  go_upto_region 1 with fail
  refine wp_named (fun W => Blk W w.heap.size 55 #[.slice (some ⟨jb, 0, none⟩) ps.length jc, .slice (some ⟨jb2, 0, none⟩) ps.length jc2, .int .i64 s] ∧ Blk W (w.heap.size + 1) 62 #[.slice la ps.length lc, .int .i64 g, .slice na nn nc, .int .i64 wt, .bool lat] ∧ Blk W (w.heap.size + 2) 65 #[.int .i64 ph, .int .i64 gr, .slice ea en ec] ∧ Blk W (w.heap.size + 3) 36 #[.bool false, .bool false, .slice none 0 0, .slice none 0 0] ∧ RowKit.Below w.heap.size w W) (four_at w _ _ _ _ _ _ _ _) ?_
  rintro W ⟨kj, ks, kv, kr, be⟩
  have hWl := kr.lt
  obtain ⟨j0, j1, j2⟩ : W.cell? ⟨w.heap.size, 0, none⟩ = _ ∧ W.cell? ⟨w.heap.size, 1, none⟩ = _ ∧ W.cell? ⟨w.heap.size, 2, none⟩ = _ := ⟨kj.cell 0, kj.cell 1, kj.cell 2⟩
  have jl := kj.lt
  obtain ⟨s0, s1, s2, s3, s4, sf, sl⟩ := ks.five
  have t0 : W.cell? ⟨w.heap.size + 2, 0, none⟩ = _ := kv.cell 0
  have tl := kv.lt
  cases lat with
  | true =>
    obtain ⟨r0, r1, r2, r3⟩ := kr.four'
    have rf := kr.frozen
    have rl := kr.lt
    go_wp2_with ((go_at_call 40; (with_reducible refine (ref23_Flashing jb jc jb2 jc2 ps.length s _ (by omega)).mono ?_); rintro e w1 ⟨B, C, rfl, hB, hC, hBC, kB, kC, hb1⟩; ((have kr1 := kr.below hb1 kr.lt); clear r0 r1 r2 r3 rf rl; (obtain ⟨r0, r1, r2, r3⟩ := kr1.four'); (have rf := kr1.frozen); (have rl := kr1.lt))))
    refine bodyPost_ret (v := vAgg true false ps.length (some ⟨B, 0, none⟩) ps.length (some ⟨C, 0, none⟩) ps.length) (by simp [results, Try.results24, go_sem, r0, r1, r2, r3]) rfl ?_
    have e1 : ofC true ls = List.replicate ps.length 0 := by simp [ofC, hll]
    have e2 : ofN true ps ls = List.replicate ps.length 0 := by simp [ofN, hll]
    rw [e1, e2]
    exact ⟨_, _, _, _, rfl, own_four kr1 (kB.ownL (by omega) (by simp) (by simp only [maxLen]; omega)) (by decide) _ _ _ _, own_four kr1 (kC.ownL (by omega) (by simp) (by simp only [maxLen]; omega)) (by decide) _ _ _ _, (by repeat (first | (with_reducible refine Below.setCell ?_ ?_ _) | (with_reducible refine Below.alloc ?_ ?_ _) | (with_reducible refine Below.drew ?_) | (with_reducible refine below_drewN ?_ _) | (with_reducible exact Below.refl _ _) | (with_reducible refine Below.trans ?_ (Below.mono hb1 ?_)) | (with_reducible refine Below.trans ?_ (Below.mono be ?_)) | (focus (simp; done)) | (focus (simp; omega)) | (focus omega) | (focus (have q0 := Below.size hb1; (try simp at q0); have q1 := Below.size be; (try simp at q1); (try simp); omega))))⟩
  | false =>
    have hcl := vCols_len ls
    have hnl := vCnts_len hll
    rw [hll] at hcl
    go_wp2_with fail
    obtain ⟨V, hV⟩ : ∃ V, W.heap.size = V := ⟨_, rfl⟩
    have HV := Lib.hid hV
    rw [hV]
    go_loopw [8, 9, 26] (fun s8 s9 s26 wr => ∃ (i : Nat) (ca : Option Addr) (cc : Nat) (da : Option Addr) (dc : Nat), s8 = .slice ca i cc ∧ s9 = .slice da i dc ∧ s26 = .int .i64 i ∧ i ≤ ps.length ∧ Blk wr V 36 #[.bool false, .bool (ph != -1), .slice none 0 0, .slice none 0 0] ∧ Own wr (V + 1) 3 1 ca i cc (((vCols ls).take i).map encI) ∧ Own wr (V + 1) 3 1 da i dc (((vCnts ps ls).take i).map encI) ∧ Apart ca da ∧ Blk wr w.heap.size 55 #[.slice (some ⟨jb, 0, none⟩) ps.length jc, .slice (some ⟨jb2, 0, none⟩) ps.length jc2, .int .i64 s] ∧ Blk wr (w.heap.size + 3) 36 #[.bool false, .bool false, .slice none 0 0, .slice none 0 0] ∧ RowKit.Below w.heap.size w wr ∧ V + 1 ≤ wr.heap.size) (fun _ _ s _ => ps.length - (intOf s).toNat)
    case atStart => exact ⟨0, none, 0, none, 0, rfl, rfl, rfl, by omega, by rw [← hV]; exact Blk.new _ _ _, Own.nil _ _ _ _, Own.nil _ _ _ _, Apart.none_left _, kj.alloc _, kr.alloc _, (by repeat (first | (with_reducible refine Below.setCell ?_ ?_ _) | (with_reducible refine Below.alloc ?_ ?_ _) | (with_reducible refine Below.drew ?_) | (with_reducible refine below_drewN ?_ _) | (with_reducible exact Below.refl _ _) | (with_reducible refine Below.trans ?_ (Below.mono be ?_)) | (focus (simp; done)) | (focus (simp; omega)) | (focus omega) | (focus (have q0 := Below.size be; (try simp at q0); (try simp); omega)))), by rw [← hV]; simp⟩
    case round =>
      have hVz : w.heap.size + 4 ≤ V := by omega
      clear hV kj ks kv kr be j0 j1 j2 jl s0 s1 s2 s3 s4 sf sl t0 tl
      obtain ⟨i, ca, cc, da, dc, rfl, rfl, rfl, hi, kV, oc, od, ap, kj, kr, ber, hz⟩ := hrel
      by_cases hlt : i < ps.length
      · have hil : i < ls.length := by omega
        obtain ⟨G, rfl, hG, hGl, y0, y1, -, -⟩ := light_cell (hl.below ber (Nat.le_refl _)) hll i hil
        have hpok := hj.ok _ (List.getElem_mem hlt)
        have hlk := (hlok i hlt hil).tb hpok
        have hcnt : (vCnts ps ls)[i]'(by omega) = lCount ps[i] ls[i].1 ls[i].2 := by simp [vCnts]
        have hcol : (vCols ls)[i]'(by omega) = vCol ls[i].1 := by simp [vCols]
        obtain ⟨la1, hla1⟩ : ∃ a, ls[i].1 = a := ⟨_, rfl⟩
        obtain ⟨lt1, hlt1⟩ : ∃ a, ls[i].2 = a := ⟨_, rfl⟩
        obtain ⟨p, hp⟩ : ∃ p, ps[i] = p := ⟨_, rfl⟩
        rw [hla1, hlt1, hp] at hcnt
        rw [hla1] at hcol y0
        rw [hlt1] at hlk y1
        rw [hp] at hpok
        obtain ⟨N, hN⟩ : ∃ N, lCount p la1 lt1 = N := ⟨_, rfl⟩
        rw [hN] at hcnt
        have HCN := Lib.hid hcnt
        have HN := Lib.hid hN
        have HP := Lib.hid hp
        have HCO := Lib.hid hcol
        clear hp hla1 hlt1 hcnt hcol hN
        obtain ⟨r, gg, mg, xg, yw, rd, wk, cx⟩ := p
        obtain ⟨j0, j1, j2⟩ : wr.cell? ⟨w.heap.size, 0, none⟩ = _ ∧ wr.cell? ⟨w.heap.size, 1, none⟩ = _ ∧ wr.cell? ⟨w.heap.size, 2, none⟩ = _ := ⟨kj.cell 0, kj.cell 1, kj.cell 2⟩
        have jl := kj.lt
        have hq3 : ((la1 != 1) = false ∧ (la1 == 1) = true ∧ vCol la1 = la1) ∨ ((la1 != 1) = true ∧ (la1 == 1) = false ∧ (la1 != 2) = false ∧ (la1 == 2) = true ∧ vCol la1 = la1) ∨ ((la1 != 1) = true ∧ (la1 == 1) = false ∧ (la1 != 2) = true ∧ (la1 == 2) = false ∧ vCol la1 = 0) := by
          by_cases h1 : la1 = 1
          · subst h1; exact .inl ⟨rfl, rfl, rfl⟩
          · by_cases h2 : la1 = 2
            · subst h2; exact .inr (.inl ⟨rfl, rfl, rfl, rfl, rfl⟩)
            · exact .inr (.inr ⟨bne_iff_ne.2 h1, beq_eq_false_iff_ne.2 h1, bne_iff_ne.2 h2, beq_eq_false_iff_ne.2 h2, by unfold vCol; rw [if_neg]; omega⟩)
        rcases hq3 with ⟨z1, z1', hz1⟩ | ⟨z1, z1', z2, z2', hz1⟩ | ⟨z1, z1', z2, z2', hz1⟩
        · rw [hz1] at HCO
          clear hz1
          go_upto_region 13 with fail
          refine wp_named (fun Y => Blk Y wr.heap.size 90 #[.int .i64 la1, .int .i64 lt1] ∧ RowKit.Below wr.heap.size wr Y) ⟨Blk.new _ _ _, (by repeat (first | (with_reducible refine Below.setCell ?_ ?_ _) | (with_reducible refine Below.alloc ?_ ?_ _) | (with_reducible refine Below.drew ?_) | (with_reducible refine below_drewN ?_ _) | (with_reducible exact Below.refl _ _) | (focus (simp; done)) | (focus (simp; omega)) | (focus omega)))⟩ ?_
          rintro Y ⟨kL, bY⟩
          have kV1 := kV.below bY kV.lt
          have kj1 := kj.below bY kj.lt
          have kr1 := kr.below bY kr.lt
          have oc1 := oc.below bY (Nat.le_refl _)
          have od1 := od.below bY (Nat.le_refl _)
          have beY : RowKit.Below w.heap.size w Y := (by repeat (first | (with_reducible refine Below.setCell ?_ ?_ _) | (with_reducible refine Below.alloc ?_ ?_ _) | (with_reducible refine Below.drew ?_) | (with_reducible refine below_drewN ?_ _) | (with_reducible exact Below.refl _ _) | (with_reducible refine Below.trans ?_ (Below.mono bY ?_)) | (with_reducible refine Below.trans ?_ (Below.mono ber ?_)) | (focus (simp; done)) | (focus (simp; omega)) | (focus omega) | (focus (have q0 := Below.size bY; (try simp at q0); have q1 := Below.size ber; (try simp at q1); (try simp); omega))))
          have hzY := bY.size
          clear kV kj kr oc od ber bY j0 j1 j2 jl y0 y1
          have HROW := Lib.hid (row_phase (hj.below (beY.mono hlw)).ph i hlt)
          rw [HP.out] at HROW
          obtain ⟨x0, x1, x2, x3, x4, x5, x6, x7⟩ := HROW.out
          simp only at x0 x1 x2 x3 x4 x5 x6 x7
          have hjb : jb < Y.heap.size := by have := hj.lb; have := beY.size; omega
          obtain ⟨j0, j1, j2⟩ : Y.cell? ⟨w.heap.size, 0, none⟩ = _ ∧ Y.cell? ⟨w.heap.size, 1, none⟩ = _ ∧ Y.cell? ⟨w.heap.size, 2, none⟩ = _ := ⟨kj1.cell 0, kj1.cell 1, kj1.cell 2⟩
          have y0 : Y.cell? ⟨wr.heap.size, 0, none⟩ = _ := kL.cell 0
          have y1 : Y.cell? ⟨wr.heap.size, 1, none⟩ = _ := kL.cell 1
          have r1 : ∀ (d : Nat) (os : Array Obj) (o : Nat), (grow (redrawn Y d) os).cell? ⟨w.heap.size, o, none⟩ = Y.cell? ⟨w.heap.size, o, none⟩ := fun d os o => cells_regrown _ _ _ _ _ kj1.lt
          have r2 : ∀ (d : Nat) (os : Array Obj) (o : Nat), (grow (redrawn Y d) os).cell? ⟨wr.heap.size, o, none⟩ = Y.cell? ⟨wr.heap.size, o, none⟩ := fun d os o => cells_regrown _ _ _ _ _ kL.lt
          have r3 : ∀ (d : Nat) (os : Array Obj) (o : Nat), (grow (redrawn Y d) os).cell? ⟨jb, o, none⟩ = Y.cell? ⟨jb, o, none⟩ := fun d os o => cells_regrown _ _ _ _ _ hjb
          (refine wp_region_quiet_below (by kernel_rfl) (by kernel_rfl) ?_; (repeat (go_big_quiet_step (first | (go_at_call 41; exact qb (ref08_CountE HN _ hpok hlk))))); refine wpQuiet_nil ?_; intro wq hwq; have hbq := below_of_regrown hwq; clear hwq)
          have kV2 := kV1.below hbq kV1.lt
          have kj2 := kj1.below hbq kj1.lt
          have kr2 := kr1.below hbq kr1.lt
          have oc2 := oc1.below hbq (Nat.le_refl _)
          have od2 := od1.below hbq (Nat.le_refl _)
          have beq : RowKit.Below w.heap.size w wq := (by repeat (first | (with_reducible refine Below.setCell ?_ ?_ _) | (with_reducible refine Below.alloc ?_ ?_ _) | (with_reducible refine Below.drew ?_) | (with_reducible refine below_drewN ?_ _) | (with_reducible exact Below.refl _ _) | (with_reducible refine Below.trans ?_ (Below.mono hbq ?_)) | (with_reducible refine Below.trans ?_ (Below.mono beY ?_)) | (focus (simp; done)) | (focus (simp; omega)) | (focus omega) | (focus (have q0 := Below.size hbq; (try simp at q0); have q1 := Below.size beY; (try simp at q1); (try simp); omega))))
          have hzq := hbq.size
          clear kV1 kj1 kr1 oc1 od1 beY hbq j0 j1 j2 x0 x1 x2 x3 x4 x5 x6 x7 y0 y1 r1 r2 r3
          go_wp2_with (first | (at_builtin; refine app1I (w0 := w) rfl _ _ rfl (V + 1) ca i cc ((vCols ls).take i) rfl (la1) wq.heap.size rfl (Blk.new _ _ _) (oc2.alloc _) (by omega) (by simp; omega) ?_; intro b3 c3 w3 own3 g3 bl3; (have be3 := bl3 _ (RowKit.Below.refl _ _)); (have od3 := (od2.alloc (.cells #[.int .i64 (la1)] 3)).grew g3 ap)) | (at_builtin; refine app1I (w0 := w) rfl _ _ rfl (V + 1) da i dc ((vCnts ps ls).take i) rfl N w3.heap.size rfl (Blk.new _ _ _) (od3.alloc _) (by omega) (by have := be3.size; simp at this ⊢; omega) ?_; intro b4 c4 w4 own4 g4 bl4; (have be4 := bl4 _ (RowKit.Below.refl _ _))))
          have ap3 : Apart b3 da := ap.grew (fun k hk => (od2.alloc _).lt' k hk) g3
          have ap4 : Apart b4 b3 := ap3.symm.grew (fun k hk => (own3.alloc _).lt' k hk) g4
          have own3' := (own3.alloc _).grew g4 ap3.symm
          rw [take_more (by omega) HCO.out] at own3'
          rw [take_more (by omega) HCN.out] at own4
          have bb : RowKit.Below (V + 1) wq w4 := (by repeat (first | (with_reducible refine Below.setCell ?_ ?_ _) | (with_reducible refine Below.alloc ?_ ?_ _) | (with_reducible refine Below.drew ?_) | (with_reducible refine below_drewN ?_ _) | (with_reducible exact Below.refl _ _) | (with_reducible refine Below.trans ?_ (Below.mono be4 ?_)) | (with_reducible refine Below.trans ?_ (Below.mono be3 ?_)) | (focus (simp; done)) | (focus (simp; omega)) | (focus omega) | (focus (have q0 := Below.size be4; (try simp at q0); have q1 := Below.size be3; (try simp at q1); (try simp); omega))))
          go_roundw
          case rel => exact ⟨i + 1, b3, c3, b4, c4, rfl, rfl, by go_num, by omega, kV2.below bb (by omega), own3', own4, ap4.symm, kj2.below bb (by omega), kr2.below bb (by omega), (by repeat (first | (with_reducible refine Below.setCell ?_ ?_ _) | (with_reducible refine Below.alloc ?_ ?_ _) | (with_reducible refine Below.drew ?_) | (with_reducible refine below_drewN ?_ _) | (with_reducible exact Below.refl _ _) | (with_reducible refine Below.trans ?_ (Below.mono bb ?_)) | (with_reducible refine Below.trans ?_ (Below.mono beq ?_)) | (focus (simp; done)) | (focus (simp; omega)) | (focus omega) | (focus (have q0 := Below.size bb; (try simp at q0); have q1 := Below.size beq; (try simp at q1); (try simp); omega)))), by have := bb.size; omega⟩
          case measure => simp [intOf]; omega
        · rw [hz1] at HCO
          clear hz1
          go_upto_region 13 with fail
          refine wp_named (fun Y => Blk Y wr.heap.size 90 #[.int .i64 la1, .int .i64 lt1] ∧ RowKit.Below wr.heap.size wr Y) ⟨Blk.new _ _ _, (by repeat (first | (with_reducible refine Below.setCell ?_ ?_ _) | (with_reducible refine Below.alloc ?_ ?_ _) | (with_reducible refine Below.drew ?_) | (with_reducible refine below_drewN ?_ _) | (with_reducible exact Below.refl _ _) | (focus (simp; done)) | (focus (simp; omega)) | (focus omega)))⟩ ?_
          rintro Y ⟨kL, bY⟩
          have kV1 := kV.below bY kV.lt
          have kj1 := kj.below bY kj.lt
          have kr1 := kr.below bY kr.lt
          have oc1 := oc.below bY (Nat.le_refl _)
          have od1 := od.below bY (Nat.le_refl _)
          have beY : RowKit.Below w.heap.size w Y := (by repeat (first | (with_reducible refine Below.setCell ?_ ?_ _) | (with_reducible refine Below.alloc ?_ ?_ _) | (with_reducible refine Below.drew ?_) | (with_reducible refine below_drewN ?_ _) | (with_reducible exact Below.refl _ _) | (with_reducible refine Below.trans ?_ (Below.mono bY ?_)) | (with_reducible refine Below.trans ?_ (Below.mono ber ?_)) | (focus (simp; done)) | (focus (simp; omega)) | (focus omega) | (focus (have q0 := Below.size bY; (try simp at q0); have q1 := Below.size ber; (try simp at q1); (try simp); omega))))
          have hzY := bY.size
          clear kV kj kr oc od ber bY j0 j1 j2 jl y0 y1
          have HROW := Lib.hid (row_phase (hj.below (beY.mono hlw)).ph i hlt)
          rw [HP.out] at HROW
          obtain ⟨x0, x1, x2, x3, x4, x5, x6, x7⟩ := HROW.out
          simp only at x0 x1 x2 x3 x4 x5 x6 x7
          have hjb : jb < Y.heap.size := by have := hj.lb; have := beY.size; omega
          obtain ⟨j0, j1, j2⟩ : Y.cell? ⟨w.heap.size, 0, none⟩ = _ ∧ Y.cell? ⟨w.heap.size, 1, none⟩ = _ ∧ Y.cell? ⟨w.heap.size, 2, none⟩ = _ := ⟨kj1.cell 0, kj1.cell 1, kj1.cell 2⟩
          have y0 : Y.cell? ⟨wr.heap.size, 0, none⟩ = _ := kL.cell 0
          have y1 : Y.cell? ⟨wr.heap.size, 1, none⟩ = _ := kL.cell 1
          have r1 : ∀ (d : Nat) (os : Array Obj) (o : Nat), (grow (redrawn Y d) os).cell? ⟨w.heap.size, o, none⟩ = Y.cell? ⟨w.heap.size, o, none⟩ := fun d os o => cells_regrown _ _ _ _ _ kj1.lt
          have r2 : ∀ (d : Nat) (os : Array Obj) (o : Nat), (grow (redrawn Y d) os).cell? ⟨wr.heap.size, o, none⟩ = Y.cell? ⟨wr.heap.size, o, none⟩ := fun d os o => cells_regrown _ _ _ _ _ kL.lt
          have r3 : ∀ (d : Nat) (os : Array Obj) (o : Nat), (grow (redrawn Y d) os).cell? ⟨jb, o, none⟩ = Y.cell? ⟨jb, o, none⟩ := fun d os o => cells_regrown _ _ _ _ _ hjb
          (refine wp_region_quiet_below (by kernel_rfl) (by kernel_rfl) ?_; (repeat (go_big_quiet_step (first | (go_at_call 41; exact qb (ref08_CountE HN _ hpok hlk))))); refine wpQuiet_nil ?_; intro wq hwq; have hbq := below_of_regrown hwq; clear hwq)
          have kV2 := kV1.below hbq kV1.lt
          have kj2 := kj1.below hbq kj1.lt
          have kr2 := kr1.below hbq kr1.lt
          have oc2 := oc1.below hbq (Nat.le_refl _)
          have od2 := od1.below hbq (Nat.le_refl _)
          have beq : RowKit.Below w.heap.size w wq := (by repeat (first | (with_reducible refine Below.setCell ?_ ?_ _) | (with_reducible refine Below.alloc ?_ ?_ _) | (with_reducible refine Below.drew ?_) | (with_reducible refine below_drewN ?_ _) | (with_reducible exact Below.refl _ _) | (with_reducible refine Below.trans ?_ (Below.mono hbq ?_)) | (with_reducible refine Below.trans ?_ (Below.mono beY ?_)) | (focus (simp; done)) | (focus (simp; omega)) | (focus omega) | (focus (have q0 := Below.size hbq; (try simp at q0); have q1 := Below.size beY; (try simp at q1); (try simp); omega))))
          have hzq := hbq.size
          clear kV1 kj1 kr1 oc1 od1 beY hbq j0 j1 j2 x0 x1 x2 x3 x4 x5 x6 x7 y0 y1 r1 r2 r3
          go_wp2_with (first | (at_builtin; refine app1I (w0 := w) rfl _ _ rfl (V + 1) ca i cc ((vCols ls).take i) rfl (la1) wq.heap.size rfl (Blk.new _ _ _) (oc2.alloc _) (by omega) (by simp; omega) ?_; intro b3 c3 w3 own3 g3 bl3; (have be3 := bl3 _ (RowKit.Below.refl _ _)); (have od3 := (od2.alloc (.cells #[.int .i64 (la1)] 3)).grew g3 ap)) | (at_builtin; refine app1I (w0 := w) rfl _ _ rfl (V + 1) da i dc ((vCnts ps ls).take i) rfl N w3.heap.size rfl (Blk.new _ _ _) (od3.alloc _) (by omega) (by have := be3.size; simp at this ⊢; omega) ?_; intro b4 c4 w4 own4 g4 bl4; (have be4 := bl4 _ (RowKit.Below.refl _ _))))
          have ap3 : Apart b3 da := ap.grew (fun k hk => (od2.alloc _).lt' k hk) g3
          have ap4 : Apart b4 b3 := ap3.symm.grew (fun k hk => (own3.alloc _).lt' k hk) g4
          have own3' := (own3.alloc _).grew g4 ap3.symm
          rw [take_more (by omega) HCO.out] at own3'
          rw [take_more (by omega) HCN.out] at own4
          have bb : RowKit.Below (V + 1) wq w4 := (by repeat (first | (with_reducible refine Below.setCell ?_ ?_ _) | (with_reducible refine Below.alloc ?_ ?_ _) | (with_reducible refine Below.drew ?_) | (with_reducible refine below_drewN ?_ _) | (with_reducible exact Below.refl _ _) | (with_reducible refine Below.trans ?_ (Below.mono be4 ?_)) | (with_reducible refine Below.trans ?_ (Below.mono be3 ?_)) | (focus (simp; done)) | (focus (simp; omega)) | (focus omega) | (focus (have q0 := Below.size be4; (try simp at q0); have q1 := Below.size be3; (try simp at q1); (try simp); omega))))
          go_roundw
          case rel => exact ⟨i + 1, b3, c3, b4, c4, rfl, rfl, by go_num, by omega, kV2.below bb (by omega), own3', own4, ap4.symm, kj2.below bb (by omega), kr2.below bb (by omega), (by repeat (first | (with_reducible refine Below.setCell ?_ ?_ _) | (with_reducible refine Below.alloc ?_ ?_ _) | (with_reducible refine Below.drew ?_) | (with_reducible refine below_drewN ?_ _) | (with_reducible exact Below.refl _ _) | (with_reducible refine Below.trans ?_ (Below.mono bb ?_)) | (with_reducible refine Below.trans ?_ (Below.mono beq ?_)) | (focus (simp; done)) | (focus (simp; omega)) | (focus omega) | (focus (have q0 := Below.size bb; (try simp at q0); have q1 := Below.size beq; (try simp at q1); (try simp); omega)))), by have := bb.size; omega⟩
          case measure => simp [intOf]; omega
        · rw [hz1] at HCO
          clear hz1
          go_upto_region 13 with fail
          refine wp_named (fun Y => Blk Y wr.heap.size 90 #[.int .i64 la1, .int .i64 lt1] ∧ RowKit.Below wr.heap.size wr Y) ⟨Blk.new _ _ _, (by repeat (first | (with_reducible refine Below.setCell ?_ ?_ _) | (with_reducible refine Below.alloc ?_ ?_ _) | (with_reducible refine Below.drew ?_) | (with_reducible refine below_drewN ?_ _) | (with_reducible exact Below.refl _ _) | (focus (simp; done)) | (focus (simp; omega)) | (focus omega)))⟩ ?_
          rintro Y ⟨kL, bY⟩
          have kV1 := kV.below bY kV.lt
          have kj1 := kj.below bY kj.lt
          have kr1 := kr.below bY kr.lt
          have oc1 := oc.below bY (Nat.le_refl _)
          have od1 := od.below bY (Nat.le_refl _)
          have beY : RowKit.Below w.heap.size w Y := (by repeat (first | (with_reducible refine Below.setCell ?_ ?_ _) | (with_reducible refine Below.alloc ?_ ?_ _) | (with_reducible refine Below.drew ?_) | (with_reducible refine below_drewN ?_ _) | (with_reducible exact Below.refl _ _) | (with_reducible refine Below.trans ?_ (Below.mono bY ?_)) | (with_reducible refine Below.trans ?_ (Below.mono ber ?_)) | (focus (simp; done)) | (focus (simp; omega)) | (focus omega) | (focus (have q0 := Below.size bY; (try simp at q0); have q1 := Below.size ber; (try simp at q1); (try simp); omega))))
          have hzY := bY.size
          clear kV kj kr oc od ber bY j0 j1 j2 jl y0 y1
          have HROW := Lib.hid (row_phase (hj.below (beY.mono hlw)).ph i hlt)
          rw [HP.out] at HROW
          obtain ⟨x0, x1, x2, x3, x4, x5, x6, x7⟩ := HROW.out
          simp only at x0 x1 x2 x3 x4 x5 x6 x7
          have hjb : jb < Y.heap.size := by have := hj.lb; have := beY.size; omega
          obtain ⟨j0, j1, j2⟩ : Y.cell? ⟨w.heap.size, 0, none⟩ = _ ∧ Y.cell? ⟨w.heap.size, 1, none⟩ = _ ∧ Y.cell? ⟨w.heap.size, 2, none⟩ = _ := ⟨kj1.cell 0, kj1.cell 1, kj1.cell 2⟩
          have y0 : Y.cell? ⟨wr.heap.size, 0, none⟩ = _ := kL.cell 0
          have y1 : Y.cell? ⟨wr.heap.size, 1, none⟩ = _ := kL.cell 1
          have r1 : ∀ (d : Nat) (os : Array Obj) (o : Nat), (grow (redrawn Y d) os).cell? ⟨w.heap.size, o, none⟩ = Y.cell? ⟨w.heap.size, o, none⟩ := fun d os o => cells_regrown _ _ _ _ _ kj1.lt
          have r2 : ∀ (d : Nat) (os : Array Obj) (o : Nat), (grow (redrawn Y d) os).cell? ⟨wr.heap.size, o, none⟩ = Y.cell? ⟨wr.heap.size, o, none⟩ := fun d os o => cells_regrown _ _ _ _ _ kL.lt
          have r3 : ∀ (d : Nat) (os : Array Obj) (o : Nat), (grow (redrawn Y d) os).cell? ⟨jb, o, none⟩ = Y.cell? ⟨jb, o, none⟩ := fun d os o => cells_regrown _ _ _ _ _ hjb
          (refine wp_region_quiet_below (by kernel_rfl) (by kernel_rfl) ?_; (repeat (go_big_quiet_step (first | (go_at_call 41; exact qb (ref08_CountE HN _ hpok hlk))))); refine wpQuiet_nil ?_; intro wq hwq; have hbq := below_of_regrown hwq; clear hwq)
          have kV2 := kV1.below hbq kV1.lt
          have kj2 := kj1.below hbq kj1.lt
          have kr2 := kr1.below hbq kr1.lt
          have oc2 := oc1.below hbq (Nat.le_refl _)
          have od2 := od1.below hbq (Nat.le_refl _)
          have beq : RowKit.Below w.heap.size w wq := (by repeat (first | (with_reducible refine Below.setCell ?_ ?_ _) | (with_reducible refine Below.alloc ?_ ?_ _) | (with_reducible refine Below.drew ?_) | (with_reducible refine below_drewN ?_ _) | (with_reducible exact Below.refl _ _) | (with_reducible refine Below.trans ?_ (Below.mono hbq ?_)) | (with_reducible refine Below.trans ?_ (Below.mono beY ?_)) | (focus (simp; done)) | (focus (simp; omega)) | (focus omega) | (focus (have q0 := Below.size hbq; (try simp at q0); have q1 := Below.size beY; (try simp at q1); (try simp); omega))))
          have hzq := hbq.size
          clear kV1 kj1 kr1 oc1 od1 beY hbq j0 j1 j2 x0 x1 x2 x3 x4 x5 x6 x7 y0 y1 r1 r2 r3
          go_wp2_with (first | (at_builtin; refine app1I (w0 := w) rfl _ _ rfl (V + 1) ca i cc ((vCols ls).take i) rfl (0) wq.heap.size rfl (Blk.new _ _ _) (oc2.alloc _) (by omega) (by simp; omega) ?_; intro b3 c3 w3 own3 g3 bl3; (have be3 := bl3 _ (RowKit.Below.refl _ _)); (have od3 := (od2.alloc (.cells #[.int .i64 (0)] 3)).grew g3 ap)) | (at_builtin; refine app1I (w0 := w) rfl _ _ rfl (V + 1) da i dc ((vCnts ps ls).take i) rfl N w3.heap.size rfl (Blk.new _ _ _) (od3.alloc _) (by omega) (by have := be3.size; simp at this ⊢; omega) ?_; intro b4 c4 w4 own4 g4 bl4; (have be4 := bl4 _ (RowKit.Below.refl _ _))))
          have ap3 : Apart b3 da := ap.grew (fun k hk => (od2.alloc _).lt' k hk) g3
          have ap4 : Apart b4 b3 := ap3.symm.grew (fun k hk => (own3.alloc _).lt' k hk) g4
          have own3' := (own3.alloc _).grew g4 ap3.symm
          rw [take_more (by omega) HCO.out] at own3'
          rw [take_more (by omega) HCN.out] at own4
          have bb : RowKit.Below (V + 1) wq w4 := (by repeat (first | (with_reducible refine Below.setCell ?_ ?_ _) | (with_reducible refine Below.alloc ?_ ?_ _) | (with_reducible refine Below.drew ?_) | (with_reducible refine below_drewN ?_ _) | (with_reducible exact Below.refl _ _) | (with_reducible refine Below.trans ?_ (Below.mono be4 ?_)) | (with_reducible refine Below.trans ?_ (Below.mono be3 ?_)) | (focus (simp; done)) | (focus (simp; omega)) | (focus omega) | (focus (have q0 := Below.size be4; (try simp at q0); have q1 := Below.size be3; (try simp at q1); (try simp); omega))))
          go_roundw
          case rel => exact ⟨i + 1, b3, c3, b4, c4, rfl, rfl, by go_num, by omega, kV2.below bb (by omega), own3', own4, ap4.symm, kj2.below bb (by omega), kr2.below bb (by omega), (by repeat (first | (with_reducible refine Below.setCell ?_ ?_ _) | (with_reducible refine Below.alloc ?_ ?_ _) | (with_reducible refine Below.drew ?_) | (with_reducible refine below_drewN ?_ _) | (with_reducible exact Below.refl _ _) | (with_reducible refine Below.trans ?_ (Below.mono bb ?_)) | (with_reducible refine Below.trans ?_ (Below.mono beq ?_)) | (focus (simp; done)) | (focus (simp; omega)) | (focus omega) | (focus (have q0 := Below.size bb; (try simp at q0); have q1 := Below.size beq; (try simp at q1); (try simp); omega)))), by have := bb.size; omega⟩
          case measure => simp [intOf]; omega
      · obtain rfl : i = ps.length := by omega
        rw [List.take_of_length_le (by omega)] at oc od
        obtain ⟨v0, v1, v2, v3⟩ := kV.four'
        have vf := kV.frozen
        have vl := kV.lt
        obtain ⟨r0, r1, r2, r3⟩ := kr.four'
        have rf := kr.frozen
        have rl := kr.lt
        have nVr : V ≠ w.heap.size + 3 := by omega
        have nrV : w.heap.size + 3 ≠ V := by omega
        go_wp2_with fail
        have kr2 := (kr.far (p := ⟨V, 2, none⟩) (by simp only; omega) (.slice ca ps.length cc)).far (p := ⟨V, 3, none⟩) (by simp only; omega) (.slice da ps.length dc)
        have ne : ∀ {a : Option Addr} {n c : Nat} {l : List Int} (i : Nat), Own wr (V + 1) 3 1 a n c (l.map encI) → a.map (·.block) ≠ some (⟨V, i, none⟩ : Addr).block := fun i h e => by have := h.base_le _ e; simp only at this; omega
        have oc2 := (oc.far (ne 2 oc) (.slice ca ps.length cc)).far (ne 3 oc) (.slice da ps.length dc)
        have od2 := (od.far (ne 2 od) (.slice ca ps.length cc)).far (ne 3 od) (.slice da ps.length dc)
        obtain ⟨d0, d1, d2, d3⟩ := kr2.four'
        refine bodyPost_ret (v := vAgg false (ph != -1) ps.length ca cc da dc) (by simp [results, Try.results24, go_sem, d0, d1, d2, d3]) rfl ?_
        exact ⟨_, _, _, _, rfl, own_four kr2 (oc2.mono (by omega)) (by decide) _ _ _ _, own_four kr2 (od2.mono (by omega)) (by decide) _ _ _ _, (by repeat (first | (with_reducible refine Below.setCell ?_ ?_ _) | (with_reducible refine Below.alloc ?_ ?_ _) | (with_reducible refine Below.drew ?_) | (with_reducible refine below_drewN ?_ _) | (with_reducible exact Below.refl _ _) | (with_reducible refine Below.trans ?_ (Below.mono ber ?_)) | (focus (simp; done)) | (focus (simp; omega)) | (focus omega) | (focus (have q0 := Below.size ber; (try simp at q0); (try simp); omega))))⟩
end Go.Proofs.Ytpjnajallekjoaa
