/- signalbrokerref09.Step -/
import Derived.Test.YtpjnajallekjoaaRef09c
import Derived.StillTailTactics
namespace Go.Proofs.Ytpjnajallekjoaa
set_option linter.unusedVariables false
open Go.RowKit Go.Sort
set_option maxRecDepth 100000

/-- what a step makes of a light: it stays (while the control waits), it goes on by itself, or it begins where it would have been red -/
theorem LiOk.bd {p : Ph} {a t : Int} (hx : LiOk p a t) (hp : PhOk p) : 0 ≤ a ∧ a ≤ 3 ∧ 0 ≤ t ∧ t ≤ 1073741824 := by
  have h1 := hp.yellow
  have h2 := hp.red
  rcases hx with ⟨rfl, rfl⟩ | ⟨rfl, h⟩ | ⟨rfl, h⟩ | ⟨rfl, h⟩ <;> omega
theorem step_r {r g mg xg y rd wk cl a t a' t' : Int} {leave : Bool} (h : Hid (lStep ⟨r, g, mg, xg, y, rd, wk, cl⟩ a t leave = (a', t'))) (w : World) (hp : PhOk ⟨r, g, mg, xg, y, rd, wk, cl⟩) (hx : LiOk ⟨r, g, mg, xg, y, rd, wk, cl⟩ a t) :
    Calls Try.prog 54 #[.agg #[.int .i64 r, .int .i64 g, .int .i64 mg, .int .i64 xg, .int .i64 y, .int .i64 rd, .int .i64 wk, .int .i64 cl], .agg #[.int .i64 a, .int .i64 t], .bool leave] w fun e w' => e = .returned (.agg #[.int .i64 a', .int .i64 t']) ∧ Below w.heap.size w w' := by
  have := ref08_Step ⟨r, g, mg, xg, y, rd, wk, cl⟩ a t leave w hp hx
  rw [h.out] at this
  exact this
def LiRel (p : Ph) (x y : Int × Int) : Prop := y = x ∨ (∃ lv, y = lStep p x.1 x.2 lv) ∨ (y = (1, 0) ∧ ∃ lv, (lStep p x.1 x.2 lv).1 = 0)
def StepRel (ps : List Ph) (ls ls' : List (Int × Int)) : Prop := ∀ i (h : i < ps.length) (h1 : i < ls.length) (h2 : i < ls'.length), LiRel ps[i] ls[i] ls'[i]
def StInv (ps : List Ph) (ls ls' : List (Int × Int)) : Prop := ∀ i (h : i < ps.length) (h1 : i < ls.length) (h2 : i < ls'.length), (∃ lv, ls'[i] = lStep ps[i] ls[i].1 ls[i].2 lv) ∨ (ls'[i] = (1, 0) ∧ ∃ lv, (lStep ps[i] ls[i].1 ls[i].2 lv).1 = 0)
theorem StInv.rel {ps : List Ph} {ls ls' : List (Int × Int)} (h : StInv ps ls ls') : StepRel ps ls ls' := fun i h0 h1 h2 => .inr (h i h0 h1 h2)
theorem StInv.set {ps : List Ph} {ls ls' : List (Int × Int)} (h : StInv ps ls ls') {q : Nat} (hz : ∀ (h : q < ls'.length), ls'[q].1 = 0) : StInv ps ls (ls'.set q (1, 0)) := fun i h0 h1 h2 => by
  have h2' : i < ls'.length := by simpa using h2
  by_cases e : q = i
  · subst e
    simp only [List.getElem_set_self]
    have hz := hz h2'
    rcases h q h0 h1 h2' with ⟨lv, hl⟩ | ⟨hl, _⟩
    · exact .inr ⟨by first | rfl | trivial, lv, by rw [← hl]; exact hz⟩
    · rw [hl] at hz; cases hz
  · simp only [List.getElem_set_ne e]
    exact h i h0 h1 h2'
theorem stInv_begin {ps : List Ph} {ls lsX ls' : List (Int × Int)} (h : StInv ps ls lsX) {q : Nat} (hb : ls' = lsX ∨ ls' = lsX.set q (1, 0)) (hz : ∀ (h : q < lsX.length), lsX[q].1 = 0) : StInv ps ls ls' := by
  rcases hb with rfl | rfl
  · exact h
  · exact h.set hz
theorem rem_bd (a x : Int) (h0 : 0 ≤ a) (h1 : 1 ≤ x) (h3 : x ≤ 3) : (0 ≤ a % x ∧ a % x ≤ 3) ∧ (0 ≤ a.tmod x ∧ a.tmod x ≤ 3) := by
  have e : a.tmod x = a % x := Int.tmod_eq_emod_of_nonneg h0
  have e1 := Int.emod_nonneg a (show x ≠ 0 by omega)
  have e2 := Int.emod_lt_of_pos a (show 0 < x by omega)
  rw [e]
  omega
def StepR (ps : List Ph) (ls : List (Int × Int)) (w : World) (e : Ending) (w' : World) : Prop :=
  ∃ (ls' : List (Int × Int)) (nx' : List Int) (g' wt' : Int) (la' : Option Addr) (lc' : Nat) (na' : Option Addr) (nc' : Nat), StepRel ps ls ls' ∧ e = .returned (cAgg la' ps.length lc' g' na' nc' wt') ∧ CtlV w' w.heap.size ps ls' nx' g' wt' la' lc' na' nc' ∧ Below w.heap.size w w'
/-- the junction, the old control and the result's place, boxed -/
structure StpW (w W : World) (jb jc jb2 jc2 : Nat) (ps : List Ph) (cs : List Int) (s : Int) (ls : List (Int × Int)) (nx : List Int) (g wt : Int) (la : Option Addr) (lc : Nat) (na : Option Addr) (nc : Nat) : Prop where
  kj : Blk W w.heap.size 55 #[.slice (some ⟨jb, 0, none⟩) ps.length jc, .slice (some ⟨jb2, 0, none⟩) ps.length jc2, .int .i64 s]
  kc : Blk W (w.heap.size + 1) 59 #[.slice la ps.length lc, .int .i64 g, .slice na 2 nc, .int .i64 wt]
  kr : Blk W (w.heap.size + 2) 59 #[.slice none 0 0, .int .i64 0, .slice none 0 0, .int .i64 0]
  hc : CtlV W 0 ps ls nx g wt la lc na nc
  hj : JAt W (w.heap.size + 3) jb jc jb2 jc2 ps cs s
  be : Below w.heap.size w W
  low : ∀ k, la.map (·.block) = some k → k < w.heap.size
section
variable {w W W' : World} {jb jc jb2 jc2 : Nat} {ps : List Ph} {cs : List Int} {s : Int} {ls : List (Int × Int)} {nx : List Int} {g wt : Int} {la : Option Addr} {lc : Nat} {na : Option Addr} {nc : Nat}
end
set_option maxHeartbeats 8000000 in
theorem ref09_Step (base jb jc jb2 jc2 : Nat) (ps : List Ph) (cs : List Int) (s : Int) (base' : Nat) (ls : List (Int × Int)) (nx : List Int) (g wt : Int) (la : Option Addr) (lc : Nat) (na : Option Addr) (nc : Nat) (tg : Int) (w : World) (hj : JAt w base jb jc jb2 jc2 ps cs s) (hc : CtlV w base' ps ls nx g wt la lc na nc) :
    Calls Try.prog 39 #[jAgg jb jc jb2 jc2 ps.length s, cAgg la ps.length lc g na nc wt, .int .i64 tg] w (StepR ps ls w) := by
  have hn := hj.n1
  have hlw := hj.lw
  have hw0 := hc.w0
  go_enter Try.func39, Try.ntmps39
  go_upto_region 1 with fail
  refine wp_named (fun W => W.heap.size = w.heap.size + 3 ∧ Blk W w.heap.size 55 #[.slice (some ⟨jb, 0, none⟩) ps.length jc, .slice (some ⟨jb2, 0, none⟩) ps.length jc2, .int .i64 s] ∧ Blk W (w.heap.size + 1) 59 #[.slice la ps.length lc, .int .i64 g, .slice na 2 nc, .int .i64 wt] ∧ Blk W (w.heap.size + 2) 59 #[.slice none 0 0, .int .i64 0, .slice none 0 0, .int .i64 0] ∧ CtlV W base' ps ls nx g wt la lc na nc ∧ JAt W base jb jc jb2 jc2 ps cs s ∧ RowKit.Below w.heap.size w W) ⟨by simp, ((Blk.new _ _ _).alloc _).alloc _, (Blk.next _ _ _ _).alloc _, by simpa using Blk.next (w.alloc (.cells #[.slice (some ⟨jb, 0, none⟩) ps.length jc, .slice (some ⟨jb2, 0, none⟩) ps.length jc2, .int .i64 s] 55)) (.cells #[.slice la ps.length lc, .int .i64 g, .slice na 2 nc, .int .i64 wt] 59) 59 #[.slice none 0 0, .int .i64 0, .slice none 0 0, .int .i64 0], ((hc.alloc _).alloc _).alloc _, hj.below (by repeat (first | (with_reducible refine Below.setCell ?_ ?_ _) | (with_reducible refine Below.alloc ?_ ?_ _) | (with_reducible refine Below.drew ?_) | (with_reducible refine below_drewN ?_ _) | (with_reducible exact Below.refl _ _) | (focus (simp; done)) | (focus (simp; omega)) | (focus omega))), (by repeat (first | (with_reducible refine Below.setCell ?_ ?_ _) | (with_reducible refine Below.alloc ?_ ?_ _) | (with_reducible refine Below.drew ?_) | (with_reducible refine below_drewN ?_ _) | (with_reducible exact Below.refl _ _) | (focus (simp; done)) | (focus (simp; omega)) | (focus omega)))⟩ ?_
  have hlow : ∀ k, la.map (·.block) = some k → k < w.heap.size := fun k h => hc.lo.lt' k h
  clear hj hc
  rintro W ⟨hWs, kj, kc, kr, hc, hj, be⟩
  have HWS := Lib.hid hWs
  have hWl : w.heap.size + 3 ≤ W.heap.size := by omega
  clear hWs
  obtain ⟨c0, c1, c2, c3⟩ := kc.four'
  have cl := kc.lt
  go_upto_region 2 with ((go_at_call 52; (with_reducible refine (ref09_Copy base' ps ls nx g wt la lc na nc _ hc (by omega)).mono ?_); rintro e w1 ⟨la1, lc1, na1, nc1, rfl, hcv, hb1⟩))
  have hB : W.heap.size ≤ w1.heap.size := hb1.size
  obtain ⟨B, hBB⟩ : ∃ B, w1.heap.size = B := ⟨_, rfl⟩
  have hWB : W.heap.size ≤ B := by rw [← hBB]; exact hB
  refine wp_named (fun V => Blk V B 59 #[.slice la1 ps.length lc1, .int .i64 g, .slice na1 2 nc1, .int .i64 wt] ∧ CtlV V W.heap.size ps ls nx g wt la1 lc1 na1 nc1 ∧ RowKit.Below W.heap.size W V) ⟨by rw [← hBB]; exact Blk.new _ _ _, hcv.alloc _, (by repeat (first | (with_reducible refine Below.setCell ?_ ?_ _) | (with_reducible refine Below.alloc ?_ ?_ _) | (with_reducible refine Below.drew ?_) | (with_reducible refine below_drewN ?_ _) | (with_reducible exact Below.refl _ _) | (with_reducible refine Below.trans ?_ (Below.mono hb1 ?_)) | (focus (simp; done)) | (focus (simp; omega)) | (focus omega) | (focus (have q0 := Below.size hb1; (try simp at q0); (try simp); omega))))⟩ ?_
  clear hcv hb1 c0 c1 c2 c3 cl
  rw [hBB]
  clear hBB hB
  rintro V ⟨kB, hcv, bv⟩
  have kcv := kc.below bv kc.lt
  obtain ⟨c0, c1, c2, c3⟩ := kcv.four'
  have cl := kcv.lt
  obtain ⟨b0, b1, b2, b3⟩ := kB.four'
  have bf := kB.frozen
  have bl := kB.lt
  by_cases hwt : 0 < wt
  · have krv := kr.below bv kr.lt
    obtain ⟨d0, d1, d2, d3⟩ := krv.four'
    have df := krv.frozen
    have dl := krv.lt
    have nB1 : w.heap.size + 1 + 1 ≠ B := by omega
    have nB2 : B ≠ w.heap.size + 1 + 1 := by omega
    go_wp2_with fail
    refine bodyPost_ret (v := .agg #[.slice la1 ps.length lc1, .int .i64 g, .slice na1 2 nc1, .int .i64 (wt - 1)]) (by simp [results, Try.results39, go_sem, d0, d1, d2, d3]) rfl ?_
    have n1 : (⟨B, 3, none⟩ : Addr).block ≠ w.heap.size + 2 := by simp; omega
    have krr := krv.far (p := ⟨B, 3, none⟩) (fun e => n1 e.symm) (.int .i64 (wt - 1))
    exact ⟨ls, nx, g, wt - 1, la1, lc1, na1, nc1, fun i h h1 h2 => .inl rfl, rfl, ⟨(own_four krr (hcv.lo.far (hcv.lo.ne_blk kB (by decide)) _) (by decide) _ _ _ _).mono (by omega), (own_four krr (hcv.no.far (hcv.no.ne_blk kB (by decide)) _) (by decide) _ _ _ _).mono (by omega), hcv.nx, hcv.ll, hcv.lok, hcv.g0, by omega⟩, (by repeat (first | (with_reducible refine Below.setCell ?_ ?_ _) | (with_reducible refine Below.alloc ?_ ?_ _) | (with_reducible refine Below.drew ?_) | (with_reducible refine below_drewN ?_ _) | (with_reducible exact Below.refl _ _) | (with_reducible refine Below.trans ?_ (Below.mono bv ?_)) | (with_reducible refine Below.trans ?_ (Below.mono be ?_)) | (focus (simp; done)) | (focus (simp; omega)) | (focus omega) | (focus (have q0 := Below.size bv; (try simp at q0); have q1 := Below.size be; (try simp at q1); (try simp); omega))))⟩
  · obtain rfl : wt = 0 := by omega
    have kjv := kj.below bv kj.lt
    obtain ⟨j0, j1, j2⟩ : V.cell? ⟨w.heap.size, 0, none⟩ = _ ∧ V.cell? ⟨w.heap.size, 1, none⟩ = _ ∧ V.cell? ⟨w.heap.size, 2, none⟩ = _ := ⟨kjv.cell 0, kjv.cell 1, kjv.cell 2⟩
    have jl := kjv.lt
    obtain ⟨on, hon⟩ : ∃ on, decide (0 ≤ tg ∧ tg < ps.length) = on := ⟨_, rfl⟩
    have HON := Lib.hid hon
    clear hon
    go_upto_region 5 with fail
    go_cut [8] (fun s8 wx => s8 = .bool on ∧ V = wx)
    case first =>
      by_cases h0 : 0 ≤ tg
      · by_cases h1 : tg < ps.length
        · have HQ := Lib.hid (show on = true from by rw [← HON.out]; exact decide_eq_true ⟨h0, h1⟩)
          go_wp2_with fail
          go_meet
          exact ⟨by rw [HQ.out], rfl⟩
        · have HQ := Lib.hid (show on = false from by rw [← HON.out]; exact decide_eq_false (fun h => h1 h.2))
          go_wp2_with fail
          go_meet
          exact ⟨by rw [HQ.out], rfl⟩
      · have HQ := Lib.hid (show on = false from by rw [← HON.out]; exact decide_eq_false (fun h => h0 h.1))
        go_wp2_with fail
        go_meet
        exact ⟨by rw [HQ.out], rfl⟩
    case rest =>
      obtain ⟨rfl, rfl⟩ := hcut
      clear c0 c1 c2 c3 cl b0 b1 b2 b3 bf bl j0 j1 j2 jl kcv kjv
      go_upto_region 6 with fail
      obtain ⟨Go, rfl, -, hGo⟩ := hc.lo.open_ (by omega)
      obtain ⟨G1, rfl, hG1, hG1l⟩ := hcv.lo.open_ (by omega)
      have kcv := kc.below bv kc.lt
      obtain ⟨c0, c1, c2, c3⟩ := kcv.four'
      have cl := kcv.lt
      go_wp2_with fail
      clear c0 c1 c2 c3 cl kcv
      have hGow := hlow Go rfl
      have HG1 := Lib.hid hG1l
      go_loopw [40] (fun s40 wr => ∃ (i : Nat) (ls1 : List (Int × Int)), s40 = .int .i64 i ∧ i ≤ ps.length ∧ (∀ k (h : k < ps.length) (h1 : k < ls.length) (h2 : k < ls1.length), (k < i → ∃ lv, ls1[k] = lStep ps[k] ls[k].1 ls[k].2 lv) ∧ (i ≤ k → ls1[k] = ls[k])) ∧ Blk wr B 59 #[.slice (some ⟨G1, 0, none⟩) ps.length lc1, .int .i64 g, .slice na1 2 nc1, .int .i64 0] ∧ CtlV wr W.heap.size ps ls1 nx g 0 (some ⟨G1, 0, none⟩) lc1 na1 nc1 ∧ RowKit.Below W.heap.size W wr) (fun s _ => ps.length - (intOf s).toNat)
      case atStart => exact ⟨0, ls, rfl, by omega, fun k h h1 h2 => ⟨fun h => by omega, fun _ => rfl⟩, kB, hcv, bv⟩
      case round =>
        clear kB hcv bv
        obtain ⟨i, ls1, rfl, hi, hrl, kB, hcv, bv⟩ := hrel
        have HRL := Lib.hid hrl
        have HG1r := Lib.hid (hcv.lo.lt' G1 rfl)
        clear hrl
        have kjr := kj.below bv kj.lt
        obtain ⟨j0, j1, j2⟩ : wr.cell? ⟨w.heap.size, 0, none⟩ = _ ∧ wr.cell? ⟨w.heap.size, 1, none⟩ = _ ∧ wr.cell? ⟨w.heap.size, 2, none⟩ = _ := ⟨kjr.cell 0, kjr.cell 1, kjr.cell 2⟩
        have jl := kjr.lt
        by_cases hlt : i < ps.length
        · have hil : i < ls.length := by have := hc.ll; omega
          obtain ⟨_, hgg, -, -, x0, x1, -, -⟩ := light_cell (hc.lo.below bv (Nat.le_refl _)) hc.ll i hil
          injection hgg with hgg
          injection hgg with hgg _ _
          subst hgg
          have hGr : Go < wr.heap.size := by have := bv.size; omega
          obtain ⟨p0, p1, p2, p3, p4, p5, p6, p7⟩ := row_phase (hj.below (bv.mono hj.lw)).ph i hlt
          have hjb : jb < wr.heap.size := by have := hj.lb; have := bv.size; omega
          have hlo := hc.lok i hlt hil
          have hpok := hj.ok _ (List.getElem_mem hlt)
          obtain ⟨p, hp⟩ : ∃ p, ps[i] = p := ⟨_, rfl⟩
          obtain ⟨l, hl⟩ : ∃ l, ls[i] = l := ⟨_, rfl⟩
          rw [hp] at p0 p1 p2 p3 p4 p5 p6 p7 hlo hpok
          rw [hl] at x0 x1 hlo
          have HP := Lib.hid hp
          have HL := Lib.hid hl
          clear hp hl
          obtain ⟨r, gr, mg, xg, yl, rd, wk, clr⟩ := p
          obtain ⟨a, t⟩ := l
          simp only at p0 p1 p2 p3 p4 p5 p6 p7 x0 x1 hlo
          have hbd := hlo.bd hpok
          have HPOK := Lib.hid hpok
          have HLO := Lib.hid hlo
          clear hpok hlo
          go_upto_region 9 with fail
          refine wp_named (fun U => Blk U wr.heap.size 90 #[.int .i64 a, .int .i64 t] ∧ Blk U B 59 #[.slice (some ⟨G1, 0, none⟩) ps.length lc1, .int .i64 g, .slice na1 2 nc1, .int .i64 0] ∧ CtlV U W.heap.size ps ls1 nx g 0 (some ⟨G1, 0, none⟩) lc1 na1 nc1 ∧ RowKit.Below W.heap.size W U) ⟨Blk.new _ _ _, kB.alloc _, hcv.alloc _, (by repeat (first | (with_reducible refine Below.setCell ?_ ?_ _) | (with_reducible refine Below.alloc ?_ ?_ _) | (with_reducible refine Below.drew ?_) | (with_reducible refine below_drewN ?_ _) | (with_reducible exact Below.refl _ _) | (with_reducible refine Below.trans ?_ (Below.mono bv ?_)) | (focus (simp; done)) | (focus (simp; omega)) | (focus omega) | (focus (have q0 := Below.size bv; (try simp at q0); (try simp); omega))))⟩ ?_
          have hwrW := bv.size
          clear kB hcv bv j0 j1 j2 jl x0 x1 p0 p1 p2 p3 p4 p5 p6 p7 kjr hGr hjb
          rintro U ⟨kl, kB, hcv, bv⟩
          have kjU := kj.below bv kj.lt
          obtain ⟨j0, j1, j2⟩ : U.cell? ⟨w.heap.size, 0, none⟩ = _ ∧ U.cell? ⟨w.heap.size, 1, none⟩ = _ ∧ U.cell? ⟨w.heap.size, 2, none⟩ = _ := ⟨kjU.cell 0, kjU.cell 1, kjU.cell 2⟩
          have jl := kjU.lt
          obtain ⟨p0, p1, p2, p3, p4, p5, p6, p7⟩ := row_phase (hj.below (bv.mono hj.lw)).ph i hlt
          rw [HP.out] at p0 p1 p2 p3 p4 p5 p6 p7
          simp only at p0 p1 p2 p3 p4 p5 p6 p7
          have hjb : jb < U.heap.size := by have := hj.lb; have := hj.lw; have := bv.size; omega
          have x0 := kl.cell 0
          have x1 := kl.cell 1
          have xl := kl.lt
          have ew : IntKind.i64.wrap (t + 1) = t + 1 := by rw [IntKind.wrap_i64]; omega
          obtain ⟨lv0, hlv0⟩ : ∃ b, decide (xg ≤ t + 1) = b := ⟨_, rfl⟩
          have hii : (i : Int) < (ps.length : Int) := by omega
          have hi0 : (0 : Int) ≤ (i : Int) := by omega
          go_quiet (fail)
          clear ew hlv0
          go_upto_if 55 with fail
          go_cut [11] from 45 to 68 (fun s11 wx => (∃ lv : Bool, s11 = .bool lv) ∧ U.drewN nq = wx)
          case first =>
            cases on
            · go_wp2_with fail
              go_meet
              exact ⟨⟨_, rfl⟩, rfl⟩
            · obtain ⟨db, hdb⟩ : ∃ b, ((i : Int) != tg) = b := ⟨_, rfl⟩
              go_wp2_with ((go_at_call 53; (with_reducible refine (ref06_Conflict (some ⟨jb2, 0, none⟩) cs ps.length jc2 (i : Int) tg _ (hj.below (show RowKit.Below base W _ from (by repeat (first | (with_reducible refine Below.setCell ?_ ?_ _) | (with_reducible refine Below.alloc ?_ ?_ _) | (with_reducible refine Below.drew ?_) | (with_reducible refine below_drewN ?_ _) | (with_reducible exact Below.refl _ _) | (with_reducible refine Below.trans ?_ (Below.mono (bv.mono hj.lw) ?_)) | (focus (simp; done)) | (focus (simp; omega)) | (focus omega) | (focus (have q0 := Below.size (bv.mono hj.lw); (try simp at q0); (try simp); omega)))))).cf hj.cl.symm (by omega)).mono ?_); rintro e w2 ⟨b2, rfl, rfl⟩))
              all_goals
                go_meet
                exact ⟨⟨_, rfl⟩, rfl⟩
          case rest =>
            obtain ⟨⟨lv, rfl⟩, rfl⟩ := hcut
            go_upto_region 12 with fail
            refine wp_named (fun Y => Blk Y wr.heap.size 90 #[.int .i64 a, .int .i64 t] ∧ Blk Y B 59 #[.slice (some ⟨G1, 0, none⟩) ps.length lc1, .int .i64 g, .slice na1 2 nc1, .int .i64 0] ∧ CtlV Y W.heap.size ps ls1 nx g 0 (some ⟨G1, 0, none⟩) lc1 na1 nc1 ∧ RowKit.Below W.heap.size W Y) ⟨kl.drewN _, kB.drewN _, hcv.drewN _, (by repeat (first | (with_reducible refine Below.setCell ?_ ?_ _) | (with_reducible refine Below.alloc ?_ ?_ _) | (with_reducible refine Below.drew ?_) | (with_reducible refine below_drewN ?_ _) | (with_reducible exact Below.refl _ _) | (with_reducible refine Below.trans ?_ (Below.mono bv ?_)) | (focus (simp; done)) | (focus (simp; omega)) | (focus omega) | (focus (have q0 := Below.size bv; (try simp at q0); (try simp); omega))))⟩ ?_
            clear kl kB hcv bv j0 j1 j2 jl x0 x1 xl p0 p1 p2 p3 p4 p5 p6 p7 kjU hjb
            rintro Y ⟨kl, kB, hcv, bv⟩
            obtain ⟨⟨a', t'⟩, hs'⟩ : ∃ q, lStep ⟨r, gr, mg, xg, yl, rd, wk, clr⟩ a t lv = q := ⟨_, rfl⟩
            have HS := Lib.hid hs'
            clear hs'
            have kjY := kj.below bv kj.lt
            have hGl1 : G1 < Y.heap.size := hcv.lo.lt' G1 rfl
            have hGB : G1 ≠ B := fun e => hcv.lo.ne_blk kB (by decide) (by rw [e]; rfl)
            have hYz := bv.size
            have hil1 : i < ls1.length := by have := hcv.ll; omega
            have hwrn : wr.heap.size ≠ G1 := by
              have := HG1r.out
              omega
            have hpW := hj.lw
            apply wp_region_tab [(G1, (G1+1))] 13 153 [some 69, some 70, some 71, some 72, some 73, some 74, some 75, some 76, some 77, some 78, some 79, some 80, none] [⟨[13], [], [], []⟩, ⟨[0, 13], [0], [0], []⟩, ⟨[13], [], [], []⟩, ⟨[13], [], [], []⟩, ⟨[3, 13], [3], [3], []⟩, ⟨[13], [], [], []⟩, ⟨[3, 4, 5, 13], [4, 5], [4, 5], []⟩, ⟨[3, 4, 5, 6, 13], [6], [6], []⟩, ⟨[13], [], [], []⟩, ⟨[13], [], [], []⟩, ⟨[3, 4, 5, 6, 7, 8, 9, 13], [7, 8, 9], [7, 8, 9], []⟩, ⟨[0, 1, 2, 3, 4, 5, 6, 7, 8, 9, 10, 13], [1, 2], [1, 2], []⟩, ⟨[0, 1, 2, 3, 4, 5, 6, 7, 8, 9, 10, 11, 13], [10, 11, 13], [10, 11, 13], [13]⟩, ⟨[], [], [], []⟩] [0, 1, 2, 3, 4, 5, 6, 7, 8, 9, 10, 11, 12] [12] [psiTrue, psiTrue, psiTrue, psiTrue, psiTrue, psiTrue, psiTrue, psiTrue, psiTrue, psiTrue, psiTrue, psiTrue, (fun f lo hi v b0 b1 Z => Own Z W.heap.size 90 2 (some ⟨G1, 0, none⟩) ps.length lc1 (liCells (ls1.set i (a', t')))), (fun f lo hi v b0 b1 Z => (b0 = G1 ∧ b1 = (G1+1)) ∧ Own Z W.heap.size 90 2 (some ⟨G1, 0, none⟩) ps.length lc1 (liCells ls1))] [kVal _, kVal _, kVal _, kVal _, kVal _, kVal _, kVal _, kVal _, kVal _, kVal _, kVal _, kVal _, kTrue]
            · kernel_rfl
            · kernel_rfl
            · rfl
            · rfl
            rotate_left 2
            refine ⟨?oR1_0, ?oR1_1, ?oR1_2, ?oR1_3, ?oR1_4, ?oR1_5, ?oR1_6, ?oR1_7, ?oR1_8, ?oR1_9, ?oR1_10, ?oR1_11, ?oR1_12, trivial⟩
            case hx => exact ⟨⟨by omega, by omega⟩, by simp, trivial⟩
            case hX => exact ⟨fun _ _ _ _ => ⟨⟨rfl, rfl⟩, hcv.lo⟩, trivial⟩
            case oR1_0 => intro f lo hi w hb hx hf hk hrg R hR; (try replace hb := BelX.zero hb); (try simp (decide := true) only [go_sem] at hf); (try simp (decide := true) only [go_sem] at hk); go_simp; exact hR _ _ (rpost_val rfl rfl (Below.refl _ _) rfl)
            case oR1_1 =>
              intro f lo hi w hb hx hf hk hrg R hR; (try replace hb := BelX.zero hb); (try simp (decide := true) only [go_sem] at hf); (try simp (decide := true) only [go_sem] at hk)
              obtain ⟨e0, e1, e2, e3⟩ := (hb.blk kB (fun r hr => by simp at hr; subst hr; simp only; omega)).four'
              go_simp
              exact hR _ _ (rpost_val rfl rfl (Below.refl _ _) rfl)
            case oR1_2 => intro f lo hi w hb hx hf hk hrg R hR; (try replace hb := BelX.zero hb); (try simp (decide := true) only [go_sem] at hf); (try simp (decide := true) only [go_sem] at hk); go_simp; exact hR _ _ (rpost_val rfl rfl (Below.refl _ _) rfl)
            case oR1_3 => intro f lo hi w hb hx hf hk hrg R hR; (try replace hb := BelX.zero hb); (try simp (decide := true) only [go_sem] at hf); (try simp (decide := true) only [go_sem] at hk); go_simp; exact hR _ _ (rpost_val rfl rfl (Below.refl _ _) rfl)
            case oR1_4 =>
              intro f lo hi w hb hx hf hk hrg R hR; (try replace hb := BelX.zero hb); (try simp (decide := true) only [go_sem] at hf); (try simp (decide := true) only [go_sem] at hk)
              have e0 := (hb.blk kjY (fun r hr => by simp at hr; subst hr; simp only; omega)).cell 0
              go_simp
              exact hR _ _ (rpost_val rfl rfl (Below.refl _ _) rfl)
            case oR1_5 => intro f lo hi w hb hx hf hk hrg R hR; (try replace hb := BelX.zero hb); (try simp (decide := true) only [go_sem] at hf); (try simp (decide := true) only [go_sem] at hk); go_simp; exact hR _ _ (rpost_val rfl rfl (Below.refl _ _) rfl)
            case oR1_6 => intro f lo hi w hb hx hf hk hrg R hR; (try replace hb := BelX.zero hb); (try simp (decide := true) only [go_sem] at hf); (try simp (decide := true) only [go_sem] at hk); go_simp; exact hR _ _ (rpost_val rfl rfl (Below.refl _ _) rfl)
            case oR1_7 =>
              intro f lo hi w hb hx hf hk hrg R hR; (try replace hb := BelX.zero hb); (try simp (decide := true) only [go_sem] at hf); (try simp (decide := true) only [go_sem] at hk)
              have hbw : RowKit.Below base _ w := ⟨hb.1.trans bv.os, hb.2.1.trans bv.tape, hb.2.2.1.trans bv.output, Nat.le_trans hYz hb.2.2.2.1, fun k hk => (hb.2.2.2.2 k ⟨by omega, fun r hr => by simp at hr; subst hr; simp only; omega⟩).trans (bv.block k (by omega))⟩
              obtain ⟨p0, p1, p2, p3, p4, p5, p6, p7⟩ := row_phase (hj.below hbw).ph i hlt
              rw [HP.out] at p0 p1 p2 p3 p4 p5 p6 p7
              simp only at p0 p1 p2 p3 p4 p5 p6 p7
              clear hbw
              go_simp
              exact hR _ _ (rpost_val rfl rfl (Below.refl _ _) rfl)
            case oR1_8 =>
              intro f lo hi w hb hx hf hk hrg R hR; (try replace hb := BelX.zero hb); (try simp (decide := true) only [go_sem] at hf); (try simp (decide := true) only [go_sem] at hk)
              have kk := hb.blk kl (fun r hr => by simp at hr; subst hr; simp only; omega)
              have e0 := kk.cell 0
              have e1 := kk.cell 1
              go_simp
              exact hR _ _ (rpost_val rfl rfl (Below.refl _ _) rfl)
            case oR1_9 => intro f lo hi w hb hx hf hk hrg R hR; (try replace hb := BelX.zero hb); (try simp (decide := true) only [go_sem] at hf); (try simp (decide := true) only [go_sem] at hk); go_simp; exact hR _ _ (rpost_val rfl rfl (Below.refl _ _) rfl)
            case oR1_10 =>
              intro f lo hi w hb hx hf hk hrg R hR; (try replace hb := BelX.zero hb); (try simp (decide := true) only [go_sem] at hf); (try simp (decide := true) only [go_sem] at hk)
              go_simp
              (with_reducible refine (step_r HS _ HPOK.out HLO.out).mono ?_)
              rintro e w' ⟨rfl, hb1⟩
              exact ⟨_, rfl, hR _ _ (rpost_val rfl rfl hb1 rfl)⟩
            case oR1_11 => intro f lo hi w hb hx hf hk hrg R hR; (try replace hb := BelX.zero hb); (try simp (decide := true) only [go_sem] at hf); (try simp (decide := true) only [go_sem] at hk); go_simp; exact hR _ _ (rpost_val rfl rfl (Below.refl _ _) rfl)
            case oR1_12 =>
              intro f lo hi w hb hx hf hk hrg R hR; (try replace hb := BelX.zero hb); (try simp (decide := true) only [go_sem] at hf); (try simp (decide := true) only [go_sem] at hk)
              obtain ⟨-, own⟩ := hf
              obtain ⟨_, hgg, -, -, y0, y1, z0, z1⟩ := light_cell own hcv.ll i hil1
              injection hgg with hgg
              injection hgg with hgg _ _
              subst hgg
              have p1 : lo 13 = _ := (XOk.get _ _ hx 0 _ rfl).1
              have p2 : hi 13 = _ := (XOk.get _ _ hx 0 _ rfl).2
              go_simp
              refine hR _ _ (rpost_some rfl rfl ((Touch.set w (List.mem_singleton.2 rfl) (Nat.le_of_eq p1) (by rw [p2]; exact Nat.lt_succ_self _) _ _).trans (Touch.set _ (List.mem_singleton.2 rfl) (Nat.le_of_eq p1) (by rw [p2]; exact Nat.lt_succ_self _) _ _)) ?_)
              (try simp (decide := true) only [go_sem])
              rw [← liCells_set]
              exact (own.set _ _).set _ _
            case hcl =>
              refine ⟨Closed.true _ _ _ _, Closed.true _ _ _ _, Closed.true _ _ _ _, Closed.true _ _ _ _, Closed.true _ _ _ _, Closed.true _ _ _ _, Closed.true _ _ _ _, Closed.true _ _ _ _, Closed.true _ _ _ _, Closed.true _ _ _ _, Closed.true _ _ _ _, Closed.true _ _ _ _, ?cR1_12, ?cR1_13, trivial⟩
              all_goals first
                | exact fun f lo hi v b0 b1 w w' h hs hB hown hU hX => h.keep fun b e _ _ => by injection e with e; injection e with e _ _; subst e; exact hX 0 _ rfl (by simp) _ (Nat.le_refl _) (Nat.lt_succ_self _)
                | exact fun f lo hi v b0 b1 w w' h hs hB hown hU hX => by
                    obtain ⟨⟨rfl, rfl⟩, own⟩ := h
                    exact ⟨⟨rfl, rfl⟩, own.keep fun b e _ _ => by injection e with e; injection e with e _ _; subst e; exact hown _ (Nat.le_refl _) (Nat.lt_succ_self _)⟩
            intro f lo hi W7 hbr hx hf hk hrg; (try replace hbr := BelX.zero hbr); clear hx; (try simp (decide := true) only [go_sem] at hf); (try simp (decide := true) only [go_sem] at hk)
            have hold : ∀ k, k < Y.heap.size → k ≠ G1 → W7.heap[k]? = Y.heap[k]? := fun k h1 h2 => hbr.2.2.2.2 k ⟨h1, fun r hr => by simp at hr; subst hr; simp only; omega⟩
            have hlok' : LiOk ⟨r, gr, mg, xg, yl, rd, wk, clr⟩ a' t' := by have := lStep_ok HPOK.out HLO.out lv; rw [HS.out] at this; exact this
            have hna : ∀ b, na1 = some ⟨b, 0, none⟩ → b ≠ G1 := fun b e e' => by
              rcases hcv.lo.2 with ⟨h0, _⟩ | ⟨g1, c1, cur, hv, _, hh, _⟩
              · cases h0
              · injection hv with hv _ _
                injection hv with hv
                injection hv with hv _ _
                subst hv
                exact hcv.no.ne_blk (g := G1) (t := 90) (cs := cur) hh (by decide) (by rw [e, e']; rfl)
            have kB7 := (hold B kB.lt (fun e => hGB e.symm)).trans kB
            have hcv7 : CtlV W7 W.heap.size ps (ls1.set i (a', t')) nx g 0 (some ⟨G1, 0, none⟩) lc1 na1 nc1 := ⟨hf, hcv.no.keep fun b e _ hl => hold b hl (hna b e), hcv.nx, by rw [List.length_set]; exact hcv.ll, fun k h h' => by
              by_cases e : i = k
              · subst e
                simp only [List.getElem_set_self]
                rw [HP.out]
                exact hlok'
              · simp only [List.getElem_set_ne e]
                exact hcv.lok k h (by simpa using h'), hcv.g0, hcv.w0⟩
            have hGW : W.heap.size ≤ G1 := hcv.lo.base_le G1 rfl
            have bv7 : RowKit.Below W.heap.size W W7 := ⟨hbr.1.trans bv.os, hbr.2.1.trans bv.tape, hbr.2.2.1.trans bv.output, Nat.le_trans hYz hbr.2.2.2.1, fun k hk => (hold k (by omega) (by omega)).trans (bv.block k hk)⟩
            clear hrg hbr hold hf kB kl hcv bv kjY hna
            go_simp
            clear hk
            go_wp2_with fail
            go_roundw
            case rel =>
              refine ⟨i + 1, ls1.set i (a', t'), by go_num, by omega, fun k h h1 h2 => ⟨fun hk => ?_, fun hk => ?_⟩, kB7, hcv7, bv7⟩
              · by_cases e : i = k
                · subst e
                  refine ⟨lv, ?_⟩
                  simp only [List.getElem_set_self]
                  rw [HP.out, HL.out]
                  exact HS.out.symm
                · obtain ⟨lv', hlv'⟩ := (HRL.out k h h1 (by simpa using h2)).1 (by omega)
                  exact ⟨lv', by simp only [List.getElem_set_ne e]; exact hlv'⟩
              · have e : i ≠ k := by omega
                simp only [List.getElem_set_ne e]
                exact (HRL.out k h h1 (by simpa using h2)).2 (by omega)
            case measure => simp [intOf]; omega
        · obtain rfl : i = ps.length := by omega
          clear hlt
          have hinv : StInv ps ls ls1 := fun k h h1 h2 => .inl ((HRL.out k h h1 h2).1 h)
          have HINV := Lib.hid hinv
          clear hinv HRL
          cases on with
          | true =>
            obtain ⟨ht0, ht1⟩ : 0 ≤ tg ∧ tg < ps.length := of_decide_eq_true HON.out
            obtain ⟨T, rfl⟩ := Int.eq_ofNat_of_zero_le ht0
            have hT : T < ps.length := by omega
            clear kjr j0 j1 j2 jl
            go_wp2_with fail
            go_loopw [83] (fun s83 wq => ∃ (R : Nat) (lsX : List (Int × Int)) (nxX : List Int) (gX : Int) (na : Option Addr) (nc : Nat), s83 = .int .i64 R ∧ R ≤ 2 ∧ StInv ps ls lsX ∧ Blk wq B 59 #[.slice (some ⟨G1, 0, none⟩) ps.length lc1, .int .i64 gX, .slice na 2 nc, .int .i64 0] ∧ CtlV wq W.heap.size ps lsX nxX gX 0 (some ⟨G1, 0, none⟩) lc1 na nc ∧ RowKit.Below W.heap.size W wq) (fun s _ => 2 - (intOf s).toNat)
            case atStart => exact ⟨0, ls1, nx, g, na1, nc1, rfl, by omega, HINV.out, kB, hcv, bv⟩
            case round =>
              clear kB hcv bv HINV
              obtain ⟨R, lsX, nxX, gX, na, nc, rfl, hR, hinv, kB, hcv, bv⟩ := hrel
              have HINV := Lib.hid hinv
              clear hinv
              have kjr := kj.below bv kj.lt
              obtain ⟨j0, j1, j2⟩ : wr.cell? ⟨w.heap.size, 0, none⟩ = _ ∧ wr.cell? ⟨w.heap.size, 1, none⟩ = _ ∧ wr.cell? ⟨w.heap.size, 2, none⟩ = _ := ⟨kjr.cell 0, kjr.cell 1, kjr.cell 2⟩
              have jl := kjr.lt
              obtain ⟨b0, b1, b2, b3⟩ := kB.four'
              have bl := kB.lt
              have hjr : JAt wr W.heap.size jb jc jb2 jc2 ps cs s := (hj.below (bv.mono hj.lw)).mono hj.lw bv.size
              by_cases hlt : R < 2
              · have hRi : (R : Int) < 2 := by omega
                go_upto_region 19 with ((go_at_call 55; (with_reducible refine (ref09_candidate W.heap.size jb jc jb2 jc2 ps cs s W.heap.size lsX nxX gX 0 (some ⟨G1, 0, none⟩) lc1 na nc T R _ hjr hcv hT hlt).mono ?_); rintro e w2 ⟨q, rfl, hq, hb2⟩))
                have kB2 := kB.below hb2 bl
                have hcv2 := hcv.below hb2
                have bv2 : RowKit.Below W.heap.size W w2 := (by repeat (first | (with_reducible refine Below.setCell ?_ ?_ _) | (with_reducible refine Below.alloc ?_ ?_ _) | (with_reducible refine Below.drew ?_) | (with_reducible refine below_drewN ?_ _) | (with_reducible exact Below.refl _ _) | (with_reducible refine Below.trans ?_ (Below.mono hb2 ?_)) | (with_reducible refine Below.trans ?_ (Below.mono bv ?_)) | (focus (simp; done)) | (focus (simp; omega)) | (focus omega) | (focus (have q0 := Below.size hb2; (try simp at q0); have q1 := Below.size bv; (try simp at q1); (try simp); omega))))
                have kj2 := kj.below bv2 kj.lt
                have hjr2 : JAt w2 W.heap.size jb jc jb2 jc2 ps cs s := (hj.below (bv2.mono hj.lw)).mono hj.lw bv2.size
                clear b0 b1 b2 b3 bl j0 j1 j2 jl kB hcv bv kjr hjr
                obtain ⟨j0, j1, j2⟩ : w2.cell? ⟨w.heap.size, 0, none⟩ = _ ∧ w2.cell? ⟨w.heap.size, 1, none⟩ = _ ∧ w2.cell? ⟨w.heap.size, 2, none⟩ = _ := ⟨kj2.cell 0, kj2.cell 1, kj2.cell 2⟩
                have jl := kj2.lt
                obtain ⟨b0, b1, b2, b3⟩ := kB2.four'
                have bl := kB2.lt
                rcases hq with rfl | ⟨q0, hq0, rfl, hqr⟩
                · go_wp2_with fail
                  go_roundw
                  case rel => exact ⟨R + 1, lsX, nxX, gX, na, nc, by go_num, by omega, HINV.out, kB2, hcv2, bv2⟩
                  case measure => simp [intOf]; omega
                · have HQR := Lib.hid hqr
                  clear hqr
                  go_wp2_with (first | (go_at_call 56; (with_reducible refine (ref09_idle W.heap.size jb jc jb2 jc2 ps cs s (R : Int) W.heap.size lsX nxX gX 0 (some ⟨G1, 0, none⟩) lc1 na nc _ hjr2 hcv2).mono ?_); rintro e w3 ⟨ib, rfl, hib, hb3⟩; ((have HIB := Lib.hid hib); clear hib; (have kB3 := kB2.below hb3 bl); (have hcv3 := hcv2.below hb3); (have bv3 : RowKit.Below W.heap.size W w3 := (by repeat (first | (with_reducible refine Below.setCell ?_ ?_ _) | (with_reducible refine Below.alloc ?_ ?_ _) | (with_reducible refine Below.drew ?_) | (with_reducible refine below_drewN ?_ _) | (with_reducible exact Below.refl _ _) | (with_reducible refine Below.trans ?_ (Below.mono hb3 ?_)) | (with_reducible refine Below.trans ?_ (Below.mono bv2 ?_)) | (focus (simp; done)) | (focus (simp; omega)) | (focus omega) | (focus (have q0 := Below.size hb3; (try simp at q0); have q1 := Below.size bv2; (try simp at q1); (try simp); omega))))); (have kj3 := kj.below bv3 kj.lt); (have hjr3 : JAt w3 W.heap.size jb jc jb2 jc2 ps cs s := (hj.below (bv3.mono hj.lw)).mono hj.lw bv3.size); clear b0 b1 b2 b3 bl j0 j1 j2 jl; (obtain ⟨j0, j1, j2⟩ : w3.cell? ⟨w.heap.size, 0, none⟩ = _ ∧ w3.cell? ⟨w.heap.size, 1, none⟩ = _ ∧ w3.cell? ⟨w.heap.size, 2, none⟩ = _ := ⟨kj3.cell 0, kj3.cell 1, kj3.cell 2⟩); (have jl := kj3.lt); (obtain ⟨b0, b1, b2, b3⟩ := kB3.four'); (have bl := kB3.lt))) | (go_at_call 57; (with_reducible refine (ref09_begin W.heap.size jb jc jb2 jc2 ps cs s lsX nxX gX 0 (some ⟨G1, 0, none⟩) lc1 na nc B q0 R _ hjr3 kB3 hcv3 hWB hq0 hlt HQR.out).mono ?_); rintro e w4 ⟨ls4, nx4, g4, na4, nc4, rfl, hls, kB4, hcv4, hb4⟩))
                  · go_roundw
                    case rel => exact ⟨R + 1, ls4, nx4, g4, na4, nc4, by go_num, by omega, stInv_begin HINV.out hls (fun h => HIB.out (by first | rfl | assumption) q0 hq0 h HQR.out), kB4, hcv4, (by repeat (first | (with_reducible refine Below.setCell ?_ ?_ _) | (with_reducible refine Below.alloc ?_ ?_ _) | (with_reducible refine Below.drew ?_) | (with_reducible refine below_drewN ?_ _) | (with_reducible exact Below.refl _ _) | (with_reducible refine Below.trans ?_ (Below.mono hb4 ?_)) | (with_reducible refine Below.trans ?_ (Below.mono bv3 ?_)) | (focus (simp; done)) | (focus (simp; omega)) | (focus omega) | (focus (have q0 := Below.size hb4; (try simp at q0); have q1 := Below.size bv3; (try simp at q1); (try simp); omega))))⟩
                    case measure => simp [intOf]; omega
                  · go_roundw
                    case rel => exact ⟨R + 1, lsX, nxX, gX, na, nc, by go_num, by omega, HINV.out, kB3, hcv3, bv3⟩
                    case measure => simp [intOf]; omega
              · obtain rfl : R = 2 := by omega
                have krq := kr.below bv kr.lt
                obtain ⟨d0, d1, d2, d3⟩ := krq.four'
                have df := krq.frozen
                have dl := krq.lt
                have nB1 : w.heap.size + 1 + 1 ≠ B := by omega
                have nB2 : B ≠ w.heap.size + 1 + 1 := by omega
                go_wp2_with fail
                refine bodyPost_ret (v := cAgg (some ⟨G1, 0, none⟩) ps.length lc1 gX na nc 0) (by simp [results, Try.results39, go_sem, d0, d1, d2, d3]) rfl ?_
                exact ⟨lsX, nxX, gX, 0, _, lc1, na, nc, StInv.rel HINV.out, rfl, ⟨(own_four krq hcv.lo (by decide) _ _ _ _).mono (by omega), (own_four krq hcv.no (by decide) _ _ _ _).mono (by omega), hcv.nx, hcv.ll, hcv.lok, hcv.g0, hcv.w0⟩, (by repeat (first | (with_reducible refine Below.setCell ?_ ?_ _) | (with_reducible refine Below.alloc ?_ ?_ _) | (with_reducible refine Below.drew ?_) | (with_reducible refine below_drewN ?_ _) | (with_reducible exact Below.refl _ _) | (with_reducible refine Below.trans ?_ (Below.mono bv ?_)) | (with_reducible refine Below.trans ?_ (Below.mono be ?_)) | (focus (simp; done)) | (focus (simp; omega)) | (focus omega) | (focus (have q0 := Below.size bv; (try simp at q0); have q1 := Below.size be; (try simp at q1); (try simp); omega))))⟩
          | false =>
            obtain ⟨b0, b1, b2, b3⟩ := kB.four'
            have bl := kB.lt
            go_upto_region 24 with ((go_at_call 58; (with_reducible refine (ref09_Set W.heap.size ps ls1 nx g 0 (some ⟨G1, 0, none⟩) lc1 na1 nc1 _ hcv (by omega)).mono ?_); rintro e w2 ⟨m, rfl, hb2⟩))
            have kB2 := kB.below hb2 bl
            have hcv2 := hcv.below hb2
            have bv2 : RowKit.Below W.heap.size W w2 := (by repeat (first | (with_reducible refine Below.setCell ?_ ?_ _) | (with_reducible refine Below.alloc ?_ ?_ _) | (with_reducible refine Below.drew ?_) | (with_reducible refine below_drewN ?_ _) | (with_reducible exact Below.refl _ _) | (with_reducible refine Below.trans ?_ (Below.mono hb2 ?_)) | (with_reducible refine Below.trans ?_ (Below.mono bv ?_)) | (focus (simp; done)) | (focus (simp; omega)) | (focus omega) | (focus (have q0 := Below.size hb2; (try simp at q0); have q1 := Below.size bv; (try simp at q1); (try simp); omega))))
            clear b0 b1 b2 b3 bl j0 j1 j2 jl kB hcv bv kjr hb2
            obtain ⟨G2, rfl, hG2, hG2l⟩ := hcv2.no.open_ (by omega)
            obtain ⟨b0, b1, b2, b3⟩ := kB2.four'
            have bl := kB2.lt
            have hn2 := hcv2.nx.1
            go_wp2_with fail
            go_loopw [14, 110] (fun s14 s110 wq => ∃ (R : Nat) (db : Bool), s14 = .bool db ∧ s110 = .int .i64 R ∧ R ≤ 2 ∧ w2 = wq) (fun _ s _ => 2 - (intOf s).toNat)
            case atStart => exact ⟨0, _, rfl, rfl, by omega, rfl⟩
            case round =>
              obtain ⟨R, db, rfl, rfl, hR, rfl⟩ := hrel
              by_cases hlt : R < 2
              · have hRi : (R : Int) < 2 := by omega
                have y0 := hcv2.no.cell R (by simp; omega)
                obtain ⟨y, hy⟩ : ∃ y, nx[R]'(by omega) = y := ⟨_, rfl⟩
                simp only [List.getElem_map, encI, hy] at y0
                clear hy
                obtain ⟨yb, hyb⟩ : ∃ b, decide (y < 0) = b := ⟨_, rfl⟩
                go_wp2_with fail
                all_goals
                  go_roundw
                  case rel => exact ⟨R + 1, _, rfl, by go_num, by omega, by first | rfl | trivial⟩
                  case measure => simp [intOf]; omega
              · have hRn : ¬ (R : Int) < 2 := by omega
                clear hlt
                go_upto_if 120 with fail
                have kjr := kj.below bv2 kj.lt
                obtain ⟨j0, j1, j2⟩ : w2.cell? ⟨w.heap.size, 0, none⟩ = _ ∧ w2.cell? ⟨w.heap.size, 1, none⟩ = _ ∧ w2.cell? ⟨w.heap.size, 2, none⟩ = _ := ⟨kjr.cell 0, kjr.cell 1, kjr.cell 2⟩
                have jl := kjr.lt
                go_cut [] (fun wx => ∃ (nxX : List Int) (gX : Int) (na : Option Addr) (nc : Nat), Blk wx B 59 #[.slice (some ⟨G1, 0, none⟩) ps.length lc1, .int .i64 gX, .slice na 2 nc, .int .i64 0] ∧ CtlV wx W.heap.size ps ls1 nxX gX 0 (some ⟨G1, 0, none⟩) lc1 na nc ∧ RowKit.Below W.heap.size W wx)
                case first =>
                  cases db with
                  | false =>
                    go_wp2_with fail
                    go_meet
                    exact ⟨nx, g, _, nc1, kB2, hcv2, bv2⟩
                  | true =>
                    go_upto_region 30 with fail
                    have hg0 := hcv2.g0
                    have hjr2 : JAt w2 W.heap.size jb jc jb2 jc2 ps cs s := (hj.below (bv2.mono hj.lw)).mono hj.lw bv2.size
                    have ew : IntKind.i64.wrap (g + 1) = g + 1 := by rw [IntKind.wrap_i64]; omega
                    have hbv := bv2.size
                    apply wp_region_tab [(B, (B+1))] 8 153 [some 121, some 122, some 123, some 124, some 125, some 126, some 127, some 128] [⟨[8], [], [], []⟩, ⟨[8], [], [], []⟩, ⟨[1, 8], [1, 8], [1, 8], []⟩, ⟨[1, 2, 8], [2], [2], []⟩, ⟨[8], [], [], []⟩, ⟨[4, 8], [4], [4], []⟩, ⟨[1, 2, 3, 4, 5, 8], [3, 5], [3, 5], []⟩, ⟨[0, 1, 2, 3, 4, 5, 6, 8], [0, 6, 8], [0, 6, 8], [8]⟩, ⟨[], [], [], []⟩] [0, 1, 2, 3, 4, 5, 6, 7] [7] [psiTrue, psiTrue, psiTrue, psiTrue, psiTrue, psiTrue, psiTrue, (fun f lo hi v b0 b1 Z => ∃ (nxX : List Int) (gX : Int) (na : Option Addr) (nc : Nat), NextOk ps nxX ∧ 0 ≤ gX ∧ gX ≤ 3 ∧ Own Z W.heap.size 3 1 na 2 nc (nxX.map encI) ∧ (∀ k, na.map (·.block) = some k → b0 ≤ k ∧ k < b1) ∧ Blk Z B 59 #[.slice (some ⟨G1, 0, none⟩) ps.length lc1, .int .i64 gX, .slice na 2 nc, .int .i64 0]), (fun f lo hi v b0 b1 Z => (b0 = B ∧ b1 = (B+1)) ∧ Blk Z B 59 #[.slice (some ⟨G1, 0, none⟩) ps.length lc1, .int .i64 g, .slice (some ⟨G2, 0, none⟩) 2 nc1, .int .i64 0])] [kVal _, kVal _, kVal _, kVal _, kVal _, (fun v => ∃ x : Int, v = .int .i64 x ∧ 1 ≤ x ∧ x ≤ 3), (fun v => ∃ x : Int, v = .int .i64 x ∧ 0 ≤ x ∧ x ≤ 3), kTrue]
                    · kernel_rfl
                    · kernel_rfl
                    · rfl
                    · rfl
                    rotate_left 2
                    refine ⟨?oR2_0, ?oR2_1, ?oR2_2, ?oR2_3, ?oR2_4, ?oR2_5, ?oR2_6, ?oR2_7, trivial⟩
                    case hx => exact ⟨⟨by omega, by omega⟩, by simp, trivial⟩
                    case hX => exact ⟨fun _ _ _ _ => ⟨⟨rfl, rfl⟩, kB2⟩, trivial⟩
                    case oR2_0 =>
                      intro f lo hi w hb hx hf hk hrg R hR; (try replace hb := BelX.zero hb); (try simp (decide := true) only [go_sem] at hf); (try simp (decide := true) only [go_sem] at hk)
                      have kk := hb.blk kjr (fun r hr => by simp at hr; subst hr; simp only; omega)
                      have e0 := kk.cell 0
                      have e1 := kk.cell 1
                      have e2 := kk.cell 2
                      go_simp
                      exact hR _ _ (rpost_val rfl rfl (Below.refl _ _) rfl)
                    case oR2_1 => intro f lo hi w hb hx hf hk hrg R hR; (try replace hb := BelX.zero hb); (try simp (decide := true) only [go_sem] at hf); (try simp (decide := true) only [go_sem] at hk); go_simp; exact hR _ _ (rpost_val rfl rfl (Below.refl _ _) rfl)
                    case oR2_2 =>
                      intro f lo hi w hb hx hf hk hrg R hR; (try replace hb := BelX.zero hb); (try simp (decide := true) only [go_sem] at hf); (try simp (decide := true) only [go_sem] at hk)
                      obtain ⟨-, kb⟩ := hf
                      have e1 := kb.cell 1
                      go_simp
                      exact hR _ _ (rpost_val rfl rfl (Below.refl _ _) rfl)
                    case oR2_3 => intro f lo hi w hb hx hf hk hrg R hR; (try replace hb := BelX.zero hb); (try simp (decide := true) only [go_sem] at hf); (try simp (decide := true) only [go_sem] at hk); go_simp; exact hR _ _ (rpost_val rfl rfl (Below.refl _ _) rfl)
                    case oR2_4 =>
                      intro f lo hi w hb hx hf hk hrg R hR; (try replace hb := BelX.zero hb); (try simp (decide := true) only [go_sem] at hf); (try simp (decide := true) only [go_sem] at hk)
                      have kk := hb.blk kjr (fun r hr => by simp at hr; subst hr; simp only; omega)
                      have e0 := kk.cell 0
                      have e1 := kk.cell 1
                      have e2 := kk.cell 2
                      go_simp
                      exact hR _ _ (rpost_val rfl rfl (Below.refl _ _) rfl)
                    case oR2_5 =>
                      intro f lo hi w hb hx hf hk hrg R hR; (try replace hb := BelX.zero hb); (try simp (decide := true) only [go_sem] at hf); (try simp (decide := true) only [go_sem] at hk)
                      have hbw : RowKit.Below W.heap.size _ w := ⟨hb.1, hb.2.1, hb.2.2.1, hb.2.2.2.1, fun k hk => hb.2.2.2.2 k ⟨by omega, fun r hr => by simp at hr; subst hr; simp only; omega⟩⟩
                      have hjw := hjr2.below hbw
                      clear hbw
                      go_simp
                      (with_reducible refine (ref07_Groups W.heap.size jb jc jb2 jc2 ps cs s _ hjw).mono ?_)
                      rintro e w' ⟨x, rfl, hx1, hx3, hb9⟩
                      exact ⟨_, rfl, hR _ _ (rpost_vb ⟨x, rfl, hx1, hx3⟩ rfl hb9)⟩
                    case oR2_6 =>
                      intro f lo hi w hb hx hf hk hrg R hR; (try replace hb := BelX.zero hb); (try simp (decide := true) only [go_sem] at hf); (try simp (decide := true) only [go_sem] at hk)
                      obtain ⟨h3, x, h5, hx1, hx3⟩ := hk
                      have zx : (x == 0) = false := by rw [beq_eq_false_iff_ne]; omega
                      have zx0 : 0 < x := by omega
                      have hm := rem_bd (g + 1) x (by omega) hx1 hx3
                      have xz : ¬ x = 0 := by omega
                      go_simp
                      try simp only [if_neg xz]
                      exact hR _ _ (rpost_vb ⟨_, rfl, by first | exact hm.2 | exact hm.1⟩ rfl (Below.refl _ _))
                    case oR2_7 =>
                      intro f lo hi w hb hx hf hk hrg R hR; (try replace hb := BelX.zero hb); (try simp (decide := true) only [go_sem] at hf); (try simp (decide := true) only [go_sem] at hk)
                      obtain ⟨-, kb⟩ := hf
                      obtain ⟨h0, ⟨x, h6, hx0, hx3⟩, -⟩ := hk
                      have hbw : RowKit.Below W.heap.size _ w := ⟨hb.1, hb.2.1, hb.2.2.1, hb.2.2.2.1, fun k hk => hb.2.2.2.2 k ⟨by omega, fun r hr => by simp at hr; subst hr; simp only; omega⟩⟩
                      have hjw := hjr2.below hbw
                      have hWw : W.heap.size ≤ w.heap.size := hjw.lw
                      have p1 : lo 8 = _ := (XOk.get _ _ hx 0 _ rfl).1
                      have p2 : hi 8 = _ := (XOk.get _ _ hx 0 _ rfl).2
                      clear hbw
                      go_simp
                      (with_reducible refine (ref09_enter W.heap.size jb jc jb2 jc2 ps cs s x B _ _ _ _ _ hjw kb hWB).mono ?_)
                      rintro e w' ⟨nx9, na9, nc9, rfl, hnx, own9, k9, g9⟩
                      refine ⟨_, rfl, hR _ _ (rpost_some rfl rfl (touch_grown g9 (List.mem_singleton.2 rfl) p1 p2) ?_)⟩
                      (try simp (decide := true) only [go_sem])
                      exact ⟨nx9, x, na9, nc9, hnx, hx0, hx3, own9.mono hWw, fun k hk => ⟨own9.base_le k hk, own9.lt' k hk⟩, k9⟩
                    case hcl =>
                      refine ⟨Closed.true _ _ _ _, Closed.true _ _ _ _, Closed.true _ _ _ _, Closed.true _ _ _ _, Closed.true _ _ _ _, Closed.true _ _ _ _, Closed.true _ _ _ _, ?cR2_7, ?cR2_8, trivial⟩
                      all_goals first
                        | exact fun f lo hi v b0 b1 w w' h hs hB hown hU hX => by
                            obtain ⟨nx9, x, na9, nc9, h1, h2, h3, own, lt, kb⟩ := h
                            exact ⟨nx9, x, na9, nc9, h1, h2, h3, own.keep fun b hb hl _ => by have := lt b (by rw [hb]; rfl); exact hown b this.1 this.2, lt, (hX 0 _ rfl (by simp) _ (Nat.le_refl _) (Nat.lt_succ_self _)).trans kb⟩
                        | exact fun f lo hi v b0 b1 w w' h hs hB hown hU hX => by
                            obtain ⟨⟨rfl, rfl⟩, kb⟩ := h
                            exact ⟨⟨rfl, rfl⟩, (hown _ (Nat.le_refl _) (Nat.lt_succ_self _)).trans kb⟩
                    intro f lo hi W7 hbr hx hf hk hrg; (try replace hbr := BelX.zero hbr); clear hx; (try simp (decide := true) only [go_sem] at hf); (try simp (decide := true) only [go_sem] at hk)
                    obtain ⟨nx9, x, na9, nc9, hnx, hx0, hx3, own9, -, k9⟩ := hf
                    have hold : ∀ k, k < w2.heap.size → k ≠ B → W7.heap[k]? = w2.heap[k]? := fun k h1 h2 => hbr.2.2.2.2 k ⟨h1, fun r hr => by simp at hr; subst hr; simp only; omega⟩
                    have hcv7 : CtlV W7 W.heap.size ps ls1 nx9 x 0 (some ⟨G1, 0, none⟩) lc1 na9 nc9 := ⟨hcv2.lo.keep fun b e _ hl => hold b hl (fun e' => hcv2.lo.ne_blk kB2 (by decide) (by rw [e, e']; rfl)), own9, hnx, hcv2.ll, hcv2.lok, ⟨hx0, hx3⟩, hcv2.w0⟩
                    have bv7 : RowKit.Below W.heap.size W W7 := ⟨hbr.1.trans bv2.os, hbr.2.1.trans bv2.tape, hbr.2.2.1.trans bv2.output, Nat.le_trans hbv hbr.2.2.2.1, fun k hk => (hold k (by omega) (by omega)).trans (bv2.block k hk)⟩
                    clear hrg hbr hold own9
                    go_simp
                    clear hk ew
                    go_wp2_with fail
                    go_meet
                    exact ⟨nx9, x, na9, nc9, k9, hcv7, bv7⟩
                case rest =>
                  clear j0 j1 j2 jl b0 b1 b2 b3 bl kB2 hcv2 bv2 kjr hG2 hG2l
                  obtain ⟨nxX, gX, na, nc, kB, hcv, bv⟩ := hcut
                  go_wp2_with fail
                  go_loopw [129] (fun s129 wq => ∃ (R : Nat) (lsX : List (Int × Int)) (nxX : List Int) (gX : Int) (na : Option Addr) (nc : Nat), s129 = .int .i64 R ∧ R ≤ 2 ∧ StInv ps ls lsX ∧ Blk wq B 59 #[.slice (some ⟨G1, 0, none⟩) ps.length lc1, .int .i64 gX, .slice na 2 nc, .int .i64 0] ∧ CtlV wq W.heap.size ps lsX nxX gX 0 (some ⟨G1, 0, none⟩) lc1 na nc ∧ RowKit.Below W.heap.size W wq) (fun s _ => 2 - (intOf s).toNat)
                  case atStart => exact ⟨0, ls1, nxX, gX, na, nc, rfl, by omega, HINV.out, kB, hcv, bv⟩
                  case round =>
                    clear kB hcv bv HINV
                    obtain ⟨R, lsX, nxX, gX, na, nc, rfl, hR, hinv, kB, hcv, bv⟩ := hrel
                    have HINV := Lib.hid hinv
                    clear hinv
                    have kjr := kj.below bv kj.lt
                    obtain ⟨j0, j1, j2⟩ : wr.cell? ⟨w.heap.size, 0, none⟩ = _ ∧ wr.cell? ⟨w.heap.size, 1, none⟩ = _ ∧ wr.cell? ⟨w.heap.size, 2, none⟩ = _ := ⟨kjr.cell 0, kjr.cell 1, kjr.cell 2⟩
                    have jl := kjr.lt
                    obtain ⟨b0, b1, b2, b3⟩ := kB.four'
                    have bl := kB.lt
                    have hjr : JAt wr W.heap.size jb jc jb2 jc2 ps cs s := (hj.below (bv.mono hj.lw)).mono hj.lw bv.size
                    by_cases hlt : R < 2
                    · have hRi : (R : Int) < 2 := by omega
                      obtain ⟨G2, rfl, hG2, hG2l⟩ := hcv.no.open_ (by omega)
                      have hn2 := hcv.nx.1
                      have y0 := hcv.no.cell R (by simp; omega)
                      have hyr := hcv.nx.2 R (by omega)
                      obtain ⟨y, hy⟩ : ∃ y, nxX[R]'(by omega) = y := ⟨_, rfl⟩
                      simp only [List.getElem_map, encI, hy] at y0
                      rw [hy] at hyr
                      have HY := Lib.hid hy
                      clear hy
                      have hcase : (y = -1) ∨ ∃ q0 : Nat, ∃ h : q0 < ps.length, y = (q0 : Int) ∧ ps[q0].ring = (R : Int) := hyr
                      clear hyr
                      rcases hcase with rfl | ⟨q0, hq0, rfl, hqr⟩
                      · go_wp2_with ((go_at_call 56; (with_reducible refine (ref09_idle W.heap.size jb jc jb2 jc2 ps cs s (R : Int) W.heap.size lsX nxX gX 0 (some ⟨G1, 0, none⟩) lc1 (some ⟨G2, 0, none⟩) nc _ hjr hcv).mono ?_); rintro e w3 ⟨ib, rfl, hib, hb3⟩; (clear hib; (have kB3 := kB.below hb3 bl); (have hcv3 := hcv.below hb3); (have bv3 : RowKit.Below W.heap.size W w3 := (by repeat (first | (with_reducible refine Below.setCell ?_ ?_ _) | (with_reducible refine Below.alloc ?_ ?_ _) | (with_reducible refine Below.drew ?_) | (with_reducible refine below_drewN ?_ _) | (with_reducible exact Below.refl _ _) | (with_reducible refine Below.trans ?_ (Below.mono hb3 ?_)) | (with_reducible refine Below.trans ?_ (Below.mono bv ?_)) | (focus (simp; done)) | (focus (simp; omega)) | (focus omega) | (focus (have q0 := Below.size hb3; (try simp at q0); have q1 := Below.size bv; (try simp at q1); (try simp); omega))))); clear b0 b1 b2 b3 bl j0 j1 j2 jl y0; (obtain ⟨b0, b1, b2, b3⟩ := kB3.four'); (have bl := kB3.lt); (have y0 := hcv3.no.cell R (by simp; omega)); (simp only [List.getElem_map, encI, HY.out] at y0); (have gl := hcv3.no.lt' G2 rfl))))
                        all_goals
                          go_roundw
                          case rel => exact ⟨R + 1, lsX, nxX, gX, _, nc, by go_num, by omega, HINV.out, kB3, hcv3, bv3⟩
                          case measure => simp [intOf]; omega
                      · skip
                        have HQR := Lib.hid hqr
                        clear hqr
                        have hq00 : (0 : Int) ≤ (q0 : Int) := by omega
                        go_wp2_with ((go_at_call 56; (with_reducible refine (ref09_idle W.heap.size jb jc jb2 jc2 ps cs s (R : Int) W.heap.size lsX nxX gX 0 (some ⟨G1, 0, none⟩) lc1 (some ⟨G2, 0, none⟩) nc _ hjr hcv).mono ?_); rintro e w3 ⟨ib, rfl, hib, hb3⟩; ((have HIB := Lib.hid hib); clear hib; (have kB3 := kB.below hb3 bl); (have hcv3 := hcv.below hb3); (have bv3 : RowKit.Below W.heap.size W w3 := (by repeat (first | (with_reducible refine Below.setCell ?_ ?_ _) | (with_reducible refine Below.alloc ?_ ?_ _) | (with_reducible refine Below.drew ?_) | (with_reducible refine below_drewN ?_ _) | (with_reducible exact Below.refl _ _) | (with_reducible refine Below.trans ?_ (Below.mono hb3 ?_)) | (with_reducible refine Below.trans ?_ (Below.mono bv ?_)) | (focus (simp; done)) | (focus (simp; omega)) | (focus omega) | (focus (have q0 := Below.size hb3; (try simp at q0); have q1 := Below.size bv; (try simp at q1); (try simp); omega))))); (have kj3 := kj.below bv3 kj.lt); (have hjr3 : JAt w3 W.heap.size jb jc jb2 jc2 ps cs s := (hj.below (bv3.mono hj.lw)).mono hj.lw bv3.size); clear b0 b1 b2 b3 bl j0 j1 j2 jl y0; (obtain ⟨j0, j1, j2⟩ : w3.cell? ⟨w.heap.size, 0, none⟩ = _ ∧ w3.cell? ⟨w.heap.size, 1, none⟩ = _ ∧ w3.cell? ⟨w.heap.size, 2, none⟩ = _ := ⟨kj3.cell 0, kj3.cell 1, kj3.cell 2⟩); (have jl := kj3.lt); (obtain ⟨b0, b1, b2, b3⟩ := kB3.four'); (have bl := kB3.lt); (have y0 := hcv3.no.cell R (by simp; omega)); (simp only [List.getElem_map, encI, HY.out] at y0); (have gl := hcv3.no.lt' G2 rfl))))
                        · go_still_tail 6, (by kernel_rfl)
                          have kBd : Blk w3.drew B 59 #[.slice (some ⟨G1, 0, none⟩) ps.length lc1, .int .i64 gX, .slice (some ⟨G2, 0, none⟩) 2 nc, .int .i64 0] := kB3.drewN 1
                          have hcvd : CtlV w3.drew W.heap.size ps lsX nxX gX 0 (some ⟨G1, 0, none⟩) lc1 (some ⟨G2, 0, none⟩) nc := hcv3.drewN 1
                          have bd3 : RowKit.Below W.heap.size W w3.drew := (by repeat (first | (with_reducible refine Below.setCell ?_ ?_ _) | (with_reducible refine Below.alloc ?_ ?_ _) | (with_reducible refine Below.drew ?_) | (with_reducible refine below_drewN ?_ _) | (with_reducible exact Below.refl _ _) | (with_reducible refine Below.trans ?_ (Below.mono bv3 ?_)) | (focus (simp; done)) | (focus (simp; omega)) | (focus omega) | (focus (have q0 := Below.size bv3; (try simp at q0); (try simp); omega))))
                          have hjrd : JAt w3.drew W.heap.size jb jc jb2 jc2 ps cs s := (hj.below (bd3.mono hj.lw)).mono hj.lw bd3.size
                          go_wp2_with ((go_at_call 57; (with_reducible refine (ref09_begin W.heap.size jb jc jb2 jc2 ps cs s lsX nxX gX 0 (some ⟨G1, 0, none⟩) lc1 (some ⟨G2, 0, none⟩) nc B q0 R _ hjrd kBd hcvd hWB hq0 hlt HQR.out).mono ?_); rintro e w4 ⟨ls4, nx4, g4, na4, nc4, rfl, hls, kB4, hcv4, hb4⟩))
                          go_roundw
                          case rel => exact ⟨R + 1, ls4, nx4, g4, na4, nc4, by go_num, by omega, stInv_begin HINV.out hls (fun h => HIB.out (by first | rfl | assumption) q0 hq0 h HQR.out), kB4, hcv4, (by repeat (first | (with_reducible refine Below.setCell ?_ ?_ _) | (with_reducible refine Below.alloc ?_ ?_ _) | (with_reducible refine Below.drew ?_) | (with_reducible refine below_drewN ?_ _) | (with_reducible exact Below.refl _ _) | (with_reducible refine Below.trans ?_ (Below.mono hb4 ?_)) | (with_reducible refine Below.trans ?_ (Below.mono bd3 ?_)) | (focus (simp; done)) | (focus (simp; omega)) | (focus omega) | (focus (have q0 := Below.size hb4; (try simp at q0); have q1 := Below.size bd3; (try simp at q1); (try simp); omega))))⟩
                          case measure => simp [intOf]; omega
                        · go_roundw
                          case rel => exact ⟨R + 1, lsX, nxX, gX, _, nc, by go_num, by omega, HINV.out, kB3, hcv3, bv3⟩
                          case measure => simp [intOf]; omega
                    · obtain rfl : R = 2 := by omega
                      have krq := kr.below bv kr.lt
                      obtain ⟨d0, d1, d2, d3⟩ := krq.four'
                      have df := krq.frozen
                      have dl := krq.lt
                      have nB1 : w.heap.size + 1 + 1 ≠ B := by omega
                      have nB2 : B ≠ w.heap.size + 1 + 1 := by omega
                      go_wp2_with fail
                      refine bodyPost_ret (v := cAgg (some ⟨G1, 0, none⟩) ps.length lc1 gX na nc 0) (by simp [results, Try.results39, go_sem, d0, d1, d2, d3]) rfl ?_
                      exact ⟨lsX, nxX, gX, 0, _, lc1, na, nc, StInv.rel HINV.out, rfl, ⟨(own_four krq hcv.lo (by decide) _ _ _ _).mono (by omega), (own_four krq hcv.no (by decide) _ _ _ _).mono (by omega), hcv.nx, hcv.ll, hcv.lok, hcv.g0, hcv.w0⟩, (by repeat (first | (with_reducible refine Below.setCell ?_ ?_ _) | (with_reducible refine Below.alloc ?_ ?_ _) | (with_reducible refine Below.drew ?_) | (with_reducible refine below_drewN ?_ _) | (with_reducible exact Below.refl _ _) | (with_reducible refine Below.trans ?_ (Below.mono bv ?_)) | (with_reducible refine Below.trans ?_ (Below.mono be ?_)) | (focus (simp; done)) | (focus (simp; omega)) | (focus omega) | (focus (have q0 := Below.size bv; (try simp at q0); have q1 := Below.size be; (try simp at q1); (try simp); omega))))⟩
end Go.Proofs.Ytpjnajallekjoaa
