/- signalbrokerref09.begin -/
import Derived.Test.YtpjnajallekjoaaRef09b
namespace Go.Proofs.Ytpjnajallekjoaa
set_option linter.unusedVariables false
open Go.RowKit Go.Sort
set_option maxRecDepth 100000

theorem liCells_set : ∀ (l : List (Int × Int)) (i : Nat) (a b : Int), ((liCells l).set (i * 2) (.int .i64 a)).set (i * 2 + 1) (.int .i64 b) = liCells (l.set i (a, b))
  | [], i, a, b => rfl
  | x :: l, 0, a, b => rfl
  | x :: l, i + 1, a, b => by
    have := liCells_set l i a b
    have e : liCells (x :: l) = .int .i64 x.1 :: .int .i64 x.2 :: liCells l := rfl
    have e2 : liCells ((x :: l).set (i + 1) (a, b)) = .int .i64 x.1 :: .int .i64 x.2 :: liCells (l.set i (a, b)) := rfl
    rw [e, e2, ← this, show (i + 1) * 2 = i * 2 + 1 + 1 by omega]
    rfl
/-- a light has been written -/
theorem CtlV.light {W : World} {base : Nat} {ps : List Ph} {ls : List (Int × Int)} {nx : List Int} {g wt : Int} {G lc : Nat} {na : Option Addr} {nc : Nat} (h : CtlV W base ps ls nx g wt (some ⟨G, 0, none⟩) lc na nc) (q : Nat) (hq : q < ps.length) (a b : Int) (hok : LiOk ps[q] a b) :
    CtlV ((W.setCell ⟨G, q * 2, none⟩ (.int .i64 a)).setCell ⟨G, q * 2 + 1, none⟩ (.int .i64 b)) base ps (ls.set q (a, b)) nx g wt (some ⟨G, 0, none⟩) lc na nc := by
  have hne : ∀ i, na.map (·.block) ≠ some (⟨G, i, none⟩ : Addr).block := fun i e => by
    cases hna : na with
    | none => rw [hna] at e; cases e
    | some ad =>
      rcases h.lo.2 with ⟨h0, _⟩ | ⟨g1, c1, cur, hv, _, hh, _⟩
      · cases h0
      · injection hv with hv _ _
        injection hv with hv
        injection hv with hv _ _
        subst hv
        exact h.no.ne_blk (g := G) (t := 90) (cs := cur) hh (by decide) (by rw [hna]; rw [hna] at e; exact e)
  refine ⟨?_, (h.no.far (hne _) _).far (hne _) _, h.nx, by rw [List.length_set]; exact h.ll, fun i hi hi' => ?_, h.g0, h.w0⟩
  · rw [← liCells_set]
    exact (h.lo.set _ _).set _ _
  · by_cases e : q = i
    · subst e
      simp only [List.getElem_set_self]
      exact hok
    · simp only [List.getElem_set_ne e]
      exact h.lok i hi (by simpa using hi')
theorem LiOk.g' (p : Ph) : LiOk p 1 0 := .inr (.inl ⟨rfl, by omega, by omega⟩)
theorem CtlV.drewN {W : World} {base : Nat} {ps : List Ph} {ls : List (Int × Int)} {nx : List Int} {g wt : Int} {la : Option Addr} {lc : Nat} {na : Option Addr} {nc : Nat} (h : CtlV W base ps ls nx g wt la lc na nc) (n : Nat) : CtlV (W.drewN n) base ps ls nx g wt la lc na nc :=
  ⟨h.lo.keep fun _ _ _ _ => rfl, h.no.keep fun _ _ _ _ => rfl, h.nx, h.ll, h.lok, h.g0, h.w0⟩
theorem blk_new2 (w : World) (p q : Addr) (u v : Value) (e : TypeId) (C : Array Value) : Blk (((w.setCell p u).setCell q v).alloc (.cells C e)) w.heap.size e C := by
  have := Blk.new ((w.setCell p u).setCell q v) e C
  simpa [World.setCell] using this
theorem rpost_vb {rows : List RDat} {ψs : List Psi} {ks : List (Value → Prop)} {f : Nat → Value} {lo hi : Nat → Nat} {i : Nat} {w w' : World} {v : Value} (hk : (ks.getD i kTrue) v) (hψ : ψs.getD i psiTrue = psiTrue) (hb : Below w.heap.size w w') : RPost rows ψs f lo hi ks i w v w' := by
  unfold RPost
  rw [hψ]
  exact ⟨.of_below hb, hk, trivial⟩
def BeginR (ps : List Ph) (ls : List (Int × Int)) (wt : Int) (la : Option Addr) (lc B base q : Nat) (w : World) (e : Ending) (w' : World) : Prop :=
  ∃ (ls' : List (Int × Int)) (nx' : List Int) (g' : Int) (na' : Option Addr) (nc' : Nat), e = .returned (.tuple #[]) ∧ (ls' = ls ∨ ls' = ls.set q (1, 0)) ∧ Blk w' B 59 #[.slice la ps.length lc, .int .i64 g', .slice na' 2 nc', .int .i64 wt] ∧ CtlV w' base ps ls' nx' g' wt la lc na' nc' ∧ Below base w w'
set_option maxHeartbeats 8000000 in
theorem ref09_begin (base jb jc jb2 jc2 : Nat) (ps : List Ph) (cs : List Int) (s : Int) (ls : List (Int × Int)) (nx : List Int) (g wt : Int) (la : Option Addr) (lc : Nat) (na : Option Addr) (nc B q RI : Nat) (w : World) (hj : JAt w base jb jc jb2 jc2 ps cs s) (hk : Blk w B 59 #[.slice la ps.length lc, .int .i64 g, .slice na 2 nc, .int .i64 wt]) (hc : CtlV w base ps ls nx g wt la lc na nc) (hB : base ≤ B) (hq : q < ps.length) (hRI : RI < 2) (hqR : ps[q].ring = RI) :
    Calls Try.prog 57 #[jAgg jb jc jb2 jc2 ps.length s, .pointer (some ⟨B, 0, none⟩), .int .i64 (q : Int)] w (BeginR ps ls wt la lc B base q w) := by
  have hn := hj.n1
  have hlw := hj.lw
  have hBl := hk.lt
  have HQR := Lib.hid hqR
  clear hqR
  obtain ⟨b0, b1, b2, b3⟩ := hk.four'
  go_enter Try.func57, Try.ntmps57
  go_wp2
  clear b0 b1 b2 b3
  go_loopw [14] (fun s14 wr => ∃ i : Nat, s14 = .int .i64 i ∧ i ≤ ps.length ∧ Blk wr w.heap.size 55 #[.slice (some ⟨jb, 0, none⟩) ps.length jc, .slice (some ⟨jb2, 0, none⟩) ps.length jc2, .int .i64 s] ∧ RowKit.Below w.heap.size w wr ∧ w.heap.size + 1 ≤ wr.heap.size) (fun s _ => ps.length - (intOf s).toNat)
  case atStart => exact ⟨0, rfl, by omega, Blk.new _ _ _, (by repeat (first | (with_reducible refine Below.setCell ?_ ?_ _) | (with_reducible refine Below.alloc ?_ ?_ _) | (with_reducible refine Below.drew ?_) | (with_reducible refine below_drewN ?_ _) | (with_reducible exact Below.refl _ _) | (focus (simp; done)) | (focus (simp; omega)) | (focus omega))), by simp⟩
  case round =>
    obtain ⟨i, rfl, hi, kj, be, sz⟩ := hrel
    obtain ⟨j0, j1, j2⟩ : wr.cell? ⟨w.heap.size, 0, none⟩ = _ ∧ wr.cell? ⟨w.heap.size, 1, none⟩ = _ ∧ wr.cell? ⟨w.heap.size, 2, none⟩ = _ := ⟨kj.cell 0, kj.cell 1, kj.cell 2⟩
    have jl := kj.lt
    by_cases hlt : i < ps.length
    · have hil : i < ls.length := by have := hc.ll; omega
      obtain ⟨G, rfl, hG, hGl, x0, x1, -, -⟩ := light_cell (hc.lo.below be (Nat.le_refl _)) hc.ll i hil
      obtain ⟨lm, hlm⟩ : ∃ lm, ls[i].1 = lm := ⟨_, rfl⟩
      rw [hlm] at x0
      clear hlm
      by_cases hz : lm = 0
      · subst hz
        go_wp2_with fail
        go_roundw
        case rel => exact ⟨i + 1, by go_num, by omega, kj.alloc _, (by repeat (first | (with_reducible refine Below.setCell ?_ ?_ _) | (with_reducible refine Below.alloc ?_ ?_ _) | (with_reducible refine Below.drew ?_) | (with_reducible refine below_drewN ?_ _) | (with_reducible exact Below.refl _ _) | (with_reducible refine Below.trans ?_ (Below.mono be ?_)) | (focus (simp; done)) | (focus (simp; omega)) | (focus omega) | (focus (have q0 := Below.size be; (try simp at q0); (try simp); omega)))), by simp; omega⟩
        case measure => simp [intOf]; omega
      · have z0 : (lm != 0) = true := by rw [bne_iff_ne]; exact hz
        clear hz
        go_wp2_with ((go_at_call 53; (with_reducible refine (ref06_Conflict (some ⟨jb2, 0, none⟩) cs ps.length jc2 (i : Int) (q : Int) _ (hj.below (show RowKit.Below base w _ from (by repeat (first | (with_reducible refine Below.setCell ?_ ?_ _) | (with_reducible refine Below.alloc ?_ ?_ _) | (with_reducible refine Below.drew ?_) | (with_reducible refine below_drewN ?_ _) | (with_reducible exact Below.refl _ _) | (with_reducible refine Below.trans ?_ (Below.mono be ?_)) | (focus (simp; done)) | (focus (simp; omega)) | (focus omega) | (focus (have q0 := Below.size be; (try simp at q0); (try simp); omega)))))).cf hj.cl.symm (by omega)).mono ?_); rintro e w2 ⟨b2, rfl, rfl⟩))
        all_goals first | (go_roundw; (case rel => exact ⟨i + 1, by go_num, by omega, kj.alloc _, (by repeat (first | (with_reducible refine Below.setCell ?_ ?_ _) | (with_reducible refine Below.alloc ?_ ?_ _) | (with_reducible refine Below.drew ?_) | (with_reducible refine below_drewN ?_ _) | (with_reducible exact Below.refl _ _) | (with_reducible refine Below.trans ?_ (Below.mono be ?_)) | (focus (simp; done)) | (focus (simp; omega)) | (focus omega) | (focus (have q0 := Below.size be; (try simp at q0); (try simp); omega)))), by simp; omega⟩); (case measure => simp [intOf]; omega)) | (refine bodyPost_ret (results_none rfl _ _ _) rfl ?_; exact ⟨ls, nx, g, na, nc, rfl, .inl rfl, (hk.below be hBl).alloc _, (hc.below be).alloc _, (by repeat (first | (with_reducible refine Below.setCell ?_ ?_ _) | (with_reducible refine Below.alloc ?_ ?_ _) | (with_reducible refine Below.drew ?_) | (with_reducible refine below_drewN ?_ _) | (with_reducible exact Below.refl _ _) | (with_reducible refine Below.trans ?_ (Below.mono be ?_)) | (focus (simp; done)) | (focus (simp; omega)) | (focus omega) | (focus (have q0 := Below.size be; (try simp at q0); (try simp); omega))))⟩)
    · obtain rfl : i = ps.length := by omega
      clear hlt
      have hql : q < ls.length := by have := hc.ll; omega
      obtain ⟨G, rfl, hG, hGl, x0, x1, fz0, fz1⟩ := light_cell (hc.lo.below be (Nat.le_refl _)) hc.ll q hql
      have hGw : G < w.heap.size := hc.lo.lt' G rfl
      obtain ⟨p0, p1, p2, p3, p4, p5, p6, p7⟩ := row_phase (hj.below (be.mono hlw)).ph q hq
      have hjb : jb < wr.heap.size := by have := hj.lb; have := be.size; omega
      have hok := hj.ok _ (List.getElem_mem hq)
      have hg2 := hok.group
      have hlok := LiOk.g' ps[q]
      obtain ⟨p, hp⟩ : ∃ p, ps[q] = p := ⟨_, rfl⟩
      rw [hp] at p0 p1 p2 p3 p4 p5 p6 p7 hg2
      have HP := Lib.hid hp
      clear hp hok
      obtain ⟨r, gr, mg, xg, yl, rd, wk, cl⟩ := p
      simp only at p0 p1 p2 p3 p4 p5 p6 p7 hg2
      have hrR : r = RI := by have := HQR.out; rw [HP.out] at this; exact this
      have HRR := Lib.hid hrR
      clear hrR
      have kB := hk.below be hBl
      obtain ⟨b0, b1, b2, b3⟩ := kB.four'
      have bl := kB.lt
      go_upto_region 8 with fail
      have hGB : G ≠ B := fun e => hc.lo.ne_blk hk (by decide) (by rw [e]; rfl)
      refine wp_named (fun V => Blk V w.heap.size 55 #[.slice (some ⟨jb, 0, none⟩) ps.length jc, .slice (some ⟨jb2, 0, none⟩) ps.length jc2, .int .i64 s] ∧ Blk V wr.heap.size 85 #[.int .i64 r, .int .i64 gr, .int .i64 mg, .int .i64 xg, .int .i64 yl, .int .i64 rd, .int .i64 wk, .int .i64 cl] ∧ Blk V B 59 #[.slice (some ⟨G, 0, none⟩) ps.length lc, .int .i64 g, .slice na 2 nc, .int .i64 wt] ∧ CtlV V base ps (ls.set q (1, 0)) nx g wt (some ⟨G, 0, none⟩) lc na nc ∧ RowKit.Below base w V) ⟨((kj.far (by simp; omega) _).far (by simp; omega) _).alloc _, blk_new2 wr _ _ _ _ _ _, ((kB.far (fun e => hGB e.symm) _).far (fun e => hGB e.symm) _).alloc _, ((hc.below be).light q hq 1 0 hlok).alloc _, (by repeat (first | (with_reducible refine Below.setCell ?_ ?_ _) | (with_reducible refine Below.alloc ?_ ?_ _) | (with_reducible refine Below.drew ?_) | (with_reducible refine below_drewN ?_ _) | (with_reducible exact Below.refl _ _) | (with_reducible refine Below.trans ?_ (Below.mono be ?_)) | (focus (simp; done)) | (focus (simp; omega)) | (focus omega) | (focus (have q0 := Below.size be; (try simp at q0); (try simp); omega))))⟩ ?_
      clear kj kB b0 b1 b2 b3 bl x0 x1 fz0 fz1 p0 p1 p2 p3 p4 p5 p6 p7 j0 j1 j2 jl
      have hwrz := be.size
      clear be
      rintro V ⟨kj, kX, kB, hcv, be⟩
      obtain ⟨b0, b1, b2, b3⟩ := kB.four'
      obtain ⟨x0, x1, x2, x3, x4, x5, x6, x7⟩ := kX.eight
      go_quiet (fail)
      go_upto_if 48 with fail
      go_cut [] (fun wx => ∃ (nx' : List Int) (g' : Int) (na' : Option Addr) (nc' : Nat), Blk wx w.heap.size 55 #[.slice (some ⟨jb, 0, none⟩) ps.length jc, .slice (some ⟨jb2, 0, none⟩) ps.length jc2, .int .i64 s] ∧ Blk wx wr.heap.size 85 #[.int .i64 r, .int .i64 gr, .int .i64 mg, .int .i64 xg, .int .i64 yl, .int .i64 rd, .int .i64 wk, .int .i64 cl] ∧ Blk wx B 59 #[.slice (some ⟨G, 0, none⟩) ps.length lc, .int .i64 g', .slice na' 2 nc', .int .i64 wt] ∧ CtlV wx base ps (ls.set q (1, 0)) nx' g' wt (some ⟨G, 0, none⟩) lc na' nc' ∧ RowKit.Below base w wx)
      case first =>
        by_cases hg : g = gr
        · subst hg
          go_wp2_with fail
          go_meet
          exact ⟨nx, g, na, nc, kj.drewN _, kX.drewN _, kB.drewN _, hcv.drewN _, (by repeat (first | (with_reducible refine Below.setCell ?_ ?_ _) | (with_reducible refine Below.alloc ?_ ?_ _) | (with_reducible refine Below.drew ?_) | (with_reducible refine below_drewN ?_ _) | (with_reducible exact Below.refl _ _) | (with_reducible refine Below.trans ?_ (Below.mono be ?_)) | (focus (simp; done)) | (focus (simp; omega)) | (focus omega) | (focus (have q0 := Below.size be; (try simp at q0); (try simp); omega))))⟩
        · have zg : (g != gr) = true := by rw [bne_iff_ne]; exact hg
          clear hg
          obtain ⟨j0, j1, j2⟩ : V.cell? ⟨w.heap.size, 0, none⟩ = _ ∧ V.cell? ⟨w.heap.size, 1, none⟩ = _ ∧ V.cell? ⟨w.heap.size, 2, none⟩ = _ := ⟨kj.cell 0, kj.cell 1, kj.cell 2⟩
          go_wp2_with ((go_at_call 51; (with_reducible refine (ref09_enter base jb jc jb2 jc2 ps cs s gr B _ _ _ _ _ (hj.below (show RowKit.Below base w _ from (by repeat (first | (with_reducible refine Below.setCell ?_ ?_ _) | (with_reducible refine Below.alloc ?_ ?_ _) | (with_reducible refine Below.drew ?_) | (with_reducible refine below_drewN ?_ _) | (with_reducible exact Below.refl _ _) | (with_reducible refine Below.trans ?_ (Below.mono be ?_)) | (focus (simp; done)) | (focus (simp; omega)) | (focus omega) | (focus (have q0 := Below.size be; (try simp at q0); (try simp); omega)))))) (kB.drewN _) hB).mono ?_); rintro e w9 ⟨nx9, na9, nc9, rfl, hnx, own9, k9, g9⟩))
          go_meet
          have hVz := be.size
          exact ⟨nx9, gr, na9, nc9, (kj.drewN _).grown g9 (by omega), (kX.drewN _).grown g9 (by omega), k9, ⟨(hcv.drewN _).lo.keep fun b e _ hlt => g9.block b hlt (fun e' => by injection e with e; injection e with e _ _; injection e' with e'; exact hGB (by rw [e, e'])), own9.mono (by simp; omega), hnx, hcv.ll, hcv.lok, by omega, hcv.w0⟩, (show RowKit.Below base w _ from (by repeat (first | (with_reducible refine Below.setCell ?_ ?_ _) | (with_reducible refine Below.alloc ?_ ?_ _) | (with_reducible refine Below.drew ?_) | (with_reducible refine below_drewN ?_ _) | (with_reducible exact Below.refl _ _) | (with_reducible refine Below.trans ?_ (Below.mono be ?_)) | (focus (simp; done)) | (focus (simp; omega)) | (focus omega) | (focus (have q0 := Below.size be; (try simp at q0); (try simp); omega))))).grown g9 (by simp; omega) (fun k hk => by injection hk with hk; omega)⟩
      case rest =>
        clear kj kX kB hcv be b0 b1 b2 b3 x0 x1 x2 x3 x4 x5 x6 x7
        obtain ⟨nx', g', na', nc', kj, kX, kB, hcv, be⟩ := hcut
        obtain ⟨G2, rfl, hG2, hG2l⟩ := hcv.no.open_ (by omega)
        have hnR : RI < nx'.length := by have := hcv.nx.1; omega
        have hG2B : G2 ≠ B := fun e => hcv.no.ne_blk kB (by decide) (by rw [e]; rfl)
        have hG2j : G2 ≠ w.heap.size := fun e => hcv.no.ne_blk kj (by decide) (by rw [e]; rfl)
        have hG2x : G2 ≠ wr.heap.size := fun e => hcv.no.ne_blk kX (by decide) (by rw [e]; rfl)
        have HR0 := HRR.out
        subst HR0
        go_upto_region 10 with fail
        refine wp_named (fun U => Blk U w.heap.size 55 #[.slice (some ⟨jb, 0, none⟩) ps.length jc, .slice (some ⟨jb2, 0, none⟩) ps.length jc2, .int .i64 s] ∧ Blk U wr.heap.size 85 #[.int .i64 (RI : Int), .int .i64 gr, .int .i64 mg, .int .i64 xg, .int .i64 yl, .int .i64 rd, .int .i64 wk, .int .i64 cl] ∧ Blk U B 59 #[.slice (some ⟨G, 0, none⟩) ps.length lc, .int .i64 g', .slice (some ⟨G2, 0, none⟩) 2 nc', .int .i64 wt] ∧ CtlV U base ps (ls.set q (1, 0)) nx' g' wt (some ⟨G, 0, none⟩) lc (some ⟨G2, 0, none⟩) nc' ∧ RowKit.Below base w U ∧ G2 < U.heap.size) ⟨kj, kX, kB, hcv, be, hG2l⟩ ?_
        clear kj kX kB hcv be hG2l
        rintro U ⟨kj, kX, kB, hcv, be, hG2l⟩
        have hRi : (RI : Int) < 2 := by omega
        have kjl := kj.lt
        have kXl := kX.lt
        have kBl := kB.lt
        apply wp_region_tab [(G2, (G2+1))] 15 68 [some 54, some 55, some 56, some 57, some 58, some 59, some 60, some 61, some 62, some 63, some 64, some 65, some 66, some 67, none] [⟨[15], [], [], []⟩, ⟨[0, 15], [0], [0], []⟩, ⟨[0, 1, 15], [1], [1], []⟩, ⟨[0, 1, 2, 15], [2], [2], []⟩, ⟨[15], [], [], []⟩, ⟨[4, 15], [4], [4], []⟩, ⟨[15], [], [], []⟩, ⟨[15], [], [], []⟩, ⟨[7, 15], [7], [7], []⟩, ⟨[15], [], [], []⟩, ⟨[9, 15], [9], [9], []⟩, ⟨[15], [], [], []⟩, ⟨[6, 7, 8, 9, 10, 11, 15], [6, 8, 10, 11], [6, 8, 10, 11], []⟩, ⟨[0, 1, 2, 3, 4, 5, 6, 7, 8, 9, 10, 11, 12, 15], [3, 5], [3, 5], []⟩, ⟨[0, 1, 2, 3, 4, 5, 6, 7, 8, 9, 10, 11, 12, 13, 15], [12, 13, 15], [12, 13, 15], [15]⟩, ⟨[], [], [], []⟩] [0, 1, 2, 3, 4, 5, 6, 7, 8, 9, 10, 11, 12, 13, 14] [14] [psiTrue, psiTrue, psiTrue, psiTrue, psiTrue, psiTrue, psiTrue, psiTrue, psiTrue, psiTrue, psiTrue, psiTrue, psiTrue, psiTrue, (fun f lo hi v b0 b1 W => ∃ x : Int, InRing ps (RI : Int) x ∧ Own W base 3 1 (some ⟨G2, 0, none⟩) 2 nc' ((nx'.set RI x).map encI)), (fun f lo hi v b0 b1 W => (b0 = G2 ∧ b1 = (G2+1)) ∧ Own W base 3 1 (some ⟨G2, 0, none⟩) 2 nc' (nx'.map encI))] [kVal _, kVal _, kVal _, kVal _, kVal _, kVal _, kVal _, kVal _, kVal _, kVal _, kVal _, kVal _, (fun v => ∃ x : Int, v = .int .i64 x ∧ InRing ps (RI : Int) x), kVal _, kTrue]
        · kernel_rfl
        · kernel_rfl
        · rfl
        · rfl
        rotate_left 2
        refine ⟨?oR1_0, ?oR1_1, ?oR1_2, ?oR1_3, ?oR1_4, ?oR1_5, ?oR1_6, ?oR1_7, ?oR1_8, ?oR1_9, ?oR1_10, ?oR1_11, ?oR1_12, ?oR1_13, ?oR1_14, trivial⟩
        case hx => exact ⟨⟨by omega, by omega⟩, by simp, trivial⟩
        case hX => exact ⟨fun _ _ _ _ => ⟨⟨rfl, rfl⟩, hcv.no⟩, trivial⟩
        case oR1_0 => intro f lo hi w hb hx hf hk hrg R hR; (try replace hb := BelX.zero hb); (try simp (decide := true) only [go_sem] at hf); (try simp (decide := true) only [go_sem] at hk); go_simp; exact hR _ _ (rpost_val rfl rfl (Below.refl _ _) rfl)
        case oR1_1 =>
          intro f lo hi w hb hx hf hk hrg R hR; (try replace hb := BelX.zero hb); (try simp (decide := true) only [go_sem] at hf); (try simp (decide := true) only [go_sem] at hk)
          have kk := hb.blk kB (fun r hr => by simp at hr; subst hr; simp only; omega)
          obtain ⟨e0, e1, e2, e3⟩ := kk.four'
          have el := kk.lt
          go_simp
          exact hR _ _ (rpost_val rfl rfl (Below.refl _ _) rfl)
        case oR1_2 => intro f lo hi w hb hx hf hk hrg R hR; (try replace hb := BelX.zero hb); (try simp (decide := true) only [go_sem] at hf); (try simp (decide := true) only [go_sem] at hk); go_simp; exact hR _ _ (rpost_val rfl rfl (Below.refl _ _) rfl)
        case oR1_3 =>
          intro f lo hi w hb hx hf hk hrg R hR; (try replace hb := BelX.zero hb); (try simp (decide := true) only [go_sem] at hf); (try simp (decide := true) only [go_sem] at hk)
          obtain ⟨e0, e1, e2, e3⟩ := (hb.blk kB (fun r hr => by simp at hr; subst hr; simp only; omega)).four'
          go_simp
          exact hR _ _ (rpost_val rfl rfl (Below.refl _ _) rfl)
        case oR1_4 => intro f lo hi w hb hx hf hk hrg R hR; (try replace hb := BelX.zero hb); (try simp (decide := true) only [go_sem] at hf); (try simp (decide := true) only [go_sem] at hk); go_simp; exact hR _ _ (rpost_val rfl rfl (Below.refl _ _) rfl)
        case oR1_5 =>
          intro f lo hi w hb hx hf hk hrg R hR; (try replace hb := BelX.zero hb); (try simp (decide := true) only [go_sem] at hf); (try simp (decide := true) only [go_sem] at hk)
          obtain ⟨x0, x1, x2, x3, x4, x5, x6, x7⟩ := (hb.blk kX (fun r hr => by simp at hr; subst hr; simp only; omega)).eight
          go_simp
          exact hR _ _ (rpost_val rfl rfl (Below.refl _ _) rfl)
        case oR1_6 =>
          intro f lo hi w hb hx hf hk hrg R hR; (try replace hb := BelX.zero hb); (try simp (decide := true) only [go_sem] at hf); (try simp (decide := true) only [go_sem] at hk)
          have kk := hb.blk kj (fun r hr => by simp at hr; subst hr; simp only; omega)
          have e0 := kk.cell 0
          have e1 := kk.cell 1
          have e2 := kk.cell 2
          go_simp
          exact hR _ _ (rpost_val rfl rfl (Below.refl _ _) rfl)
        case oR1_7 => intro f lo hi w hb hx hf hk hrg R hR; (try replace hb := BelX.zero hb); (try simp (decide := true) only [go_sem] at hf); (try simp (decide := true) only [go_sem] at hk); go_simp; exact hR _ _ (rpost_val rfl rfl (Below.refl _ _) rfl)
        case oR1_8 =>
          intro f lo hi w hb hx hf hk hrg R hR; (try replace hb := BelX.zero hb); (try simp (decide := true) only [go_sem] at hf); (try simp (decide := true) only [go_sem] at hk)
          obtain ⟨x0, x1, x2, x3, x4, x5, x6, x7⟩ := (hb.blk kX (fun r hr => by simp at hr; subst hr; simp only; omega)).eight
          go_simp
          exact hR _ _ (rpost_val rfl rfl (Below.refl _ _) rfl)
        case oR1_9 => intro f lo hi w hb hx hf hk hrg R hR; (try replace hb := BelX.zero hb); (try simp (decide := true) only [go_sem] at hf); (try simp (decide := true) only [go_sem] at hk); go_simp; exact hR _ _ (rpost_val rfl rfl (Below.refl _ _) rfl)
        case oR1_10 =>
          intro f lo hi w hb hx hf hk hrg R hR; (try replace hb := BelX.zero hb); (try simp (decide := true) only [go_sem] at hf); (try simp (decide := true) only [go_sem] at hk)
          obtain ⟨x0, x1, x2, x3, x4, x5, x6, x7⟩ := (hb.blk kX (fun r hr => by simp at hr; subst hr; simp only; omega)).eight
          go_simp
          exact hR _ _ (rpost_val rfl rfl (Below.refl _ _) rfl)
        case oR1_11 => intro f lo hi w hb hx hf hk hrg R hR; (try replace hb := BelX.zero hb); (try simp (decide := true) only [go_sem] at hf); (try simp (decide := true) only [go_sem] at hk); go_simp; exact hR _ _ (rpost_val rfl rfl (Below.refl _ _) rfl)
        case oR1_12 =>
          intro f lo hi w hb hx hf hk hrg R hR; (try replace hb := BelX.zero hb); (try simp (decide := true) only [go_sem] at hf); (try simp (decide := true) only [go_sem] at hk)
          have hUz := be.size
          have hbw : RowKit.Below base _ w := ⟨hb.1.trans be.os, hb.2.1.trans be.tape, hb.2.2.1.trans be.output, Nat.le_trans hUz hb.2.2.2.1, fun k hk => (hb.2.2.2.2 k ⟨by omega, fun r hr => by simp at hr; subst hr; simp only; omega⟩).trans (be.block k hk)⟩
          have hjw := hj.below hbw
          clear hbw
          go_simp
          (with_reducible refine (ref09_after base jb jc jb2 jc2 ps cs s (RI : Int) gr (q : Int) _ hjw).mono ?_)
          rintro e w' ⟨x, rfl, hx9, hb9⟩
          exact ⟨_, rfl, hR _ _ (rpost_vb ⟨x, rfl, hx9⟩ rfl hb9)⟩
        case oR1_13 => intro f lo hi w hb hx hf hk hrg R hR; (try replace hb := BelX.zero hb); (try simp (decide := true) only [go_sem] at hf); (try simp (decide := true) only [go_sem] at hk); go_simp; exact hR _ _ (rpost_val rfl rfl (Below.refl _ _) rfl)
        case oR1_14 =>
          intro f lo hi w hb hx hf hk hrg R hR; (try replace hb := BelX.zero hb); (try simp (decide := true) only [go_sem] at hf); (try simp (decide := true) only [go_sem] at hk)
          obtain ⟨-, own⟩ := hf
          obtain ⟨⟨x, hx12, hxr⟩, h13, -⟩ := hk
          have y0 := own.cell RI (by simpa using hnR)
          have fz := own.frozen RI
          have p1 : lo 15 = _ := (XOk.get _ _ hx 0 _ rfl).1
          have p2 : hi 15 = _ := (XOk.get _ _ hx 0 _ rfl).2
          go_simp
          refine hR _ _ (rpost_some rfl rfl (Touch.set w (List.mem_singleton.2 rfl) (Nat.le_of_eq p1) (by rw [p2]; exact Nat.lt_succ_self _) _ _) ?_)
          (try simp (decide := true) only [go_sem])
          exact ⟨x, hxr, by rw [List.map_set]; exact own.set RI _⟩
        case hcl =>
          refine ⟨Closed.true _ _ _ _, Closed.true _ _ _ _, Closed.true _ _ _ _, Closed.true _ _ _ _, Closed.true _ _ _ _, Closed.true _ _ _ _, Closed.true _ _ _ _, Closed.true _ _ _ _, Closed.true _ _ _ _, Closed.true _ _ _ _, Closed.true _ _ _ _, Closed.true _ _ _ _, Closed.true _ _ _ _, Closed.true _ _ _ _, ?cR1_14, ?cR1_15, trivial⟩
          all_goals first
            | exact fun f lo hi v b0 b1 w w' h hs hB hown hU hX => by
                obtain ⟨x, h1, own⟩ := h
                exact ⟨x, h1, own.keep fun b e _ _ => by injection e with e; injection e with e _ _; subst e; exact hX 0 _ rfl (by simp) _ (Nat.le_refl _) (Nat.lt_succ_self _)⟩
            | exact fun f lo hi v b0 b1 w w' h hs hB hown hU hX => by
                obtain ⟨⟨rfl, rfl⟩, own⟩ := h
                exact ⟨⟨rfl, rfl⟩, own.keep fun b e _ _ => by injection e with e; injection e with e _ _; subst e; exact hown _ (Nat.le_refl _) (Nat.lt_succ_self _)⟩
        intro f lo hi W7 hbr hx hf hk hrg; (try replace hbr := BelX.zero hbr); clear hx; (try simp (decide := true) only [go_sem] at hf); (try simp (decide := true) only [go_sem] at hk)
        obtain ⟨x, hxr, own7⟩ := hf
        have hold : ∀ k, k < U.heap.size → k ≠ G2 → W7.heap[k]? = U.heap[k]? := fun k h1 h2 => hbr.2.2.2.2 k ⟨h1, fun r hr => by simp at hr; subst hr; simp only; omega⟩
        have hGG : G ≠ G2 := fun e => by
          rcases hcv.lo.2 with ⟨h0, _⟩ | ⟨g1, c1, cur, hv, _, hh, _⟩
          · cases h0
          · injection hv with hv _ _
            injection hv with hv
            injection hv with hv _ _
            subst hv
            exact hcv.no.ne_blk (g := G) (t := 90) (cs := cur) hh (by decide) (by rw [e]; rfl)
        have hbsz := be.size
        have kB7 := (hold B kBl (fun e => hG2B e.symm)).trans kB
        have hcv7 : CtlV W7 base ps (ls.set q (1, 0)) (nx'.set RI x) g' wt (some ⟨G, 0, none⟩) lc (some ⟨G2, 0, none⟩) nc' := ⟨hcv.lo.keep fun b e _ hlt => hold b hlt (fun e' => by injection e with e; injection e with e _ _; exact hGG (by rw [e, e'])), own7, ⟨by rw [List.length_set]; exact hcv.nx.1, fun r h => by
          by_cases e : RI = r
          · subst e; simp only [List.getElem_set_self]; exact hxr
          · simp only [List.getElem_set_ne e]; exact hcv.nx.2 r (by simpa using h)⟩, hcv.ll, hcv.lok, hcv.g0, hcv.w0⟩
        have be7 : RowKit.Below base w W7 := ⟨hbr.1.trans be.os, hbr.2.1.trans be.tape, hbr.2.2.1.trans be.output, Nat.le_trans hbsz hbr.2.2.2.1, fun k hk => (hold k (by omega) (by omega)).trans (be.block k hk)⟩
        clear hrg hbr hold own7 hcv kB kj kX
        go_simp
        clear hk
        go_wp2
        go_end0
        exact ⟨ls.set q (1, 0), nx'.set RI x, g', some ⟨G2, 0, none⟩, nc', rfl, .inr rfl, kB7, hcv7, be7⟩
end Go.Proofs.Ytpjnajallekjoaa
