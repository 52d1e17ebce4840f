/- signalbrokermake.Deck.Control: a control that has run some ticks -/
import Derived.Test.YtpjnajallekjoaaRef09d
namespace Go.Proofs.Ytpjnajallekjoaa
set_option linter.unusedVariables false
open Go.RowKit Go.Sort
set_option maxRecDepth 100000

theorem JAt.grown {w w' : World} {base jb jc jb2 jc2 p : Nat} {ps : List Ph} {cs : List Int} {s : Int} (h : JAt w base jb jc jb2 jc2 ps cs s) (hg : w.grownBy w' (some p)) (h1 : jb ≠ p) (h2 : jb2 ≠ p) : JAt w' base jb jc jb2 jc2 ps cs s :=
  ⟨Row.grown h.ph hg fun b hb => by simp at hb; omega, Row.grown h.cf hg fun b hb => by simp at hb; omega, h.lb, h.lb2, Nat.le_trans h.lw hg.size, h.n1, h.cl, h.ok, h.s0⟩
theorem CtlV.grown {W W' : World} {base p : Nat} {ps : List Ph} {ls : List (Int × Int)} {nx : List Int} {g wt : Int} {la : Option Addr} {lc : Nat} {na : Option Addr} {nc : Nat} (h : CtlV W base ps ls nx g wt la lc na nc) (hg : W.grownBy W' (some p)) (hp : p < base) : CtlV W' base ps ls nx g wt la lc na nc :=
  ⟨h.lo.grown hg hp, h.no.grown hg hp, h.nx, h.ll, h.lok, h.g0, h.w0⟩
/-- the deck's place behind m draws -/
def dAdv (l : List Int) : Nat → Nat → Nat
  | 0, k => k
  | m + 1, k => dAdv l m (dPos l k)
def ctlPos (l : List Int) (k : Nat) : Nat := dAdv l (2 * (dVal l k 12).toNat) (dPos l k)
def CtlR (p : Nat) (d : Dk) (k0 : Nat) (ps : List Ph) (w : World) (e : Ending) (w' : World) : Prop :=
  ∃ (k : Nat) (ls : List (Int × Int)) (nx : List Int) (g wt : Int) (la : Option Addr) (lc : Nat) (na : Option Addr) (nc : Nat), e = .returned (cAgg la ps.length lc g na nc wt) ∧ Hid (k = ctlPos d.l k0) ∧ CtlV w' w.heap.size ps ls nx g wt la lc na nc ∧ DeckAt w' p d k ∧ w.grownBy w' (some p)
set_option maxHeartbeats 8000000 in
theorem deck_Control (p : Nat) (d : Dk) (k : Nat) (base jb jc jb2 jc2 : Nat) (ps : List Ph) (cs : List Int) (s : Int) (w : World) (hd : DeckAt w p d k) (hj : JAt w base jb jc jb2 jc2 ps cs s) (h1 : jb ≠ p) (h2 : jb2 ≠ p) :
    Calls Try.prog 23 #[.pointer (some ⟨p, 0, none⟩), jAgg jb jc jb2 jc2 ps.length s] w (CtlR p d k ps w) := by
  have hn := hj.n1
  have hlw := hj.lw
  have hpw := hd.lt
  have har := hd.arr
  go_enter Try.func23, Try.ntmps23
  go_upto_region 1 with fail
  refine wp_named (fun W => W.heap.size = w.heap.size + 2 ∧ Blk W w.heap.size 55 #[.slice (some ⟨jb, 0, none⟩) ps.length jc, .slice (some ⟨jb2, 0, none⟩) ps.length jc2, .int .i64 s] ∧ Blk W (w.heap.size + 1) 59 #[.slice none 0 0, .int .i64 0, .slice none 0 0, .int .i64 0] ∧ DeckAt W p d k ∧ JAt W base jb jc jb2 jc2 ps cs s ∧ RowKit.Below w.heap.size w W) ⟨by simp, (Blk.new _ _ _).alloc _, Blk.next _ _ _ _, (hd.alloc _).alloc _, hj.below (by repeat (first | (with_reducible refine Below.setCell ?_ ?_ _) | (with_reducible refine Below.alloc ?_ ?_ _) | (with_reducible refine Below.drew ?_) | (with_reducible refine below_drewN ?_ _) | (with_reducible exact Below.refl _ _) | (focus (simp; done)) | (focus (simp; omega)) | (focus omega))), (by repeat (first | (with_reducible refine Below.setCell ?_ ?_ _) | (with_reducible refine Below.alloc ?_ ?_ _) | (with_reducible refine Below.drew ?_) | (with_reducible refine below_drewN ?_ _) | (with_reducible exact Below.refl _ _) | (focus (simp; done)) | (focus (simp; omega)) | (focus omega)))⟩ ?_
  clear hd hj
  rintro W ⟨hWs, kj, kr, hd, hj, be⟩
  have HWS := Lib.hid hWs
  have hWl : w.heap.size + 2 ≤ W.heap.size := by omega
  clear hWs
  obtain ⟨j0, j1, j2⟩ : W.cell? ⟨w.heap.size, 0, none⟩ = _ ∧ W.cell? ⟨w.heap.size, 1, none⟩ = _ ∧ W.cell? ⟨w.heap.size, 2, none⟩ = _ := ⟨kj.cell 0, kj.cell 1, kj.cell 2⟩
  have jl := kj.lt
  go_upto_region 2 with ((go_at_call 38; (with_reducible refine (ref09_Init base jb jc jb2 jc2 ps cs s _ hj).mono ?_); rintro e w1 ⟨nx, la, lc, na, nc, rfl, hcv, hb1⟩))
  have hB : W.heap.size ≤ w1.heap.size := hb1.size
  obtain ⟨B, hBB⟩ : ∃ B, w1.heap.size = B := ⟨_, rfl⟩
  have HBB := Lib.hid hBB
  refine wp_named (fun V => Blk V B 59 #[.slice la ps.length lc, .int .i64 0, .slice na 2 nc, .int .i64 s] ∧ CtlV V W.heap.size ps (List.replicate ps.length (0, 0)) nx 0 s la lc na nc ∧ DeckAt V p d k ∧ w1.grownBy V (some p)) ⟨by rw [← hBB]; exact Blk.new _ _ _, hcv.alloc _, (hd.below hb1).alloc _, World.grownBy_alloc _ _ _⟩ ?_
  rw [hBB]
  have hWB : W.heap.size ≤ B := by omega
  have kj1 := kj.below hb1 kj.lt
  have kr1 := kr.below hb1 kr.lt
  have hj1 := hj.below (hb1.mono (by omega))
  have be1 : RowKit.Below w.heap.size w w1 := (by repeat (first | (with_reducible refine Below.setCell ?_ ?_ _) | (with_reducible refine Below.alloc ?_ ?_ _) | (with_reducible refine Below.drew ?_) | (with_reducible refine below_drewN ?_ _) | (with_reducible exact Below.refl _ _) | (with_reducible refine Below.trans ?_ (Below.mono hb1 ?_)) | (with_reducible refine Below.trans ?_ (Below.mono be ?_)) | (focus (simp; done)) | (focus (simp; omega)) | (focus omega) | (focus (have q0 := Below.size hb1; (try simp at q0); have q1 := Below.size be; (try simp at q1); (try simp); omega))))
  clear hcv hd hBB hB j0 j1 j2 jl kj kr hj hb1
  rintro V ⟨kB, hcv, hd, gv⟩
  go_upto_region 3 with ((go_at_call 21; (with_reducible refine (deck_Next p 12 _ d k hd (by decide) (by decide)).mono ?_); rintro e w2 ⟨kk, rfl, hk0, hk1, hkv, hd2, g2⟩))
  have kB2 := kB.grown g2 (by omega)
  have hcv2 := hcv.grown g2 (by omega)
  have gv2 := gv.trans g2
  clear kB hcv hd gv g2
  have HP0 : Hid (dAdv d.l (2 * kk.toNat) (dPos d.l k) = ctlPos d.l k) := Lib.hid (by rw [ctlPos, hkv.out])
  clear hkv
  go_loopw [6] (fun s6 wr => ∃ (kk : Int) (kd : Nat) (ls : List (Int × Int)) (nx : List Int) (g wt : Int) (la : Option Addr) (lc : Nat) (na : Option Addr) (nc : Nat), s6 = .int .i64 kk ∧ 0 ≤ kk ∧ kk ≤ 12 ∧ Hid (dAdv d.l (2 * kk.toNat) kd = ctlPos d.l k) ∧ DeckAt wr p d kd ∧ Blk wr B 59 #[.slice la ps.length lc, .int .i64 g, .slice na 2 nc, .int .i64 wt] ∧ CtlV wr W.heap.size ps ls nx g wt la lc na nc ∧ w1.grownBy wr (some p)) (fun s _ => (intOf s).toNat)
  case atStart => exact ⟨kk, _, _, nx, 0, s, la, lc, na, nc, rfl, hk0, by omega, HP0, hd2, kB2, hcv2, gv2⟩
  case round =>
    clear hd2 kB2 hcv2 gv2 hk0 hk1 HP0
    obtain ⟨kk, kd, ls, nx, g, wt, la, lc, na, nc, rfl, hk0, hk1, hkp, hd, kB, hcv, gv⟩ := hrel
    have kjr := kj1.grown gv (by omega)
    obtain ⟨j0, j1, j2⟩ : wr.cell? ⟨w.heap.size, 0, none⟩ = _ ∧ wr.cell? ⟨w.heap.size, 1, none⟩ = _ ∧ wr.cell? ⟨w.heap.size, 2, none⟩ = _ := ⟨kjr.cell 0, kjr.cell 1, kjr.cell 2⟩
    have jl := kjr.lt
    by_cases hlt : 0 < kk
    · go_upto_region 6 with ((go_at_call 21; (with_reducible refine (deck_Next p (ps.length + 1) _ d kd hd (by omega) (by omega)).mono ?_); rintro e w3 ⟨t, rfl, ht0, ht1, -, hd3, g3⟩))
      have kB3 := kB.grown g3 (by omega)
      have hcv3 := hcv.grown g3 (by omega)
      have gv3 := gv.trans g3
      clear kB hcv hd gv g3 j0 j1 j2 jl kjr
      go_upto_region 7 with ((go_at_call 27; (with_reducible refine (deck_Range p 1 4 _ d _ hd3 (by decide) (by decide) (by decide)).mono ?_); rintro e w4 ⟨n, rfl, hn0, hn1, -, hd4, g4⟩))
      have kB4 := kB3.grown g4 (by omega)
      have hcv4 := hcv3.grown g4 (by omega)
      have gv4 := gv3.trans g4
      clear kB3 hcv3 hd3 gv3 g4
      have HP1 : Hid (dAdv d.l (2 * (kk - 1).toNat) (dPos d.l (dPos d.l kd)) = ctlPos d.l k) := Lib.hid (by
        rw [← hkp.out, show 2 * kk.toNat = 2 * (kk - 1).toNat + 1 + 1 by omega]
        rfl)
      clear hkp
      go_loopw [8] (fun s8 wq => ∃ (nn : Int) (kd : Nat) (ls : List (Int × Int)) (nx : List Int) (g wt : Int) (la : Option Addr) (lc : Nat) (na : Option Addr) (nc : Nat), s8 = .int .i64 nn ∧ 0 ≤ nn ∧ nn ≤ 5 ∧ Hid (dAdv d.l (2 * (kk - 1).toNat) kd = ctlPos d.l k) ∧ DeckAt wq p d kd ∧ Blk wq B 59 #[.slice la ps.length lc, .int .i64 g, .slice na 2 nc, .int .i64 wt] ∧ CtlV wq W.heap.size ps ls nx g wt la lc na nc ∧ w1.grownBy wq (some p)) (fun s _ => (intOf s).toNat)
      case atStart => exact ⟨1 + n, _, _, nx, g, wt, la, lc, na, nc, rfl, by omega, by omega, HP1, hd4, kB4, hcv4, gv4⟩
      case round =>
        clear hd4 kB4 hcv4 gv4 HP1
        obtain ⟨nn, kd, ls, nx, g, wt, la, lc, na, nc, rfl, hnn0, hnn1, hkp, hd, kB, hcv, gv⟩ := hrel
        by_cases hlt2 : 0 < nn
        · have kjr := kj1.grown gv (by omega)
          obtain ⟨j0, j1, j2⟩ : wr.cell? ⟨w.heap.size, 0, none⟩ = _ ∧ wr.cell? ⟨w.heap.size, 1, none⟩ = _ ∧ wr.cell? ⟨w.heap.size, 2, none⟩ = _ := ⟨kjr.cell 0, kjr.cell 1, kjr.cell 2⟩
          have jl := kjr.lt
          obtain ⟨b0, b1, b2, b3⟩ := kB.four'
          have bf := kB.frozen
          have bl := kB.lt
          have hjr := hj1.grown gv h1 h2
          go_wp2_with ((go_at_call 39; (with_reducible refine (ref09_Step base jb jc jb2 jc2 ps cs s W.heap.size ls nx g wt la lc na nc (t - 1) _ hjr hcv).mono ?_); rintro e w5 ⟨ls5, nx5, g5, wt5, la5, lc5, na5, nc5, -, rfl, hcv5, hb5⟩; ((have kB5 := kB.below hb5 bl); (have hd5 := hd.below hb5); (have gv5 := gv.trans (hb5.grown_any (some p))); clear b0 b1 b2 b3 bf bl; (obtain ⟨b0, b1, b2, b3⟩ := kB5.four'); (have bf := kB5.frozen); (have bl := kB5.lt))))
          have hBn : B ≠ p := by have := HBB.out; omega
          have hBa : d.l = [] ∨ ∀ b, d.a.map (·.block) = some b → b ≠ B := har.imp id fun h b hb => by have := h b hb; have := HBB.out; omega
          have hdd := (((hd5.set (o := 0) hBn hBa (.slice la5 ps.length lc5)).set (o := 1) hBn hBa (.int .i64 g5)).set (o := 2) hBn hBa (.slice na5 2 nc5)).set (o := 3) hBn hBa (.int .i64 wt5)
          have kBB := kB5.set4 (.slice la5 ps.length lc5) (.int .i64 g5) (.slice na5 2 nc5) (.int .i64 wt5)
          have hcc : CtlV _ W.heap.size ps ls5 nx5 g5 wt5 la5 lc5 na5 nc5 := (⟨own_four kB5 hcv5.lo (by decide) (.slice la5 ps.length lc5) (.int .i64 g5) (.slice na5 2 nc5) (.int .i64 wt5), own_four kB5 hcv5.no (by decide) (.slice la5 ps.length lc5) (.int .i64 g5) (.slice na5 2 nc5) (.int .i64 wt5), hcv5.nx, hcv5.ll, hcv5.lok, hcv5.g0, hcv5.w0⟩ : CtlV _ wr.heap.size ps ls5 nx5 g5 wt5 la5 lc5 na5 nc5).mono (by have := HBB.out; have := gv.size; omega)
          have gvv := grown_fresh gv5 (((grownBy_set _ B 0 (.slice la5 ps.length lc5)).trans (grownBy_set _ B 1 (.int .i64 g5))).trans ((grownBy_set _ B 2 (.slice na5 2 nc5)).trans (grownBy_set _ B 3 (.int .i64 wt5)))) (fun q hq => by injection hq with hq; have := HBB.out; omega)
          go_roundw
          case rel => exact ⟨nn - 1, kd, ls5, nx5, g5, wt5, la5, lc5, na5, nc5, by go_num, by omega, by omega, hkp, hdd, kBB, hcc, gvv⟩
          case measure => simp [intOf]; omega
        · obtain rfl : nn = 0 := by omega
          go_wp2_with fail
          go_roundw
          case rel => exact ⟨kk - 1, kd, ls, nx, g, wt, la, lc, na, nc, by go_num, by omega, by omega, hkp, hd, kB, hcv, gv⟩
          case measure => simp [intOf]; omega
    · obtain rfl : kk = 0 := by omega
      obtain ⟨b0, b1, b2, b3⟩ := kB.four'
      have bl := kB.lt
      have krr := kr1.grown gv (by omega)
      obtain ⟨r0, r1, r2, r3⟩ := krr.four'
      have rf := krr.frozen
      have rl := krr.lt
      go_wp2_with fail
      refine bodyPost_ret (v := cAgg la ps.length lc g na nc wt) (by simp [results, Try.results23, go_sem, r0, r1, r2, r3]) rfl ?_
      have hBn : w.heap.size + 1 ≠ p := by omega
      have hBa : d.l = [] ∨ ∀ b, d.a.map (·.block) = some b → b ≠ w.heap.size + 1 := har.imp id fun h b hb => by have := h b hb; omega
      have gv0 : w.grownBy wr (some p) := (be1.grown_any (some p)).trans gv
      exact ⟨kd, ls, nx, g, wt, la, lc, na, nc, rfl, Lib.hid hkp.out, (⟨own_four krr hcv.lo (by decide) _ _ _ _, own_four krr hcv.no (by decide) _ _ _ _, hcv.nx, hcv.ll, hcv.lok, hcv.g0, hcv.w0⟩ : CtlV _ W.heap.size ps ls nx g wt la lc na nc).mono (by omega), (((hd.set (o := 0) hBn hBa _).set (o := 1) hBn hBa _).set (o := 2) hBn hBa _).set (o := 3) hBn hBa _, grown_fresh gv0 (((grownBy_set _ _ 0 _).trans (grownBy_set _ _ 1 _)).trans ((grownBy_set _ _ 2 _).trans (grownBy_set _ _ 3 _))) (fun q hq => by injection hq with hq; omega)⟩
end Go.Proofs.Ytpjnajallekjoaa
