/- law 08: a phase of a junction of the deck's; a valid light -/
import Derived.Test.YtgcjnkdiggbfeaaLamp
import Derived.Test.YtgcjnkdiggbfeaaJunction
namespace Go.Proofs.Ytgcjnkdiggbfeaa
open Go.RowKit Go.Sort
set_option maxRecDepth 100000

theorem BelX.below {W0 w : World} {r : Nat} (h : BelX W0 [(r, r + 1)] w) : W0.grownBy w (some r) := h.one
def PhaseRet (w : World) (e : Ending) (w' : World) : Prop := ∃ p : Ph, e = .returned p.agg ∧ PhOk p ∧ Below w.heap.size w w'
set_option maxHeartbeats 2000000 in
theorem law08_phase (a : Option Addr) (c : Nat) (l : List Int) (n : Int) (w : World) (hl : Ints w a l) (hlen : l.length ≤ 9223372036854775807) :
    Calls Try.prog 7 #[.slice a l.length c, .int .i64 n] w (PhaseRet w) := by
  go_enter Try.func7, Try.ntmps7
  have hl0 := hl.alloc (.cells #[.int .i64 0, .int .i64 0, .int .i64 0, .int .i64 0, .int .i64 0, .int .i64 0, .int .i64 0, .int .i64 0] 24)
  go_wp2_with (first | (go_at_call 23; (with_reducible refine (mk_New a c l _ hl0 hlen).mono ?_); rintro e w1 ⟨rfl, hd0, be1⟩; (have hd1 : DeckAt w1 (w.heap.size + 1) ⟨a, c, l⟩ 0 := (by simpa using hd0))) | (go_at_call 24; (with_reducible refine (deck_Junction _ _ _ _ hd1).mono ?_); rintro e w2 ⟨v, rfl, hj, -, g2⟩; (obtain ⟨b, c1, b2, c2, ps, cs, s, rfl, bb, bb2, hps, hpo, hcs, s0, s1, hrow, hints⟩ := hj)))
  have sm := shapeLen_bd (dVal l 0 6)
  have hm : ps.length = shapeLen (dVal l 0 6) := hps
  rw [← hm] at sm
  have z1 := be1.size
  have z2 := g2.size
  simp at z1
  obtain ⟨r, hr⟩ : ∃ r, w.heap.size = r := ⟨_, rfl⟩
  obtain ⟨j, hj⟩ : ∃ j, w2.heap.size = j := ⟨_, rfl⟩
  obtain ⟨m, hm'⟩ : ∃ m, junLen l 0 = m := ⟨_, rfl⟩
  have hm2 : ps.length = m := hps.trans hm'
  rw [hm2] at sm
  refine wp_named (fun W => Below r w W ∧ Blk W r 24 #[.int .i64 0, .int .i64 0, .int .i64 0, .int .i64 0, .int .i64 0, .int .i64 0, .int .i64 0, .int .i64 0] ∧ Blk W j 43 #[.slice (some ⟨b, 0, none⟩) m c1, .slice (some ⟨b2, 0, none⟩) m c2, .int .i64 s] ∧ Row W (some ⟨b, 0, none⟩) (phCells ps)) ?_ ?_
  · have bw2 : Below r w w2 := by
      rw [← hr]
      have q : Below w.heap.size w w1 := (by repeat (first | (with_reducible refine Below.setCell ?_ ?_ _) | (with_reducible refine Below.alloc ?_ ?_ _) | (with_reducible refine Below.drew ?_) | (with_reducible refine below_drewN ?_ _) | (with_reducible exact Below.refl _ _) | (with_reducible refine Below.trans ?_ (Below.mono be1 ?_)) | (focus (simp; done)) | (focus (simp; omega)) | (focus omega) | (focus (have q0 := Below.size be1; (try simp at q0); (try simp); omega))))
      exact q.grown g2 (by have := q.size; omega) (fun k hk => by injection hk with hk; subst hk; simp)
    refine ⟨bw2.alloc (by have := bw2.size; omega) _, ?_, ?_, hrow.alloc _⟩
    · have k0 := (Blk.new w 24 #[.int .i64 0, .int .i64 0, .int .i64 0, .int .i64 0, .int .i64 0, .int .i64 0, .int .i64 0, .int .i64 0]).below be1 (by simp)
      rw [hr] at k0
      exact (k0.grown g2 (by simp; omega)).alloc _
    · rw [← hj, ← hm']; exact Blk.new _ _ _
  rintro W ⟨beW, kr, kj, hrw⟩
  simp only [hr, hj, hm']
  have HR := Lib.hid hr
  have rj : r < j := by omega
  have jb : b ≠ r := by omega
  clear hr hj hm' hrow hints hl hl0 hd0 hd1 be1 g2 z1 z2 hm hps
  obtain ⟨x, Ex, x0, x1⟩ := modName n m (by omega)
  obtain ⟨x, rfl⟩ := Int.eq_ofNat_of_zero_le x0
  have xm : x < ps.length := by omega
  obtain ⟨q, hq⟩ : ∃ q, ps[x] = q := ⟨_, rfl⟩
  have qo : PhOk q := hq ▸ hpo _ (List.getElem_mem _)
  have HQ := Lib.hid hq
  clear hq
  have jl := kj.lt
  apply wp_region_tab [(r, (r+1))] 10 18 [some 9, some 10, some 11, some 12, some 13, some 14, some 15, some 16, some 17, none] [⟨[10], [], [], []⟩, ⟨[0, 10], [0], [0], []⟩, ⟨[10], [], [], []⟩, ⟨[10], [], [], []⟩, ⟨[3, 10], [3], [3], []⟩, ⟨[3, 4, 10], [4], [4], []⟩, ⟨[2, 3, 4, 5, 10], [2, 5], [2, 5], []⟩, ⟨[0, 1, 2, 3, 4, 5, 6, 10], [1, 6], [1, 6], []⟩, ⟨[0, 1, 2, 3, 4, 5, 6, 7, 10], [7], [7], []⟩, ⟨[0, 1, 2, 3, 4, 5, 6, 7, 8, 10], [8, 10], [8, 10], [10]⟩, ⟨[], [], [], []⟩] [0, 1, 2, 3, 4, 5, 6, 7, 8, 9] [9] [psiTrue, psiTrue, psiTrue, psiTrue, psiTrue, psiTrue, psiTrue, psiTrue, psiTrue, (fun f lo hi v b0 b1 W => Blk W r 24 #[.int .i64 q.ring, .int .i64 q.group, .int .i64 q.ming, .int .i64 q.maxg, .int .i64 q.yellow, .int .i64 q.red, .int .i64 q.walk, .int .i64 q.clear_]), (fun f lo hi v b0 b1 W => (b0 = r ∧ b1 = (r+1)) ∧ Blk W r 24 #[.int .i64 0, .int .i64 0, .int .i64 0, .int .i64 0, .int .i64 0, .int .i64 0, .int .i64 0, .int .i64 0])] [kVal _, kVal _, kVal _, kVal _, kVal _, kVal _, kVal _, kVal _, kVal _, kTrue]
  · kernel_rfl
  · kernel_rfl
  · rfl
  · rfl
  rotate_left 2
  refine ⟨?oR1_0, ?oR1_1, ?oR1_2, ?oR1_3, ?oR1_4, ?oR1_5, ?oR1_6, ?oR1_7, ?oR1_8, ?oR1_9, trivial⟩
  case hx => exact ⟨⟨by omega, by have := kr.lt; omega⟩, by simp, trivial⟩
  case hX => exact ⟨fun _ _ _ _ => ⟨⟨rfl, rfl⟩, kr⟩, trivial⟩
  case oR1_0 => intro f lo hi w hb hx hf hk hrg R hR; (try replace hb := BelX.zero hb); (try simp (decide := true) only [go_sem] at hf); (try simp (decide := true) only [go_sem] at hk); go_simp; exact hR _ _ (rpost_val rfl rfl (Below.refl _ _) rfl)
  case oR1_1 =>
    intro f lo hi w hb hx hf hk hrg R hR; (try replace hb := BelX.zero hb); (try simp (decide := true) only [go_sem] at hf); (try simp (decide := true) only [go_sem] at hk)
    have e := (hb.blk kj (by simp; omega)).cell 0
    go_simp
    exact hR _ _ (rpost_val rfl rfl (Below.refl _ _) rfl)
  case oR1_2 => intro f lo hi w hb hx hf hk hrg R hR; (try replace hb := BelX.zero hb); (try simp (decide := true) only [go_sem] at hf); (try simp (decide := true) only [go_sem] at hk); go_simp; exact hR _ _ (rpost_val rfl rfl (Below.refl _ _) rfl)
  case oR1_3 => intro f lo hi w hb hx hf hk hrg R hR; (try replace hb := BelX.zero hb); (try simp (decide := true) only [go_sem] at hf); (try simp (decide := true) only [go_sem] at hk); go_simp; exact hR _ _ (rpost_val rfl rfl (Below.refl _ _) rfl)
  case oR1_4 =>
    intro f lo hi w hb hx hf hk hrg R hR; (try replace hb := BelX.zero hb); (try simp (decide := true) only [go_sem] at hf); (try simp (decide := true) only [go_sem] at hk)
    have e := (hb.blk kj (by simp; omega)).cell 0
    go_simp
    exact hR _ _ (rpost_val rfl rfl (Below.refl _ _) rfl)
  case oR1_5 => intro f lo hi w hb hx hf hk hrg R hR; (try replace hb := BelX.zero hb); (try simp (decide := true) only [go_sem] at hf); (try simp (decide := true) only [go_sem] at hk); go_simp; exact hR _ _ (rpost_val rfl rfl (Below.refl _ _) rfl)
  case oR1_6 => intro f lo hi w hb hx hf hk hrg R hR; (try replace hb := BelX.zero hb); (try simp (decide := true) only [go_sem] at hf); (try simp (decide := true) only [go_sem] at hk); go_simp; (with_reducible refine (mk_ModE Ex.out _ (by omega) (by omega)).mono ?_); rintro e w' ⟨rfl, rfl⟩; exact ⟨_, rfl, hR _ _ (rpost_val rfl rfl (Below.refl _ _) rfl)⟩
  case oR1_7 => intro f lo hi w hb hx hf hk hrg R hR; (try replace hb := BelX.zero hb); (try simp (decide := true) only [go_sem] at hf); (try simp (decide := true) only [go_sem] at hk); go_simp; exact hR _ _ (rpost_val rfl rfl (Below.refl _ _) rfl)
  case oR1_8 =>
    intro f lo hi w hb hx hf hk hrg R hR; (try replace hb := BelX.zero hb); (try simp (decide := true) only [go_sem] at hf); (try simp (decide := true) only [go_sem] at hk)
    obtain ⟨p0, p1, p2, p3, p4, p5, p6, p7⟩ := row_phase (hb.row hrw (fun b' e q hq => by simp at e hq; subst e hq; simp only; omega)) x xm
    rw [HQ.out] at p0 p1 p2 p3 p4 p5 p6 p7
    go_simp
    exact hR _ _ (rpost_val rfl rfl (Below.refl _ _) rfl)
  case oR1_9 =>
    intro f lo hi w hb hx hf hk hrg R hR; (try replace hb := BelX.zero hb); (try simp (decide := true) only [go_sem] at hf); (try simp (decide := true) only [go_sem] at hk)
    obtain ⟨-, kb⟩ := hf
    obtain ⟨f0, f1, f2, f3, f4, f5, f6, f7⟩ := kb.eight
    have fz := kb.frozen
    go_simp
    refine hR _ _ (rpost_some rfl rfl (Touch.set8 _ (List.mem_singleton.2 rfl) (Nat.le_of_eq (XOk.get _ _ hx 0 _ rfl).1) (by rw [(XOk.get _ _ hx 0 _ rfl).2]; exact Nat.lt_succ_self _) _ _ _ _ _ _ _ _) ?_)
    (try simp (decide := true) only [go_sem])
    exact kb.set8 _ _ _ _ _ _ _ _
  case hcl =>
    refine ⟨Closed.true _ _ _ _, Closed.true _ _ _ _, Closed.true _ _ _ _, Closed.true _ _ _ _, Closed.true _ _ _ _, Closed.true _ _ _ _, Closed.true _ _ _ _, Closed.true _ _ _ _, Closed.true _ _ _ _, ?cR1_9, ?cR1_10, trivial⟩
    · exact fun f lo hi v b0 b1 w w' h hs hB hown hU hX => (hX 0 _ rfl (by simp) r (Nat.le_refl _) (Nat.lt_succ_self _)).trans h
    · exact fun f lo hi v b0 b1 w w' h hs hB hown hU hX => ⟨h.1, (hown r (by have := h.1; omega) (by have := h.1; omega)).trans h.2⟩
  intro f lo hi W9 hbr hx hf hk hrg; (try replace hbr := BelX.zero hbr); clear hx; (try simp (decide := true) only [go_sem] at hf); (try simp (decide := true) only [go_sem] at hk)
  obtain ⟨f0, f1, f2, f3, f4, f5, f6, f7⟩ := hf.eight
  go_simp
  go_wp2
  refine bodyPost_ret (v := .agg #[.int .i64 q.ring, .int .i64 q.group, .int .i64 q.ming, .int .i64 q.maxg, .int .i64 q.yellow, .int .i64 q.red, .int .i64 q.walk, .int .i64 q.clear_]) (by simp [results, Try.results7, go_sem, f0, f1, f2, f3, f4, f5, f6, f7]) rfl ⟨q, rfl, qo, ?_⟩
  rw [HR.out]
  exact beW.grown hbr.one (by have := beW.size; omega) (fun k hk => by injection hk with hk; omega)

theorem LiOk.g {p : Ph} {t : Int} (h : 0 ≤ t) (h' : t ≤ 1073741824) : LiOk p 1 t := .inr (.inl ⟨rfl, h, h'⟩)
theorem LiOk.y {p : Ph} {t : Int} (h : 0 ≤ t) (h' : t < p.yellow) : LiOk p 2 t := .inr (.inr (.inl ⟨rfl, h, h'⟩))
theorem LiOk.c {p : Ph} {t : Int} (h : 0 ≤ t) (h' : t < p.red) : LiOk p 3 t := .inr (.inr (.inr ⟨rfl, h, h'⟩))
theorem LiOk.z {p : Ph} : LiOk p 0 0 := .inl ⟨rfl, rfl⟩
def LightRet (p : Ph) (w : World) (e : Ending) (w' : World) : Prop := ∃ a t : Int, e = .returned (.agg #[.int .i64 a, .int .i64 t]) ∧ LiOk p a t ∧ Below w.heap.size w w'
set_option maxHeartbeats 2000000 in
theorem law08_light (p : Ph) (n : Int) (w : World) (hp : PhOk p) : Calls Try.prog 8 #[p.agg, .int .i64 n] w (LightRet p w) := by
  obtain ⟨r, g, mg, xg, y, rd, wk, cl⟩ := p
  obtain ⟨a1, a2, a3, a4, a5, a6⟩ := hp.b
  unfold Ph.agg
  go_enter Try.func8, Try.ntmps8
  go_wp2_with (first | (go_at_call 13; (with_reducible refine (mk_ModSome _ 4 _ (by omega) (by omega)).mono ?_); rintro e w' ⟨r4, rfl, r40, r41, rfl⟩) | (go_at_call 13; (with_reducible refine (mk_ModSome _ 8 _ (by omega) (by omega)).mono ?_); rintro e w' ⟨r8, rfl, r80, r81, rfl⟩) | (go_at_call 13; (with_reducible refine (mk_ModSome _ 2 _ (by omega) (by omega)).mono ?_); rintro e w' ⟨r2, rfl, r20, r21, rfl⟩) | (go_at_call 13; (with_reducible refine (mk_ModSome _ 9 _ (by omega) (by omega)).mono ?_); rintro e w' ⟨r9, rfl, r90, r91, rfl⟩; (rcases (show r9 / 8 = 0 ∨ r9 / 8 = 1 by omega) with h8 | h8)) | (go_at_call 13; (with_reducible refine (mk_ModSome _ _ _ (by omega) (by omega)).mono ?_); rintro e w' ⟨ry, rfl, ry0, ry1, rfl⟩))
  all_goals first | (refine bodyPost_ret (v := .agg #[.int .i64 1, .int .i64 r8]) ?_ rfl ⟨_, _, rfl, LiOk.g (by omega) (by omega), ?_⟩; (focus (simp [results, Try.results8, go_sem]; done)); exact (by repeat (first | (with_reducible refine Below.setCell ?_ ?_ _) | (with_reducible refine Below.alloc ?_ ?_ _) | (with_reducible refine Below.drew ?_) | (with_reducible refine below_drewN ?_ _) | (with_reducible exact Below.refl _ _) | (focus (simp; done)) | (focus (simp; omega)) | (focus omega)))) | (refine bodyPost_ret (v := .agg #[.int .i64 1, .int .i64 (1073741824 - r2)]) ?_ rfl ⟨_, _, rfl, LiOk.g (by omega) (by omega), ?_⟩; (focus (simp [results, Try.results8, go_sem]; done)); exact (by repeat (first | (with_reducible refine Below.setCell ?_ ?_ _) | (with_reducible refine Below.alloc ?_ ?_ _) | (with_reducible refine Below.drew ?_) | (with_reducible refine below_drewN ?_ _) | (with_reducible exact Below.refl _ _) | (focus (simp; done)) | (focus (simp; omega)) | (focus omega)))) | (refine bodyPost_ret (v := .agg #[.int .i64 2, .int .i64 ry]) ?_ rfl ⟨_, _, rfl, LiOk.y ry0 ry1, ?_⟩; (focus (simp [results, Try.results8, go_sem]; done)); exact (by repeat (first | (with_reducible refine Below.setCell ?_ ?_ _) | (with_reducible refine Below.alloc ?_ ?_ _) | (with_reducible refine Below.drew ?_) | (with_reducible refine below_drewN ?_ _) | (with_reducible exact Below.refl _ _) | (focus (simp; done)) | (focus (simp; omega)) | (focus omega)))) | (refine bodyPost_ret (v := .agg #[.int .i64 3, .int .i64 ry]) ?_ rfl ⟨_, _, rfl, LiOk.c ry0 ry1, ?_⟩; (focus (simp [results, Try.results8, go_sem]; done)); exact (by repeat (first | (with_reducible refine Below.setCell ?_ ?_ _) | (with_reducible refine Below.alloc ?_ ?_ _) | (with_reducible refine Below.drew ?_) | (with_reducible refine below_drewN ?_ _) | (with_reducible exact Below.refl _ _) | (focus (simp; done)) | (focus (simp; omega)) | (focus omega)))) | (refine bodyPost_ret (v := .agg #[.int .i64 0, .int .i64 0]) ?_ rfl ⟨_, _, rfl, LiOk.z, ?_⟩; (focus (simp [results, Try.results8, go_sem]; done)); exact (by repeat (first | (with_reducible refine Below.setCell ?_ ?_ _) | (with_reducible refine Below.alloc ?_ ?_ _) | (with_reducible refine Below.drew ?_) | (with_reducible refine below_drewN ?_ _) | (with_reducible exact Below.refl _ _) | (focus (simp; done)) | (focus (simp; omega)) | (focus omega))))
end Go.Proofs.Ytgcjnkdiggbfeaa
