/- signalbrokerlaw19.RequestKeeps: the plain law and the walk -/
import Derived.Test.YtbanejpihdhbdaaRqUpd
import Derived.Test.YtbanejpihdhbdaaRqMark
import Derived.Test.YtbanejpihdhbdaaAwake19
namespace Go.Proofs.Ytbanejpihdhbdaa
set_option linter.unusedVariables false
open Go.RowKit Go.Sort
set_option maxRecDepth 100000

section
variable {p T a b t s : Int} (p0 : 0 ≤ p) (p1 : p < 3) (T0 : 5 ≤ T) (T1 : T < 25)
include p0 p1 T0 T1
theorem keeps_make : wMakeV 0 p 0 20 T = .tuple #[.agg #[.int .i64 0, .int .i64 p, .int .i64 T, .int .i64 (T + 20), .int .i64 (-1)], .int .i64 0] := by
  rw [wMakeV_yes (by omega), Int.add_zero]
theorem keeps_rk (hs : -1 ≤ s ∧ s ≤ 100) {f u : Int} (hf : 0 ≤ f ∧ f ≤ u ∧ u ≤ 100) : RkOk (7, 1, 0, T + 50, [⟨0, p, f, u, s⟩]) := by
  refine ⟨by simp, by simp, by simp, by simp only; omega, LegsOk.one ?_⟩
  unfold lgV wValid
  exact decide_eq_true (by simp only; omega)
theorem keeps_ok (hs : -1 ≤ s ∧ s ≤ 100) {f u : Int} (hf : 0 ≤ f ∧ f ≤ u ∧ u ≤ 100) : RqsOk [(7, 1, 0, T + 50, [⟨0, p, f, u, s⟩])] 4 :=
  .of (fun r hr => by rw [List.mem_singleton.1 hr]; exact keeps_rk p0 p1 T0 T1 hs hf) (by simp) (by simp)
theorem keeps_sub : subM [] 2 7 1 0 50 [⟨0, p, T, T + 20, -1⟩] T = (0, [(7, 1, 0, T + 50, [⟨0, p, T, T + 20, -1⟩])]) := by
  rw [subM_more ⟨.nil (by decide), by decide, by decide, by omega⟩ ⟨by decide, by decide, (keeps_rk (T := T) (s := -1) p0 p1 T0 T1 (by decide) (by omega)).2.2.2.2⟩, if_neg (by decide), if_neg (by decide)]
  rfl
omit p0 p1 T0 T1 in
theorem keeps_mark : markM [(7, 1, 0, T + 50, [⟨0, p, T, T + 20, -1⟩])] T = [(7, 1, 0, T + 50, [⟨0, p, T, T + 20, T⟩])] := by
  simp only [markM, Lg.mark, List.map_cons, List.map_nil, wMark]
  rw [if_pos (by omega)]
  simp
theorem keeps_upd (a0 : 0 ≤ a) (a1 : a < 3) (b0 : 0 ≤ b) (b1 : b < 15) (t0 : T ≤ t) (t1 : t < T + 10) : updM [(7, 1, 0, T + 50, [⟨0, p, T, T + 20, T⟩])] 7 [(a, a + b)] t = (0, [(7, 1, 0, T + 50, [⟨0, p, t + a, t + (a + b), T⟩])]) := by
  unfold updM
  rw [if_neg (not_not_intro ⟨keeps_ok p0 p1 T0 T1 (by omega) (by omega), by unfold tickOk; omega⟩)]
  have hok : wMakeOk 0 p a (a + b) t = true := by unfold wMakeOk; exact decide_eq_true (by omega)
  have e : ([(7, 1, 0, T + 50, [⟨0, p, T, T + 20, T⟩])] : List Rk).findIdx? (fun r => r.1 == 7) = some 0 := rfl
  rw [e]
  simp only [List.getElem?_cons_zero]
  rw [if_neg]
  · rfl
  · rintro (h | ⟨k, h1, h2, h3⟩)
    · exact h rfl
    · obtain rfl : k = 0 := by simp at h1; omega
      have : wMakeOk 0 p a (a + b) t = false := h3
      rw [hok] at this; cases this
omit p0 p1 in
theorem keeps_end (a0 : 0 ≤ a) (a1 : a < 3) (b0 : 0 ≤ b) (b1 : b < 15) (t0 : T ≤ t) (t1 : t < T + 10) : markM [(7, 1, 0, T + 50, [⟨0, p, t + a, t + (a + b), T⟩])] t = [(7, 1, 0, T + 50, [⟨0, p, t + a, t + (a + b), if 0 < a then -1 else T⟩])] := by
  simp only [markM, Lg.mark, List.map_cons, List.map_nil, wMark]
  by_cases h : 0 < a
  · rw [if_neg (by omega), if_pos h]
  · rw [if_pos (by omega), if_neg (by omega), if_neg h]
end
/-- a list of one request with one leg -/
theorem one_key {l : List Rq} {i v k t : Int} {g : Lg} (h : l.map Rq.key = [(i, v, k, t, [g])]) : ∃ a c, l = [⟨i, v, k, t, [g], a, c⟩] := by
  cases l with
  | nil => cases h
  | cons x l =>
    cases l with
    | cons y l => simp at h
    | nil =>
      obtain ⟨i', v', k', t', g', a, c⟩ := x
      simp only [List.map_cons, List.map_nil, List.cons.injEq, and_true, Rq.key, Prod.mk.injEq] at h
      obtain ⟨rfl, rfl, rfl, rfl, rfl⟩ := h
      exact ⟨a, c, rfl⟩
theorem one_facts {l : List Rq} {i v k t : Int} {g : Lg} (h : l.map Rq.key = [(i, v, k, t, [g])]) : l.length = 1 ∧ ∀ r ∈ l, r.legs.length ≤ 1 := by
  obtain ⟨a, c, rfl⟩ := one_key h
  exact ⟨rfl, fun r hr => by rw [List.mem_singleton.1 hr]; simp⟩
theorem one_wn {W : World} {g : Nat} {x y : Int} (k : Blk W g 54 #[.int .i64 x, .int .i64 y]) : Row W (some ⟨g, 0, none⟩) (wnCells [(x, y)]) := by
  refine .inr ⟨g, 0, rfl, k.lt, fun i hi => ?_⟩
  rw [Nat.zero_add, k.cell]
  have : i = 0 ∨ i = 1 := by simp [wnCells] at hi; omega
  rcases this with rfl | rfl <;> rfl
set_option maxHeartbeats 8000000 in
theorem requestKeeps_walk (a0 : Option Addr) (c0 : Nat) (l0 : List Int) (w1v w2v w3v : Int) (w : World) (h0 : Ints w a0 l0) (n0 : l0.length ≤ 9223372036854775807) :
    Calls Try.prog 7 #[.slice a0 l0.length c0, .int .i64 w1v, .int .i64 w2v, .int .i64 w3v] w fun e w' => e = .returned (.bool true) ∧ RowKit.Below w.heap.size w w' := by
  obtain ⟨n, En'⟩ : ∃ n, w3v % 20 = n := ⟨_, rfl⟩
  obtain ⟨m, Em'⟩ : ∃ m, w2v % 10 = m := ⟨_, rfl⟩
  obtain ⟨a, Ea'⟩ : ∃ a, w1v % 3 = a := ⟨_, rfl⟩
  have n1 : 0 ≤ n := by omega
  have n2 : n < 20 := by omega
  have m1 : 0 ≤ m := by omega
  have m2 : m < 10 := by omega
  have a1 : 0 ≤ a := by omega
  have a2 : a < 3 := by omega
  have En := Lib.hid En'
  have Em := Lib.hid Em'
  have Ea := Lib.hid Ea'
  clear En' Em' Ea'
  go_enter Try.func7, Try.ntmps7
  go_upto_region 3 with (first | (go_at_call 14; (with_reducible refine (mk_New a0 c0 l0 _ h0 n0).mono ?_); rintro e w1 ⟨rfl, hd1, hb1⟩) | (go_at_call 9; (with_reducible refine (mk_ModE En.out _ (by decide) (by decide)).mono ?_); rintro e wz ⟨rfl, rfl⟩))
  obtain ⟨V, hV⟩ : ∃ V, w.heap.size = V := ⟨_, rfl⟩
  rw [hV] at hd1 hb1 ⊢
  have T0 : 5 ≤ 5 + n := by omega
  have T1 : 5 + n < 25 := by omega
  go_upto_region 4 with (first | (go_at_call 21; (with_reducible refine (deck_Next V 3 _ _ 0 hd1 (by decide) (by decide)).mono ?_); rintro e w2 ⟨p, rfl, p0, p1, -, hd2, g2⟩; ((simp only [Int.zero_add]); (have HMK := Lib.hid (keeps_make p0 p1 T0 T1)))) | (go_at_call 35; (with_reducible refine (ref18_MakeE HMK.out _).mono ?_); rintro e w3 ⟨rfl, hb3⟩))
  have bw3 : RowKit.Below V w w3 := by
    have b2 : RowKit.Below V w w2 := ⟨g2.os.trans hb1.os, g2.tape.trans hb1.tape, g2.output.trans hb1.output, Nat.le_trans hb1.size g2.size, fun k hk => (g2.block k (by have := hb1.size; omega) (fun e => by injection e with e; omega)).trans (hb1.block k hk)⟩
    exact b2.trans (hb3.mono (by have := b2.size; omega))
  have hs3 := bw3.size
  obtain ⟨X, hX⟩ : ∃ X, w3.heap.size = X := ⟨_, rfl⟩
  refine wp_named (fun Y => Blk Y X 25 #[.int .i64 0, .int .i64 p, .int .i64 (5 + n), .int .i64 (5 + n + 20), .int .i64 (-1)] ∧ RowKit.Below V w Y) ⟨by rw [← hX]; exact Blk.new _ _ _, (by repeat (first | (with_reducible refine Below.setCell ?_ ?_ _) | (with_reducible refine Below.alloc ?_ ?_ _) | (with_reducible refine Below.drew ?_) | (with_reducible refine below_drewN ?_ _) | (with_reducible exact Below.refl _ _) | (with_reducible refine Below.trans ?_ (Below.mono bw3 ?_)) | (focus (simp; done)) | (focus (simp; omega)) | (focus omega) | (focus (have q0 := Below.size bw3; (try simp at q0); (try simp); omega))))⟩ ?_
  rw [hX]
  clear hX hs3 bw3 hd1 hb1 hd2 g2 hb3 HMK
  rintro Y ⟨kX, be⟩
  obtain ⟨c0', c1, c2, c3, c4, cf, cl⟩ := kX.five
  have hsz := be.size
  go_upto_region 5 with ((go_at_call 10; (with_reducible refine (request_Submit none [] 0 0 2 7 1 0 50 (some ⟨Y.heap.size, 0, none⟩) [⟨0, p, 5 + n, 5 + n + 20, -1⟩] 1 1 (5 + n) _ (Rqs.nil _ _) rfl (by decide) (by simp) (one_leg (Blk.new _ _ _)) rfl (by decide) (by decide) (by simp)).mono ?_); rintro e w4 ⟨xa, nx, xc, l2, er, rfl, hm, hn, il, hb4⟩))
  obtain ⟨rfl, hk⟩ : er = 0 ∧ l2.map Rq.key = [(7, 1, 0, 5 + n + 50, [⟨0, p, 5 + n, 5 + n + 20, -1⟩])] := by
    have := hm.out
    rw [List.map_nil, keeps_sub p0 p1 T0 T1] at this
    injection this with h1 h2
    exact ⟨h1.symm, h2.symm⟩
  have be4 : RowKit.Below V w w4 := (by repeat (first | (with_reducible refine Below.setCell ?_ ?_ _) | (with_reducible refine Below.alloc ?_ ?_ _) | (with_reducible refine Below.drew ?_) | (with_reducible refine below_drewN ?_ _) | (with_reducible exact Below.refl _ _) | (with_reducible refine Below.trans ?_ (Below.mono hb4 ?_)) | (with_reducible refine Below.trans ?_ (Below.mono be ?_)) | (focus (simp; done)) | (focus (simp; omega)) | (focus omega) | (focus (have q0 := Below.size hb4; (try simp at q0); have q1 := Below.size be; (try simp at q1); (try simp); omega))))
  have HK2 := Lib.hid hk
  have hl2 := (one_facts hk).1
  obtain rfl : nx = 1 := by rw [hn.out, hl2]
  have hok := il.lgOk (fun r hr => by have := (one_facts hk).2 r hr; omega)
  have H1 := Lib.hid hl2.symm
  clear hm hn hk hl2 c0' c1 c2 c3 c4 cf cl kX be hsz
  have hs4 := be4.size
  go_upto_region 8 with ((go_at_call 33; (with_reducible refine (request_Mark xa l2 1 xc (5 + n) _ il.rqs H1.out (by decide) (fun r hr => (hok r hr).1)).mono ?_); rintro e w5 ⟨xb, xd, l5, rfl, hk5, hn5, il5, hb5⟩))
  have hk : l5.map Rq.key = [(7, 1, 0, 5 + n + 50, [⟨0, p, 5 + n, 5 + n + 20, 5 + n⟩])] := by rw [hk5.out, HK2.out, keeps_mark]
  have HK5 := Lib.hid hk
  have hok5 := il5.lgOk (fun r hr => by have := (one_facts hk).2 r hr; omega)
  have H5 := Lib.hid (one_facts hk).1.symm
  have be5 : RowKit.Below V w w5 := (by repeat (first | (with_reducible refine Below.setCell ?_ ?_ _) | (with_reducible refine Below.alloc ?_ ?_ _) | (with_reducible refine Below.drew ?_) | (with_reducible refine below_drewN ?_ _) | (with_reducible exact Below.refl _ _) | (with_reducible refine Below.trans ?_ (Below.mono hb5 ?_)) | (with_reducible refine Below.trans ?_ (Below.mono be4 ?_)) | (focus (simp; done)) | (focus (simp; omega)) | (focus omega) | (focus (have q0 := Below.size hb5; (try simp at q0); have q1 := Below.size be4; (try simp at q1); (try simp); omega))))
  clear hk hk5 hn5 hb5 be4 H1 HK2 hok il hs4
  obtain ⟨b, Eb'⟩ : ∃ b, (wrap64 (w2v.tdiv 10)) % 15 = b := ⟨_, rfl⟩
  have b1 : 0 ≤ b := by omega
  have b2 : b < 15 := by omega
  have Eb := Lib.hid Eb'
  clear Eb'
  go_upto_region 10 with (first | (go_at_call 9; (with_reducible refine (mk_ModE Em.out _ (by decide) (by decide)).mono ?_); rintro e wz ⟨rfl, rfl⟩) | (go_at_call 9; (with_reducible refine (mk_ModE Ea.out _ (by decide) (by decide)).mono ?_); rintro e wz ⟨rfl, rfl⟩) | (go_at_call 9; (with_reducible refine (mk_ModE Eb.out _ (by decide) (by decide)).mono ?_); rintro e wz ⟨rfl, rfl⟩))
  have hs5 := be5.size
  go_upto_region 11 with ((go_at_call 24; (with_reducible refine (request_Update xb l5 1 xd 7 (some ⟨w5.heap.size, 0, none⟩) [(a, a + b)] 1 1 (5 + n + m) _ (il5.alloc _).rqs H5.out (by decide) hok5 (one_wn (Blk.new _ _ _)) rfl (by decide)).mono ?_); rintro e w6 ⟨xe, n6, xf, l6, er6, rfl, hm6, hn6, il6, hb6⟩))
  have hsub := hm6.out
  rw [HK5.out, keeps_upd (t := 5 + n + m) p0 p1 T0 T1 a1 a2 b1 b2 (by omega) (by omega)] at hsub
  obtain ⟨rfl, hk⟩ : er6 = 0 ∧ l6.map Rq.key = [(7, 1, 0, 5 + n + 50, [⟨0, p, 5 + n + m + a, 5 + n + m + (a + b), 5 + n⟩])] := by
    injection hsub with h1 h2
    exact ⟨h1.symm, h2.symm⟩
  have HK6 := Lib.hid hk
  obtain rfl : n6 = 1 := by rw [hn6.out, (one_facts hk).1]
  have hok6 := il6.lgOk (fun r hr => by have := (one_facts hk).2 r hr; omega)
  have H6 := Lib.hid (one_facts hk).1.symm
  have be6 : RowKit.Below V w w6 := (by repeat (first | (with_reducible refine Below.setCell ?_ ?_ _) | (with_reducible refine Below.alloc ?_ ?_ _) | (with_reducible refine Below.drew ?_) | (with_reducible refine below_drewN ?_ _) | (with_reducible exact Below.refl _ _) | (with_reducible refine Below.trans ?_ (Below.mono hb6 ?_)) | (with_reducible refine Below.trans ?_ (Below.mono be5 ?_)) | (focus (simp; done)) | (focus (simp; omega)) | (focus omega) | (focus (have q0 := Below.size hb6; (try simp at q0); have q1 := Below.size be5; (try simp at q1); (try simp); omega))))
  clear hk hsub hm6 hn6 hb6 be5 hs5 H5 HK5 hok5 il5
  have hs6 := be6.size
  go_upto_region 14 with ((go_at_call 33; (with_reducible refine (request_Mark xe l6 1 xf (5 + n + m) _ il6.rqs H6.out (by decide) (fun r hr => (hok6 r hr).1)).mono ?_); rintro e w7 ⟨xg, xh, l7, rfl, hk7, hn7, il7, hb7⟩))
  have hk : l7.map Rq.key = [(7, 1, 0, 5 + n + 50, [⟨0, p, 5 + n + m + a, 5 + n + m + (a + b), if 0 < a then -1 else 5 + n⟩])] := by rw [hk7.out, HK6.out, keeps_end T0 T1 a1 a2 b1 b2 (by omega) (by omega)]
  have be7 : RowKit.Below V w w7 := (by repeat (first | (with_reducible refine Below.setCell ?_ ?_ _) | (with_reducible refine Below.alloc ?_ ?_ _) | (with_reducible refine Below.drew ?_) | (with_reducible refine below_drewN ?_ _) | (with_reducible exact Below.refl _ _) | (with_reducible refine Below.trans ?_ (Below.mono hb7 ?_)) | (with_reducible refine Below.trans ?_ (Below.mono be6 ?_)) | (focus (simp; done)) | (focus (simp; omega)) | (focus omega) | (focus (have q0 := Below.size hb7; (try simp at q0); have q1 := Below.size be6; (try simp at q1); (try simp); omega))))
  obtain ⟨ya, yc, rfl⟩ := one_key hk
  clear hk hk7 hn7 hb7 be6 hs6 H6 HK6 hok6 il6
  obtain ⟨g, rfl, -, -⟩ := il7.own.open_ (by simp)
  obtain ⟨x0, x1, x2, x3, x4, xl⟩ := row_req il7.rqs.row 0 (by simp)
  have o := il7.legs _ (List.mem_singleton.2 rfl)
  obtain ⟨g2, rfl, -, -⟩ := o.open_ (by simp)
  obtain ⟨y0, y1, y2, y3, y4, yl⟩ := row_leg o.row 0 (by simp)
  simp only [List.getElem_cons_zero, Nat.zero_add, Nat.zero_mul, List.length_singleton] at x0 x1 x2 x3 x4 y0 y1 y2 y3 y4
  have hs7 := be7.size
  clear o il7
  by_cases ha : 0 < a
  · rw [if_pos ha] at y4
    go_wp2_with ((go_at_call 8; (with_reducible refine (law_awake _).mono ?_); rintro e w9 ⟨rfl, hb9⟩))
    go_ret
    rw [hV]
    exact ⟨rfl, (by repeat (first | (with_reducible refine Below.setCell ?_ ?_ _) | (with_reducible refine Below.alloc ?_ ?_ _) | (with_reducible refine Below.drew ?_) | (with_reducible refine below_drewN ?_ _) | (with_reducible exact Below.refl _ _) | (with_reducible refine Below.trans ?_ (Below.mono hb9 ?_)) | (with_reducible refine Below.trans ?_ (Below.mono be7 ?_)) | (focus (simp; done)) | (focus (simp; omega)) | (focus omega) | (focus (have q0 := Below.size hb9; (try simp at q0); have q1 := Below.size be7; (try simp at q1); (try simp); omega))))⟩
  · rw [if_neg ha] at y4
    go_wp2_with ((go_at_call 8; (with_reducible refine (law_awake _).mono ?_); rintro e w9 ⟨rfl, hb9⟩))
    go_ret
    rw [hV]
    exact ⟨rfl, (by repeat (first | (with_reducible refine Below.setCell ?_ ?_ _) | (with_reducible refine Below.alloc ?_ ?_ _) | (with_reducible refine Below.drew ?_) | (with_reducible refine below_drewN ?_ _) | (with_reducible exact Below.refl _ _) | (with_reducible refine Below.trans ?_ (Below.mono hb9 ?_)) | (with_reducible refine Below.trans ?_ (Below.mono be7 ?_)) | (focus (simp; done)) | (focus (simp; omega)) | (focus omega) | (focus (have q0 := Below.size hb9; (try simp at q0); have q1 := Below.size be7; (try simp at q1); (try simp); omega))))⟩
end Go.Proofs.Ytbanejpihdhbdaa
