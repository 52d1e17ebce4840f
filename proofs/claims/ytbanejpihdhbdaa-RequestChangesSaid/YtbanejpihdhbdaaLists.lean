/- signalbrokerlaw19.RequestLists: the walk -/
import Derived.Test.YtbanejpihdhbdaaBent
import Derived.Test.YtbanejpihdhbdaaRefCl
import Derived.Test.YtbanejpihdhbdaaRefKept
import Derived.Test.YtbanejpihdhbdaaRqMark
import Derived.Test.YtbanejpihdhbdaaSame19
namespace Go.Proofs.Ytbanejpihdhbdaa
set_option linter.unusedVariables false
open Go.RowKit Go.Sort
set_option maxRecDepth 100000

theorem says_bool (P : Prop) : ∃ b : Bool, Hid (b = true ↔ P) := by
  by_cases h : P
  · exact ⟨true, Lib.hid ⟨fun _ => h, fun _ => rfl⟩⟩
  · exact ⟨false, Lib.hid ⟨fun q => (by cases q), fun q => absurd q h⟩⟩
theorem cl_same {ag j : Int} {l : List Rk} {q : Int} (h : RqsOk l q) : clM ag j l = clN ag j l := by
  unfold clM clN
  have : ∀ m : List Rk, (∀ r ∈ m, RkOk r) → m.flatMap (clOf ag j) = m.flatMap (lvK ag j) := fun m => by
    induction m with
    | nil => intro _; rfl
    | cons x m ih =>
      intro hm
      rw [List.flatMap_cons, List.flatMap_cons, ih fun r hr => hm r (by simp [hr]), clOf_lv (hm x (by simp)).2.2.2.2]
      rfl
  exact this l h.mem
theorem one_rq {W : World} {g : Nat} {i v k t : Int} {lg : List Lg} {la : Option Addr} {lc : Nat} (h : Blk W g 45 #[.int .i64 i, .int .i64 v, .int .i64 k, .int .i64 t, .slice la lg.length lc]) (hr : Row W la (lgCells lg)) : Rqs W (some ⟨g, 0, none⟩) [⟨i, v, k, t, lg, la, lc⟩] := by
  refine ⟨.inr ⟨g, 0, rfl, h.lt, fun j hj => ?_⟩, fun r hr' => by rw [List.mem_singleton.1 hr']; exact hr⟩
  rw [Nat.zero_add, h.cell]
  have : j = 0 ∨ j = 1 ∨ j = 2 ∨ j = 3 ∨ j = 4 := by simp [rqCells, Rq.cells] at hj; omega
  rcases this with rfl | rfl | rfl | rfl | rfl <;> rfl
theorem clN_len {ag j : Int} : ∀ {l : List Rq}, (∀ r ∈ l, r.legs.length ≤ 9) → (clN ag j (l.map Rq.key)).length ≤ 9 * l.length
  | [], _ => by simp [clN]
  | x :: l, h => by
    have ih := clN_len (ag := ag) (j := j) (l := l) fun r hr => h r (by simp [hr])
    have hx := h x (by simp)
    have e : (lvK ag j x.key).length ≤ x.legs.length := by
      simp only [lvK, lvOf, List.length_map]
      exact List.length_filter_le _ _
    simp only [clN, List.map_cons, List.flatMap_cons, List.length_append, List.length_cons] at ih ⊢
    omega
theorem find_len {l : List Rq} {id i v k t : Int} {lg : List Lg} {N : Nat} (h : ∀ r ∈ l, r.legs.length ≤ N) (e : (findM (l.map Rq.key) id).getD (0, 0, 0, 0, []) = (i, v, k, t, lg)) : lg.length ≤ N := by
  unfold findM at e
  cases hf : (l.map Rq.key).find? (fun r => r.1 == id) with
  | none =>
    rw [hf] at e
    have e2 : lg = [] := (congrArg (fun r : Rk => r.2.2.2.2) e).symm
    rw [e2]; simp
  | some r =>
    rw [hf] at e
    obtain ⟨x, hx, rfl⟩ := List.mem_map.1 (List.mem_of_find?_eq_some hf)
    have e2 : x.legs = lg := congrArg (fun r : Rk => r.2.2.2.2) e
    rw [← e2]; exact h x hx
theorem kept_bd {l l2 : List Rq} {p : Rk → Bool} (h : l2.map Rq.key = (l.map Rq.key).filter p) (hs : ∀ r ∈ l, r.legs.length ≤ 9) : l2.length ≤ l.length ∧ ∀ r ∈ l2, r.legs.length ≤ 100000 := by
  constructor
  · have := congrArg List.length h
    rw [List.length_map] at this
    have q := List.length_filter_le p (l.map Rq.key)
    rw [List.length_map] at q
    omega
  · intro r hr
    have q : r.key ∈ (l.map Rq.key).filter p := by rw [← h]; exact List.mem_map_of_mem hr
    obtain ⟨x, hx, e⟩ := List.mem_map.1 (List.mem_filter.1 q).1
    have e2 : x.legs = r.legs := congrArg (fun k : Rk => k.2.2.2.2) e
    have := hs x hx
    rw [← e2]; omega
theorem mark_bd {l l2 : List Rq} {t : Int} (h : l2.map Rq.key = markM (l.map Rq.key) t) (hs : ∀ r ∈ l, r.legs.length ≤ 9) : ∀ r ∈ l2, r.legs.length ≤ 100000 := by
  intro r hr
  have q : r.key ∈ markM (l.map Rq.key) t := by rw [← h]; exact List.mem_map_of_mem hr
  simp only [markM, List.map_map, List.mem_map] at q
  obtain ⟨x, hx, e⟩ := q
  have e2 : x.legs.map (Lg.mark t) = r.legs := congrArg (fun k : Rk => k.2.2.2.2) e
  have := hs x hx
  rw [← e2, List.length_map]; omega
/-- a raw list that came in -/
structure Raw (w : World) (a : Option Addr) (l : List Rq) : Prop where
  rqs : Rqs w a l
  lg : ∀ r ∈ l, (r.a = none → r.c = 0) ∧ r.legs.length ≤ r.c
  n : l.length ≤ 9223372036854775807
theorem Raw.gd {w w' : World} {a : Option Addr} {l : List Rq} (h : Raw w a l) (h9 : l.length ≤ 9 ∧ ∀ r ∈ l, r.legs.length ≤ 9) (hb : Below w.heap.size w w') : RqGd w' a l :=
  ⟨h.rqs.below hb (Nat.le_refl _), fun r hr => ⟨⟨by have := h9.2 r hr; omega, (h.lg r hr).1⟩, (h.lg r hr).2⟩, h9.1, h9.2⟩
theorem RqL.gd {w : World} {B : Nat} {l : List Rq} {xa : Option Addr} {xc : Nat} (h : RqL w B l xa xc) (hk : RqsOk (l.map Rq.key) 4) : RqGd w xa l :=
  ⟨h.rqs, h.lgOk fun r hr => by have := hk.legsLen r hr; omega, by have := hk.n.2; simp at this; omega, fun r hr => by have := hk.legsLen r hr; omega⟩
set_option maxHeartbeats 8000000 in
theorem requestLists_walk (a0 : Option Addr) (c0 : Nat) (l0 : List Rq) (a1 : Option Addr) (c1 : Nat) (l1 : List Int) (which by_ quota now : Int) (w : World) (h0 : Raw w a0 l0) (h1 : Ints w a1 l1) (n1 : l1.length ≤ 9223372036854775807) :
    Calls Try.prog 6 #[.slice a0 l0.length c0, .slice a1 l1.length c1, .int .i64 which, .int .i64 by_, .int .i64 quota, .int .i64 now] w fun e w' => e = .returned (.bool true) ∧ RowKit.Below w.heap.size w w' := by
  obtain ⟨qq, Eq'⟩ : ∃ n, quota % 6 = n := ⟨_, rfl⟩
  obtain ⟨t, Et'⟩ : ∃ n, now % 30 = n := ⟨_, rfl⟩
  obtain ⟨u, Eu'⟩ : ∃ n, by_ % 40 = n := ⟨_, rfl⟩
  have q0 : 0 ≤ qq := by omega
  have t0 : 0 ≤ t := by omega
  have t1 : t < 30 := by omega
  have u0 : 0 ≤ u := by omega
  have u1 : u < 40 := by omega
  have Eq := Lib.hid Eq'
  have Et := Lib.hid Et'
  have Eu := Lib.hid Eu'
  have H0 := Lib.hid h0
  have n0 := h0.n
  clear Eq' Et' Eu' h0
  go_enter Try.func6, Try.ntmps6
  go_upto_if 29 with ((go_at_call 19; (with_reducible refine (law_light a0 l0 l0.length c0 _ H0.out.rqs rfl n0).mono ?_); rintro e w1 ⟨b, rfl, HB, hb1⟩))
  cases b with
  | false =>
    go_wp2_with ((go_at_call 8; (with_reducible refine (law_awake _).mono ?_); rintro e w9 ⟨rfl, hb9⟩))
    go_ret
    exact ⟨rfl, (by repeat (first | (with_reducible refine Below.setCell ?_ ?_ _) | (with_reducible refine Below.alloc ?_ ?_ _) | (with_reducible refine Below.drew ?_) | (with_reducible refine below_drewN ?_ _) | (with_reducible exact Below.refl _ _) | (with_reducible refine Below.trans ?_ (Below.mono hb9 ?_)) | (with_reducible refine Below.trans ?_ (Below.mono hb1 ?_)) | (focus (simp; done)) | (focus (simp; omega)) | (focus omega) | (focus (have q0 := Below.size hb9; (try simp at q0); have q1 := Below.size hb1; (try simp at q1); (try simp); omega))))⟩
  | true =>
    have h1w := h1.below hb1 (Nat.le_refl _)
    go_upto_region 5 with (first | (go_at_call 9; (with_reducible refine (mk_ModE Eq.out _ (by decide) (by decide)).mono ?_); rintro e wz ⟨rfl, rfl⟩) | (go_at_call 9; (with_reducible refine (mk_ModE Et.out _ (by decide) (by decide)).mono ?_); rintro e wz ⟨rfl, rfl⟩) | (go_at_call 14; (with_reducible refine (mk_New a1 c1 l1 _ h1w n1).mono ?_); rintro e w2 ⟨rfl, hd2, hb2⟩) | (go_at_call 15; (with_reducible refine (deck_Requests _ ⟨a1, c1, l1⟩ 0 4 t _ hd2 (by decide) t0 (by omega)).mono ?_); rintro e w3 ⟨kd, n, l, xa, xc, rfl, hn, hok, il, hd3, g3⟩))
    have be3 : RowKit.Below w.heap.size w w3 := by
      have b2 : RowKit.Below w.heap.size w w2 := (by repeat (first | (with_reducible refine Below.setCell ?_ ?_ _) | (with_reducible refine Below.alloc ?_ ?_ _) | (with_reducible refine Below.drew ?_) | (with_reducible refine below_drewN ?_ _) | (with_reducible exact Below.refl _ _) | (with_reducible refine Below.trans ?_ (Below.mono hb2 ?_)) | (with_reducible refine Below.trans ?_ (Below.mono hb1 ?_)) | (focus (simp; done)) | (focus (simp; omega)) | (focus omega) | (focus (have q0 := Below.size hb2; (try simp at q0); have q1 := Below.size hb1; (try simp at q1); (try simp); omega))))
      exact ⟨g3.os.trans b2.os, g3.tape.trans b2.tape, g3.output.trans b2.output, Nat.le_trans b2.size g3.size, fun k hk => (g3.block k (by have := b2.size; omega) (fun e => by injection e with e; have := hb1.size; omega)).trans (b2.block k hk)⟩
    obtain ⟨ol, oh, om⟩ := hok.out
    have hok4 : RqsOk (l.map Rq.key) 4 := by rw [om]; exact markM_ok oh t0 (by omega)
    have HL3 := Lib.hid (show ∀ r ∈ l, 1 ≤ r.legs.length ∧ r.legs.length ≤ 3 from fun r hr => (hok4.mem _ (List.mem_map_of_mem hr)).2.2.2.2.n)
    have gx := il.gd hok4
    have hl4 : l.length ≤ 4 := by have := hok4.n.2; simpa using this
    obtain rfl := hn.out
    clear om oh hok4 hok hd2 hb2 hd3 g3 hn il h1w
    go_upto_block 0 with ((go_at_call 22; (with_reducible refine (law_bent xa l l.length xc which by_ _ gx.rqs rfl hl4 HL3.out).mono ?_); rintro e w4 ⟨ba, bl, bc, rfl, gb, hb4, -⟩))
    have b4 : RowKit.Below w.heap.size w w4 := (by repeat (first | (with_reducible refine Below.setCell ?_ ?_ _) | (with_reducible refine Below.alloc ?_ ?_ _) | (with_reducible refine Below.drew ?_) | (with_reducible refine below_drewN ?_ _) | (with_reducible exact Below.refl _ _) | (with_reducible refine Below.trans ?_ (Below.mono hb4 ?_)) | (with_reducible refine Below.trans ?_ (Below.mono be3 ?_)) | (focus (simp; done)) | (focus (simp; omega)) | (focus omega) | (focus (have q0 := Below.size hb4; (try simp at q0); have q1 := Below.size be3; (try simp at q1); (try simp); omega))))
    have gr := H0.out.gd (HB.out trivial) b4
    have gx4 := gx.below hb4
    obtain ⟨X, hX⟩ : ∃ X, w4.heap.size = X := ⟨_, rfl⟩
    refine wp_named (fun Y => Blk Y X 27 #[.slice a0 l0.length c0, .slice xa l.length xc, .slice ba bl.length bc] ∧ RqGd Y a0 l0 ∧ RqGd Y xa l ∧ RqGd Y ba bl ∧ RowKit.Below w.heap.size w Y) ⟨by rw [← hX]; exact Blk.new _ _ _, gr.alloc _, gx4.alloc _, gb.alloc _, (by repeat (first | (with_reducible refine Below.setCell ?_ ?_ _) | (with_reducible refine Below.alloc ?_ ?_ _) | (with_reducible refine Below.drew ?_) | (with_reducible refine below_drewN ?_ _) | (with_reducible exact Below.refl _ _) | (with_reducible refine Below.trans ?_ (Below.mono b4 ?_)) | (focus (simp; done)) | (focus (simp; omega)) | (focus omega) | (focus (have q0 := Below.size b4; (try simp at q0); (try simp); omega))))⟩ ?_
    rw [hX]
    clear hX gr gx4 gb b4 be3 gx hb4 HL3 hl4
    rintro Y ⟨kX, gr, gx, gb, bY⟩
    have HK := Lib.hid (show ∀ i, i < 3 → ∃ (a : Option Addr) (l : List Rq) (c : Nat), Y.cell? ⟨X, i, none⟩ = some (.slice a l.length c) ∧ RqGd Y a l from fun i hi => by
      have : i = 0 ∨ i = 1 ∨ i = 2 := by omega
      rcases this with rfl | rfl | rfl
      · exact ⟨_, _, _, kX.cell 0, gr⟩
      · exact ⟨_, _, _, kX.cell 1, gx⟩
      · exact ⟨_, _, _, kX.cell 2, gb⟩)
    have xY := kX.lt
    have hYs := bY.size
    clear kX gr gx gb
    go_wp2_with fail
    go_loopw [47] (fun s47 wr => ∃ i : Nat, s47 = .int .i64 i ∧ i ≤ 3 ∧ RowKit.Below Y.heap.size Y wr) (fun s _ => 3 - (intOf s).toNat)
    case atStart => exact ⟨0, rfl, by omega, (by repeat (first | (with_reducible refine Below.setCell ?_ ?_ _) | (with_reducible refine Below.alloc ?_ ?_ _) | (with_reducible refine Below.drew ?_) | (with_reducible refine below_drewN ?_ _) | (with_reducible exact Below.refl _ _) | (focus (simp; done)) | (focus (simp; omega)) | (focus omega)))⟩
    case round =>
      obtain ⟨i, rfl, hi, bw⟩ := hrel
      obtain ⟨U, hU⟩ : ∃ U, wr = U := ⟨_, rfl⟩
      rw [hU] at bw ⊢
      clear hU
      by_cases hlt : i < 3
      · have kx : (i : Int) < 3 := by omega
        obtain ⟨ya, y, yc, y0, gy⟩ := HK.out i hlt
        have x0 := (bw.cell (p := ⟨X, i, none⟩) xY).trans y0
        have xl := Nat.lt_of_lt_of_le xY bw.size
        have g := gy.below bw
        have hy9 := g.n
        have hsm := g.sm
        have HLG := Lib.hid (fun r (hr : r ∈ y) => And.intro ((g.lg r hr).2) (show r.legs.length ≤ 100000 by have := hsm r hr; omega))
        have HL2 := Lib.hid (fun r (hr : r ∈ y) => (g.lg r hr).1)
        have HL4 := Lib.hid (fun r (hr : r ∈ y) => (show r.legs.length ≤ 100000 by have := hsm r hr; omega))
        obtain ⟨bq, HQ⟩ := says_bool (RqsOk (y.map Rq.key) qq)
        obtain ⟨b4, H4⟩ := says_bool (RqsOk (y.map Rq.key) 4)
        have be : RowKit.Below U.heap.size U U := RowKit.Below.refl _ _
        have HG := Lib.hid (show ∀ W, RowKit.Below U.heap.size U W → Rqs W ya y from fun W h => (g.below h).rqs)
        have HLC := Lib.hid (fun r (hr : r ∈ y) => (show r.legs.length ≤ 100 by have := hsm r hr; omega))
        have HLD := Lib.hid (fun r (hr : r ∈ y) => (show r.legs.length ≤ 10000 by have := hsm r hr; omega))
        have HSM := Lib.hid hsm
        clear g gy y0 hsm
        go_upto_if 67 with (first | (go_at_call 12; (with_reducible refine (Says.b (request_Valid ya y y.length yc qq _ (HG.out _ be) rfl (by omega) HLG.out) HQ).mono ?_); rintro e w1 ⟨rfl, hbn⟩; (replace be := be.trans (hbn.mono be.size))) | (go_at_call 27; (with_reducible refine (Says.b (ref19_Valid ya y y.length yc qq _ (HG.out _ be) rfl (by omega) HLG.out) HQ).mono ?_); rintro e w1 ⟨rfl, hbn⟩; (replace be := be.trans (hbn.mono be.size))) | (go_at_call 12; (with_reducible refine (Says.b (request_Valid ya y y.length yc 4 _ (HG.out _ be) rfl (by omega) HLG.out) H4).mono ?_); rintro e w1 ⟨rfl, hbn⟩; (replace be := be.trans (hbn.mono be.size))) | (go_at_call 27; (with_reducible refine (Says.b (ref19_Valid ya y y.length yc 4 _ (HG.out _ be) rfl (by omega) HLG.out) H4).mono ?_); rintro e w1 ⟨rfl, hbn⟩; (replace be := be.trans (hbn.mono be.size))))
        refine wp_named (fun W => RowKit.Below U.heap.size U W) be ?_
        clear be x0 xl
        rintro W0 be
        cases b4 with
        | false =>
          go_wp2_with fail
          go_roundw
          case rel => exact ⟨i + 1, by go_num, by omega, (by repeat (first | (with_reducible refine Below.setCell ?_ ?_ _) | (with_reducible refine Below.alloc ?_ ?_ _) | (with_reducible refine Below.drew ?_) | (with_reducible refine below_drewN ?_ _) | (with_reducible exact Below.refl _ _) | (with_reducible refine Below.trans ?_ (Below.mono be ?_)) | (with_reducible refine Below.trans ?_ (Below.mono bw ?_)) | (focus (simp; done)) | (focus (simp; omega)) | (focus omega) | (focus (have q0 := Below.size be; (try simp at q0); have q1 := Below.size bw; (try simp at q1); (try simp); omega))))⟩
          case measure => simp [intOf]; omega
        | true =>
          have hok : RqsOk (y.map Rq.key) 4 := by have := H4.out; simpa using this
          have HCL := Lib.hid (fun j => cl_same (ag := by_) (j := j) hok)
          clear hok H4 HQ
          simp only [Bool.not_true]
          go_wp2_with fail
          go_loopw [68] (fun s68 wy => ∃ k : Nat, s68 = .int .i64 k ∧ k ≤ 7 ∧ RowKit.Below U.heap.size U wy) (fun s _ => 7 - (intOf s).toNat)
          case atStart => exact ⟨0, rfl, by omega, be⟩
          case round =>
            clear be
            obtain ⟨k, rfl, hk, be⟩ := hrel
            by_cases hk7 : k < 7
            · have kx7 : (k : Int) < 7 := by omega
              go_upto_region 15 with ((go_at_call 28; (with_reducible refine (request_Find ya y y.length yc k _ (HG.out _ be) rfl (by omega) HL2.out).mono ?_); rintro e w1 ⟨fi, fv, fk, ft, flg, fla, flc, fb, rfl, HF1, HF2, fo, hbn⟩; (replace be := be.trans (hbn.mono be.size))))
              obtain ⟨P1, hP1⟩ : ∃ P, w1.heap.size = P := ⟨_, rfl⟩
              refine wp_named (fun Z => Blk Z P1 45 #[.int .i64 fi, .int .i64 fv, .int .i64 fk, .int .i64 ft, .slice fla flg.length flc] ∧ Row Z fla (lgCells flg) ∧ RowKit.Below U.heap.size U Z) ⟨by rw [← hP1]; exact Blk.new _ _ _, fo.row.alloc _, (by repeat (first | (with_reducible refine Below.setCell ?_ ?_ _) | (with_reducible refine Below.alloc ?_ ?_ _) | (with_reducible refine Below.drew ?_) | (with_reducible refine below_drewN ?_ _) | (with_reducible exact Below.refl _ _) | (with_reducible refine Below.trans ?_ (Below.mono be ?_)) | (focus (simp; done)) | (focus (simp; omega)) | (focus omega) | (focus (have q0 := Below.size be; (try simp at q0); (try simp); omega))))⟩ ?_
              rw [hP1]
              clear hP1 fo be hbn
              rintro Z ⟨k1, r1, be⟩
              go_upto_region 16 with ((go_at_call 29; (with_reducible refine (ref19_Find ya y y.length yc k _ (HG.out _ be) rfl (by omega) HL4.out).mono ?_); rintro e w2 ⟨gi, gv, gk, gt, glg, gla, glc, gb, rfl, HF3, HF4, go, hbn⟩; (replace be := be.trans (hbn.mono be.size))))
              obtain ⟨rfl, rfl, rfl, rfl, rfl⟩ : fi = gi ∧ fv = gv ∧ fk = gk ∧ ft = gt ∧ flg = glg := by
                have q := HF2.out.symm.trans HF4.out
                simpa only [Prod.mk.injEq] using q
              obtain rfl : fb = gb := HF1.out.symm.trans HF3.out
              have hfl := find_len HSM.out HF2.out
              obtain ⟨P2, hP2⟩ : ∃ P, w2.heap.size = P := ⟨_, rfl⟩
              refine wp_named (fun Z => Blk Z P1 45 #[.int .i64 fi, .int .i64 fv, .int .i64 fk, .int .i64 ft, .slice fla flg.length flc] ∧ Blk Z P2 45 #[.int .i64 fi, .int .i64 fv, .int .i64 fk, .int .i64 ft, .slice gla flg.length glc] ∧ Row Z fla (lgCells flg) ∧ Row Z gla (lgCells flg) ∧ RowKit.Below U.heap.size U Z) ⟨(k1.below hbn k1.lt).alloc _, by rw [← hP2]; exact Blk.new _ _ _, (r1.below hbn (Nat.le_refl _)).alloc _, go.row.alloc _, (by repeat (first | (with_reducible refine Below.setCell ?_ ?_ _) | (with_reducible refine Below.alloc ?_ ?_ _) | (with_reducible refine Below.drew ?_) | (with_reducible refine below_drewN ?_ _) | (with_reducible exact Below.refl _ _) | (with_reducible refine Below.trans ?_ (Below.mono be ?_)) | (focus (simp; done)) | (focus (simp; omega)) | (focus omega) | (focus (have q0 := Below.size be; (try simp at q0); (try simp); omega))))⟩ ?_
              rw [hP2]
              clear hP2 go be hbn HF1 HF2 HF3 HF4 k1 r1
              rintro Z2 ⟨k1, k2, r1, r2, be⟩
              obtain ⟨v0, v1, v2, v3, v4, vf, vl⟩ := k1.five
              obtain ⟨x0, x1, x2, x3, x4, xf, xl⟩ := k2.five
              have ba0 : RowKit.Below U.heap.size U ((Z2.alloc (.cells #[.int .i64 fi, .int .i64 fv, .int .i64 fk, .int .i64 ft, .slice fla flg.length flc] 45)).alloc (.cells #[.int .i64 fi, .int .i64 fv, .int .i64 fk, .int .i64 ft, .slice gla flg.length glc] 45)) := (by repeat (first | (with_reducible refine Below.setCell ?_ ?_ _) | (with_reducible refine Below.alloc ?_ ?_ _) | (with_reducible refine Below.drew ?_) | (with_reducible refine below_drewN ?_ _) | (with_reducible exact Below.refl _ _) | (with_reducible refine Below.trans ?_ (Below.mono be ?_)) | (focus (simp; done)) | (focus (simp; omega)) | (focus omega) | (focus (have q0 := Below.size be; (try simp at q0); (try simp); omega))))
              go_wp2_with (first | (go_at_call 11; (with_reducible refine (ref19_Same (some ⟨Z2.heap.size, 0, none⟩) (some ⟨Z2.heap.size + 1, 0, none⟩) [⟨fi, fv, fk, ft, flg, fla, flc⟩] [⟨fi, fv, fk, ft, flg, gla, glc⟩] 1 1 1 1 _ (one_rq ((Blk.new _ _ _).alloc _) ((r1.alloc _).alloc _)) (one_rq (Blk.next _ _ _ _) ((r2.alloc _).alloc _)) rfl rfl rfl (by decide) (fun r hr => by rw [List.mem_singleton.1 hr]; simp only; omega)).mono ?_); rintro e w4 ⟨rfl, hbn⟩; (have be := ba0.trans (hbn.mono ba0.size))) | (go_at_call 17; (with_reducible refine (request_Without ya y y.length yc k _ (HG.out _ be) rfl (by omega) HL2.out).mono ?_); rintro e w5 ⟨en, ea, ec, el, rfl, hke, hen, ile, hbn⟩; (replace be := be.trans (hbn.mono be.size))) | (go_at_call 30; (with_reducible refine (ref19_Without ya y y.length yc k _ (HG.out _ be) rfl (by omega) HL4.out).mono ?_); rintro e w6 ⟨fn, fa, fc, fl, rfl, hkf, hfn, ilf, hbm⟩; (replace be := be.trans (hbm.mono be.size))) | (go_at_call 11; (with_reducible refine (ref19_Same ea fa el fl en ec fn fc _ (ile.below hbm).rqs ilf.rqs hen.out hfn.out (by rw [hke.out, hkf.out]) (by have := (kept_bd hke.out HSM.out).1; rw [hen.out]; omega) (kept_bd hke.out HSM.out).2).mono ?_); rintro e w7 ⟨rfl, hbn⟩; (replace be := be.trans (hbn.mono be.size))))
              go_roundw
              case rel => exact ⟨k + 1, by go_num, by omega, be⟩
              case measure => simp [intOf]; omega
            · obtain rfl : k = 7 := by omega
              simp only [show ((7 : Nat) : Int) = 7 from rfl]
              go_wp2_with fail
              go_loopw [105] (fun s105 wy => ∃ j : Nat, s105 = .int .i64 j ∧ j ≤ 5 ∧ RowKit.Below U.heap.size U wy) (fun s _ => 5 - (intOf s).toNat)
              case atStart => exact ⟨0, rfl, by omega, be⟩
              case round =>
                clear be
                obtain ⟨j, rfl, hj, be⟩ := hrel
                by_cases hj5 : j < 5
                · have kx5 : (j : Int) < 5 := by omega
                  go_upto_region 23 with (first | (go_at_call 16; (with_reducible refine (request_Claims ya y y.length yc by_ j _ (HG.out _ be) rfl (by omega) HLD.out).mono ?_); rintro e w1 ⟨ca, m, cc, rfl, hm, own, hbn⟩; (replace be := be.trans (hbn.mono be.size))) | (go_at_call 31; (with_reducible refine (ref19_Claims ya y y.length yc by_ j _ (HG.out _ be) rfl (by omega) HLC.out).mono ?_); rintro e w2 ⟨cb, m2, cd, rfl, hm2, own2, hbm⟩; (replace be := be.trans (hbm.mono be.size))))
                  rw [HCL.out] at hm own
                  have hKl := clN_len (ag := by_) (j := j) HSM.out
                  obtain ⟨K, hK⟩ : ∃ K, clN by_ j (y.map Rq.key) = K := ⟨_, rfl⟩
                  rw [hK] at hm hm2 own own2 hKl
                  have hm100 : m ≤ 100 := by rw [hm.out]; omega
                  obtain rfl : m2 = m := hm2.out.trans hm.out.symm
                  have HM := Lib.hid hm.out
                  clear hK hm hm2
                  refine wp_named (fun Z => Row Z ca (lgCells K) ∧ Row Z cb (lgCells K) ∧ RowKit.Below U.heap.size U Z) ⟨own.row.below hbm (Nat.le_refl _), own2.row, be⟩ ?_
                  clear own own2 be hbn hbm
                  rintro Z ⟨rA, rB, bz⟩
                  go_wp2_with fail
                  go_loopw [123] (fun s123 wy => ∃ x : Nat, s123 = .int .i64 x ∧ x ≤ m2 ∧ RowKit.Below Z.heap.size Z wy) (fun s _ => m2 - (intOf s).toNat)
                  case atStart => exact ⟨0, rfl, by omega, (by repeat (first | (with_reducible refine Below.setCell ?_ ?_ _) | (with_reducible refine Below.alloc ?_ ?_ _) | (with_reducible refine Below.drew ?_) | (with_reducible refine below_drewN ?_ _) | (with_reducible exact Below.refl _ _) | (focus (simp; done)) | (focus (simp; omega)) | (focus omega)))⟩
                  case round =>
                    obtain ⟨x, rfl, hx, bx⟩ := hrel
                    by_cases hxm : x < m2
                    · have kxm : (x : Int) < (m2 : Int) := by omega
                      have hxK : x < K.length := by rw [← HM.out]; exact hxm
                      obtain ⟨g, o, rfl⟩ := rA.open_lg (by omega)
                      obtain ⟨g2, o2, rfl⟩ := rB.open_lg (by omega)
                      obtain ⟨y0, y1, y2, y3, y4, yl⟩ := row_leg (rA.below bx (Nat.le_refl _)) x hxK
                      obtain ⟨z0, z1, z2, z3, z4, zl⟩ := row_leg (rB.below bx (Nat.le_refl _)) x hxK
                      obtain ⟨q, hq⟩ : ∃ q, K[x] = q := ⟨_, rfl⟩
                      rw [hq] at y0 y1 y2 y3 y4 z0 z1 z2 z3 z4
                      obtain ⟨ju, ph, fr, to_, si⟩ := q
                      simp only at y0 y1 y2 y3 y4 z0 z1 z2 z3 z4
                      clear hq
                      go_upto_region 28 with fail
                      go_quiet (fail)
                      go_wp2_with fail
                      go_roundw
                      case rel => exact ⟨x + 1, by go_num, by omega, (by repeat (first | (with_reducible refine Below.setCell ?_ ?_ _) | (with_reducible refine Below.alloc ?_ ?_ _) | (with_reducible refine Below.drew ?_) | (with_reducible refine below_drewN ?_ _) | (with_reducible exact Below.refl _ _) | (with_reducible refine Below.trans ?_ (Below.mono bx ?_)) | (focus (simp; done)) | (focus (simp; omega)) | (focus omega) | (focus (have q0 := Below.size bx; (try simp at q0); (try simp); omega))))⟩
                      case measure => simp [intOf]; omega
                    · obtain rfl : x = m2 := by omega
                      go_wp2_with fail
                      go_roundw
                      case rel => exact ⟨j + 1, by go_num, by omega, bz.trans (bx.mono bz.size)⟩
                      case measure => simp [intOf]; omega
                · obtain rfl : j = 5 := by omega
                  simp only [show ((5 : Nat) : Int) = 5 from rfl]
                  go_upto_block 8 with ((go_at_call 9; (with_reducible refine (mk_ModE Eu.out _ (by decide) (by decide)).mono ?_); rintro e wz ⟨rfl, rfl⟩))
                  obtain ⟨P, hP⟩ : ∃ P, wr.heap.size = P := ⟨_, rfl⟩
                  refine wp_named (fun Z => Blk Z P 3 #[.int .i64 t, .int .i64 (t + u)] ∧ RowKit.Below U.heap.size U Z) ⟨by rw [← hP]; exact Blk.new _ _ _, (by repeat (first | (with_reducible refine Below.setCell ?_ ?_ _) | (with_reducible refine Below.alloc ?_ ?_ _) | (with_reducible refine Below.drew ?_) | (with_reducible refine below_drewN ?_ _) | (with_reducible exact Below.refl _ _) | (with_reducible refine Below.trans ?_ (Below.mono be ?_)) | (focus (simp; done)) | (focus (simp; omega)) | (focus omega) | (focus (have q0 := Below.size be; (try simp at q0); (try simp); omega))))⟩ ?_
                  rw [hP]
                  clear hP be
                  rintro Z ⟨kP, bz⟩
                  have HV := Lib.hid (show ∀ x, x < 2 → ∃ v : Int, Z.cell? ⟨P, x, none⟩ = some (.int .i64 v) from fun x hx => by
                    have : x = 0 ∨ x = 1 := by omega
                    rcases this with rfl | rfl
                    · exact ⟨_, kP.cell 0⟩
                    · exact ⟨_, kP.cell 1⟩)
                  have pZ := kP.lt
                  clear kP
                  go_wp2_with fail
                  go_loopw [144] (fun s144 wy => ∃ x : Nat, s144 = .int .i64 x ∧ x ≤ 2 ∧ RowKit.Below Z.heap.size Z wy) (fun s _ => 2 - (intOf s).toNat)
                  case atStart => exact ⟨0, rfl, by omega, (by repeat (first | (with_reducible refine Below.setCell ?_ ?_ _) | (with_reducible refine Below.alloc ?_ ?_ _) | (with_reducible refine Below.drew ?_) | (with_reducible refine below_drewN ?_ _) | (with_reducible exact Below.refl _ _) | (focus (simp; done)) | (focus (simp; omega)) | (focus omega)))⟩
                  case round =>
                    obtain ⟨x, rfl, hx, bx⟩ := hrel
                    have HG := Lib.hid (show ∀ W, RowKit.Below Z.heap.size Z W → Rqs W ya y from fun W h => HG.out W (bz.trans (h.mono bz.size)))
                    have be := bx
                    by_cases hx2 : x < 2
                    · have kx2 : (x : Int) < 2 := by omega
                      obtain ⟨v, hv⟩ := HV.out x hx2
                      have p0 := (bx.cell (p := ⟨P, x, none⟩) pZ).trans hv
                      have pl := Nat.lt_of_lt_of_le pZ bx.size
                      clear hv
                      go_wp2_with (first | (go_at_call 18; (with_reducible refine (request_Expire ya y y.length yc v _ (HG.out _ be) rfl (by omega) HL2.out).mono ?_); rintro e w5 ⟨en, ea, ec, el, rfl, hke, hen, ile, hbn⟩; (replace be := be.trans (hbn.mono be.size))) | (go_at_call 32; (with_reducible refine (ref19_Expire ya y y.length yc v _ (HG.out _ be) rfl (by omega) HL4.out).mono ?_); rintro e w6 ⟨fn, fa, fc, fl, rfl, hkf, hfn, ilf, hbm⟩; (replace be := be.trans (hbm.mono be.size))) | (go_at_call 11; (with_reducible refine (ref19_Same ea fa el fl en ec fn fc _ (ile.below hbm).rqs ilf.rqs hen.out hfn.out (by rw [hke.out, hkf.out]) (by have := (kept_bd hke.out HSM.out).1; rw [hen.out]; omega) (kept_bd hke.out HSM.out).2).mono ?_); rintro e w7 ⟨rfl, hbn⟩; (replace be := be.trans (hbn.mono be.size))) | (go_at_call 33; (with_reducible refine (request_Mark ya y y.length yc v _ (HG.out _ be) rfl (by omega) HL2.out).mono ?_); rintro e w8 ⟨ga, gc, gl, rfl, hkg, hgn, ilg, hbn⟩; (replace be := be.trans (hbn.mono be.size))) | (go_at_call 34; (with_reducible refine (ref19_Mark ya y y.length yc v _ (HG.out _ be) rfl (by omega) HL4.out).mono ?_); rintro e w9 ⟨ha, hc, hl, rfl, hkh, hhn, ilh, hbm⟩; (replace be := be.trans (hbm.mono be.size))) | (go_at_call 11; (with_reducible refine (ref19_Same ga ha gl hl y.length gc y.length hc _ (ilg.below hbm).rqs ilh.rqs hgn.out hhn.out (by rw [hkg.out, hkh.out]) (by omega) (mark_bd hkg.out HSM.out)).mono ?_); rintro e w7 ⟨rfl, hbn⟩; (replace be := be.trans (hbn.mono be.size))))
                      go_roundw
                      case rel => exact ⟨x + 1, by go_num, by omega, be⟩
                      case measure => simp [intOf]; omega
                    · obtain rfl : x = 2 := by omega
                      go_wp2_with fail
                      go_roundw
                      case rel => exact ⟨i + 1, by go_num, by omega, (by repeat (first | (with_reducible refine Below.setCell ?_ ?_ _) | (with_reducible refine Below.alloc ?_ ?_ _) | (with_reducible refine Below.drew ?_) | (with_reducible refine below_drewN ?_ _) | (with_reducible exact Below.refl _ _) | (with_reducible refine Below.trans ?_ (Below.mono (bz.trans (be.mono bz.size)) ?_)) | (with_reducible refine Below.trans ?_ (Below.mono bw ?_)) | (focus (simp; done)) | (focus (simp; omega)) | (focus omega) | (focus (have q0 := Below.size (bz.trans (be.mono bz.size)); (try simp at q0); have q1 := Below.size bw; (try simp at q1); (try simp); omega))))⟩
                      case measure => simp [intOf]; omega
      · obtain rfl : i = 3 := by omega
        go_wp2_with ((go_at_call 8; (with_reducible refine (law_awake _).mono ?_); rintro e w9 ⟨rfl, hb9⟩))
        go_ret
        exact ⟨rfl, (by repeat (first | (with_reducible refine Below.setCell ?_ ?_ _) | (with_reducible refine Below.alloc ?_ ?_ _) | (with_reducible refine Below.drew ?_) | (with_reducible refine below_drewN ?_ _) | (with_reducible exact Below.refl _ _) | (with_reducible refine Below.trans ?_ (Below.mono hb9 ?_)) | (with_reducible refine Below.trans ?_ (Below.mono bw ?_)) | (with_reducible refine Below.trans ?_ (Below.mono bY ?_)) | (focus (simp; done)) | (focus (simp; omega)) | (focus omega) | (focus (have q0 := Below.size hb9; (try simp at q0); have q1 := Below.size bw; (try simp at q1); have q2 := Below.size bY; (try simp at q2); (try simp); omega))))⟩
end Go.Proofs.Ytbanejpihdhbdaa
