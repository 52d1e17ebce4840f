/- signalbrokerlaw19.RequestChanges: the walk -/
import Derived.Test.YtbanejpihdhbdaaOpenR
import Derived.Test.YtbanejpihdhbdaaRqUpd
import Derived.Test.YtbanejpihdhbdaaRefUpd
namespace Go.Proofs.Ytbanejpihdhbdaa
set_option linter.unusedVariables false
open Go.RowKit Go.Sort
set_option maxRecDepth 100000

theorem info_wn : (Try.prog.info? 54).map (fun i => (i.zero, i.size, i.bytes)) = some (some (.agg #[.int .i64 0, .int .i64 0]), 2, 16) := by kernel_rfl
/-- append of one window that has just been laid -/
theorem app1Wn {ops : Array Oper} {rest : List Oper} {o : Oper} {a : Act} {Q : Exit → Act → World → Prop} {w : World} (hgd : o.guard = none) (s x : Operand) (ho : o.op = .call { callee := .builtin .append, args := #[s, x], argTypes := #[50, 50] })
    (B : Nat) (xa : Option Addr) (n xc : Nat) (l : List Wn) (hs : a.eval s = .slice xa n xc) (u v : Int) (X : Nat) (hx : a.eval x = .slice (some ⟨X, 0, none⟩) 1 1) (hX : Blk w X 54 #[.int .i64 u, .int .i64 v])
    (own : Own w B 54 2 xa n xc (wnCells l)) (hB : B ≤ w.heap.size) (hbig : n ≤ 1000000)
    (h : ∀ xb xd w', Own w' B 54 2 xb (n + 1) xd (wnCells (l ++ [(u, v)])) → Grew B w w' xa xb → wpList Try.prog ops Q rest (a.put o.dst (.slice xb (n + 1) xd)) w') : wpList Try.prog ops Q (o :: rest) a w := by
  obtain ⟨i0, hi, hz0, hz1, hz2⟩ := info_parts info_wn
  have hr : Row w (some ⟨X, 0, none⟩) [.int .i64 u, .int .i64 v] := .inr ⟨X, 0, rfl, hX.lt, fun i hi => by
    rw [Nat.zero_add, hX.cell]
    have : i = 0 ∨ i = 1 := by simp at hi; omega
    rcases this with rfl | rfl <;> rfl⟩
  refine wp_append_row _ hgd s x _ ho B _ i0 _ 2 16 Try.underlying50 hi hz0 hz1 hz2 rfl (by decide) xa n xc _ hs (some ⟨X, 0, none⟩) 1 1 hx own [.int .i64 u, .int .i64 v] rfl hr (by simp [Value.oneCell']) (by simp only [maxLen]; omega) (by omega) hB ?_
  intro xb xd w' own' gr
  exact h xb xd w' (by rw [wnCells_append]; simpa [wnCells] using own') gr
theorem RqL.grown {w w' : World} {B p : Nat} {l : List Rq} {xa : Option Addr} {xc : Nat} (h : RqL w B l xa xc) (hg : w.grownBy w' (some p)) (hp : p < B) : RqL w' B l xa xc := ⟨h.own.grown hg hp, fun r hr => (h.legs r hr).grown hg hp, h.ap⟩
def bdK (m : List Rk) (n : Nat) : Prop := m.length ≤ n ∧ ∀ r ∈ m, r.2.2.2.2.length ≤ 9
theorem bdK.of {y : List Rq} (h1 : y.length ≤ 9) (h2 : ∀ r ∈ y, r.legs.length ≤ 9) : bdK (y.map Rq.key) 9 := ⟨by simpa using h1, fun r hr => by
  obtain ⟨x, hx, rfl⟩ := List.mem_map.1 hr
  exact h2 x hx⟩
theorem bdK.nil {n : Nat} : bdK [] n := ⟨by simp, by simp⟩
theorem sub_bd {l : List Rk} {q id vid vcls life : Int} {x : List Lg} {now : Int} (h : bdK l 9) (hx : x.length ≤ 9) : bdK (subM l q id vid vcls life x now).2 10 := by
  unfold subM
  split
  · exact .nil
  split
  · exact .nil
  split
  · exact .nil
  split
  · exact .nil
  · refine ⟨by rw [insM_len]; have := h.1; omega, fun r hr => ?_⟩
    rcases insM_mem.1 hr with rfl | hr
    · exact hx
    · exact h.2 r hr
theorem upd_bd {l : List Rk} {id : Int} {ws : List Wn} {now : Int} (h : bdK l 9) : bdK (updM l id ws now).2 10 := by
  unfold updM
  split
  · exact .nil
  split
  · exact .nil
  split
  · exact .nil
  rename_i r hr
  split
  · exact .nil
  · refine ⟨by simp only [List.length_set]; have := h.1; omega, fun x hx => ?_⟩
    rcases List.mem_or_eq_of_mem_set hx with q | q
    · exact h.2 x q
    · rw [q, upTo_len]; exact h.2 r (List.mem_of_getElem? hr)
theorem canc_bd {l : List Rk} {id : Int} (h : bdK l 9) : bdK (cancM l id).2 10 := by
  unfold cancM
  split
  · exact .nil
  split
  · exact .nil
  · exact ⟨by have := List.length_filter_le (pCancel id) l; have := h.1; simp only; omega, fun r hr => h.2 r (List.mem_filter.1 hr).1⟩
theorem bd_list {M : Int × List Rk} {er : Int} {l : List Rq} (h : M = (er, l.map Rq.key)) (hb : bdK M.2 10) : l.length ≤ 100000 ∧ ∀ r ∈ l, r.legs.length ≤ 100000 := by
  subst h
  obtain ⟨h1, h2⟩ := hb
  simp only [List.length_map] at h1
  exact ⟨by omega, fun r hr => by have : r.legs.length ≤ 9 := h2 r.key (List.mem_map_of_mem hr); omega⟩
theorem me_same {M : Int × List Rk} {e1 e2 : Int} {l1 l2 : List Rq} (h1 : M = (e1, l1.map Rq.key)) (h2 : M = (e2, l2.map Rq.key)) : e1 = e2 ∧ l1.map Rq.key = l2.map Rq.key := by
  rw [h1] at h2
  injection h2 with h2 h3
  exact ⟨h2, h3⟩
set_option maxHeartbeats 16000000 in
theorem requestChanges_walk (a0 : Option Addr) (c0 : Nat) (l0 : List Rq) (aL : Option Addr) (cL : Nat) (lL : List Lg) (aW : Option Addr) (cW : Nat) (lW : List Wn) (a1 : Option Addr) (c1 : Nat) (l1 : List Int) (vi vc id life quota now : Int) (w : World)
    (h0 : Raw w a0 l0) (h0c : l0.length ≤ c0 ∧ (a0 = none → c0 = 0)) (hL : Row w aL (lgCells lL)) (hLc : lL.length ≤ cL ∧ (aL = none → cL = 0) ∧ lL.length ≤ 9223372036854775807) (hW : Row w aW (wnCells lW)) (nW : lW.length ≤ 9223372036854775807) (h1 : Ints w a1 l1) (n1 : l1.length ≤ 9223372036854775807) :
    Calls Try.prog 5 #[.slice a0 l0.length c0, .slice aL lL.length cL, .slice aW lW.length cW, .slice a1 l1.length c1, .agg #[.int .i64 vi, .int .i64 vc], .int .i64 id, .int .i64 life, .int .i64 quota, .int .i64 now] w fun e w' => e = .returned (.bool true) ∧ RowKit.Below w.heap.size w w' := by
  obtain ⟨t, Et'⟩ : ∃ n, now % 30 = n := ⟨_, rfl⟩
  obtain ⟨i8, Ei'⟩ : ∃ n, id % 8 = n := ⟨_, rfl⟩
  obtain ⟨f9, Ef'⟩ : ∃ n, life % 9 = n := ⟨_, rfl⟩
  obtain ⟨f3, Eg'⟩ : ∃ n, life % 3 = n := ⟨_, rfl⟩
  obtain ⟨q6, Eq'⟩ : ∃ n, quota % 6 = n := ⟨_, rfl⟩
  obtain ⟨v4, Ev'⟩ : ∃ n, vc % 4 = n := ⟨_, rfl⟩
  have t0 : 0 ≤ t := by omega
  have t1 : t < 30 := by omega
  have f90 : 0 ≤ f9 := by omega
  have f91 : f9 < 9 := by omega
  have f30 : 0 ≤ f3 := by omega
  have f31 : f3 < 3 := by omega
  have Et := Lib.hid Et'
  have Ei := Lib.hid Ei'
  have Ef := Lib.hid Ef'
  have Eg := Lib.hid Eg'
  have Eq := Lib.hid Eq'
  have Ev := Lib.hid Ev'
  have H0 := Lib.hid h0
  have H0C := Lib.hid h0c
  have n0 := h0.n
  obtain ⟨hLc, hLnil, nL⟩ := hLc
  have HLN := Lib.hid hLnil
  clear Et' Ei' Ef' Eg' Eq' Ev' h0 h0c hLnil
  go_enter Try.func5, Try.ntmps5
  go_upto_region 1 with fail
  obtain ⟨V, hV⟩ : ∃ V, w.heap.size = V := ⟨_, rfl⟩
  refine wp_named (fun Y => Blk Y V 34 #[.int .i64 vi, .int .i64 vc] ∧ RowKit.Below w.heap.size w Y) ⟨by rw [← hV]; exact Blk.new _ _ _, (by repeat (first | (with_reducible refine Below.setCell ?_ ?_ _) | (with_reducible refine Below.alloc ?_ ?_ _) | (with_reducible refine Below.drew ?_) | (with_reducible refine below_drewN ?_ _) | (with_reducible exact Below.refl _ _) | (focus (simp; done)) | (focus (simp; omega)) | (focus omega)))⟩ ?_
  have HV := Lib.hid hV
  rw [hV]
  clear hV
  rintro wb ⟨kV, bb⟩
  rw [← HV.out] at bb
  have hlight := law_light a0 l0 l0.length c0 wb (H0.out.rqs.below bb (Nat.le_refl _)) rfl n0
  by_cases hbig : lL.length ≤ 9 ∧ lW.length ≤ 9
  · obtain ⟨L9, W9⟩ := hbig
    have L9i : ¬ (9 : Int) < (lL.length : Int) := by omega
    have W9i : ¬ (9 : Int) < (lW.length : Int) := by omega
    go_upto_if 63 with ((go_at_call 19; (with_reducible refine (hlight).mono ?_); rintro e w1 ⟨b, rfl, HB, hb1⟩))
    rotate_left
    · go_wp2_with ((go_at_call 8; (with_reducible refine (law_awake _).mono ?_); rintro e w9 ⟨rfl, hb9⟩))
      go_ret
      exact ⟨rfl, (by repeat (first | (with_reducible refine Below.setCell ?_ ?_ _) | (with_reducible refine Below.alloc ?_ ?_ _) | (with_reducible refine Below.drew ?_) | (with_reducible refine below_drewN ?_ _) | (with_reducible exact Below.refl _ _) | (with_reducible refine Below.trans ?_ (Below.mono hb9 ?_)) | (with_reducible refine Below.trans ?_ (Below.mono hb1 ?_)) | (with_reducible refine Below.trans ?_ (Below.mono bb ?_)) | (focus (simp; done)) | (focus (simp; omega)) | (focus omega) | (focus (have q0 := Below.size hb9; (try simp at q0); have q1 := Below.size hb1; (try simp at q1); have q2 := Below.size bb; (try simp at q2); (try simp); omega))))⟩
    · clear hlight
      have be1 : RowKit.Below w.heap.size w w1 := (by repeat (first | (with_reducible refine Below.setCell ?_ ?_ _) | (with_reducible refine Below.alloc ?_ ?_ _) | (with_reducible refine Below.drew ?_) | (with_reducible refine below_drewN ?_ _) | (with_reducible exact Below.refl _ _) | (with_reducible refine Below.trans ?_ (Below.mono hb1 ?_)) | (with_reducible refine Below.trans ?_ (Below.mono bb ?_)) | (focus (simp; done)) | (focus (simp; omega)) | (focus omega) | (focus (have q0 := Below.size hb1; (try simp at q0); have q1 := Below.size bb; (try simp at q1); (try simp); omega))))
      have hbt : b = true := by cases b <;> simp_all
      subst hbt
      have h1w := h1.below be1 (Nat.le_refl _)
      have kV1 := kV.below hb1 kV.lt
      go_upto_block 0 with (first | (go_at_call 9; (with_reducible refine (mk_ModE Et.out _ (by decide) (by decide)).mono ?_); rintro e wz ⟨rfl, rfl⟩) | (go_at_call 14; (with_reducible refine (mk_New a1 c1 l1 _ h1w n1).mono ?_); rintro e w2 ⟨rfl, hd2, hb2⟩) | (go_at_call 15; (with_reducible refine (deck_Requests _ ⟨a1, c1, l1⟩ 0 4 t _ hd2 (by decide) t0 (by omega)).mono ?_); rintro e w3 ⟨kd, n, l, xa, xc, rfl, hn, hok, il, hd3, g3⟩) | (go_at_call 20; (with_reducible refine (deck_Legs _ ⟨a1, c1, l1⟩ _ t _ hd3 t0 (by omega)).mono ?_); rintro e w4 ⟨kd4, lg, ln, la, lc, rfl, hln, ln3, ownl, hd4, g4⟩) | (go_at_call 21; (with_reducible refine (deck_Next _ 4 _ ⟨a1, c1, l1⟩ _ hd4 (by decide) (by decide)).mono ?_); rintro e w5 ⟨v5, rfl, p5, q5, -, hd5, g5⟩))
      obtain ⟨k5, rfl⟩ : ∃ k : Nat, v5 = (k : Int) := ⟨v5.toNat, by omega⟩
      obtain ⟨p, hp⟩ : ∃ p, w1.heap.size = p := ⟨_, rfl⟩
      rw [hp] at hd2 hd3 g3 hd4 g4 hd5 g5 ⊢
      have hwp : w.heap.size ≤ p := by have := be1.size; omega
      have hVp : V < p := by have := kV1.lt; omega
      have b2 : RowKit.Below w.heap.size w w2 := (by repeat (first | (with_reducible refine Below.setCell ?_ ?_ _) | (with_reducible refine Below.alloc ?_ ?_ _) | (with_reducible refine Below.drew ?_) | (with_reducible refine below_drewN ?_ _) | (with_reducible exact Below.refl _ _) | (with_reducible refine Below.trans ?_ (Below.mono hb2 ?_)) | (with_reducible refine Below.trans ?_ (Below.mono be1 ?_)) | (focus (simp; done)) | (focus (simp; omega)) | (focus omega) | (focus (have q0 := Below.size hb2; (try simp at q0); have q1 := Below.size be1; (try simp at q1); (try simp); omega))))
      clear hp
      have p2 := hd2.lt
      have hokx : RqsOk (l.map Rq.key) 4 := by
        obtain ⟨ol, oh, om⟩ := hok.out
        rw [om]; exact markM_ok oh t0 (by omega)
      have HOK := Lib.hid hokx
      have HL3 := Lib.hid (show ∀ r ∈ l, 1 ≤ r.legs.length ∧ r.legs.length ≤ 3 from fun r hr => (hokx.mem _ (List.mem_map_of_mem hr)).2.2.2.2.n)
      have hl4 : l.length ≤ 4 := by have := hokx.n.2; simpa using this
      obtain rfl := hn.out
      have hln' := hln.out
      rw [hln']
      rw [hln'] at ln3 ownl
      have g25 : w2.grownBy w5 (some p) := (g3.trans g4).trans g5
      have be5 : RowKit.Below w.heap.size w w5 := ⟨g25.os.trans b2.os, g25.tape.trans b2.tape, g25.output.trans b2.output, Nat.le_trans b2.size g25.size, fun k hk => (g25.block k (by have := b2.size; omega) (fun e => by injection e with e; omega)).trans (b2.block k hk)⟩
      have il5 := il.grown (g4.trans g5) p2
      have ownl5 := ownl.grown g5 (by have := g3.size; omega)
      have kV5 := (kV1.below hb2 kV1.lt).grown g25 (by omega)
      have s25 := g25.size
      have s3 := g3.size
      clear hokx hok hn hln hln' il ownl kV1 kV g25 g3 g4 g5 hd2 hd3 hd4 b2 be1 hb2 hb1 bb h1w
      go_wp2_with fail
      go_loopw [23, 24] (fun s23 s24 wr => ∃ (k n : Nat) (wa : Option Addr) (wc : Nat) (ws : List Wn), s23 = .slice wa n wc ∧ s24 = .int .i64 k ∧ n + k ≤ 4 ∧ Hid (n = ws.length) ∧ Own wr w5.heap.size 54 2 wa n wc (wnCells ws) ∧ (∃ kd, DeckAt wr p ⟨a1, c1, l1⟩ kd) ∧ w5.grownBy wr (some p) ∧ w5.heap.size ≤ wr.heap.size) (fun _ s _ => (intOf s).toNat)
      case atStart => exact ⟨k5, 0, none, 0, [], rfl, rfl, by omega, Lib.hid rfl, Own.nil _ _ _ _, ⟨_, hd5⟩, ⟨rfl, rfl, rfl, Nat.le_refl _, fun _ _ _ => rfl⟩, Nat.le_refl _⟩
      case round =>
        obtain ⟨k, n, wa, wc, ws, rfl, rfl, hk, hnw, own, ⟨kd, hd⟩, g, hs⟩ := hrel
        have hd5l := hd5.lt
        by_cases hk0 : 0 < k
        · have kx : (0 : Int) < (k : Int) := by omega
          go_wp2_with (first | (go_at_call 21; (with_reducible refine (deck_Next p 5 _ ⟨a1, c1, l1⟩ _ hd (by decide) (by decide)).mono ?_); rintro e w6 ⟨v6, rfl, p6, r6, -, hd6, g6⟩) | (go_at_call 21; (with_reducible refine (deck_Next p 9 _ ⟨a1, c1, l1⟩ _ hd6 (by decide) (by decide)).mono ?_); rintro e w7 ⟨v7, rfl, p7, r7, -, hd7, g7⟩) | (at_builtin; refine app1Wn rfl _ _ rfl w5.heap.size wa n wc ws rfl v6 v7 w7.heap.size rfl (Blk.new _ _ _) (((own.grown g6 hd5l).grown g7 hd5l).alloc _) (by have := g6.size; have := g7.size; simp; omega) (by omega) ?_; intro xb xd w8 own8 g8))
          have ownA := ((own.grown g6 hd5l).grown g7 hd5l).alloc (.cells #[.int .i64 v6, .int .i64 v7] 54)
          have s6 := g6.size
          have s7 := g7.size
          have b8 : RowKit.Below w5.heap.size w7 w8 := Grew.step ownA g8 _ ((RowKit.Below.refl _ _).alloc (by omega) _)
          have g57 := (g.trans g6).trans g7
          have g58 : w5.grownBy w8 (some p) := ⟨b8.os.trans g57.os, b8.tape.trans g57.tape, b8.output.trans g57.output, Nat.le_trans g57.size b8.size, fun b hb hne => (b8.block b hb).trans (g57.block b hb hne)⟩
          have hd8 := (hd7.alloc (.cells #[.int .i64 v6, .int .i64 v7] 54)).grew hd5 g8 ownA.base_le (by simp; omega)
          go_roundw
          case rel => exact ⟨k - 1, n + 1, xb, xd, ws ++ [(v6, v7)], rfl, by go_num, by omega, Lib.hid (by simp [hnw.out]), own8, ⟨_, hd8⟩, g58, by have := b8.size; omega⟩
          case measure => simp [intOf]; omega
        · obtain rfl : k = 0 := by omega
          simp only [show ((0 : Nat) : Int) = 0 from rfl]
          have hnw' := hnw.out
          rw [hnw']
          rw [hnw'] at own hk
          have bw : RowKit.Below w.heap.size w wr := ⟨g.os.trans be5.os, g.tape.trans be5.tape, g.output.trans be5.output, Nat.le_trans be5.size g.size, fun b hb => (g.block b (by have := be5.size; omega) (fun e => by injection e with e; omega)).trans (be5.block b hb)⟩
          have il := il5.grown g p2
          have onl := ownl5.grown g (by omega)
          have kV := kV5.grown g (by omega)
          have HWS4 := Lib.hid (show ws.length ≤ 4 by omega)
          clear hnw hnw' hd g hs il5 ownl5 kV5 hd5 be5
          go_upto_block 2 with ((go_at_call 22; (with_reducible refine (law_bent xa l l.length xc id life _ il.rqs rfl hl4 HL3.out).mono ?_); rintro e w13 ⟨ba, bl, bc, rfl, gb, hb13, hbc⟩))
          have b13 : RowKit.Below w.heap.size w w13 := (by repeat (first | (with_reducible refine Below.setCell ?_ ?_ _) | (with_reducible refine Below.alloc ?_ ?_ _) | (with_reducible refine Below.drew ?_) | (with_reducible refine below_drewN ?_ _) | (with_reducible exact Below.refl _ _) | (with_reducible refine Below.trans ?_ (Below.mono hb13 ?_)) | (with_reducible refine Below.trans ?_ (Below.mono bw ?_)) | (focus (simp; done)) | (focus (simp; omega)) | (focus omega) | (focus (have q0 := Below.size hb13; (try simp at q0); have q1 := Below.size bw; (try simp at q1); (try simp); omega))))
          have gr := H0.out.gd (HB.out trivial) b13
          have gx := (il.gd HOK.out).below hb13
          have xcap := il.own.cap_le
          have HXN : Hid (xa = none → xc = 0) := Lib.hid (fun e => by have o := il.own; rw [e] at o; exact o.none_cap)
          have lcap := onl.cap_le
          have HLNN : Hid (la = none → lc = 0) := Lib.hid (fun e => by have o := onl; rw [e] at o; exact o.none_cap)
          obtain ⟨X, hX⟩ : ∃ X, w13.heap.size = X := ⟨_, rfl⟩
          refine wp_named (fun Y => Blk Y X 27 #[.slice a0 l0.length c0, .slice xa l.length xc, .slice ba bl.length bc] ∧ RqGd Y a0 l0 ∧ RqGd Y xa l ∧ RqGd Y ba bl ∧ Row Y la (lgCells lg) ∧ Row Y aL (lgCells lL) ∧ Row Y aW (wnCells lW) ∧ Row Y wa (wnCells ws) ∧ Blk Y V 34 #[.int .i64 vi, .int .i64 vc] ∧ RowKit.Below w.heap.size w Y) ⟨by rw [← hX]; exact Blk.new _ _ _, gr.alloc _, gx.alloc _, gb.alloc _, (onl.row.below hb13 (Nat.le_refl _)).alloc _, (hL.below b13 (Nat.le_refl _)).alloc _, (hW.below b13 (Nat.le_refl _)).alloc _, (own.row.below hb13 (Nat.le_refl _)).alloc _, (kV.below hb13 kV.lt).alloc _, (by repeat (first | (with_reducible refine Below.setCell ?_ ?_ _) | (with_reducible refine Below.alloc ?_ ?_ _) | (with_reducible refine Below.drew ?_) | (with_reducible refine below_drewN ?_ _) | (with_reducible exact Below.refl _ _) | (with_reducible refine Below.trans ?_ (Below.mono b13 ?_)) | (focus (simp; done)) | (focus (simp; omega)) | (focus omega) | (focus (have q0 := Below.size b13; (try simp at q0); (try simp); omega))))⟩ ?_
          rw [hX]
          clear hX gr gx gb b13 hb13 bw il onl own kV HL3 hl4 hL hW h1
          rintro Y ⟨kX, gr, gx, gb, rN, rL, rW, rw_, kV, bY⟩
          have HK := Lib.hid (show ∀ i, i < 3 → ∃ (a : Option Addr) (l : List Rq) (c : Nat), Y.cell? ⟨X, i, none⟩ = some (.slice a l.length c) ∧ RqGd Y a l ∧ l.length ≤ c ∧ (a = none → c = 0) from fun i hi => by
            have : i = 0 ∨ i = 1 ∨ i = 2 := by omega
            rcases this with rfl | rfl | rfl
            · exact ⟨_, _, _, kX.cell 0, gr, H0C.out⟩
            · exact ⟨_, _, _, kX.cell 1, gx, xcap, HXN.out⟩
            · exact ⟨_, _, _, kX.cell 2, gb, hbc⟩)
          have xY := kX.lt
          have hYs := bY.size
          clear kX gr gx gb hbc HXN
          go_wp2_with fail
          go_loopw [97] (fun s97 wr => ∃ i : Nat, s97 = .int .i64 i ∧ i ≤ 3 ∧ RowKit.Below Y.heap.size Y wr) (fun s _ => 3 - (intOf s).toNat)
          case atStart => exact ⟨0, rfl, by omega, (by repeat (first | (with_reducible refine Below.setCell ?_ ?_ _) | (with_reducible refine Below.alloc ?_ ?_ _) | (with_reducible refine Below.drew ?_) | (with_reducible refine below_drewN ?_ _) | (with_reducible exact Below.refl _ _) | (focus (simp; done)) | (focus (simp; omega)) | (focus omega)))⟩
          case round =>
            obtain ⟨i, rfl, hi, bw⟩ := hrel
            by_cases hlt : i < 3
            · have kx : (i : Int) < 3 := by omega
              obtain ⟨ya, y, yc, y0, gy, ycap, ynil⟩ := HK.out i hlt
              have x0 := (bw.cell (p := ⟨X, i, none⟩) xY).trans y0
              have xl := Nat.lt_of_lt_of_le xY bw.size
              have hy9 := gy.n
              have HSM := Lib.hid gy.sm
              have HYN := Lib.hid ynil
              have HLS := Lib.hid (show ∀ r ∈ y, r.legs.length ≤ r.c ∧ r.legs.length ≤ 10000 from fun r hr => ⟨(gy.lg r hr).2, (gy.lg r hr).1.n⟩)
              have HBD := Lib.hid (bdK.of gy.n gy.sm)
              have HGD := Lib.hid (show ∀ W, RowKit.Below Y.heap.size Y W → RqGd W ya y from fun W h => gy.below h)
              have HV2 := Lib.hid (show ∀ W, RowKit.Below Y.heap.size Y W → RowKit.Below w.heap.size w W from fun W h => bY.trans (h.mono bY.size))
              clear gy y0 ynil
              go_upto_block 4 with fail
              obtain ⟨G, hG⟩ : ∃ G, wr.heap.size = G := ⟨_, rfl⟩
              refine wp_named (fun Z => Blk Z G 26 #[.slice aL lL.length cL, .slice la lg.length lc] ∧ RowKit.Below Y.heap.size Y Z) ⟨by rw [← hG]; exact Blk.new _ _ _, (by repeat (first | (with_reducible refine Below.setCell ?_ ?_ _) | (with_reducible refine Below.alloc ?_ ?_ _) | (with_reducible refine Below.drew ?_) | (with_reducible refine below_drewN ?_ _) | (with_reducible exact Below.refl _ _) | (with_reducible refine Below.trans ?_ (Below.mono bw ?_)) | (focus (simp; done)) | (focus (simp; omega)) | (focus omega) | (focus (have q0 := Below.size bw; (try simp at q0); (try simp); omega))))⟩ ?_
              rw [hG]
              clear hG x0 xl
              rintro Z1 ⟨kG, b1⟩
              have HG := Lib.hid (show ∀ j, j < 2 → ∃ (a : Option Addr) (g : List Lg) (c : Nat), Z1.cell? ⟨G, j, none⟩ = some (.slice a g.length c) ∧ Row Z1 a (lgCells g) ∧ g.length ≤ 9 ∧ g.length ≤ c ∧ (a = none → c = 0) from fun j hj => by
                have : j = 0 ∨ j = 1 := by omega
                rcases this with rfl | rfl
                · exact ⟨_, _, _, kG.cell 0, rL.below b1 (Nat.le_refl _), L9, hLc, HLN.out⟩
                · exact ⟨_, _, _, kG.cell 1, rN.below b1 (Nat.le_refl _), by omega, lcap, HLNN.out⟩)
              have gZ := kG.lt
              clear kG
              go_wp2_with fail
              go_loopw [105] (fun s105 wr => ∃ j : Nat, s105 = .int .i64 j ∧ j ≤ 2 ∧ RowKit.Below Z1.heap.size Z1 wr) (fun s _ => 2 - (intOf s).toNat)
              case atStart => exact ⟨0, rfl, by omega, (by repeat (first | (with_reducible refine Below.setCell ?_ ?_ _) | (with_reducible refine Below.alloc ?_ ?_ _) | (with_reducible refine Below.drew ?_) | (with_reducible refine below_drewN ?_ _) | (with_reducible exact Below.refl _ _) | (focus (simp; done)) | (focus (simp; omega)) | (focus omega)))⟩
              case round =>
                obtain ⟨j, rfl, hj, bj⟩ := hrel
                by_cases hj2 : j < 2
                · have kj : (j : Int) < 2 := by omega
                  obtain ⟨ga, gl, gc, z0, gr, g9, gcap, gnil⟩ := HG.out j hj2
                  have x0 := (bj.cell (p := ⟨G, j, none⟩) gZ).trans z0
                  have xl := Nat.lt_of_lt_of_le gZ bj.size
                  have HGN := Lib.hid gnil
                  clear z0 gnil
                  go_upto_block 6 with (first | (go_at_call 9; (with_reducible refine (mk_ModE Ei.out _ (by decide) (by decide)).mono ?_); rintro e wz ⟨rfl, rfl⟩) | (go_at_call 9; (with_reducible refine (mk_ModE Ef.out _ (by decide) (by decide)).mono ?_); rintro e wz ⟨rfl, rfl⟩) | (go_at_call 9; (with_reducible refine (mk_ModE Eg.out _ (by decide) (by decide)).mono ?_); rintro e wz ⟨rfl, rfl⟩) | (go_at_call 9; (with_reducible refine (mk_ModE Eq.out _ (by decide) (by decide)).mono ?_); rintro e wz ⟨rfl, rfl⟩))
                  obtain ⟨P, hP⟩ : ∃ P, wr.heap.size = P := ⟨_, rfl⟩
                  refine wp_named (fun Z => Blk Z P 58 #[.int .i64 id, .int .i64 life, .int .i64 quota, .int .i64 now, .int .i64 i8, .int .i64 (1 + f9), .int .i64 q6, .int .i64 t, .int .i64 i8, .int .i64 (f3 + 600 - 1), .int .i64 4, .int .i64 t] ∧ RowKit.Below Z1.heap.size Z1 Z) ⟨by rw [← hP]; exact Blk.new _ _ _, (by repeat (first | (with_reducible refine Below.setCell ?_ ?_ _) | (with_reducible refine Below.alloc ?_ ?_ _) | (with_reducible refine Below.drew ?_) | (with_reducible refine below_drewN ?_ _) | (with_reducible exact Below.refl _ _) | (with_reducible refine Below.trans ?_ (Below.mono bj ?_)) | (focus (simp; done)) | (focus (simp; omega)) | (focus omega) | (focus (have q0 := Below.size bj; (try simp at q0); (try simp); omega))))⟩ ?_
                  rw [hP]
                  clear hP x0 xl
                  rintro Z2 ⟨kP, b2⟩
                  have bY2 : RowKit.Below Y.heap.size Y Z2 := b1.trans (b2.mono b1.size)
                  have HQ := Lib.hid (show ∀ m, m < 3 → ∃ k0 k1 k2 k3 : Int, Z2.cell? ⟨P, m * 4, none⟩ = some (.int .i64 k0) ∧ Z2.cell? ⟨P, m * 4 + 1, none⟩ = some (.int .i64 k1) ∧ Z2.cell? ⟨P, m * 4 + 2, none⟩ = some (.int .i64 k2) ∧ Z2.cell? ⟨P, m * 4 + 3, none⟩ = some (.int .i64 k3) from fun m hm => by
                    have : m = 0 ∨ m = 1 ∨ m = 2 := by omega
                    rcases this with rfl | rfl | rfl
                    · exact ⟨_, _, _, _, kP.cell 0, kP.cell 1, kP.cell 2, kP.cell 3⟩
                    · exact ⟨_, _, _, _, kP.cell 4, kP.cell 5, kP.cell 6, kP.cell 7⟩
                    · exact ⟨_, _, _, _, kP.cell 8, kP.cell 9, kP.cell 10, kP.cell 11⟩)
                  have pZ := kP.lt
                  have gr2 := gr.below b2 (Nat.le_refl _)
                  have kV2 := kV.below bY2 kV.lt
                  clear kP
                  go_wp2_with fail
                  go_loopw [133] (fun s133 wr => ∃ m : Nat, s133 = .int .i64 m ∧ m ≤ 3 ∧ RowKit.Below Z2.heap.size Z2 wr) (fun s _ => 3 - (intOf s).toNat)
                  case atStart => exact ⟨0, rfl, by omega, (by repeat (first | (with_reducible refine Below.setCell ?_ ?_ _) | (with_reducible refine Below.alloc ?_ ?_ _) | (with_reducible refine Below.drew ?_) | (with_reducible refine below_drewN ?_ _) | (with_reducible exact Below.refl _ _) | (focus (simp; done)) | (focus (simp; omega)) | (focus omega)))⟩
                  case round =>
                    obtain ⟨m, rfl, hm, bm⟩ := hrel
                    by_cases hm3 : m < 3
                    · have km : (m : Int) < 3 := by omega
                      obtain ⟨k0, k1, k2, k3, q0, q1, q2, q3⟩ := HQ.out m hm3
                      have x0 := (bm.cell (p := ⟨P, m * 4, none⟩) pZ).trans q0
                      have x1 := (bm.cell (p := ⟨P, m * 4 + 1, none⟩) pZ).trans q1
                      have x2 := (bm.cell (p := ⟨P, m * 4 + 2, none⟩) pZ).trans q2
                      have x3 := (bm.cell (p := ⟨P, m * 4 + 3, none⟩) pZ).trans q3
                      have xl := Nat.lt_of_lt_of_le pZ bm.size
                      clear q0 q1 q2 q3
                      go_upto_region 21 with fail
                      obtain ⟨T, hT⟩ : ∃ T, wr.heap.size = T := ⟨_, rfl⟩
                      refine wp_named (fun Z => Blk Z T 58 #[.int .i64 k0, .int .i64 k1, .int .i64 k2, .int .i64 k3] ∧ RowKit.Below Z2.heap.size Z2 Z) ⟨by rw [← hT]; exact Blk.new _ _ _, (by repeat (first | (with_reducible refine Below.setCell ?_ ?_ _) | (with_reducible refine Below.alloc ?_ ?_ _) | (with_reducible refine Below.drew ?_) | (with_reducible refine below_drewN ?_ _) | (with_reducible exact Below.refl _ _) | (with_reducible refine Below.trans ?_ (Below.mono bm ?_)) | (focus (simp; done)) | (focus (simp; omega)) | (focus omega) | (focus (have q0 := Below.size bm; (try simp at q0); (try simp); omega))))⟩ ?_
                      rw [hT]
                      clear hT x0 x1 x2 x3 xl
                      rintro Z3 ⟨kT, b3⟩
                      have kV3 := kV2.below b3 kV2.lt
                      have gr3 := gr2.below b3 (Nat.le_refl _)
                      apply wp_region_tab [] 8 266 [some 137, some 138, some 139, some 140, some 141, some 142, some 143, some 144] [⟨[], [], [], []⟩, ⟨[], [], [], []⟩, ⟨[1], [1], [1], []⟩, ⟨[1, 2], [2], [2], []⟩, ⟨[1, 2, 3], [3], [3], []⟩, ⟨[0, 1, 2, 3, 4], [0, 4], [0, 4], []⟩, ⟨[0, 1, 2, 3, 4, 5], [5], [5], []⟩, ⟨[], [], [], []⟩] [0, 1, 2, 3, 4, 5, 6, 7] [5, 6, 7] [psiTrue, psiTrue, psiTrue, psiTrue, psiTrue, (fun f lo hi v b0 b1 W => ∃ b, v = .slice (some ⟨b, 0, none⟩) 2 2 ∧ b0 ≤ b ∧ b < b1 ∧ Blk W b 34 #[.int .i64 vi, .int .i64 vc, .int .i64 3, .int .i64 v4]), psiTrue, psiTrue] [kVal _, kVal _, kVal _, kVal _, kVal _, kTrue, kVal _, kVal _]
                      · kernel_rfl
                      · kernel_rfl
                      · rfl
                      · rfl
                      · exact trivial
                      · exact trivial
                      refine ⟨?oR1_0, ?oR1_1, ?oR1_2, ?oR1_3, ?oR1_4, ?oR1_5, ?oR1_6, ?oR1_7, trivial⟩
                      case oR1_0 =>
                        intro f lo hi w hb hx hf hk hrg R hR; (try replace hb := BelX.zero hb); (try simp (decide := true) only [go_sem] at hf); (try simp (decide := true) only [go_sem] at hk)
                        have kk := kV3.below hb kV3.lt
                        have e0 := kk.cell 0
                        have e1 := kk.cell 1
                        have hl := kk.lt
                        go_simp
                        exact hR _ _ (rpost_val rfl rfl (Below.refl _ _) rfl)
                      case oR1_1 => intro f lo hi w hb hx hf hk hrg R hR; (try replace hb := BelX.zero hb); (try simp (decide := true) only [go_sem] at hf); (try simp (decide := true) only [go_sem] at hk); go_simp; exact hR _ _ (rpost_val rfl rfl (Below.refl _ _) rfl)
                      case oR1_2 =>
                        intro f lo hi w hb hx hf hk hrg R hR; (try replace hb := BelX.zero hb); (try simp (decide := true) only [go_sem] at hf); (try simp (decide := true) only [go_sem] at hk)
                        have kk := kV3.below hb kV3.lt
                        have e1 := kk.cell 1
                        have hl := kk.lt
                        go_simp
                        exact hR _ _ (rpost_val rfl rfl (Below.refl _ _) rfl)
                      case oR1_3 =>
                        intro f lo hi w hb hx hf hk hrg R hR; (try replace hb := BelX.zero hb); (try simp (decide := true) only [go_sem] at hf); (try simp (decide := true) only [go_sem] at hk)
                        go_simp
                        (with_reducible refine (mk_ModE Ev.out w (by decide) (by decide)).mono ?_)
                        rintro e w' ⟨rfl, rfl⟩
                        exact ⟨_, rfl, hR _ _ (rpost_val rfl rfl (Below.refl _ _) rfl)⟩
                      case oR1_4 => intro f lo hi w hb hx hf hk hrg R hR; (try replace hb := BelX.zero hb); (try simp (decide := true) only [go_sem] at hf); (try simp (decide := true) only [go_sem] at hk); go_simp; exact hR _ _ (rpost_val rfl rfl (Below.refl _ _) rfl)
                      case oR1_5 =>
                        intro f lo hi w hb hx hf hk hrg R hR; (try replace hb := BelX.zero hb); (try simp (decide := true) only [go_sem] at hf); (try simp (decide := true) only [go_sem] at hk)
                        go_simp
                        refine hR _ _ (rpost_none rfl (by repeat (first | (with_reducible refine Below.setCell ?_ ?_ _) | (with_reducible refine Below.alloc ?_ ?_ _) | (with_reducible refine Below.drew ?_) | (with_reducible refine below_drewN ?_ _) | (with_reducible exact Below.refl _ _) | (focus (simp; done)) | (focus (simp; omega)) | (focus omega))) ?_)
                        (try simp (decide := true) only [go_sem])
                        exact ⟨_, rfl, Nat.le_refl _, by simp, Blk.new _ _ _⟩
                      case oR1_6 =>
                        intro f lo hi w hb hx hf hk hrg R hR; (try replace hb := BelX.zero hb); (try simp (decide := true) only [go_sem] at hf); (try simp (decide := true) only [go_sem] at hk)
                        obtain ⟨b, h5, -⟩ := hf
                        go_simp
                        exact hR _ _ (rpost_val rfl rfl (Below.refl _ _) rfl)
                      case oR1_7 => intro f lo hi w hb hx hf hk hrg R hR; (try replace hb := BelX.zero hb); (try simp (decide := true) only [go_sem] at hf); (try simp (decide := true) only [go_sem] at hk); go_simp; exact hR _ _ (rpost_val rfl rfl (Below.refl _ _) rfl)
                      case hcl =>
                        refine ⟨Closed.true _ _ _ _, Closed.true _ _ _ _, Closed.true _ _ _ _, Closed.true _ _ _ _, Closed.true _ _ _ _, ?cR1_5, Closed.true _ _ _ _, Closed.true _ _ _ _, trivial⟩
                        · exact fun f lo hi v b0 b1 w w' h hs hB hown hU hX => by
                            obtain ⟨b, rfl, h2, h3, h4⟩ := h
                            exact ⟨b, rfl, h2, h3, (hown b h2 h3).trans h4⟩
                      intro f lo hi Z4 hbr hx hf hk hrg; (try replace hbr := BelX.zero hbr); clear hx; (try simp (decide := true) only [go_sem] at hf); (try simp (decide := true) only [go_sem] at hk)
                      obtain ⟨D, h5, -, -, kD⟩ := hf
                      have b34 := hbr
                      have kT4 := kT.below hbr kT.lt
                      have gr4 := gr3.below hbr (Nat.le_refl _)
                      go_simp
                      clear hk h5 hrg hbr
                      have bY4 : RowKit.Below Y.heap.size Y Z4 := (bY2.trans (b3.mono bY2.size)).trans (b34.mono (bY2.trans (b3.mono bY2.size)).size)
                      have HGD4 := Lib.hid (show ∀ W, RowKit.Below Z4.heap.size Z4 W → RqGd W ya y from fun W h => HGD.out W (bY4.trans (h.mono bY4.size)))
                      have HGL4 := Lib.hid (show ∀ W, RowKit.Below Z4.heap.size Z4 W → Row W ga (lgCells gl) from fun W h => gr4.below h (Nat.le_refl _))
                      have HD := Lib.hid (show ∀ x, x < 2 → ∃ u0 u1 : Int, Z4.cell? ⟨D, x * 2, none⟩ = some (.int .i64 u0) ∧ Z4.cell? ⟨D, x * 2 + 1, none⟩ = some (.int .i64 u1) from fun x hx => by
                        have : x = 0 ∨ x = 1 := by omega
                        rcases this with rfl | rfl
                        · exact ⟨_, _, kD.cell 0, kD.cell 1⟩
                        · exact ⟨_, _, kD.cell 2, kD.cell 3⟩)
                      have dZ := kD.lt
                      clear kD gr4 kV3 gr3 kT
                      go_wp2_with fail
                      go_loopw [144] (fun s144 wr => ∃ x : Nat, s144 = .int .i64 x ∧ x ≤ 2 ∧ RowKit.Below Z4.heap.size Z4 wr) (fun s _ => 2 - (intOf s).toNat)
                      case atStart => exact ⟨0, rfl, by omega, (by repeat (first | (with_reducible refine Below.setCell ?_ ?_ _) | (with_reducible refine Below.alloc ?_ ?_ _) | (with_reducible refine Below.drew ?_) | (with_reducible refine below_drewN ?_ _) | (with_reducible exact Below.refl _ _) | (focus (simp; done)) | (focus (simp; omega)) | (focus omega)))⟩
                      case round =>
                        obtain ⟨x, rfl, hx, bx⟩ := hrel
                        by_cases hx2 : x < 2
                        · have kx2 : (x : Int) < 2 := by omega
                          obtain ⟨u0, u1, q0, q1⟩ := HD.out x hx2
                          have x0 := (bx.cell (p := ⟨D, x * 2, none⟩) dZ).trans q0
                          have x1 := (bx.cell (p := ⟨D, x * 2 + 1, none⟩) dZ).trans q1
                          have xl := Nat.lt_of_lt_of_le dZ bx.size
                          have kT5 := kT4.below bx kT4.lt
                          clear q0 q1
                          go_upto_region 24 with fail
                          obtain ⟨S, hS⟩ : ∃ S, wr.heap.size = S := ⟨_, rfl⟩
                          refine wp_named (fun Z => Blk Z S 34 #[.int .i64 u0, .int .i64 u1] ∧ Blk Z T 58 #[.int .i64 k0, .int .i64 k1, .int .i64 k2, .int .i64 k3] ∧ RowKit.Below Z4.heap.size Z4 Z) ⟨by rw [← hS]; exact Blk.new _ _ _, kT5.alloc _, (by repeat (first | (with_reducible refine Below.setCell ?_ ?_ _) | (with_reducible refine Below.alloc ?_ ?_ _) | (with_reducible refine Below.drew ?_) | (with_reducible refine below_drewN ?_ _) | (with_reducible exact Below.refl _ _) | (with_reducible refine Below.trans ?_ (Below.mono bx ?_)) | (focus (simp; done)) | (focus (simp; omega)) | (focus omega) | (focus (have q0 := Below.size bx; (try simp at q0); (try simp); omega))))⟩ ?_
                          rw [hS]
                          clear hS x0 x1 xl kT5 bx
                          rintro Z5 ⟨kS, kT, be⟩
                          obtain ⟨e0, e1, e2, e3⟩ : Z5.cell? ⟨T, 0, none⟩ = _ ∧ Z5.cell? ⟨T, 1, none⟩ = _ ∧ Z5.cell? ⟨T, 2, none⟩ = _ ∧ Z5.cell? ⟨T, 3, none⟩ = _ := ⟨kT.cell 0, kT.cell 1, kT.cell 2, kT.cell 3⟩
                          obtain ⟨s0, s1⟩ : Z5.cell? ⟨S, 0, none⟩ = _ ∧ Z5.cell? ⟨S, 1, none⟩ = _ := ⟨kS.cell 0, kS.cell 1⟩
                          have tl := kT.lt
                          have sl := kS.lt
                          go_upto_region 25 with ((go_at_call 10; (with_reducible refine (request_Submit ya y y.length yc k2 k0 u0 u1 k1 ga gl gl.length gc k3 _ (HGD4.out _ be).rqs rfl (by omega) (HGD4.out _ be).lg (HGL4.out _ be) rfl gcap (by omega) HGN.out).mono ?_); rintro e w5 ⟨ea, en, ec, el, er, rfl, hme, hen, ile, hbn⟩; (replace be := be.trans (hbn.mono be.size))))
                          clear e0 e1 e2 e3 s0 s1 tl sl
                          have kT6 := kT.below hbn kT.lt
                          have kS6 := kS.below hbn kS.lt
                          obtain ⟨e0, e1, e2, e3⟩ : w5.cell? ⟨T, 0, none⟩ = _ ∧ w5.cell? ⟨T, 1, none⟩ = _ ∧ w5.cell? ⟨T, 2, none⟩ = _ ∧ w5.cell? ⟨T, 3, none⟩ = _ := ⟨kT6.cell 0, kT6.cell 1, kT6.cell 2, kT6.cell 3⟩
                          obtain ⟨s0, s1⟩ : w5.cell? ⟨S, 0, none⟩ = _ ∧ w5.cell? ⟨S, 1, none⟩ = _ := ⟨kS6.cell 0, kS6.cell 1⟩
                          have tl := kT6.lt
                          have sl := kS6.lt
                          have HEB := Lib.hid (bd_list hme.out (sub_bd HBD.out g9))
                          go_upto_region 26 with ((go_at_call 23; (with_reducible refine (ref19_Submit ya y y.length yc k2 k0 u0 u1 k1 ga gl gl.length gc k3 _ (HGD4.out _ be).rqs rfl ycap HYN.out (by omega) HLS.out (HGL4.out _ be) rfl gcap (by omega)).mono ?_); rintro e w6 ⟨fa, fn, fc, fl, fr, rfl, hmf, hfn, ilf, hbm⟩; (replace be := be.trans (hbm.mono be.size))))
                          have HKK := Lib.hid (me_same hme.out hmf.out)
                          obtain rfl : er = fr := HKK.out.1
                          have ile6 := ile.below hbm
                          go_wp2_with ((go_at_call 11; (with_reducible refine (ref19_Same ea fa el fl en ec fn fc _ ile6.rqs ilf.rqs hen.out hfn.out HKK.out.2 (by rw [hen.out]; exact HEB.out.1) HEB.out.2).mono ?_); rintro e w7 ⟨rfl, hbn⟩; (replace be := be.trans (hbn.mono be.size))))
                          go_roundw
                          case rel => exact ⟨x + 1, by go_num, by omega, be⟩
                          case measure => simp [intOf]; omega
                        · obtain rfl : x = 2 := by omega
                          go_wp2_with fail
                          go_roundw
                          case rel => exact ⟨m + 1, by go_num, by omega, (b3.trans (b34.mono b3.size)).trans (bx.mono (b3.trans (b34.mono b3.size)).size)⟩
                          case measure => simp [intOf]; omega
                    · obtain rfl : m = 3 := by omega
                      go_wp2_with fail
                      go_roundw
                      case rel => exact ⟨j + 1, by go_num, by omega, b2.trans (bm.mono b2.size)⟩
                      case measure => simp [intOf]; omega
                · obtain rfl : j = 2 := by omega
                  simp only [show ((2 : Nat) : Int) = 2 from rfl]
                  go_upto_block 10 with ((go_at_call 9; (with_reducible refine (mk_ModE Ei.out _ (by decide) (by decide)).mono ?_); rintro e wz ⟨rfl, rfl⟩))
                  obtain ⟨P, hP⟩ : ∃ P, wr.heap.size = P := ⟨_, rfl⟩
                  refine wp_named (fun Z => Blk Z P 3 #[.int .i64 id, .int .i64 i8] ∧ RowKit.Below Z1.heap.size Z1 Z) ⟨by rw [← hP]; exact Blk.new _ _ _, (by repeat (first | (with_reducible refine Below.setCell ?_ ?_ _) | (with_reducible refine Below.alloc ?_ ?_ _) | (with_reducible refine Below.drew ?_) | (with_reducible refine below_drewN ?_ _) | (with_reducible exact Below.refl _ _) | (with_reducible refine Below.trans ?_ (Below.mono bj ?_)) | (focus (simp; done)) | (focus (simp; omega)) | (focus omega) | (focus (have q0 := Below.size bj; (try simp at q0); (try simp); omega))))⟩ ?_
                  rw [hP]
                  clear hP
                  rintro Z6 ⟨kP, b6⟩
                  have bY6 : RowKit.Below Y.heap.size Y Z6 := b1.trans (b6.mono b1.size)
                  have HI := Lib.hid (show ∀ x, x < 2 → ∃ v : Int, Z6.cell? ⟨P, x, none⟩ = some (.int .i64 v) from fun x hx => by
                    have : x = 0 ∨ x = 1 := by omega
                    rcases this with rfl | rfl
                    · exact ⟨_, kP.cell 0⟩
                    · exact ⟨_, kP.cell 1⟩)
                  have pZ := kP.lt
                  have rW6 := rW.below bY6 (Nat.le_refl _)
                  have rw6 := rw_.below bY6 (Nat.le_refl _)
                  clear kP
                  go_wp2_with fail
                  go_loopw [195] (fun s195 wr => ∃ x : Nat, s195 = .int .i64 x ∧ x ≤ 2 ∧ RowKit.Below Z6.heap.size Z6 wr) (fun s _ => 2 - (intOf s).toNat)
                  case atStart => exact ⟨0, rfl, by omega, (by repeat (first | (with_reducible refine Below.setCell ?_ ?_ _) | (with_reducible refine Below.alloc ?_ ?_ _) | (with_reducible refine Below.drew ?_) | (with_reducible refine below_drewN ?_ _) | (with_reducible exact Below.refl _ _) | (focus (simp; done)) | (focus (simp; omega)) | (focus omega)))⟩
                  case round =>
                    obtain ⟨x, rfl, hx, bx⟩ := hrel
                    by_cases hx2 : x < 2
                    · have kx2 : (x : Int) < 2 := by omega
                      obtain ⟨k, q0⟩ := HI.out x hx2
                      have x0 := (bx.cell (p := ⟨P, x, none⟩) pZ).trans q0
                      have xl := Nat.lt_of_lt_of_le pZ bx.size
                      clear q0
                      go_upto_block 12 with fail
                      obtain ⟨G, hG⟩ : ∃ G, wr.heap.size = G := ⟨_, rfl⟩
                      refine wp_named (fun Z => Blk Z G 50 #[.slice aW lW.length cW, .slice wa ws.length wc] ∧ RowKit.Below Z6.heap.size Z6 Z) ⟨by rw [← hG]; exact Blk.new _ _ _, (by repeat (first | (with_reducible refine Below.setCell ?_ ?_ _) | (with_reducible refine Below.alloc ?_ ?_ _) | (with_reducible refine Below.drew ?_) | (with_reducible refine below_drewN ?_ _) | (with_reducible exact Below.refl _ _) | (with_reducible refine Below.trans ?_ (Below.mono bx ?_)) | (focus (simp; done)) | (focus (simp; omega)) | (focus omega) | (focus (have q0 := Below.size bx; (try simp at q0); (try simp); omega))))⟩ ?_
                      rw [hG]
                      clear hG x0 xl
                      rintro Z7 ⟨kG, b7⟩
                      have HP := Lib.hid (show ∀ j, j < 2 → ∃ (a : Option Addr) (g : List Wn) (c : Nat), Z7.cell? ⟨G, j, none⟩ = some (.slice a g.length c) ∧ Row Z7 a (wnCells g) ∧ g.length ≤ 9 from fun j hj => by
                        have : j = 0 ∨ j = 1 := by omega
                        rcases this with rfl | rfl
                        · exact ⟨_, _, _, kG.cell 0, rW6.below b7 (Nat.le_refl _), W9⟩
                        · exact ⟨_, _, _, kG.cell 1, rw6.below b7 (Nat.le_refl _), by have := HWS4.out; omega⟩)
                      have gZ7 := kG.lt
                      clear kG
                      go_wp2_with fail
                      go_loopw [203] (fun s203 wr => ∃ z : Nat, s203 = .int .i64 z ∧ z ≤ 2 ∧ RowKit.Below Z7.heap.size Z7 wr) (fun s _ => 2 - (intOf s).toNat)
                      case atStart => exact ⟨0, rfl, by omega, (by repeat (first | (with_reducible refine Below.setCell ?_ ?_ _) | (with_reducible refine Below.alloc ?_ ?_ _) | (with_reducible refine Below.drew ?_) | (with_reducible refine below_drewN ?_ _) | (with_reducible exact Below.refl _ _) | (focus (simp; done)) | (focus (simp; omega)) | (focus omega)))⟩
                      case round =>
                        obtain ⟨z, rfl, hz, bz⟩ := hrel
                        by_cases hz2 : z < 2
                        · have kz2 : (z : Int) < 2 := by omega
                          obtain ⟨pa, pl, pc, q0, rp, p9⟩ := HP.out z hz2
                          have x0 := (bz.cell (p := ⟨G, z, none⟩) gZ7).trans q0
                          have xl := Nat.lt_of_lt_of_le gZ7 bz.size
                          clear q0
                          go_upto_block 14 with fail
                          obtain ⟨F, hF⟩ : ∃ F, wr.heap.size = F := ⟨_, rfl⟩
                          refine wp_named (fun Z => Blk Z F 3 #[.int .i64 now, .int .i64 t] ∧ RowKit.Below Z7.heap.size Z7 Z) ⟨by rw [← hF]; exact Blk.new _ _ _, (by repeat (first | (with_reducible refine Below.setCell ?_ ?_ _) | (with_reducible refine Below.alloc ?_ ?_ _) | (with_reducible refine Below.drew ?_) | (with_reducible refine below_drewN ?_ _) | (with_reducible exact Below.refl _ _) | (with_reducible refine Below.trans ?_ (Below.mono bz ?_)) | (focus (simp; done)) | (focus (simp; omega)) | (focus omega) | (focus (have q0 := Below.size bz; (try simp at q0); (try simp); omega))))⟩ ?_
                          rw [hF]
                          clear hF x0 xl
                          rintro Z8 ⟨kF, b8⟩
                          have HT := Lib.hid (show ∀ x, x < 2 → ∃ v : Int, Z8.cell? ⟨F, x, none⟩ = some (.int .i64 v) from fun x hx => by
                            have : x = 0 ∨ x = 1 := by omega
                            rcases this with rfl | rfl
                            · exact ⟨_, kF.cell 0⟩
                            · exact ⟨_, kF.cell 1⟩)
                          have fZ := kF.lt
                          have rp8 := rp.below b8 (Nat.le_refl _)
                          have bY7 : RowKit.Below Y.heap.size Y Z7 := bY6.trans (b7.mono bY6.size)
                          have bY8 : RowKit.Below Y.heap.size Y Z8 := bY7.trans (b8.mono bY7.size)
                          have HGD8 := Lib.hid (show ∀ W, RowKit.Below Z8.heap.size Z8 W → RqGd W ya y from fun W h => HGD.out W (bY8.trans (h.mono bY8.size)))
                          have HPW8 := Lib.hid (show ∀ W, RowKit.Below Z8.heap.size Z8 W → Row W pa (wnCells pl) from fun W h => rp8.below h (Nat.le_refl _))
                          clear kF rp rp8
                          go_wp2_with fail
                          go_loopw [211] (fun s211 wr => ∃ u : Nat, s211 = .int .i64 u ∧ u ≤ 2 ∧ RowKit.Below Z8.heap.size Z8 wr) (fun s _ => 2 - (intOf s).toNat)
                          case atStart => exact ⟨0, rfl, by omega, (by repeat (first | (with_reducible refine Below.setCell ?_ ?_ _) | (with_reducible refine Below.alloc ?_ ?_ _) | (with_reducible refine Below.drew ?_) | (with_reducible refine below_drewN ?_ _) | (with_reducible exact Below.refl _ _) | (focus (simp; done)) | (focus (simp; omega)) | (focus omega)))⟩
                          case round =>
                            obtain ⟨u, rfl, hu, be⟩ := hrel
                            by_cases hu2 : u < 2
                            · have ku2 : (u : Int) < 2 := by omega
                              obtain ⟨tk, q0⟩ := HT.out u hu2
                              have x0 := (be.cell (p := ⟨F, u, none⟩) fZ).trans q0
                              have xl := Nat.lt_of_lt_of_le fZ be.size
                              clear q0
                              go_upto_region 41 with ((go_at_call 24; (with_reducible refine (request_Update ya y y.length yc k pa pl pl.length pc tk _ (HGD8.out _ be).rqs rfl (by omega) (HGD8.out _ be).lg (HPW8.out _ be) rfl (by omega)).mono ?_); rintro e w5 ⟨ea, en, ec, el, er, rfl, hme, hen, ile, hbn⟩; (replace be := be.trans (hbn.mono be.size))))
                              clear x0 xl
                              have HEB := Lib.hid (bd_list hme.out (upd_bd HBD.out))
                              go_upto_region 42 with ((go_at_call 25; (with_reducible refine (ref19_Update ya y y.length yc k pa pl pl.length pc tk _ (HGD8.out _ be).rqs rfl (by omega) HLS.out (HPW8.out _ be) rfl (by omega)).mono ?_); rintro e w6 ⟨fa, fn, fc, fl, fr, rfl, hmf, hfn, ilf, hbm⟩; (replace be := be.trans (hbm.mono be.size))))
                              have HKK := Lib.hid (me_same hme.out hmf.out)
                              obtain rfl : er = fr := HKK.out.1
                              have ile6 := ile.below hbm
                              go_wp2_with ((go_at_call 11; (with_reducible refine (ref19_Same ea fa el fl en ec fn fc _ ile6.rqs ilf.rqs hen.out hfn.out HKK.out.2 (by rw [hen.out]; exact HEB.out.1) HEB.out.2).mono ?_); rintro e w7 ⟨rfl, hbn⟩; (replace be := be.trans (hbn.mono be.size))))
                              go_roundw
                              case rel => exact ⟨u + 1, by go_num, by omega, be⟩
                              case measure => simp [intOf]; omega
                            · obtain rfl : u = 2 := by omega
                              go_wp2_with fail
                              go_roundw
                              case rel => exact ⟨z + 1, by go_num, by omega, b8.trans (be.mono b8.size)⟩
                              case measure => simp [intOf]; omega
                        · obtain rfl : z = 2 := by omega
                          have be : RowKit.Below Z6.heap.size Z6 wr := b7.trans (bz.mono b7.size)
                          have HGD6 := Lib.hid (show ∀ W, RowKit.Below Z6.heap.size Z6 W → RqGd W ya y from fun W h => HGD.out W (bY6.trans (h.mono bY6.size)))
                          go_upto_region 47 with ((go_at_call 13; (with_reducible refine (request_Cancel ya y y.length yc k _ (HGD6.out _ be).rqs rfl (by omega) (HGD6.out _ be).lg).mono ?_); rintro e w5 ⟨ea, en, ec, el, er, rfl, hme, hen, ile, hbn⟩; (replace be := be.trans (hbn.mono be.size))))
                          have HEB := Lib.hid (bd_list hme.out (canc_bd HBD.out))
                          go_upto_region 48 with ((go_at_call 26; (with_reducible refine (ref19_Cancel ya y y.length yc k _ (HGD6.out _ be).rqs rfl (by omega) HLS.out).mono ?_); rintro e w6 ⟨fa, fn, fc, fl, fr, rfl, hmf, hfn, ilf, hbm⟩; (replace be := be.trans (hbm.mono be.size))))
                          have HKK := Lib.hid (me_same hme.out hmf.out)
                          obtain rfl : er = fr := HKK.out.1
                          have ile6 := ile.below hbm
                          go_wp2_with ((go_at_call 11; (with_reducible refine (ref19_Same ea fa el fl en ec fn fc _ ile6.rqs ilf.rqs hen.out hfn.out HKK.out.2 (by rw [hen.out]; exact HEB.out.1) HEB.out.2).mono ?_); rintro e w7 ⟨rfl, hbn⟩; (replace be := be.trans (hbn.mono be.size))))
                          go_roundw
                          case rel => exact ⟨x + 1, by go_num, by omega, be⟩
                          case measure => simp [intOf]; omega
                    · obtain rfl : x = 2 := by omega
                      go_wp2_with fail
                      go_roundw
                      case rel => exact ⟨i + 1, by go_num, by omega, bY6.trans (bx.mono bY6.size)⟩
                      case measure => simp [intOf]; omega
            · obtain rfl : i = 3 := by omega
              go_wp2_with ((go_at_call 8; (with_reducible refine (law_awake _).mono ?_); rintro e w9 ⟨rfl, hb9⟩))
              go_ret
              exact ⟨rfl, (by repeat (first | (with_reducible refine Below.setCell ?_ ?_ _) | (with_reducible refine Below.alloc ?_ ?_ _) | (with_reducible refine Below.drew ?_) | (with_reducible refine below_drewN ?_ _) | (with_reducible exact Below.refl _ _) | (with_reducible refine Below.trans ?_ (Below.mono hb9 ?_)) | (with_reducible refine Below.trans ?_ (Below.mono bw ?_)) | (with_reducible refine Below.trans ?_ (Below.mono bY ?_)) | (focus (simp; done)) | (focus (simp; omega)) | (focus omega) | (focus (have q0 := Below.size hb9; (try simp at q0); have q1 := Below.size bw; (try simp at q1); have q2 := Below.size bY; (try simp at q2); (try simp); omega))))⟩
  · have hlast : RowKit.Below w.heap.size w wb := bb
    by_cases L9 : lL.length ≤ 9
    · have L9i : ¬ (9 : Int) < (lL.length : Int) := by omega
      have W9i : (9 : Int) < (lW.length : Int) := by omega
      go_wp2_with (first | (go_at_call 19; (with_reducible refine (hlight).mono ?_); rintro e w1 ⟨b, rfl, HB, hb1⟩) | (go_at_call 8; (with_reducible refine (law_awake _).mono ?_); rintro e w9 ⟨rfl, hb9⟩))
      all_goals
        go_ret
        exact ⟨rfl, (by repeat (first | (with_reducible refine Below.setCell ?_ ?_ _) | (with_reducible refine Below.alloc ?_ ?_ _) | (with_reducible refine Below.drew ?_) | (with_reducible refine below_drewN ?_ _) | (with_reducible exact Below.refl _ _) | (with_reducible refine Below.trans ?_ (Below.mono hb9 ?_)) | (with_reducible refine Below.trans ?_ (Below.mono hb1 ?_)) | (with_reducible refine Below.trans ?_ (Below.mono bb ?_)) | (focus (simp; done)) | (focus (simp; omega)) | (focus omega) | (focus (have q0 := Below.size hb9; (try simp at q0); have q1 := Below.size hb1; (try simp at q1); have q2 := Below.size bb; (try simp at q2); (try simp); omega))))⟩
    · have L9i : (9 : Int) < (lL.length : Int) := by omega
      go_wp2_with (first | (go_at_call 19; (with_reducible refine (hlight).mono ?_); rintro e w1 ⟨b, rfl, HB, hb1⟩) | (go_at_call 8; (with_reducible refine (law_awake _).mono ?_); rintro e w9 ⟨rfl, hb9⟩))
      all_goals
        go_ret
        exact ⟨rfl, (by repeat (first | (with_reducible refine Below.setCell ?_ ?_ _) | (with_reducible refine Below.alloc ?_ ?_ _) | (with_reducible refine Below.drew ?_) | (with_reducible refine below_drewN ?_ _) | (with_reducible exact Below.refl _ _) | (with_reducible refine Below.trans ?_ (Below.mono hb9 ?_)) | (with_reducible refine Below.trans ?_ (Below.mono hb1 ?_)) | (with_reducible refine Below.trans ?_ (Below.mono bb ?_)) | (focus (simp; done)) | (focus (simp; omega)) | (focus omega) | (focus (have q0 := Below.size hb9; (try simp at q0); have q1 := Below.size hb1; (try simp at q1); have q2 := Below.size bb; (try simp at q2); (try simp); omega))))⟩
end Go.Proofs.Ytbanejpihdhbdaa
