/- sessions: taking, the reference -/
import Derived.Test.YtlfccoakodnbaaaInTake
namespace Go.Proofs.Ytlfccoakodnbaaa
set_option linter.unusedVariables false
open Go.RowKit Go.Sort
set_option maxRecDepth 100000

set_option maxHeartbeats 4000000 in
theorem ref25_Take (o d g : Bool) (l : List UInt8) (a : Option Addr) (n c : Nat) (w : World) (h : SAt w l a n c) :
    Calls Try.prog 22 #[.agg #[.bool o, .bool d, .slice a n c, .bool g]] w (TakS ⟨o, d, l, g⟩ w) := by
  go_enter Try.func22, Try.ntmps22
  go_upto_region 1 with fail
  refine wp_named (fun W => Blk W w.heap.size 30 #[.bool o, .bool d, .slice a n c, .bool g] ∧ Blk W (w.heap.size + 1) 30 #[.bool false, .bool false, .slice none 0 0, .bool false] ∧ Blk W (w.heap.size + 2) 35 #[.bool false, .slice none 0 0] ∧ w.heap.size + 3 = W.heap.size ∧ RowKit.Below w.heap.size w W) ⟨((Blk.new _ _ _).alloc _).alloc _, (Blk.next _ _ _ _).alloc _, by simpa using Blk.next (w.alloc (.cells #[.bool o, .bool d, .slice a n c, .bool g] 30)) (.cells #[.bool false, .bool false, .slice none 0 0, .bool false] 30) 35 #[.bool false, .slice none 0 0], by simp, (by repeat (first | (with_reducible refine Below.setCell ?_ ?_ _) | (with_reducible refine Below.alloc ?_ ?_ _) | (with_reducible refine Below.drew ?_) | (with_reducible refine below_drewN ?_ _) | (with_reducible exact Below.refl _ _) | (focus (simp; done)) | (focus (simp; omega)) | (focus omega)))⟩ ?_
  rintro W ⟨kS, kR, kJ, sz, be⟩
  obtain ⟨c0, c1, c2, c3⟩ := kS.four'
  have sl := kS.lt
  have szi : W.heap.size = w.heap.size + 3 := sz.symm
  have SZ := Lib.hid sz
  clear sz szi
  cases o with
  | false =>
    go_wp2_with ((go_at_call 35; (with_reducible refine (ref25_Copy false d g l a n c _ (h.below be (Nat.le_refl _))).mono ?_); rintro e w1 ⟨a', c', m', hm', rfl, own, hb1⟩; ((have k2 := kR.below hb1 kR.lt); (have k3 := kJ.below hb1 kJ.lt); (obtain ⟨d0, d1, d2, d3⟩ := k2.four'); (have e0 := k3.cell 0); (have e1 := k3.cell 1); (have f2 := k2.frozen); (have f3 := k3.frozen); (have l2 := k2.lt); (have l3 := k3.lt))))
    refine bodyPost_ret (v := .tuple #[.agg #[.bool false, .bool d, .slice a' m' c', .bool g], .agg #[.bool false, .slice none 0 0]]) (by simp [results, Try.results22, go_sem, d0, d1, d2, d3, e0, e1]) rfl ?_
    have hZ := SZ.out
    exact ⟨⟨false, d, l, g⟩, a', c', m', [], none, 0, 0, Lib.hid rfl, hm', Lib.hid rfl, Lib.hid rfl, rfl, Own.mono (base := W.heap.size) (by show Own _ _ _ _ _ _ _ (l.map encB); repeat (first | (with_reducible exact own) | (with_reducible refine Own.setLow ?_ (by first | (simp; done) | (simp; omega) | omega) _) | (with_reducible refine Own.alloc ?_ _))) (by omega), Own.nil _ _ _ _, by simp, (by repeat (first | (with_reducible refine Below.setCell ?_ ?_ _) | (with_reducible refine Below.alloc ?_ ?_ _) | (with_reducible refine Below.drew ?_) | (with_reducible refine below_drewN ?_ _) | (with_reducible exact Below.refl _ _) | (with_reducible refine Below.trans ?_ (Below.mono hb1 ?_)) | (with_reducible refine Below.trans ?_ (Below.mono be ?_)) | (focus (simp; done)) | (focus (simp; omega)) | (focus omega) | (focus (have q0 := Below.size hb1; (try simp at q0); have q1 := Below.size be; (try simp at q1); (try simp); omega))))⟩
  | true =>
    have kI0 := Blk.new W 35 #[.bool true, .slice none 0 0]
    cases d
    all_goals
      go_upto_region 7 with ((at_builtin; refine appIts rfl _ _ rfl (W.heap.size + 1) none 0 0 [] rfl (some ⟨W.heap.size + 1, 0, none⟩) 1 1 [it15] rfl (Own.nil _ _ _ _) (row15 _ _ (by simpa using Blk.next W _ _ _)) rfl 1 rfl (by omega) (by simp) ?_; intro xb xd w1 own1 gr1 bl1; (have be1 := bl1 _ (RowKit.Below.refl _ _)); (have kI := (kI0.alloc (.cells #[.int .i64 15, .int .i64 0, .slice none 0 0] 49)).below be1 (by omega)); (have beW : RowKit.Below W.heap.size W w1 := (by repeat (first | (with_reducible refine Below.setCell ?_ ?_ _) | (with_reducible refine Below.alloc ?_ ?_ _) | (with_reducible refine Below.drew ?_) | (with_reducible refine below_drewN ?_ _) | (with_reducible exact Below.refl _ _) | (with_reducible refine Below.trans ?_ (Below.mono be1 ?_)) | (focus (simp; done)) | (focus (simp; omega)) | (focus omega) | (focus (have q0 := Below.size be1; (try simp at q0); (try simp); omega)))))))
    · refine wp_named (fun V => Blk V w.heap.size 30 #[.bool true, .bool false, .slice a n c, .bool g] ∧ Blk V (w.heap.size + 1) 30 #[.bool false, .bool false, .slice none 0 0, .bool false] ∧ Blk V (w.heap.size + 2) 35 #[.bool false, .slice none 0 0] ∧ Blk V W.heap.size 35 #[.bool true, .slice none 0 0] ∧ Own V (W.heap.size + 1) 49 3 none 0 0 (itCells ([] : List It)) ∧ W.heap.size + 1 ≤ V.heap.size ∧ RowKit.Below w.heap.size w V) ⟨kS.alloc _, kR.alloc _, kJ.alloc _, kI0, Own.nil _ _ _ _, by simp, (by repeat (first | (with_reducible refine Below.setCell ?_ ?_ _) | (with_reducible refine Below.alloc ?_ ?_ _) | (with_reducible refine Below.drew ?_) | (with_reducible refine below_drewN ?_ _) | (with_reducible exact Below.refl _ _) | (with_reducible refine Below.trans ?_ (Below.mono be ?_)) | (focus (simp; done)) | (focus (simp; omega)) | (focus omega) | (focus (have q0 := Below.size be; (try simp at q0); (try simp); omega))))⟩ ?_
      clear kS kR kJ be c0 c1 c2 c3 sl
      rintro V ⟨kS, kR, kJ, kI, own0, sz, be⟩
      have hp0 : ∀ x ∈ ([] : List It), ∀ V : World, Own V 0 5 1 x.a x.pay.length x.c (x.pay.map encB) := (by simp)
      obtain ⟨c0, c1, c2, c3⟩ := kS.four'
      have sl := kS.lt
      have f1 := kS.frozen
      go_upto_region 8 with ((go_at_call 33; (with_reducible refine (ref04_Take4 a l n c g _ (h.below be (Nat.le_refl _))).mono ?_); rintro e w2 ⟨st, its, xa, xc, ra, rc, hst, rfl, hk, own, pays, ownr, hb2⟩))
      have SZO := SZ.out
      have hlt := be.size
      have hlt2 := hb2.size
      refine wp_named (fun Z => Blk Z (w.heap.size + 1) 30 #[.bool false, .bool false, .slice none 0 0, .bool false] ∧ Blk Z (w.heap.size + 1 + 1) 35 #[.bool false, .slice none 0 0] ∧ Blk Z W.heap.size 35 #[.bool true, .slice none 0 0] ∧ Blk Z w2.heap.size 28 #[.slice ra (l.length - st.used) rc, .bool st.garb] ∧ Own Z (W.heap.size + 1) 49 3 none 0 0 (itCells ([] : List It)) ∧ Own Z V.heap.size 49 3 xa its.length xc (itCells its) ∧ (∀ x ∈ its, Own Z 0 5 1 x.a x.pay.length x.c (x.pay.map encB)) ∧ Own Z V.heap.size 5 1 ra (l.length - st.used) rc ((l.drop st.used).map encB) ∧ W.heap.size + 1 ≤ Z.heap.size ∧ RowKit.Below w.heap.size w Z)
        ⟨(kR.below hb2 kR.lt).alloc _, (kJ.below hb2 kJ.lt).alloc _, (kI.below hb2 kI.lt).alloc _, Blk.new _ _ _, (own0.below hb2 (Nat.le_refl _)).alloc _, own.alloc _, fun x hx => (pays x hx).alloc _, ownr.alloc _, by simp; omega, (by repeat (first | (with_reducible refine Below.setCell ?_ ?_ _) | (with_reducible refine Below.alloc ?_ ?_ _) | (with_reducible refine Below.drew ?_) | (with_reducible refine below_drewN ?_ _) | (with_reducible exact Below.refl _ _) | (with_reducible refine Below.trans ?_ (Below.mono hb2 ?_)) | (with_reducible refine Below.trans ?_ (Below.mono be ?_)) | (focus (simp; done)) | (focus (simp; omega)) | (focus omega) | (focus (have q0 := Below.size hb2; (try simp at q0); have q1 := Below.size be; (try simp at q1); (try simp); omega))))⟩ ?_
      have nP1 : w.heap.size + 1 ≠ w2.heap.size := by omega
      have nP2 : w.heap.size + 1 + 1 ≠ w2.heap.size := by omega
      have nP3 : W.heap.size ≠ w2.heap.size := by omega
      have nQ1 : w2.heap.size ≠ w.heap.size + 1 := by omega
      have nQ2 : w2.heap.size ≠ w.heap.size + 1 + 1 := by omega
      have nQ3 : w2.heap.size ≠ W.heap.size := by omega
      clear kS kR kJ kI own pays ownr c0 c1 c2 c3 sl f1 hb2 own0 SZO
      rintro Z ⟨kR, kJ, kI, kP, own0, own, pays, ownr, sz, be⟩
      have i0 := kI.cell 0
      have i1 := kI.cell 1
      have li := kI.lt
      have fi := kI.frozen
      have hil : its.length ≤ 4 := keys_bd hst hk
      go_upto_region 9 with ((at_builtin; refine appIts rfl _ _ rfl (W.heap.size + 1) none 0 0 ([] : List It) rfl xa its.length xc its rfl own0 own.row rfl its.length (by omega) (by omega) sz ?_; intro yb yd w3 own3 gr3 bl3; (have be3 := bl3 _ (RowKit.Below.refl _ _)); (have kI3 := kI.below be3 (by omega)); clear i0 i1 li fi; (have i0 := kI3.cell 0); (have i1 := kI3.cell 1); (have fi := kI3.frozen); (have li := kI3.lt)))
      have SZO := SZ.out
      have nP := kP.lt
      have kP3 : Blk w3 w2.heap.size 28 #[.slice ra (l.length - st.used) rc, .bool st.garb] := kP.ofGrown gr3 (own0.ne_blk kP (by decide))
      have p3 : ∀ x ∈ ([] : List It) ++ its, Own w3 0 5 1 x.a x.pay.length x.c (x.pay.map encB) := fun x hx => by
        rcases List.mem_append.1 hx with hx | hx
        · exact hp0 x hx _
        · exact (pays x hx).grew gr3 (own0.apart (pays x hx) (by decide))
      have r3 := ownr.grew gr3 (own0.apart ownr (by decide))
      have two : ∀ (base : Nat) (e : TypeId) (sz n cp : Nat) (x : Option Addr) (xs : List Value) (u0 : Value), Own w3 base e sz x n cp xs → (W.heap.size < base ∨ e ≠ 35) → Own (w3.setCell ⟨W.heap.size, 1, none⟩ u0) base e sz x n cp xs := fun base e sz n cp x xs u0 h hd =>
        h.far (fun e => by
          rcases hd with hd | hd
          · have := h.base_le _ e; simp only at this; omega
          · exact h.ne_blk kI3 hd e) _
      refine wp_named (fun Y => Blk Y (w.heap.size + 1) 30 #[.bool false, .bool false, .slice none 0 0, .bool false] ∧ Blk Y (w.heap.size + 1 + 1) 35 #[.bool false, .slice none 0 0] ∧ Blk Y W.heap.size 35 #[.bool true, .slice yb its.length yd] ∧ Blk Y w2.heap.size 28 #[.slice ra (l.length - st.used) rc, .bool st.garb] ∧ (∀ x ∈ ([] : List It) ++ its, Own Y 0 5 1 x.a x.pay.length x.c (x.pay.map encB)) ∧ Own Y (W.heap.size + 1) 49 3 yb its.length yd (itCells (([] : List It) ++ its)) ∧ Own Y V.heap.size 5 1 ra (l.length - st.used) rc ((l.drop st.used).map encB) ∧ RowKit.Below w.heap.size w Y)
        ⟨(kR.below be3 (by omega)).far (by simp; omega) _, (kJ.below be3 (by omega)).far (by simp; omega) _, kI3.set 1 _, kP3.far (fun e => nQ3 e) _, fun x hx => two _ _ _ _ _ _ _ _ (p3 x hx) (.inr (by decide)), two _ _ _ _ _ _ _ _ own3 (.inl (by omega)), two _ _ _ _ _ _ _ _ r3 (.inr (by decide)), (by repeat (first | (with_reducible refine Below.setCell ?_ ?_ _) | (with_reducible refine Below.alloc ?_ ?_ _) | (with_reducible refine Below.drew ?_) | (with_reducible refine below_drewN ?_ _) | (with_reducible exact Below.refl _ _) | (with_reducible refine Below.trans ?_ (Below.mono be3 ?_)) | (with_reducible refine Below.trans ?_ (Below.mono be ?_)) | (focus (simp; done)) | (focus (simp; omega)) | (focus omega) | (focus (have q0 := Below.size be3; (try simp at q0); have q1 := Below.size be; (try simp at q1); (try simp); omega))))⟩ ?_
      have HV := Lib.hid hlt
      clear two p3 r3 own3 gr3 bl3 be3 kI3 kP3 i0 i1 li fi kR kJ kI kP own0 own pays ownr be SZO nP hlt
      rintro Y ⟨kR, kJ, kI, kP, p3, own3, ownr, be⟩
      obtain ⟨d0, d1, d2, d3⟩ := kR.four'
      have e0 := kJ.cell 0
      have e1 := kJ.cell 1
      have i0 := kI.cell 0
      have i1 := kI.cell 1
      have q0 := kP.cell 0
      have q1 := kP.cell 1
      have fR := kR.frozen
      have fJ := kJ.frozen
      have l2 := kR.lt
      have l3 := kJ.lt
      have l4 := kI.lt
      have l5 := kP.lt
      have SZO := SZ.out
      have n1 : w.heap.size + 1 ≠ W.heap.size := by omega
      have n2 : w.heap.size + 1 + 1 ≠ W.heap.size := by omega
      have n3 : W.heap.size ≠ w.heap.size + 1 := by omega
      have n4 : W.heap.size ≠ w.heap.size + 1 + 1 := by omega
      clear SZO
      go_region
      go_wp2
      refine bodyPost_ret (v := .tuple #[.agg #[.bool true, .bool false, .slice ra (l.length - st.used) rc, .bool st.garb], .agg #[.bool true, .slice yb its.length yd]]) (by simp [results, Try.results22, go_sem, d0, d1, d2, d3, e0, e1]) rfl ?_
      have SZO := SZ.out
      have hbs := be.size
      have HVO := HV.out
      exact ⟨⟨true, false, l.drop st.used, st.garb⟩, ra, rc, l.length - st.used, ([] : List It) ++ its, yb, yd, its.length, Lib.hid (by simp only [Ses.nxt, Ses.tk, if_true, hst.out]), Lib.hid List.length_drop.symm, Lib.hid (by simp), Lib.hid (by rw [List.map_append, hk]; simp only [Ses.inp, Ses.tk, if_true, hst.out]; rfl), rfl, (own_six kR kJ ownr (by decide) (by decide) _ _ _ _ _ _).mono (by omega), (own_six kR kJ own3 (by decide) (by decide) _ _ _ _ _ _).mono (by omega), fun x hx => own_six kR kJ (p3 x hx) (by decide) (by decide) _ _ _ _ _ _, (by repeat (first | (with_reducible refine Below.setCell ?_ ?_ _) | (with_reducible refine Below.alloc ?_ ?_ _) | (with_reducible refine Below.drew ?_) | (with_reducible refine below_drewN ?_ _) | (with_reducible exact Below.refl _ _) | (with_reducible refine Below.trans ?_ (Below.mono be ?_)) | (focus (simp; done)) | (focus (simp; omega)) | (focus omega) | (focus (have q0 := Below.size be; (try simp at q0); (try simp); omega))))⟩
    · have lI := kI.lt
      refine wp_named (fun V => Blk V w.heap.size 30 #[.bool true, .bool true, .slice a n c, .bool g] ∧ Blk V (w.heap.size + 1) 30 #[.bool false, .bool false, .slice none 0 0, .bool false] ∧ Blk V (w.heap.size + 2) 35 #[.bool false, .slice none 0 0] ∧ Blk V W.heap.size 35 #[.bool true, .slice none 0 0] ∧ Own V (W.heap.size + 1) 49 3 xb 1 xd (itCells [it15]) ∧ W.heap.size + 1 ≤ V.heap.size ∧ RowKit.Below w.heap.size w V) ⟨kS.below beW kS.lt, kR.below beW kR.lt, kJ.below beW kJ.lt, kI, own1, by omega, (by repeat (first | (with_reducible refine Below.setCell ?_ ?_ _) | (with_reducible refine Below.alloc ?_ ?_ _) | (with_reducible refine Below.drew ?_) | (with_reducible refine below_drewN ?_ _) | (with_reducible exact Below.refl _ _) | (with_reducible refine Below.trans ?_ (Below.mono beW ?_)) | (with_reducible refine Below.trans ?_ (Below.mono be ?_)) | (focus (simp; done)) | (focus (simp; omega)) | (focus omega) | (focus (have q0 := Below.size beW; (try simp at q0); have q1 := Below.size be; (try simp at q1); (try simp); omega))))⟩ ?_
      clear kS kR kJ be c0 c1 c2 c3 sl kI own1 gr1 bl1 be1 beW
      rintro V ⟨kS, kR, kJ, kI, own0, sz, be⟩
      have hp0 : ∀ x ∈ [it15], ∀ V : World, Own V 0 5 1 x.a x.pay.length x.c (x.pay.map encB) := (fun x hx V => by rw [List.mem_singleton.1 hx]; exact Own.nil _ _ _ _)
      obtain ⟨c0, c1, c2, c3⟩ := kS.four'
      have sl := kS.lt
      have f1 := kS.frozen
      go_upto_region 8 with ((go_at_call 33; (with_reducible refine (ref04_Take4 a l n c g _ (h.below be (Nat.le_refl _))).mono ?_); rintro e w2 ⟨st, its, xa, xc, ra, rc, hst, rfl, hk, own, pays, ownr, hb2⟩))
      have SZO := SZ.out
      have hlt := be.size
      have hlt2 := hb2.size
      refine wp_named (fun Z => Blk Z (w.heap.size + 1) 30 #[.bool false, .bool false, .slice none 0 0, .bool false] ∧ Blk Z (w.heap.size + 1 + 1) 35 #[.bool false, .slice none 0 0] ∧ Blk Z W.heap.size 35 #[.bool true, .slice none 0 0] ∧ Blk Z w2.heap.size 28 #[.slice ra (l.length - st.used) rc, .bool st.garb] ∧ Own Z (W.heap.size + 1) 49 3 xb 1 xd (itCells [it15]) ∧ Own Z V.heap.size 49 3 xa its.length xc (itCells its) ∧ (∀ x ∈ its, Own Z 0 5 1 x.a x.pay.length x.c (x.pay.map encB)) ∧ Own Z V.heap.size 5 1 ra (l.length - st.used) rc ((l.drop st.used).map encB) ∧ W.heap.size + 1 ≤ Z.heap.size ∧ RowKit.Below w.heap.size w Z)
        ⟨(kR.below hb2 kR.lt).alloc _, (kJ.below hb2 kJ.lt).alloc _, (kI.below hb2 kI.lt).alloc _, Blk.new _ _ _, (own0.below hb2 (Nat.le_refl _)).alloc _, own.alloc _, fun x hx => (pays x hx).alloc _, ownr.alloc _, by simp; omega, (by repeat (first | (with_reducible refine Below.setCell ?_ ?_ _) | (with_reducible refine Below.alloc ?_ ?_ _) | (with_reducible refine Below.drew ?_) | (with_reducible refine below_drewN ?_ _) | (with_reducible exact Below.refl _ _) | (with_reducible refine Below.trans ?_ (Below.mono hb2 ?_)) | (with_reducible refine Below.trans ?_ (Below.mono be ?_)) | (focus (simp; done)) | (focus (simp; omega)) | (focus omega) | (focus (have q0 := Below.size hb2; (try simp at q0); have q1 := Below.size be; (try simp at q1); (try simp); omega))))⟩ ?_
      have nP1 : w.heap.size + 1 ≠ w2.heap.size := by omega
      have nP2 : w.heap.size + 1 + 1 ≠ w2.heap.size := by omega
      have nP3 : W.heap.size ≠ w2.heap.size := by omega
      have nQ1 : w2.heap.size ≠ w.heap.size + 1 := by omega
      have nQ2 : w2.heap.size ≠ w.heap.size + 1 + 1 := by omega
      have nQ3 : w2.heap.size ≠ W.heap.size := by omega
      clear kS kR kJ kI own pays ownr c0 c1 c2 c3 sl f1 hb2 own0 SZO
      rintro Z ⟨kR, kJ, kI, kP, own0, own, pays, ownr, sz, be⟩
      have i0 := kI.cell 0
      have i1 := kI.cell 1
      have li := kI.lt
      have fi := kI.frozen
      have hil : its.length ≤ 4 := keys_bd hst hk
      go_upto_region 9 with ((at_builtin; refine appIts rfl _ _ rfl (W.heap.size + 1) xb 1 xd [it15] rfl xa its.length xc its rfl own0 own.row rfl (1 + its.length) (by omega) (by omega) sz ?_; intro yb yd w3 own3 gr3 bl3; (have be3 := bl3 _ (RowKit.Below.refl _ _)); (have kI3 := kI.below be3 (by omega)); clear i0 i1 li fi; (have i0 := kI3.cell 0); (have i1 := kI3.cell 1); (have fi := kI3.frozen); (have li := kI3.lt)))
      have SZO := SZ.out
      have nP := kP.lt
      have kP3 : Blk w3 w2.heap.size 28 #[.slice ra (l.length - st.used) rc, .bool st.garb] := kP.ofGrown gr3 (own0.ne_blk kP (by decide))
      have p3 : ∀ x ∈ [it15] ++ its, Own w3 0 5 1 x.a x.pay.length x.c (x.pay.map encB) := fun x hx => by
        rcases List.mem_append.1 hx with hx | hx
        · exact hp0 x hx _
        · exact (pays x hx).grew gr3 (own0.apart (pays x hx) (by decide))
      have r3 := ownr.grew gr3 (own0.apart ownr (by decide))
      have two : ∀ (base : Nat) (e : TypeId) (sz n cp : Nat) (x : Option Addr) (xs : List Value) (u0 : Value), Own w3 base e sz x n cp xs → (W.heap.size < base ∨ e ≠ 35) → Own (w3.setCell ⟨W.heap.size, 1, none⟩ u0) base e sz x n cp xs := fun base e sz n cp x xs u0 h hd =>
        h.far (fun e => by
          rcases hd with hd | hd
          · have := h.base_le _ e; simp only at this; omega
          · exact h.ne_blk kI3 hd e) _
      refine wp_named (fun Y => Blk Y (w.heap.size + 1) 30 #[.bool false, .bool false, .slice none 0 0, .bool false] ∧ Blk Y (w.heap.size + 1 + 1) 35 #[.bool false, .slice none 0 0] ∧ Blk Y W.heap.size 35 #[.bool true, .slice yb (1 + its.length) yd] ∧ Blk Y w2.heap.size 28 #[.slice ra (l.length - st.used) rc, .bool st.garb] ∧ (∀ x ∈ [it15] ++ its, Own Y 0 5 1 x.a x.pay.length x.c (x.pay.map encB)) ∧ Own Y (W.heap.size + 1) 49 3 yb (1 + its.length) yd (itCells ([it15] ++ its)) ∧ Own Y V.heap.size 5 1 ra (l.length - st.used) rc ((l.drop st.used).map encB) ∧ RowKit.Below w.heap.size w Y)
        ⟨(kR.below be3 (by omega)).far (by simp; omega) _, (kJ.below be3 (by omega)).far (by simp; omega) _, kI3.set 1 _, kP3.far (fun e => nQ3 e) _, fun x hx => two _ _ _ _ _ _ _ _ (p3 x hx) (.inr (by decide)), two _ _ _ _ _ _ _ _ own3 (.inl (by omega)), two _ _ _ _ _ _ _ _ r3 (.inr (by decide)), (by repeat (first | (with_reducible refine Below.setCell ?_ ?_ _) | (with_reducible refine Below.alloc ?_ ?_ _) | (with_reducible refine Below.drew ?_) | (with_reducible refine below_drewN ?_ _) | (with_reducible exact Below.refl _ _) | (with_reducible refine Below.trans ?_ (Below.mono be3 ?_)) | (with_reducible refine Below.trans ?_ (Below.mono be ?_)) | (focus (simp; done)) | (focus (simp; omega)) | (focus omega) | (focus (have q0 := Below.size be3; (try simp at q0); have q1 := Below.size be; (try simp at q1); (try simp); omega))))⟩ ?_
      have HV := Lib.hid hlt
      clear two p3 r3 own3 gr3 bl3 be3 kI3 kP3 i0 i1 li fi kR kJ kI kP own0 own pays ownr be SZO nP hlt
      rintro Y ⟨kR, kJ, kI, kP, p3, own3, ownr, be⟩
      obtain ⟨d0, d1, d2, d3⟩ := kR.four'
      have e0 := kJ.cell 0
      have e1 := kJ.cell 1
      have i0 := kI.cell 0
      have i1 := kI.cell 1
      have q0 := kP.cell 0
      have q1 := kP.cell 1
      have fR := kR.frozen
      have fJ := kJ.frozen
      have l2 := kR.lt
      have l3 := kJ.lt
      have l4 := kI.lt
      have l5 := kP.lt
      have SZO := SZ.out
      have n1 : w.heap.size + 1 ≠ W.heap.size := by omega
      have n2 : w.heap.size + 1 + 1 ≠ W.heap.size := by omega
      have n3 : W.heap.size ≠ w.heap.size + 1 := by omega
      have n4 : W.heap.size ≠ w.heap.size + 1 + 1 := by omega
      clear SZO
      go_region
      go_wp2
      refine bodyPost_ret (v := .tuple #[.agg #[.bool true, .bool false, .slice ra (l.length - st.used) rc, .bool st.garb], .agg #[.bool true, .slice yb (1 + its.length) yd]]) (by simp [results, Try.results22, go_sem, d0, d1, d2, d3, e0, e1]) rfl ?_
      have SZO := SZ.out
      have hbs := be.size
      have HVO := HV.out
      exact ⟨⟨true, false, l.drop st.used, st.garb⟩, ra, rc, l.length - st.used, [it15] ++ its, yb, yd, 1 + its.length, Lib.hid (by simp only [Ses.nxt, Ses.tk, if_true, hst.out]), Lib.hid List.length_drop.symm, Lib.hid (by rw [List.length_append]; rfl), Lib.hid (by rw [List.map_append, hk]; simp only [Ses.inp, Ses.tk, if_true, hst.out]; rfl), rfl, (own_six kR kJ ownr (by decide) (by decide) _ _ _ _ _ _).mono (by omega), (own_six kR kJ own3 (by decide) (by decide) _ _ _ _ _ _).mono (by omega), fun x hx => own_six kR kJ (p3 x hx) (by decide) (by decide) _ _ _ _ _ _, (by repeat (first | (with_reducible refine Below.setCell ?_ ?_ _) | (with_reducible refine Below.alloc ?_ ?_ _) | (with_reducible refine Below.drew ?_) | (with_reducible refine below_drewN ?_ _) | (with_reducible exact Below.refl _ _) | (with_reducible refine Below.trans ?_ (Below.mono be ?_)) | (focus (simp; done)) | (focus (simp; omega)) | (focus omega) | (focus (have q0 := Below.size be; (try simp at q0); (try simp); omega))))⟩
end Go.Proofs.Ytlfccoakodnbaaa
