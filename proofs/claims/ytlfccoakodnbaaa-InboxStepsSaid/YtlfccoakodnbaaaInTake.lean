/- sessions: taking -/
import Derived.Test.YtlfccoakodnbaaaInbox
namespace Go.Proofs.Ytlfccoakodnbaaa
set_option linter.unusedVariables false
open Go.RowKit Go.Sort
set_option maxRecDepth 100000

/-- append of items, an operation of the walk -/
theorem appIts {ops : Array Oper} {rest : List Oper} {o : Oper} {a : Act} {Q : Exit → Act → World → Prop} {w : World} (hgd : o.guard = none) (s x : Operand) (ho : o.op = .call { callee := .builtin .append, args := #[s, x], argTypes := #[33, 33] })
    (base : Nat) (b : Option Addr) (n cap : Nat) (l : List It) (hs : a.eval s = .slice b n cap) (A : Option Addr) (m c : Nat) (k : List It) (hx : a.eval x = .slice A m c)
    (own : Own w base 49 3 b n cap (itCells l)) (hr : Row w A (itCells k)) (hm : m = k.length) (N : Nat) (hN : N = n + m) (hbig : N ≤ 1000000000) (hbase : base ≤ w.heap.size)
    (h : ∀ b' cap' w', Own w' base 49 3 b' N cap' (itCells (l ++ k)) → Grew base w w' b b' → (∀ W, Below base W w → Below base W w') → wpList Try.prog ops Q rest (a.put o.dst (.slice b' N cap')) w') :
    wpList Try.prog ops Q (o :: rest) a w := by
  obtain ⟨i0, hi, hz0, hz1, hz2⟩ := info_parts info_item
  have hone : ∀ u ∈ itCells k, u.oneCell' = true := by
    intro u hu
    simp only [itCells, List.mem_flatMap] at hu
    obtain ⟨y, _, hy⟩ := hu
    simp only [It.cells, List.mem_cons, List.not_mem_nil, or_false] at hy
    rcases hy with rfl | rfl | rfl <;> rfl
  refine wp_append_row _ hgd s x _ ho base _ i0 _ 3 40 Try.underlying33 hi hz0 hz1 hz2 rfl (by decide) b n cap _ hs A m c hx own (itCells k) (by rw [itCells_len, hm]; omega) hr hone (by simp only [maxLen]; omega) (by omega) hbase ?_
  intro b' cap' w' own' g
  rw [← hN] at own' ⊢
  rw [← itCells_app] at own'
  exact h b' cap' w' own' g (Grew.step own g)
theorem Own.drew {w : World} {base : Nat} {e : TypeId} {size n cap : Nat} {a : Option Addr} {xs : List Value} (h : Own w base e size a n cap xs) : Own w.drew base e size a n cap xs := h.keep fun _ _ _ _ => rfl
theorem own_six {Y : World} {p q : Nat} {C D : Array Value} (kR : Blk Y p 30 C) (kJ : Blk Y q 35 D) {base : Nat} {e : TypeId} {size n cap : Nat} {a : Option Addr} {xs : List Value} (h : Own Y base e size a n cap xs) (h1 : e ≠ 30) (h2 : e ≠ 35) (u0 u1 u2 u3 u4 u5 : Value) :
    Own (((((((Y.setCell ⟨p, 0, none⟩ u0).setCell ⟨p, 1, none⟩ u1).setCell ⟨p, 2, none⟩ u2).setCell ⟨p, 3, none⟩ u3).setCell ⟨q, 0, none⟩ u4).setCell ⟨q, 1, none⟩ u5).drew) base e size a n cap xs := by
  have a1 := h.ne_blk kR h1
  have a2 := h.ne_blk kJ h2
  refine Own.drew ?_
  refine Own.far ?_ a2 _
  refine Own.far ?_ a2 _
  refine Own.far ?_ a1 _
  refine Own.far ?_ a1 _
  refine Own.far ?_ a1 _
  exact Own.far h a1 _
def it15 : It := ⟨15, 0, [], none, 0⟩
theorem row15 (w : World) (b : Nat) (h : Blk w b 49 #[.int .i64 15, .int .i64 0, .slice none 0 0]) : Row w (some ⟨b, 0, none⟩) (itCells [it15]) := by
  refine .inr ⟨b, 0, rfl, h.lt, fun i hi => ?_⟩
  have hi' : i < 3 := hi
  rw [Nat.zero_add, h.cell]
  obtain rfl | rfl | rfl : i = 0 ∨ i = 1 ∨ i = 2 := by omega
  all_goals rfl

set_option maxHeartbeats 4000000 in
theorem inbox_Take (o d g : Bool) (l : List UInt8) (a : Option Addr) (n c : Nat) (w : World) (h : SAt w l a n c) :
    Calls Try.prog 11 #[.agg #[.bool o, .bool d, .slice a n c, .bool g]] w (TakS ⟨o, d, l, g⟩ w) := by
  go_enter Try.func11, Try.ntmps11
  go_upto_region 1 with fail
  refine wp_named (fun W => Blk W w.heap.size 30 #[.bool o, .bool d, .slice a n c, .bool g] ∧ Blk W (w.heap.size + 1) 30 #[.bool false, .bool false, .slice none 0 0, .bool false] ∧ Blk W (w.heap.size + 2) 35 #[.bool false, .slice none 0 0] ∧ w.heap.size + 3 = W.heap.size ∧ RowKit.Below w.heap.size w W) ⟨((Blk.new _ _ _).alloc _).alloc _, (Blk.next _ _ _ _).alloc _, by simpa using Blk.next (w.alloc (.cells #[.bool o, .bool d, .slice a n c, .bool g] 30)) (.cells #[.bool false, .bool false, .slice none 0 0, .bool false] 30) 35 #[.bool false, .slice none 0 0], by simp, (by repeat (first | (with_reducible refine Below.setCell ?_ ?_ _) | (with_reducible refine Below.alloc ?_ ?_ _) | (with_reducible refine Below.drew ?_) | (with_reducible refine below_drewN ?_ _) | (with_reducible exact Below.refl _ _) | (focus (simp; done)) | (focus (simp; omega)) | (focus omega)))⟩ ?_
  rintro W ⟨kS, kR, kJ, sz, be⟩
  obtain ⟨c0, c1, c2, c3⟩ := kS.four'
  have sl := kS.lt
  have szi : W.heap.size = w.heap.size + 3 := sz.symm
  have SZ := Lib.hid sz
  clear sz szi
  cases o with
  | false =>
    go_wp2_with ((go_at_call 30; (with_reducible refine (copies_Session false d g l a n c _ (h.below be (Nat.le_refl _))).mono ?_); rintro e w1 ⟨a', c', m', hm', rfl, own, hb1⟩; ((have k2 := kR.below hb1 kR.lt); (have k3 := kJ.below hb1 kJ.lt); (obtain ⟨d0, d1, d2, d3⟩ := k2.four'); (have e0 := k3.cell 0); (have e1 := k3.cell 1); (have f2 := k2.frozen); (have f3 := k3.frozen); (have l2 := k2.lt); (have l3 := k3.lt))))
    refine bodyPost_ret (v := .tuple #[.agg #[.bool false, .bool d, .slice a' m' c', .bool g], .agg #[.bool false, .slice none 0 0]]) (by simp [results, Try.results11, go_sem, d0, d1, d2, d3, e0, e1]) rfl ?_
    have hZ := SZ.out
    exact ⟨⟨false, d, l, g⟩, a', c', m', [], none, 0, 0, Lib.hid rfl, hm', Lib.hid rfl, Lib.hid rfl, rfl, Own.mono (base := W.heap.size) (by show Own _ _ _ _ _ _ _ (l.map encB); repeat (first | (with_reducible exact own) | (with_reducible refine Own.setLow ?_ (by first | (simp; done) | (simp; omega) | omega) _) | (with_reducible refine Own.alloc ?_ _))) (by omega), Own.nil _ _ _ _, by simp, (by repeat (first | (with_reducible refine Below.setCell ?_ ?_ _) | (with_reducible refine Below.alloc ?_ ?_ _) | (with_reducible refine Below.drew ?_) | (with_reducible refine below_drewN ?_ _) | (with_reducible exact Below.refl _ _) | (with_reducible refine Below.trans ?_ (Below.mono hb1 ?_)) | (with_reducible refine Below.trans ?_ (Below.mono be ?_)) | (focus (simp; done)) | (focus (simp; omega)) | (focus omega) | (focus (have q0 := Below.size hb1; (try simp at q0); have q1 := Below.size be; (try simp at q1); (try simp); omega))))⟩
  | true =>
    have kI0 := Blk.new W 35 #[.bool true, .slice none 0 0]
    cases d
    all_goals
      go_upto_region 6 with ((at_builtin; refine appIts rfl _ _ rfl (W.heap.size + 1) none 0 0 [] rfl (some ⟨W.heap.size + 1, 0, none⟩) 1 1 [it15] rfl (Own.nil _ _ _ _) (row15 _ _ (by simpa using Blk.next W _ _ _)) rfl 1 rfl (by omega) (by simp) ?_; intro xb xd w1 own1 gr1 bl1; (have be1 := bl1 _ (RowKit.Below.refl _ _)); (have kI := (kI0.alloc (.cells #[.int .i64 15, .int .i64 0, .slice none 0 0] 49)).below be1 (by omega)); (have i0 := kI.cell 0); (have i1 := kI.cell 1); (have fI := kI.frozen); (have lI := kI.lt); (have beW : RowKit.Below W.heap.size W w1 := (by repeat (first | (with_reducible refine Below.setCell ?_ ?_ _) | (with_reducible refine Below.alloc ?_ ?_ _) | (with_reducible refine Below.drew ?_) | (with_reducible refine below_drewN ?_ _) | (with_reducible exact Below.refl _ _) | (with_reducible refine Below.trans ?_ (Below.mono be1 ?_)) | (focus (simp; done)) | (focus (simp; omega)) | (focus omega) | (focus (have q0 := Below.size be1; (try simp at q0); (try simp); omega)))))))
    (focus refine wp_named (fun V => Blk V w.heap.size 30 #[.bool true, .bool false, .slice a n c, .bool g] ∧ Blk V (w.heap.size + 1) 30 #[.bool false, .bool false, .slice none 0 0, .bool false] ∧ Blk V (w.heap.size + 2) 35 #[.bool false, .slice none 0 0] ∧ (∃ (its0 : List It) (xa0 : Option Addr) (m0 xc0 : Nat), Blk V W.heap.size 35 #[.bool true, .slice xa0 m0 xc0] ∧ Hid (m0 = its0.length) ∧ m0 ≤ 1 ∧ Hid (its0.map It.key = (if false = true then [(15, 0, [])] else [])) ∧ (∀ x ∈ its0, Own V 0 5 1 x.a x.pay.length x.c (x.pay.map encB)) ∧ Own V (W.heap.size + 1) 49 3 xa0 m0 xc0 (itCells its0)) ∧ W.heap.size + 1 ≤ V.heap.size ∧ RowKit.Below w.heap.size w V) ⟨kS.alloc _, kR.alloc _, kJ.alloc _, ⟨[], none, 0, 0, kI0, Lib.hid rfl, by omega, Lib.hid rfl, by simp, Own.nil _ _ _ _⟩, by simp, (by repeat (first | (with_reducible refine Below.setCell ?_ ?_ _) | (with_reducible refine Below.alloc ?_ ?_ _) | (with_reducible refine Below.drew ?_) | (with_reducible refine below_drewN ?_ _) | (with_reducible exact Below.refl _ _) | (with_reducible refine Below.trans ?_ (Below.mono be ?_)) | (focus (simp; done)) | (focus (simp; omega)) | (focus omega) | (focus (have q0 := Below.size be; (try simp at q0); (try simp); omega))))⟩ ?_)
    rotate_left
    (focus refine wp_named (fun V => Blk V w.heap.size 30 #[.bool true, .bool true, .slice a n c, .bool g] ∧ Blk V (w.heap.size + 1) 30 #[.bool false, .bool false, .slice none 0 0, .bool false] ∧ Blk V (w.heap.size + 2) 35 #[.bool false, .slice none 0 0] ∧ (∃ (its0 : List It) (xa0 : Option Addr) (m0 xc0 : Nat), Blk V W.heap.size 35 #[.bool true, .slice xa0 m0 xc0] ∧ Hid (m0 = its0.length) ∧ m0 ≤ 1 ∧ Hid (its0.map It.key = (if true = true then [(15, 0, [])] else [])) ∧ (∀ x ∈ its0, Own V 0 5 1 x.a x.pay.length x.c (x.pay.map encB)) ∧ Own V (W.heap.size + 1) 49 3 xa0 m0 xc0 (itCells its0)) ∧ W.heap.size + 1 ≤ V.heap.size ∧ RowKit.Below w.heap.size w V) ⟨(kS.below beW kS.lt).far (by have := SZ.out; simp; omega) _, (kR.below beW kR.lt).far (by have := SZ.out; simp; omega) _, (kJ.below beW kJ.lt).far (by have := SZ.out; simp; omega) _, ⟨[it15], xb, 1, xd, kI.set 1 _, Lib.hid rfl, by omega, Lib.hid rfl, fun x hx => by rw [List.mem_singleton.1 hx]; exact Own.nil _ _ _ _, Own.setLow own1 (by simp) _⟩, by simp; omega, (by repeat (first | (with_reducible refine Below.setCell ?_ ?_ _) | (with_reducible refine Below.alloc ?_ ?_ _) | (with_reducible refine Below.drew ?_) | (with_reducible refine below_drewN ?_ _) | (with_reducible exact Below.refl _ _) | (with_reducible refine Below.trans ?_ (Below.mono beW ?_)) | (with_reducible refine Below.trans ?_ (Below.mono be ?_)) | (focus (simp; done)) | (focus (simp; omega)) | (focus omega) | (focus (have q0 := Below.size beW; (try simp at q0); have q1 := Below.size be; (try simp at q1); (try simp); omega))))⟩ ?_)
    all_goals
      clear kS kR kJ be c0 c1 c2 c3 sl
      rintro V ⟨kS, kR, kJ, ⟨its0, xa0, m0, xc0, kI, hm0, hm1, hk0, hp0, own0⟩, sz, be⟩
      obtain ⟨c0, c1, c2, c3⟩ := kS.four'
      have sl := kS.lt
      have f1 := kS.frozen
      go_upto_region 9 with ((go_at_call 32; (with_reducible refine (stream_Take4 a l n c g _ (h.below be (Nat.le_refl _))).mono ?_); rintro e w2 ⟨st, its, xa, xc, ra, rc, hst, rfl, hk, own, pays, ownr, hb2⟩; ((have k1 := kS.below hb2 kS.lt); clear c0 c1 c2 c3 sl f1; (obtain ⟨c0, c1, c2, c3⟩ := k1.four'); (have sl := k1.lt); (have f1 := k1.frozen))))
      have o0 := own0.below hb2 (Nat.le_refl _)
      have p0 : ∀ x ∈ its0, Own w2 0 5 1 x.a x.pay.length x.c (x.pay.map encB) := fun x hx => (hp0 x hx).below hb2 (Nat.le_refl _)
      have two : ∀ (base : Nat) (e : TypeId) (sz n cp : Nat) (x : Option Addr) (xs : List Value) (u0 u1 u2 : Value), Own w2 base e sz x n cp xs → (w.heap.size < base ∨ e ≠ 30) → Own ((((w2.setCell ⟨w.heap.size, 2, none⟩ u0).setCell ⟨w.heap.size, 3, none⟩ u1).setCell ⟨w.heap.size, 1, none⟩ u2).alloc (.cells #[.slice ra (l.length - st.used) rc, .bool st.garb] 28)) base e sz x n cp xs := fun base e sz n cp x xs u0 u1 u2 h hd => by
        have ne : ∀ i, x.map (·.block) ≠ some (⟨w.heap.size, i, none⟩ : Addr).block := fun i e => by
          rcases hd with hd | hd
          · have := h.base_le _ e; simp only at this; omega
          · exact h.ne_blk k1 hd e
        exact (((h.far (ne 2) _).far (ne 3) _).far (ne 1) _).alloc _
      have kb : ∀ (q : Nat) (e : TypeId) (C : Array Value) (u0 u1 u2 : Value), Blk w2 q e C → q ≠ w.heap.size → Blk ((((w2.setCell ⟨w.heap.size, 2, none⟩ u0).setCell ⟨w.heap.size, 3, none⟩ u1).setCell ⟨w.heap.size, 1, none⟩ u2).alloc (.cells #[.slice ra (l.length - st.used) rc, .bool st.garb] 28)) q e C := fun q e C u0 u1 u2 h hd => (((h.far hd _).far hd _).far hd _).alloc _
      have hlt := be.size
      refine wp_named (fun Z => Blk Z w.heap.size 30 #[.bool true, .bool false, .slice ra (l.length - st.used) rc, .bool st.garb] ∧ Blk Z (w.heap.size + 1) 30 #[.bool false, .bool false, .slice none 0 0, .bool false] ∧ Blk Z (w.heap.size + 2) 35 #[.bool false, .slice none 0 0] ∧ Blk Z W.heap.size 35 #[.bool true, .slice xa0 m0 xc0] ∧ (∀ x ∈ its0, Own Z 0 5 1 x.a x.pay.length x.c (x.pay.map encB)) ∧ Own Z (W.heap.size + 1) 49 3 xa0 m0 xc0 (itCells its0) ∧ Own Z V.heap.size 49 3 xa its.length xc (itCells its) ∧ (∀ x ∈ its, Own Z 0 5 1 x.a x.pay.length x.c (x.pay.map encB)) ∧ Own Z V.heap.size 5 1 ra (l.length - st.used) rc ((l.drop st.used).map encB) ∧ W.heap.size + 1 ≤ Z.heap.size ∧ RowKit.Below w.heap.size w Z)
        ⟨(((k1.set 2 _).set 3 _).set 1 _).alloc _, kb _ _ _ _ _ _ (kR.below hb2 kR.lt) (by omega), kb _ _ _ _ _ _ (kJ.below hb2 kJ.lt) (by omega), kb _ _ _ _ _ _ (kI.below hb2 kI.lt) (by have := SZ.out; omega), fun x hx => two _ _ _ _ _ _ _ _ _ _ (p0 x hx) (.inr (by decide)), two _ _ _ _ _ _ _ _ _ _ o0 (.inl (by have := SZ.out; omega)), two _ _ _ _ _ _ _ _ _ _ own (.inr (by decide)), fun x hx => two _ _ _ _ _ _ _ _ _ _ (pays x hx) (.inr (by decide)), two _ _ _ _ _ _ _ _ _ _ ownr (.inr (by decide)), by simp; have := hb2.size; omega, (by repeat (first | (with_reducible refine Below.setCell ?_ ?_ _) | (with_reducible refine Below.alloc ?_ ?_ _) | (with_reducible refine Below.drew ?_) | (with_reducible refine below_drewN ?_ _) | (with_reducible exact Below.refl _ _) | (with_reducible refine Below.trans ?_ (Below.mono hb2 ?_)) | (with_reducible refine Below.trans ?_ (Below.mono be ?_)) | (focus (simp; done)) | (focus (simp; omega)) | (focus omega) | (focus (have q0 := Below.size hb2; (try simp at q0); have q1 := Below.size be; (try simp at q1); (try simp); omega))))⟩ ?_
      clear two kb k1 kS kR kJ kI p0 o0 own pays ownr c0 c1 c2 c3 sl f1 hb2 own0 hp0
      rintro Z ⟨kS, kR, kJ, kI, p0, own0, own, pays, ownr, sz, be⟩
      have i0 := kI.cell 0
      have i1 := kI.cell 1
      have li := kI.lt
      have fi := kI.frozen
      obtain ⟨k4, hst'⟩ : ∃ q, q = st := ⟨_, rfl⟩
      have hil : its.length ≤ 4 := keys_bd hst hk
      go_upto_region 10 with ((at_builtin; refine appIts rfl _ _ rfl (W.heap.size + 1) xa0 m0 xc0 its0 rfl xa its.length xc its rfl own0 own.row rfl (m0 + its.length) rfl (by omega) sz ?_; intro xb xd w3 own3 gr3 bl3; (have be3 := bl3 _ (RowKit.Below.refl _ _)); (have kI3 := kI.below be3 (by omega)); clear i0 i1 li fi; (have i0 := kI3.cell 0); (have i1 := kI3.cell 1); (have fi := kI3.frozen); (have li := kI3.lt)))
      have SZO := SZ.out
      have p3 : ∀ x ∈ its0 ++ its, Own w3 0 5 1 x.a x.pay.length x.c (x.pay.map encB) := fun x hx => by
        rcases List.mem_append.1 hx with hx | hx
        · exact (p0 x hx).grew gr3 (own0.apart (p0 x hx) (by decide))
        · exact (pays x hx).grew gr3 (own0.apart (pays x hx) (by decide))
      have r3 := ownr.grew gr3 (own0.apart ownr (by decide))
      have two : ∀ (base : Nat) (e : TypeId) (sz n cp : Nat) (x : Option Addr) (xs : List Value) (u0 : Value), Own w3 base e sz x n cp xs → (W.heap.size < base ∨ e ≠ 35) → Own (w3.setCell ⟨W.heap.size, 1, none⟩ u0) base e sz x n cp xs := fun base e sz n cp x xs u0 h hd =>
        h.far (fun e => by
          rcases hd with hd | hd
          · have := h.base_le _ e; simp only at this; omega
          · exact h.ne_blk kI3 hd e) _
      refine wp_named (fun Y => Blk Y w.heap.size 30 #[.bool true, .bool false, .slice ra (l.length - st.used) rc, .bool st.garb] ∧ Blk Y (w.heap.size + 1) 30 #[.bool false, .bool false, .slice none 0 0, .bool false] ∧ Blk Y (w.heap.size + 1 + 1) 35 #[.bool false, .slice none 0 0] ∧ Blk Y W.heap.size 35 #[.bool true, .slice xb (m0 + its.length) xd] ∧ (∀ x ∈ its0 ++ its, Own Y 0 5 1 x.a x.pay.length x.c (x.pay.map encB)) ∧ Own Y (W.heap.size + 1) 49 3 xb (m0 + its.length) xd (itCells (its0 ++ its)) ∧ Own Y V.heap.size 5 1 ra (l.length - st.used) rc ((l.drop st.used).map encB) ∧ RowKit.Below w.heap.size w Y)
        ⟨(kS.below be3 (by omega)).far (by simp; omega) _, (kR.below be3 (by omega)).far (by simp; omega) _, (kJ.below be3 (by omega)).far (by simp; omega) _, kI3.set 1 _, fun x hx => two _ _ _ _ _ _ _ _ (p3 x hx) (.inr (by decide)), two _ _ _ _ _ _ _ _ own3 (.inl (by omega)), two _ _ _ _ _ _ _ _ r3 (.inr (by decide)), (by repeat (first | (with_reducible refine Below.setCell ?_ ?_ _) | (with_reducible refine Below.alloc ?_ ?_ _) | (with_reducible refine Below.drew ?_) | (with_reducible refine below_drewN ?_ _) | (with_reducible exact Below.refl _ _) | (with_reducible refine Below.trans ?_ (Below.mono be3 ?_)) | (with_reducible refine Below.trans ?_ (Below.mono be ?_)) | (focus (simp; done)) | (focus (simp; omega)) | (focus omega) | (focus (have q0 := Below.size be3; (try simp at q0); have q1 := Below.size be; (try simp at q1); (try simp); omega))))⟩ ?_
      clear two p3 r3 own3 gr3 bl3 be3 kI3 i0 i1 fi li kS kR kJ kI p0 own0 own pays ownr be SZO
      rintro Y ⟨kS, kR, kJ, kI, p3, own3, ownr, be⟩
      obtain ⟨c0, c1, c2, c3⟩ := kS.four'
      obtain ⟨d0, d1, d2, d3⟩ := kR.four'
      have e0 := kJ.cell 0
      have e1 := kJ.cell 1
      have i0 := kI.cell 0
      have i1 := kI.cell 1
      have fR := kR.frozen
      have fJ := kJ.frozen
      have l1 := kS.lt
      have l2 := kR.lt
      have l3 := kJ.lt
      have l4 := kI.lt
      have SZO := SZ.out
      have n1 : w.heap.size + 1 ≠ W.heap.size := by omega
      have n2 : w.heap.size + 1 + 1 ≠ W.heap.size := by omega
      have n3 : W.heap.size ≠ w.heap.size + 1 := by omega
      have n4 : W.heap.size ≠ w.heap.size + 1 + 1 := by omega
      clear SZO
      go_region
      go_wp2
      refine bodyPost_ret (v := .tuple #[.agg #[.bool true, .bool false, .slice ra (l.length - st.used) rc, .bool st.garb], .agg #[.bool true, .slice xb (m0 + its.length) xd]]) (by simp [results, Try.results11, go_sem, d0, d1, d2, d3, e0, e1]) rfl ?_
      have SZO := SZ.out
      have hbs := be.size
      exact ⟨⟨true, false, l.drop st.used, st.garb⟩, ra, rc, l.length - st.used, its0 ++ its, xb, xd, m0 + its.length, Lib.hid (by simp only [Ses.nxt, Ses.tk, if_true, hst.out]), Lib.hid List.length_drop.symm, Lib.hid (by rw [List.length_append, hm0.out]), Lib.hid (by rw [List.map_append, hk0.out, hk]; simp only [Ses.inp, Ses.tk, if_true, hst.out]), rfl, (own_six kR kJ ownr (by decide) (by decide) _ _ _ _ _ _).mono (by omega), (own_six kR kJ own3 (by decide) (by decide) _ _ _ _ _ _).mono (by omega), fun x hx => own_six kR kJ (p3 x hx) (by decide) (by decide) _ _ _ _ _ _, (by repeat (first | (with_reducible refine Below.setCell ?_ ?_ _) | (with_reducible refine Below.alloc ?_ ?_ _) | (with_reducible refine Below.drew ?_) | (with_reducible refine below_drewN ?_ _) | (with_reducible exact Below.refl _ _) | (with_reducible refine Below.trans ?_ (Below.mono be ?_)) | (focus (simp; done)) | (focus (simp; omega)) | (focus omega) | (focus (have q0 := Below.size be; (try simp at q0); (try simp); omega))))⟩
end Go.Proofs.Ytlfccoakodnbaaa
