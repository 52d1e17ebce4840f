/- law 04: StreamPieces -/
import Derived.Test.YtjnajccobieamaaSlow
import Derived.Test.YtjnajccobieamaaPut
namespace Go.Proofs.Ytjnajccobieamaa
set_option linter.unusedVariables false
open Go.RowKit Go.Sort
set_option maxRecDepth 100000

/-! the plain law -/
theorem tRun_stuck {lim : Nat} {l : List UInt8} (hL : l.length < lim) : ∀ st : TS, TSok l st → (fParse (l.drop (tRun lim l st).used)).ok = false := by
  intro st
  induction st using (tRun.induct lim l) with
  | case1 st h ih => intro hk; rw [tRun_go h]; exact ih (tsok_step hk h.2)
  | case2 st h =>
    intro hk
    rw [tRun_stop h]
    cases ho : (fParse (l.drop st.used)).ok
    · rfl
    · exact absurd ⟨by have := hk.1; have := hk.2; omega, ho⟩ h
theorem tRun_lim {L1 L2 : Nat} {l : List UInt8} (h1 : l.length < L1) (h2 : l.length < L2) {st : TS} (hk : TSok l st) : tRun L1 l st = tRun L2 l st := by
  have q := (tRun_through L1 L2 l h1 st hk).2
  rw [q]
  have := tRun_stuck h2 st hk
  exact tRun_stop (fun g => by have := g.2; rw [‹(fParse _).ok = false›] at this; cases this)
/-- what was read of the beginning is read of the whole -/
theorem tRun_more {L : Nat} {l : List UInt8} (m : List UInt8) (hL : (l ++ m).length < L) : ∀ st : TS, TSok l st → tRun L (l ++ m) st = tRun L (l ++ m) (tRun L l st) := by
  intro st
  induction st using (tRun.induct L l) with
  | case1 st h ih =>
    intro hk
    have e : (l ++ m).drop st.used = l.drop st.used ++ m := by rw [List.drop_append_of_le_length hk.2]
    have hp : fParse ((l ++ m).drop st.used) = fParse (l.drop st.used) := by rw [e]; exact fParse_append m h.2
    rw [tRun_go h, tRun_go (l := l ++ m) (st := st) ⟨h.1, by rw [hp]; exact h.2⟩, hp]
    exact ih (tsok_step hk h.2)
  | case2 st h => intro hk; rw [tRun_stop h]
structure PieceAt (ll : List UInt8) (C U : Nat) (G : Bool) (ks : List Key) (sb : List UInt8) : Prop where
  run : tRun (ll.length + 1) (ll.take C) ⟨0, false, []⟩ = ⟨U, G, ks⟩
  buf : sb = (ll.take C).drop U
  le : C ≤ ll.length
section
variable {ll : List UInt8} {C U : Nat} {G : Bool} {ks : List Key} {sb : List UInt8}
theorem PieceAt.start (ll : List UInt8) : PieceAt ll 0 0 false [] [] := ⟨by rw [tRun_stop (fun h => by have := h.2; simp only [List.take_zero, List.drop_nil] at this; rw [fp_more0 rfl] at this; cases this)], by simp, by omega⟩
theorem PieceAt.ok (h : PieceAt ll C U G ks sb) : TSok (ll.take C) ⟨U, G, ks⟩ := by
  have := (tRun_through (ll.length + 1) (ll.length + 1) (ll.take C) (by rw [List.length_take]; omega) ⟨0, false, []⟩ ⟨by simp, by simp⟩).1
  rwa [h.run] at this
theorem PieceAt.stuck (h : PieceAt ll C U G ks sb) : (fParse sb).ok = false := by
  have := tRun_stuck (lim := ll.length + 1) (l := ll.take C) (by rw [List.length_take]; omega) ⟨0, false, []⟩ ⟨by simp, by simp⟩
  rw [h.run] at this
  rw [h.buf]
  exact this
theorem PieceAt.short (h : PieceAt ll C U G ks sb) : sb.length < 210 := by
  by_cases q : 210 ≤ sb.length
  · have := fParse_long q; rw [h.stuck] at this; cases this
  · omega
theorem PieceAt.bd (h : PieceAt ll C U G ks sb) : ks.length ≤ U ∧ U ≤ C := by
  have := h.ok
  have h1 := this.1
  have h2 := this.2
  simp only at h1 h2
  rw [List.length_take] at h2
  omega
theorem PieceAt.next (h : PieceAt ll C U G ks sb) {n : Nat} (hn : C + n ≤ ll.length) {t : List UInt8} (ht : t = (ll.drop C).take n) {lim : Nat} (hl : (sb ++ t).length < lim) {st : TS} (hst : tRun lim (sb ++ t) ⟨0, G, []⟩ = st) : PieceAt ll (C + n) (U + st.used) st.garb (ks ++ st.keys) ((sb ++ t).drop st.used) := by
  have hpre : ll.take (C + n) = ll.take C ++ t := by rw [ht, List.take_add]
  have hU : U ≤ (ll.take C).length := h.ok.2
  have hdrop : (ll.take (C + n)).drop U = sb ++ t := by rw [hpre, List.drop_append_of_le_length hU, h.buf]
  have hlen : (ll.take (C + n)).length < ll.length + 1 := by rw [List.length_take]; omega
  have hkl := h.bd
  refine ⟨?_, by rw [← hdrop, List.drop_drop], hn⟩
  have q1 := tRun_more (L := ll.length + 1) (l := ll.take C) t (by rw [← hpre]; exact hlen) ⟨0, false, []⟩ ⟨by simp, by simp⟩
  rw [h.run, ← hpre] at q1
  rw [q1]
  have hs := tRun_shift (ll.length + 1 - ks.length) (ll.take (C + n)) U ks ⟨0, G, []⟩
  rw [hdrop, show ks.length + (ll.length + 1 - ks.length) = ll.length + 1 by omega] at hs
  have e0 : TS.shift U ks ⟨0, G, []⟩ = ⟨U, G, ks⟩ := by simp [TS.shift]
  rw [e0] at hs
  rw [hs, tRun_lim (L1 := ll.length + 1 - ks.length) (L2 := lim) ?_ hl ⟨by simp, by simp⟩, hst]
  · rfl
  · have : (sb ++ t).length = (ll.take (C + n)).length - U := by rw [← hdrop, List.length_drop]
    rw [this, List.length_take]
    omega
theorem PieceAt.done (h : PieceAt ll C U G ks sb) (hC : C = ll.length) : allK ll = ks := by
  unfold allK
  have := h.run
  rw [hC, List.take_of_length_le (Nat.le_refl _)] at this
  rw [this]
end
/-- append of ints, an operation of the walk -/
theorem appI {ops : Array Oper} {rest : List Oper} {o : Oper} {a : Act} {Q : Exit → Act → World → Prop} {w : World} (hgd : o.guard = none) (s x : Operand) (ho : o.op = .call { callee := .builtin .append, args := #[s, x], argTypes := #[22, 22] })
    (base : Nat) (b : Option Addr) (n cap : Nat) (l : List Int) (hs : a.eval s = .slice b n cap) (A : Option Addr) (m c : Nat) (k : List Int) (hx : a.eval x = .slice A m c)
    (own : Own w base 3 1 b n cap (l.map encI)) (hr : Ints w A k) (hm : m = k.length) (N : Nat) (hN : N = n + m) (hbig : N ≤ 100000000000) (hbase : base ≤ w.heap.size)
    (h : ∀ b' cap' w', Own w' base 3 1 b' N cap' ((l ++ k).map encI) → Grew base w w' b b' → (∀ W, Below base W w → Below base W w') → wpList Try.prog ops Q rest (a.put o.dst (.slice b' N cap')) w') :
    wpList Try.prog ops Q (o :: rest) a w := by
  obtain ⟨i0, hi, hz0, hz1, hz2⟩ := info_parts info_int
  refine wp_append_row _ hgd s x _ ho base _ i0 _ 1 8 Try.underlying22 hi hz0 hz1 hz2 rfl (by decide) b n cap _ hs A m c hx own (k.map encI) (by simp [hm]) hr (mapI_one _) (by simp only [maxLen]; omega) (by omega) hbase ?_
  intro b' cap' w' own' g
  rw [← hN] at own' ⊢
  rw [← List.map_append] at own'
  exact h b' cap' w' own' g (Grew.step own g)

/-- the state of the rounds, with the bytes and the cuts -/
structure PM (w W : World) (J B4 c4 : Nat) (la : Option Addr) (ll : List UInt8) (cl : List Int) (G : Bool) (sb : List UInt8) (sa : Option Addr) (sc : Nat) (its : List It) (xa : Option Addr) (xc : Nat) : Prop where
  sm : SlowM w W J G sb sa sc its xa xc
  bb : Byt W la ll
  oc : Own W (J + 1) 3 1 (some ⟨B4, 0, none⟩) cl.length c4 (cl.map encI)
theorem PM.below {w W W' : World} {J B4 c4 : Nat} {la : Option Addr} {ll : List UInt8} {cl : List Int} {G : Bool} {sb : List UInt8} {sa : Option Addr} {sc : Nat} {its : List It} {xa : Option Addr} {xc : Nat} (h : PM w W J B4 c4 la ll cl G sb sa sc its xa xc) (hb : RowKit.Below W.heap.size W W') : PM w W' J B4 c4 la ll cl G sb sa sc its xa xc :=
  ⟨h.sm.below hb, h.bb.below hb (Nat.le_refl _), h.oc.below hb (Nat.le_refl _)⟩
theorem stream_PutE (a : Option Addr) (s : List UInt8) (c : Nat) (g : Bool) (ba : Option Addr) (b : List UInt8) (n bc : Nat) (w : World) (hs : Byt w a s) (hb : Byt w ba b) (hn : n = b.length) (h256 : s.length + n ≤ 256) (hcb : n ≤ bc) (L : Nat) (hL : s.length + n = L) :
    Calls Try.prog 26 #[.agg #[.slice a s.length c, .bool g], .slice ba n bc] w fun e w' => ∃ pa pc, e = .returned (.tuple #[.agg #[.slice pa L pc, .bool g], .bool true]) ∧ Own w' w.heap.size 5 1 pa L pc ((s ++ b).map encB) ∧ Below w.heap.size w w' := by
  subst hn hL
  refine (stream_Put a s c g ba b bc w hs hb (by omega) hcb (by omega)).mono fun e w' h => ?_
  obtain ⟨pa, pc, n, ok, rfl, hn, hok, own, hbl⟩ := h
  have e1 : putL s b = s ++ b := by unfold putL; rw [List.take_of_length_le (by omega)]
  rw [e1] at hn own
  rw [List.length_append] at hn
  subst hn
  rw [hok, decide_eq_true h256]
  exact ⟨pa, pc, rfl, own, hbl⟩
theorem stream_Take1000 (a : Option Addr) (l : List UInt8) (n c : Nat) (g0 : Bool) (w : World) (hb : Byt w a l) (hn : n = l.length) (hcap : n ≤ c) (hl : n ≤ 1000000000) (hnil : a = none → n = 0 ∧ c = 0) :
    Calls Try.prog 19 #[.agg #[.slice a n c, .bool g0], .int .i64 1000] w fun e w' => ∃ (st : TS) (its : List It) (xa : Option Addr) (xc : Nat) (ra : Option Addr) (rc : Nat) (M : Nat), Hid (tRun 1000 l ⟨0, g0, []⟩ = st) ∧ Hid (n - st.used = M) ∧ e = .returned (.tuple #[.agg #[.slice ra M rc, .bool st.garb], .slice xa its.length xc]) ∧ Hid (its.map It.key = st.keys) ∧
      Own w' w.heap.size 31 3 xa its.length xc (itCells its) ∧ (∀ x ∈ its, Own w' 0 5 1 x.a x.pay.length x.c (x.pay.map encB)) ∧ Own w' w.heap.size 5 1 ra M rc ((l.drop st.used).map encB) ∧ Below w.heap.size w w' := by
  subst hn
  refine (stream_Take a l l.length c g0 1000 w hb rfl hcap hl hnil).mono fun e w' h => ?_
  obtain ⟨st, its, xa, xc, ra, rc, hst, he, hk, own, pays, ownr, hbl⟩ := h
  exact ⟨st, its, xa, xc, ra, rc, _, hst, Lib.hid rfl, he, Lib.hid hk, own, pays, ownr, hbl⟩

set_option maxHeartbeats 4000000 in
theorem streamPieces_walk (a1 : Option Addr) (c1 : Nat) (l1 : List Int) (a2 : Option Addr) (c2 : Nat) (l2 : List Int) (w : World) (h1 : Ints w a1 l1) (n1 : l1.length ≤ 9223372036854775807) (h2 : Ints w a2 l2) (n2 : l2.length ≤ 9223372036854775807) :
    Calls Try.prog 8 #[.slice a1 l1.length c1, .slice a2 l2.length c2] w fun e w' => e = .returned (.bool true) ∧ Below w.heap.size w w' := by
  by_cases hs : l2.length ≤ 60
  case neg =>
    have hs' : decide (60 < l2.length) = true := decide_eq_true (by omega)
    have hs2 : (60 : Int) < (l2.length : Int) := by omega
    clear hs
    go_enter Try.func8, Try.ntmps8
    go_wp2_with ((go_at_call 16; (with_reducible refine (awake_yes _).mono ?_); rintro e w20 ⟨rfl, hb20⟩))
    go_ret
    exact ⟨rfl, (by repeat (first | (with_reducible refine Below.setCell ?_ ?_ _) | (with_reducible refine Below.alloc ?_ ?_ _) | (with_reducible refine Below.drew ?_) | (with_reducible refine below_drewN ?_ _) | (with_reducible exact Below.refl _ _) | (with_reducible refine Below.trans ?_ (Below.mono hb20 ?_)) | (focus (simp; done)) | (focus (simp; omega)) | (focus omega) | (focus (have q0 := Below.size hb20; (try simp at q0); (try simp); omega))))⟩
  have hs' : decide (60 < l2.length) = false := decide_eq_false (by omega)
  have hs2 : ¬ (60 : Int) < (l2.length : Int) := by omega
  go_enter Try.func8, Try.ntmps8
  go_upto_region 8 with (first | (go_at_call 9; (with_reducible refine (mk_New a1 c1 l1 _ h1 n1).mono ?_); rintro e w1 ⟨rfl, hd1, hb1⟩) | (go_at_call 17; (with_reducible refine (law_line _ 20 _ _ _ 20 rfl (by omega) (by omega) hd1).mono ?_); rintro e w2 ⟨ll, k2, la, lc, rfl, hll, own2, hd2, g2⟩; (have be2 : RowKit.Below w.heap.size w w2 := hb1.grown g2 (by have := hb1.size; omega) (fun k hk => by injection hk with hk; omega))) | (at_builtin; refine appI rfl _ _ rfl (w2.heap.size + 1) none 0 0 [] rfl a2 _ c2 l2 rfl (Own.nil _ _ _ _) ((h2.below be2 (Nat.le_refl _)).alloc _) rfl l2.length (by omega) (by omega) (by simp) ?_; intro b3 c3 w3 own3 gr3 bl3; (have hb3 := bl3 _ (show RowKit.Below (w2.heap.size + 1) (w2.alloc (.cells #[.slice none 0 0, .bool false] 43)) _ from RowKit.Below.refl _ _))) | (at_builtin; refine appI rfl _ _ rfl (w2.heap.size + 1) b3 l2.length c3 ([] ++ l2) rfl _ 1 1 [(ll.length : Int)] rfl (own3.alloc _) ?_ rfl (l2.length + 1) rfl (by omega) (by have := hb3.size; simp at this ⊢; omega) ?_; (focus (have := row_new w3 #[.int .i64 (ll.length : Int)] 3 (0, 0); exact this)); intro b4 c4 w4 own4 gr4 bl4; (have hb4 := bl4 _ (show RowKit.Below (w2.heap.size + 1) (w2.alloc (.cells #[.slice none 0 0, .bool false] 43)) _ from hb3.alloc (by have := hb3.size; simp at this; omega) _))))
  have hll' : ll.length ≤ 600 := by omega
  have cp2 := own2.cap_le
  have HN0 := Lib.hid (show la = none → ll.length = 0 ∧ lc = 0 from fun h => own2.none_len h)
  have HLA := Lib.hid (show ∀ q, la.map (·.block) = some q → q < w2.heap.size from fun q hq => own2.lt' q hq)
  obtain ⟨J, hJ⟩ : ∃ J, J = w2.heap.size := ⟨_, rfl⟩
  have hwJ : w.heap.size ≤ J := by have := be2.size; omega
  obtain ⟨cl, hcl⟩ : ∃ cl, l2 ++ [(ll.length : Int)] = cl := ⟨_, rfl⟩
  have hcn : cl.length = l2.length + 1 := by rw [← hcl]; simp
  have hlast : cl[l2.length]? = some (ll.length : Int) := by rw [← hcl]; simp
  refine wp_named (fun W => SlowM w W J false [] none 0 [] none 0 ∧ Byt W la ll ∧ Own W (J + 1) 3 1 b4 (l2.length + 1) c4 (cl.map encI) ∧ J + 1 ≤ W.heap.size) ⟨⟨?_, Byt.nil _ _, by simp, fun _ => ⟨rfl, rfl⟩, ⟨Own.nil _ _ _ _, by simp, (by repeat (first | (with_reducible refine Below.setCell ?_ ?_ _) | (with_reducible refine Below.alloc ?_ ?_ _) | (with_reducible refine Below.drew ?_) | (with_reducible refine below_drewN ?_ _) | (with_reducible exact Below.refl _ _) | (with_reducible refine Below.trans ?_ (Below.mono hb4 ?_)) | (with_reducible refine Below.trans ?_ (Below.mono be2 ?_)) | (focus (simp; done)) | (focus (simp; omega)) | (focus omega) | (focus (have q0 := Below.size hb4; (try simp at q0); have q1 := Below.size be2; (try simp at q1); (try simp); omega)))), by have := hb4.size; simp at this; omega⟩, hwJ⟩, ?_, by rw [← hcl, hJ]; simpa using own4, by have := hb4.size; simp at this; omega⟩ ?_
  · rw [hJ]; exact (Blk.new w2 _ _).below hb4 (by simp)
  · exact (own2.byt.alloc _).below hb4 (by simp)
  rintro W ⟨sm0, hby0, ownc, lJ⟩
  rw [← hJ] at HLA ⊢
  clear own2 hd2 hd1 hb1 g2 be2 h1 h2 hJ own3 gr3 bl3 hb3 own4 gr4 bl4 hb4 hcl
  have HLAST := Lib.hid hlast
  clear hlast
  rw [← hcn] at ownc
  obtain ⟨B4, rfl, hB4, lB4⟩ := ownc.open_ (by omega)
  have pm0 : PM w W J B4 c4 la ll cl false [] none 0 [] none 0 := ⟨sm0, hby0, ownc⟩
  have hlc : ((l2.length : Int) + 1) = (cl.length : Int) := by omega
  have hnc : l2.length + 1 = cl.length := by omega
  rw [hlc, hnc]
  have hcl61 : cl.length ≤ 61 := by omega
  have HCN := Lib.hid hcn
  clear sm0 hby0 ownc hlc hnc hcn
  go_loopw [32, 7, 8] (fun s32 s7 s8 wr => ∃ (k : Nat) (its : List It) (xa : Option Addr) (xc : Nat) (sb : List UInt8) (sa : Option Addr) (sc : Nat) (G : Bool) (ks : List Key) (U C : Nat) (r : List UInt8) (ra : Option Addr) (rc : Nat), s32 = .int .i64 k ∧ k ≤ cl.length ∧ s7 = .slice xa its.length xc ∧ s8 = .slice ra r.length rc ∧ PM w wr J B4 c4 la ll cl G sb sa sc its xa xc ∧ r = ll.drop C ∧ (∀ w0 : World, Byt w0 la ll → Byt w0 ra r) ∧ r.length ≤ rc ∧ (ra = none → r.length = 0 ∧ rc = 0) ∧ its.map It.key = ks ∧ PieceAt ll C U G ks sb ∧ (k = cl.length → r = [])) (fun s32 _ _ _ => cl.length - (intOf s32).toNat)
  case atStart => exact ⟨0, [], none, 0, [], none, 0, false, [], 0, 0, ll, la, lc, rfl, by omega, rfl, rfl, pm0, rfl, fun _ h => h, cp2, HN0.out, rfl, PieceAt.start _, fun h => by have := HCN.out; omega⟩
  case round =>
    obtain ⟨k, its, xa, xc, sb, sa, sc, G, ks, U, C, r, ra, rc, rfl, hk, rfl, rfl, pm, hr, hsub, hrc, hrn, hkeys, hpa, hend⟩ := hrel
    have HR := Lib.hid hr
    have HSUB := Lib.hid hsub
    have HK := Lib.hid hkeys
    have HPA := Lib.hid hpa
    have HEND := Lib.hid hend
    clear pm0 hr hsub hkeys hpa hend
    by_cases hlt : k < cl.length
    · have hi : (k : Int) < (cl.length : Int) := by omega
      obtain ⟨cv, hcv⟩ : ∃ cv, cl[k] = cv := ⟨_, rfl⟩
      have hcr : wr.cell? ⟨B4, k, none⟩ = some (.int .i64 cv) := by
        have := pm.oc.cell k (by rw [List.length_map]; exact hlt)
        simpa [encI, hcv] using this
      have lBr : B4 < wr.heap.size := pm.oc.lt' B4 rfl
      obtain ⟨cb, hcb⟩ : ∃ cb, (cv == (ll.length : Int)) = cb := ⟨_, rfl⟩
      have HCB : Hid (k + 1 = cl.length → cb = true) := Lib.hid fun h => by
        have := HLAST.out
        rw [show l2.length = k by have := HCN.out; omega, List.getElem?_eq_getElem hlt, hcv] at this
        injection this with this
        rw [← hcb, this]
        simp
      obtain ⟨m, Em, m0, m1⟩ := modName cv 40 (by omega)
      obtain ⟨M, rfl⟩ := Int.eq_ofNat_of_zero_le m0
      obtain ⟨N, hN⟩ : ∃ N : Nat, (if M < r.length then (M : Int) else (r.length : Int)) = (N : Int) := ⟨min M r.length, by split <;> omega⟩
      have hN39 : N ≤ 39 := by split at hN <;> omega
      have HCV := Lib.hid hcv
      clear hcv m0
      go_upto_region 12 with ((go_at_call 18; (with_reducible refine (mk_ModE Em.out _ (by omega) (by omega)).mono ?_); rintro e w' ⟨rfl, rfl⟩))
      go_loopw [7, 8, 11, 12] (fun s7 s8 s11 s12 wi => ∃ (i n : Nat) (its : List It) (xa : Option Addr) (xc : Nat) (sb : List UInt8) (sa : Option Addr) (sc : Nat) (G : Bool) (ks : List Key) (U C : Nat) (r : List UInt8) (ra : Option Addr) (rc : Nat), s7 = .slice xa its.length xc ∧ s8 = .slice ra r.length rc ∧ s11 = .int .i64 n ∧ s12 = .int .i64 i ∧ n ≤ 39 ∧ i + r.length ≤ 601 ∧ PM w wi J B4 c4 la ll cl G sb sa sc its xa xc ∧ r = ll.drop C ∧ (∀ w0 : World, Byt w0 la ll → Byt w0 ra r) ∧ r.length ≤ rc ∧ (ra = none → r.length = 0 ∧ rc = 0) ∧ its.map It.key = ks ∧ PieceAt ll C U G ks sb) (fun _ s8 _ s12 _ => sliceLen s8 * 2 + (1 - (intOf s12).toNat))
      case atStart => exact ⟨0, N, its, xa, xc, sb, sa, sc, G, ks, U, C, r, ra, rc, rfl, rfl, rfl, rfl, hN39, by have := congrArg List.length HR.out; rw [List.length_drop] at this; omega, pm, HR.out, HSUB.out, hrc, hrn, HK.out, HPA.out⟩
      case round =>
        clear hN hN39 pm hrc hrn HR HSUB HK HPA HEND hcr lBr Em m1
        obtain ⟨i, n, its, xa, xc, sb, sa, sc, G, ks, U, C, r, ra, rc, rfl, rfl, rfl, rfl, hn39, hir, pm, hr, hsub, hrc, hrn, hkeys, hpa⟩ := hrel
        have HR := Lib.hid hr
        have HSUB := Lib.hid hsub
        have HK := Lib.hid hkeys
        have HPA := Lib.hid hpa
        clear hr hsub hkeys hpa
        obtain ⟨t, ht⟩ : ∃ t, (decide (0 < r.length) && ((i == 0) || cb)) = t := ⟨_, rfl⟩
        have HT := Lib.hid ht
        clear ht
        go_upto_region 12 with fail
        go_cut [53] from 41 to 53 (fun s53 wx => s53 = .bool t ∧ wr = wx)
        case first =>
          by_cases q0 : 0 < r.length
          · have d0 : decide (0 < r.length) = true := decide_eq_true q0
            by_cases qi : i = 0
            · subst qi
              go_wp2_with fail
              go_meet
              exact ⟨by rw [← HT.out, d0]; rfl, rfl⟩
            · have di : (i == 0) = false := by simpa using qi
              have di2 : ((i : Int) == 0) = false := by simp; omega
              cases cb
              all_goals
                go_wp2_with fail
                go_meet
                exact ⟨by rw [← HT.out, d0, di]; rfl, rfl⟩
          · have d0 : decide (0 < r.length) = false := decide_eq_false q0
            go_wp2_with fail
            go_meet
            exact ⟨by rw [← HT.out, d0]; rfl, rfl⟩
        case rest =>
          obtain ⟨rfl, rfl⟩ := hcut
          cases t with
          | false =>
            go_wp2_with fail
            go_roundw
            case rel => exact ⟨k + 1, its, xa, xc, sb, sa, sc, G, ks, U, C, r, ra, rc, by go_num, by omega, rfl, rfl, pm, HR.out, HSUB.out, hrc, hrn, HK.out, HPA.out, fun h => by
              have hb := HCB.out h
              have ht := HT.out
              rw [hb, Bool.or_true, Bool.and_true] at ht
              have := of_decide_eq_false ht
              exact List.eq_nil_of_length_eq_zero (by omega)⟩
            case measure => simp [intOf]; omega
          | true =>
            have hr0 : 0 < r.length := by
              have ht := HT.out
              rw [Bool.and_eq_true] at ht
              exact of_decide_eq_true ht.1
            have HIB : Hid (i = 0 ∨ cb = true) := Lib.hid (by
              have ht := HT.out
              rw [Bool.and_eq_true, Bool.or_eq_true] at ht
              rcases ht.2 with h | h
              · left; simpa using h
              · exact .inr h)
            obtain ⟨N2, hN2⟩ : ∃ N2 : Nat, (if r.length < n then (r.length : Int) else (n : Int)) = (N2 : Int) := ⟨min n r.length, by split <;> omega⟩
            have b2 : N2 ≤ r.length ∧ N2 ≤ 39 := by split at hN2 <;> omega
            obtain ⟨N3, hN3⟩ : ∃ N3 : Nat, (if (30 : Int) < (r.length : Int) then (30 : Int) else (r.length : Int)) = (N3 : Int) := ⟨min 30 r.length, by split <;> omega⟩
            have b3 : N3 ≤ r.length ∧ N3 ≤ 39 ∧ 1 ≤ N3 := by split at hN3 <;> omega
            obtain ⟨F, hF⟩ : ∃ F, (if cb = true then N3 else N2) = F := ⟨_, rfl⟩
            have bF : F ≤ r.length ∧ F ≤ 39 := by rw [← hF]; split <;> omega
            have hFi : i = 0 ∨ 1 ≤ F := by
              rcases HIB.out with h | h
              · exact .inl h
              · right; rw [← hF, if_pos h]; omega
            have HF := Lib.hid hF
            clear hF
            go_upto_if 63 with fail
            go_cut [11] from 60 to 66 (fun s11 wx => s11 = .int .i64 F ∧ wr = wx)
            case first =>
              cases cb
              all_goals
                go_wp2_with fail
                go_meet
                exact ⟨by rw [← HF.out]; rfl, rfl⟩
            case rest =>
              obtain ⟨rfl, rfl⟩ := hcut
              clear hN2 hN3 b2 b3
              go_upto_region 17 with fail
              have u0 := pm.sm.blk.cell 0
              have u1 := pm.sm.blk.cell 1
              have ul := pm.sm.blk.lt
              have hFc : (F : Int) ≤ (rc : Int) := by omega
              have hrl : r.length ≤ 600 := by have := congrArg List.length HR.out; rw [List.length_drop] at this; omega
              have hsl210 := HPA.out.short
              have HBT := Lib.hid (show ∀ W, RowKit.Below wr.heap.size wr W → Byt W ra (r.take F) from fun W h => ((HSUB.out _ pm.bb).below h (Nat.le_refl _)).take F)
              obtain ⟨L, hL⟩ : ∃ L, sb.length + F = L := ⟨_, rfl⟩
              have hL249 : L ≤ 249 := by omega
              have HL := Lib.hid hL
              clear hL
              apply wp_region_tab [] 11 101 [some 68, some 69, some 70, some 71, some 72, some 67, some 73, some 74, some 13, none, some 14] [⟨[], [], [], []⟩, ⟨[], [], [], []⟩, ⟨[], [], [], []⟩, ⟨[1, 2], [1, 2], [1, 2], []⟩, ⟨[0, 1, 2, 3], [0, 3], [0, 3], []⟩, ⟨[0, 1, 2, 3, 4], [4], [4], []⟩, ⟨[0, 1, 2, 3, 4, 5], [4, 5], [4, 5], []⟩, ⟨[0, 1, 2, 3, 4, 5], [4, 5], [4, 5], []⟩, ⟨[], [], [], []⟩, ⟨[0, 1, 2, 3, 4, 5, 6, 8], [4, 6, 8], [4, 6, 8], [8]⟩, ⟨[0, 1, 2, 3, 4, 5, 6, 7, 8, 9], [7], [7], []⟩] [0, 1, 2, 3, 4, 5, 6, 7, 8, 9, 10] [4, 9, 10] [psiTrue, psiTrue, psiTrue, psiTrue, (fun f lo hi v b0 b1 W => ∃ (pa : Option Addr) (pc : Nat), v = .tuple #[.agg #[.slice pa L pc, .bool G], .bool true] ∧ Own W wr.heap.size 5 1 pa L pc ((sb ++ r.take F).map encB) ∧ ∀ k, pa.map (·.block) = some k → b0 ≤ k ∧ k < b1), (fun f _ _ v _ _ _ => v = f 4), (fun f lo hi v b0 b1 W => ∃ (pa : Option Addr) (pc : Nat), f 4 = .tuple #[.agg #[.slice pa L pc, .bool G], .bool true] ∧ v = .agg #[.slice pa L pc, .bool G]), psiTrue, (fun f lo hi v b0 b1 W => ∃ b u0 u1, v = .pointer (some ⟨b, 0, none⟩) ∧ b0 ≤ b ∧ b < b1 ∧ Blk W b 43 #[u0, u1]), (fun f lo hi v b0 b1 W => ∃ (b : Nat) (pa : Option Addr) (pc : Nat), f 8 = .pointer (some ⟨b, 0, none⟩) ∧ lo (8) ≤ b ∧ b < hi (8) ∧ f 4 = .tuple #[.agg #[.slice pa L pc, .bool G], .bool true] ∧ Blk W b 43 #[.slice pa L pc, .bool G]), psiTrue] [kVal _, kVal _, kVal _, kVal _, kTrue, kTrue, kTrue, kVal _, kTrue, kTrue, kVal _]
              · kernel_rfl
              · kernel_rfl
              · rfl
              · rfl
              · exact trivial
              · exact trivial
              refine ⟨?oR1_0, ?oR1_1, ?oR1_2, ?oR1_3, ?oR1_4, ?oR1_5, ?oR1_6, ?oR1_7, ?oR1_8, ?oR1_9, ?oR1_10, trivial⟩
              case oR1_0 =>
                intro f lo hi w hb hx hf hk hrg R hR; (try replace hb := BelX.zero hb); (try simp (decide := true) only [go_sem] at hf); (try simp (decide := true) only [go_sem] at hk)
                have kk := pm.sm.blk.below hb pm.sm.blk.lt
                have e0 := kk.cell 0
                have e1 := kk.cell 1
                go_simp
                exact hR _ _ (rpost_val rfl rfl (Below.refl _ _) rfl)
              case oR1_1 => intro f lo hi w hb hx hf hk hrg R hR; (try replace hb := BelX.zero hb); (try simp (decide := true) only [go_sem] at hf); (try simp (decide := true) only [go_sem] at hk); go_simp; exact hR _ _ (rpost_val rfl rfl (Below.refl _ _) rfl)
              case oR1_2 => intro f lo hi w hb hx hf hk hrg R hR; (try replace hb := BelX.zero hb); (try simp (decide := true) only [go_sem] at hf); (try simp (decide := true) only [go_sem] at hk); go_simp; exact hR _ _ (rpost_val rfl rfl (Below.refl _ _) rfl)
              case oR1_3 => intro f lo hi w hb hx hf hk hrg R hR; (try replace hb := BelX.zero hb); (try simp (decide := true) only [go_sem] at hf); (try simp (decide := true) only [go_sem] at hk); go_simp; exact hR _ _ (rpost_val rfl rfl (Below.refl _ _) rfl)
              case oR1_4 =>
                intro f lo hi w hb hx hf hk hrg R hR; (try replace hb := BelX.zero hb); (try simp (decide := true) only [go_sem] at hf); (try simp (decide := true) only [go_sem] at hk)
                go_simp
                (with_reducible refine (stream_PutE sa sb sc G ra (r.take F) F rc _ (pm.sm.rest.below hb (Nat.le_refl _)) (HBT.out _ hb) (by rw [List.length_take]; omega) (by omega) (by omega) L HL.out).mono ?_)
                rintro e w' ⟨pa, pc, rfl, own5, hb5⟩
                refine ⟨_, rfl, hR _ _ (rpost_none rfl hb5 ?_)⟩
                (try simp (decide := true) only [go_sem])
                exact ⟨pa, pc, rfl, own5.mono hb.size, fun k hk => ⟨own5.base_le k hk, own5.lt' k hk⟩⟩
              case oR1_5 => intro f lo hi w hb hx hf hk hrg R hR; (try replace hb := BelX.zero hb); (try simp (decide := true) only [go_sem] at hf); (try simp (decide := true) only [go_sem] at hk); go_simp; exact hR _ _ (rpost_none rfl (Below.refl _ _) rfl)
              case oR1_6 =>
                intro f lo hi w hb hx hf hk hrg R hR; (try replace hb := BelX.zero hb); (try simp (decide := true) only [go_sem] at hf); (try simp (decide := true) only [go_sem] at hk)
                obtain ⟨⟨pa, pc, h72, -⟩, h67⟩ := hf
                rw [h72] at h67
                go_simp
                refine hR _ _ (rpost_none rfl (Below.refl _ _) ?_)
                (try simp (decide := true) only [go_sem])
                exact ⟨pa, pc, h72, rfl⟩
              case oR1_7 =>
                intro f lo hi w hb hx hf hk hrg R hR; (try replace hb := BelX.zero hb); (try simp (decide := true) only [go_sem] at hf); (try simp (decide := true) only [go_sem] at hk)
                obtain ⟨⟨pa, pc, h72, -⟩, h67⟩ := hf
                rw [h72] at h67
                go_simp
                exact hR _ _ (rpost_val rfl rfl (Below.refl _ _) rfl)
              case oR1_8 =>
                intro f lo hi w hb hx hf hk hrg R hR; (try replace hb := BelX.zero hb); (try simp (decide := true) only [go_sem] at hf); (try simp (decide := true) only [go_sem] at hk)
                go_simp
                refine hR _ _ (rpost_none rfl (by repeat (first | (with_reducible refine Below.setCell ?_ ?_ _) | (with_reducible refine Below.alloc ?_ ?_ _) | (with_reducible refine Below.drew ?_) | (with_reducible refine below_drewN ?_ _) | (with_reducible exact Below.refl _ _) | (focus (simp; done)) | (focus (simp; omega)) | (focus omega))) ?_)
                (try simp (decide := true) only [go_sem])
                exact ⟨_, _, _, rfl, Nat.le_refl _, by simp, Blk.new _ _ _⟩
              case oR1_9 =>
                intro f lo hi w hb hx hf hk hrg R hR; (try replace hb := BelX.zero hb); (try simp (decide := true) only [go_sem] at hf); (try simp (decide := true) only [go_sem] at hk)
                obtain ⟨-, ⟨pa, pc, h72, h73⟩, b, u0, u1, h13, h2, h3, kb⟩ := hf
                have c0 := kb.cell 0
                have c1 := kb.cell 1
                have kf := kb.frozen
                go_simp
                refine hR _ _ (rpost_some rfl rfl ((Touch.set w (List.mem_singleton.2 rfl) h2 h3 0 _).trans (Touch.set _ (List.mem_singleton.2 rfl) h2 h3 1 _)) ?_)
                (try simp (decide := true) only [go_sem])
                exact ⟨b, pa, pc, h13, h2, h3, h72, (kb.set 0 _).set 1 _⟩
              case oR1_10 => intro f lo hi w hb hx hf hk hrg R hR; (try replace hb := BelX.zero hb); (try simp (decide := true) only [go_sem] at hf); (try simp (decide := true) only [go_sem] at hk); go_simp; exact hR _ _ (rpost_val rfl rfl (Below.refl _ _) rfl)
              case hcl =>
                refine ⟨Closed.true _ _ _ _, Closed.true _ _ _ _, Closed.true _ _ _ _, Closed.true _ _ _ _, ?cR1_4, ?cR1_5, ?cR1_6, Closed.true _ _ _ _, ?cR1_8, ?cR1_9, Closed.true _ _ _ _, trivial⟩
                · exact fun f lo hi v b0 b1 w w' h hs hB hown hU hX => by
                    obtain ⟨a, c, h1, own, lt⟩ := h
                    exact ⟨a, c, h1, own.keep fun b hb hl _ => by have := lt b (by rw [hb]; rfl); exact hown b this.1 this.2, lt⟩
                all_goals first
                  | exact fun _ _ _ _ _ _ _ _ h _ _ _ _ _ => h
                  | exact fun f lo hi v b0 b1 w w' h hs hB hown hU hX => by
                      obtain ⟨b, u0, u1, rfl, h2, h3, h4⟩ := h
                      exact ⟨b, u0, u1, rfl, h2, h3, (hown b h2 h3).trans h4⟩
                  | exact fun f lo hi v b0 b1 w w' h hs hB hown hU hX => by
                      obtain ⟨b, pa, pc, h1, h2, h3, h4, h5⟩ := h
                      exact ⟨b, pa, pc, h1, h2, h3, h4, (hU 8 (by simp) b h2 h3).trans h5⟩
              intro f lo hi W7 hbr hx hf hk hrg; (try replace hbr := BelX.zero hbr); clear hx; (try simp (decide := true) only [go_sem] at hf); (try simp (decide := true) only [go_sem] at hk)
              obtain ⟨⟨pa, pc, h72, own7, -⟩, j, pa', pc', h13, hj0, hj1, h72', kj⟩ := hf
              obtain ⟨rfl, rfl⟩ : pa = pa' ∧ pc = pc' := by
                rw [h72] at h72'
                simpa using h72'
              have r8 := hrg.out 8 (by simp)
              have cp7 := own7.cap_le
              have nil7 : pa = none → L = 0 ∧ pc = 0 := fun h => own7.none_len h
              have pm7 := pm.below hbr
              have hwr7 := hbr.size
              have ulj : J < wr.heap.size := ul
              obtain ⟨T, hT⟩ : ∃ T, sb ++ r.take F = T := ⟨_, rfl⟩
              rw [hT] at own7
              have hTL : L = T.length := by rw [← hT, ← HL.out, List.length_append, List.length_take]; omega
              have HTT := Lib.hid hT
              have HTL := Lib.hid hTL
              have byt7 := own7.byt
              have v0 := kj.cell 0
              have v1 := kj.cell 1
              have vl := kj.lt
              have HXLT := Lib.hid pm.sm.il.own.lt'
              clear hrg h72' hj0 hj1 r8 u0 u1 hbr hT hTL pm HBT
              go_simp
              clear hk h72 h13
              go_upto_region 21 with ((go_at_call 19; (with_reducible refine (stream_Take1000 pa T L pc G _ byt7 HTL.out cp7 (by omega) nil7).mono ?_); rintro e w3 ⟨st, its2, ia, ic, sa2, sc2, M, hst, hM, rfl, hk2, own3, pays3, ownr3, hb3⟩; ((have pm3 := pm7.below hb3); (have hi2 := keys_bd hst hk2.out))))
              have cp3 := ownr3.cap_le
              have nil3 : sa2 = none → M = 0 ∧ sc2 = 0 := fun h => ownr3.none_len h
              have hil : its.length ≤ 600 := by
                have h1 := HPA.out.bd
                have h2 := HPA.out.le
                have := congrArg List.length HK.out
                rw [List.length_map] at this
                omega
              refine wp_named (fun W => PM w W J B4 c4 la ll cl G sb sa sc its xa xc ∧ Blk W w3.heap.size 43 #[.slice sa2 M sc2, .bool st.garb] ∧ Items W ia its2 ∧ (∀ x ∈ its2, Own W 0 5 1 x.a x.pay.length x.c (x.pay.map encB)) ∧ Own W 0 5 1 sa2 M sc2 ((T.drop st.used).map encB) ∧ (∀ q, ia.map (·.block) = some q → wr.heap.size ≤ q) ∧ wr.heap.size ≤ w3.heap.size) ⟨pm3.below (by repeat (first | (with_reducible refine Below.setCell ?_ ?_ _) | (with_reducible refine Below.alloc ?_ ?_ _) | (with_reducible refine Below.drew ?_) | (with_reducible refine below_drewN ?_ _) | (with_reducible exact Below.refl _ _) | (focus (simp; done)) | (focus (simp; omega)) | (focus omega))), Blk.new _ _ _, (items_of own3 pays3).alloc _, fun x hx => (pays3 x hx).alloc _, (ownr3.mono (Nat.zero_le _)).alloc _, fun q hq => Nat.le_trans hwr7 (own3.base_le q hq), by have := hb3.size; omega⟩ ?_
              rintro W5 ⟨pm5, kx, it5, py5, or5, nia, lw3⟩
              have hwrW : wr.heap.size ≤ W5.heap.size := by have := kx.lt; omega
              clear pm7 pm3 own3 pays3 ownr3 own7 byt7 kj v0 v1 vl hb3
              obtain ⟨gl, gh, x1, x2, x3, x4⟩ : ∃ gl gh, gl ≤ gh ∧ gh ≤ wr.heap.size ∧ ((gl = 0 ∧ gh = 0) ∨ J + 1 ≤ gl) ∧ ∀ k, xa.map (·.block) = some k ↔ gl ≤ k ∧ k < gh := by
                cases haa : xa with
                | none => exact ⟨0, 0, Nat.le_refl _, Nat.zero_le _, .inl ⟨rfl, rfl⟩, fun k => by simp⟩
                | some ad =>
                  have q1 := pm5.sm.il.own.base_le ad.block (by rw [haa]; rfl)
                  have q2 := HXLT.out ad.block (by rw [haa]; rfl)
                  exact ⟨ad.block, ad.block + 1, by omega, by omega, .inr q1, fun k => by simp; omega⟩
              have HX4 := Lib.hid x4
              have hxne : xa.map (·.block) ≠ some w3.heap.size := pm5.sm.il.own.ne_blk kx (by decide)
              have hkn : ¬ (gl ≤ w3.heap.size ∧ w3.heap.size < gh) := fun h => hxne ((HX4.out _).2 h)
              have ljl := pm5.sm.blk.lt
              have kxl := kx.lt
              obtain ⟨ra2, hra⟩ : ∃ ra2, (if rc = F then ra else Option.map (fun x => x.add F) ra) = ra2 := ⟨_, rfl⟩
              clear x4
              apply wp_region_tab [(gl, gh), (J, (J+1))] 10 101 [some 82, some 83, some 84, some 85, some 86, some 87, some 88, none, some 7, some 8] [⟨[10, 11], [], [], []⟩, ⟨[10, 11], [], [], []⟩, ⟨[10, 11], [], [], []⟩, ⟨[1, 2, 10, 11], [1, 2, 10], [1, 2, 10], [10]⟩, ⟨[10, 11], [], [], []⟩, ⟨[10, 11], [], [], []⟩, ⟨[4, 5, 10, 11], [4, 5], [4, 5], []⟩, ⟨[0, 1, 2, 3, 10, 11], [0, 11], [0, 11], [11]⟩, ⟨[0, 1, 2, 3, 7, 10, 11], [3], [3], []⟩, ⟨[0, 1, 2, 3, 4, 5, 6, 7, 8, 10, 11], [6], [6], []⟩, ⟨[], [], [], []⟩, ⟨[], [], [], []⟩] [0, 1, 2, 3, 4, 5, 6, 7, 8, 9] [3, 7, 8, 9] [psiTrue, psiTrue, psiTrue, (fun f lo hi v b0 b1 W => ∃ (a : Option Addr) (c : Nat), v = .slice a (its.length + its2.length) c ∧ Own W (J+1) 31 3 a (its.length + its2.length) c (itCells (its ++ its2)) ∧ ∀ k, a.map (·.block) = some k → (gl ≤ k ∧ k < gh) ∨ (b0 ≤ k ∧ k < b1)), psiTrue, psiTrue, psiTrue, (fun f lo hi v b0 b1 W => Blk W J 43 #[.slice sa2 M sc2, .bool st.garb]), (fun f _ _ v _ _ _ => v = f 3), psiTrue, (fun f lo hi v b0 b1 W => (b0 = gl ∧ b1 = gh) ∧ Own W (J+1) 31 3 xa its.length xc (itCells its)), (fun f lo hi v b0 b1 W => (b0 = J ∧ b1 = (J+1)) ∧ Blk W J 43 #[.slice sa sb.length sc, .bool G])] [kVal _, kVal _, kVal _, kTrue, kVal _, kVal _, kVal _, kTrue, kTrue, kVal _]
              · kernel_rfl
              · kernel_rfl
              · rfl
              · rfl
              rotate_left 2
              refine ⟨?oR2_0, ?oR2_1, ?oR2_2, ?oR2_3, ?oR2_4, ?oR2_5, ?oR2_6, ?oR2_7, ?oR2_8, ?oR2_9, trivial⟩
              case hx => exact ⟨⟨by omega, by omega⟩, by simp; omega, ⟨by omega, by omega⟩, by simp, trivial⟩
              case hX => exact ⟨fun _ _ _ _ => ⟨⟨rfl, rfl⟩, pm5.sm.il.own⟩, fun _ _ _ _ => ⟨⟨rfl, rfl⟩, pm5.sm.blk⟩, trivial⟩
              case oR2_0 =>
                intro f lo hi w hb hx hf hk hrg R hR; (try replace hb := BelX.zero hb); (try simp (decide := true) only [go_sem] at hf); (try simp (decide := true) only [go_sem] at hk)
                have kk := hb.blk kx (fun r hr => by simp at hr; rcases hr with rfl | rfl <;> simp only <;> omega)
                have e0 := kk.cell 0
                have e1 := kk.cell 1
                go_simp
                exact hR _ _ (rpost_val rfl rfl (Below.refl _ _) rfl)
              case oR2_1 => intro f lo hi w hb hx hf hk hrg R hR; (try replace hb := BelX.zero hb); (try simp (decide := true) only [go_sem] at hf); (try simp (decide := true) only [go_sem] at hk); go_simp; exact hR _ _ (rpost_val rfl rfl (Below.refl _ _) rfl)
              case oR2_2 => intro f lo hi w hb hx hf hk hrg R hR; (try replace hb := BelX.zero hb); (try simp (decide := true) only [go_sem] at hf); (try simp (decide := true) only [go_sem] at hk); go_simp; exact hR _ _ (rpost_val rfl rfl (Below.refl _ _) rfl)
              case oR2_3 =>
                intro f lo hi w hb hx hf hk hrg R hR; (try replace hb := BelX.zero hb); (try simp (decide := true) only [go_sem] at hf); (try simp (decide := true) only [go_sem] at hk)
                obtain ⟨-, own⟩ := hf
                have hsz : W5.heap.size ≤ w.heap.size := hb.2.2.2.1
                have hrow := hb.row it5.1 (fun x hx r hr => by have := nia x hx; simp at hr; rcases hr with rfl | rfl <;> simp only <;> omega)
                have h1 := hk.1
                have h2 := hk.2.1
                refine obl_appIts (J + 1) xa its.length xc its ?_ ia its2.length ic its2 ?_ own hrow rfl (its.length + its2.length) rfl (by omega) (by omega) ?_
                · go_simp
                · go_simp
                intro b2 c2 w2 own2 g2
                refine hR _ _ (rpost_some rfl rfl (Grew.touch g2 fun k hk' => ⟨10, by simp, ?_⟩) ?_)
                · obtain ⟨q1, q2⟩ : lo 10 = gl ∧ hi 10 = gh := XOk.get _ _ hx 0 _ rfl
                  have h4 := (HX4.out k).1 hk'
                  omega
                (try simp (decide := true) only [go_sem])
                refine ⟨_, _, rfl, own2, fun k hk' => ?_⟩
                rcases g2.2.1 with e | e
                · exact .inl ((HX4.out k).1 (e ▸ hk'))
                · rw [e] at hk'
                  exact .inr ⟨by injection hk' with hk'; omega, own2.lt' k (e ▸ hk')⟩
              case oR2_4 => intro f lo hi w hb hx hf hk hrg R hR; (try replace hb := BelX.zero hb); (try simp (decide := true) only [go_sem] at hf); (try simp (decide := true) only [go_sem] at hk); go_simp; exact hR _ _ (rpost_val rfl rfl (Below.refl _ _) rfl)
              case oR2_5 => intro f lo hi w hb hx hf hk hrg R hR; (try replace hb := BelX.zero hb); (try simp (decide := true) only [go_sem] at hf); (try simp (decide := true) only [go_sem] at hk); go_simp; exact hR _ _ (rpost_val rfl rfl (Below.refl _ _) rfl)
              case oR2_6 => intro f lo hi w hb hx hf hk hrg R hR; (try replace hb := BelX.zero hb); (try simp (decide := true) only [go_sem] at hf); (try simp (decide := true) only [go_sem] at hk); go_simp; exact hR _ _ (rpost_val rfl rfl (Below.refl _ _) rfl)
              case oR2_7 =>
                intro f lo hi w hb hx hf hk hrg R hR; (try replace hb := BelX.zero hb); (try simp (decide := true) only [go_sem] at hf); (try simp (decide := true) only [go_sem] at hk)
                obtain ⟨-, kb⟩ := hf
                have e0 := kb.cell 0
                have e1 := kb.cell 1
                have fz := kb.frozen
                have p1 : lo 11 = _ := (XOk.get _ _ hx 1 _ rfl).1
                have p2 : hi 11 = _ := (XOk.get _ _ hx 1 _ rfl).2
                go_simp
                refine hR _ _ (rpost_some rfl rfl ((Touch.set w (List.mem_singleton.2 rfl) (Nat.le_of_eq p1) (by rw [p2]; exact Nat.lt_succ_self _) 0 _).trans (Touch.set _ (List.mem_singleton.2 rfl) (Nat.le_of_eq p1) (by rw [p2]; exact Nat.lt_succ_self _) 1 _)) ?_)
                (try simp (decide := true) only [go_sem])
                exact (kb.set 0 _).set 1 _
              case oR2_8 => intro f lo hi w hb hx hf hk hrg R hR; (try replace hb := BelX.zero hb); (try simp (decide := true) only [go_sem] at hf); (try simp (decide := true) only [go_sem] at hk); go_simp; exact hR _ _ (rpost_none rfl (Below.refl _ _) rfl)
              case oR2_9 => intro f lo hi w hb hx hf hk hrg R hR; (try replace hb := BelX.zero hb); (try simp (decide := true) only [go_sem] at hf); (try simp (decide := true) only [go_sem] at hk); go_simp; exact hR _ _ (rpost_val rfl rfl (Below.refl _ _) rfl)
              case hcl =>
                refine ⟨Closed.true _ _ _ _, Closed.true _ _ _ _, Closed.true _ _ _ _, ?cR2_3, Closed.true _ _ _ _, Closed.true _ _ _ _, Closed.true _ _ _ _, ?cR2_7, ?cR2_8, Closed.true _ _ _ _, ?cR2_10, ?cR2_11, trivial⟩
                all_goals first
                  | exact fun f lo hi v b0 b1 w w' h hs hB hown hU hX => by
                      obtain ⟨a, c, h1, own, lt⟩ := h
                      exact ⟨a, c, h1, own.keep fun b hb hl _ => (lt b (by rw [hb]; rfl)).elim (fun h => hX 0 _ rfl (by simp) b h.1 h.2) (fun h => hown b h.1 h.2), lt⟩
                  | exact fun f lo hi v b0 b1 w w' h hs hB hown hU hX => (hX 1 _ rfl (by simp) _ (Nat.le_refl _) (Nat.lt_succ_self _)).trans h
                  | exact fun f lo hi v b0 b1 w w' h hs hB hown hU hX => by
                      obtain ⟨⟨rfl, rfl⟩, own⟩ := h
                      exact ⟨⟨rfl, rfl⟩, own.keep fun b hb hl _ => by have := (HX4.out b).1 (by rw [hb]; rfl); exact hown b this.1 this.2⟩
                  | exact fun f lo hi v b0 b1 w w' h hs hB hown hU hX => by
                      obtain ⟨⟨rfl, rfl⟩, kb⟩ := h
                      exact ⟨⟨rfl, rfl⟩, (hown _ (Nat.le_refl _) (Nat.lt_succ_self _)).trans kb⟩
                  | exact fun _ _ _ _ _ _ _ _ h _ _ _ _ _ => h
              intro f lo hi W7 hbr hx hf hk hrg; (try replace hbr := BelX.zero hbr); clear hx; (try simp (decide := true) only [go_sem] at hf); (try simp (decide := true) only [go_sem] at hk)
              obtain ⟨⟨xb, xd, h85, own7, -⟩, k7, h7⟩ := hf
              rw [h85] at h7
              have hold : ∀ q, q < W5.heap.size → ¬ (gl ≤ q ∧ q < gh) → q ≠ J → W7.heap[q]? = W5.heap[q]? := fun q h1 h2 h3 => hbr.2.2.2.2 q ⟨h1, fun r hr => by simp at hr; rcases hr with rfl | rfl <;> simp only <;> omega⟩
              have hpay : ∀ (a : Option Addr) (n c : Nat) (xs : List Value), Own W5 0 5 1 a n c xs → Own W7 0 5 1 a n c xs := fun a n c xs h => h.keep fun b hb _ hlt => hold b hlt (fun q => by
                have hx := (HX4.out b).2 q
                exact pm5.sm.il.own.apart h (by decide) b hx (by rw [hb]; rfl)) (fun e => h.ne_blk pm5.sm.blk (by decide) (by rw [hb, ← e]; rfl))
              have hsz7 : W5.heap.size ≤ W7.heap.size := hbr.2.2.2.1
              have hTd : (T.drop st.used).length = M := by rw [List.length_drop, ← HTL.out]; exact hM.out
              have hdl : (r.drop F).length = r.length - F := List.length_drop
              obtain ⟨hsub2, hnil2⟩ := byt_next (HSUB.out _ pm5.bb) hrc bF.1 hrn
              rw [hra] at hnil2
              have sm7 : SlowM w W7 J st.garb (T.drop st.used) sa2 sc2 (its ++ its2) xb xd := by
                refine ⟨by rw [hTd]; exact k7, (hpay _ _ _ _ or5).byt, by rw [hTd]; exact cp3, by rw [hTd]; exact nil3, ⟨by rw [List.length_append]; exact own7, fun x hx => ?_, ⟨hbr.1.trans pm5.sm.il.be.os, hbr.2.1.trans pm5.sm.il.be.tape, hbr.2.2.1.trans pm5.sm.il.be.output, Nat.le_trans pm5.sm.il.be.size hsz7, fun q hq => (hold q (by omega) (by omega) (by omega)).trans (pm5.sm.il.be.block q hq)⟩, by omega, by omega⟩, hwJ⟩
                rcases List.mem_append.1 hx with h | h
                · exact hpay _ _ _ _ (pm5.sm.il.pays x h)
                · exact hpay _ _ _ _ (py5 x h)
              have hby7 : Byt W7 la ll := pm5.bb.keep fun b off e hlt => hold b hlt (fun q => by have := HLA.out b (by rw [e]; rfl); omega) (fun q => by have := HLA.out b (by rw [e]; rfl); omega)
              have hoc7 : Own W7 (J + 1) 3 1 (some ⟨B4, 0, none⟩) cl.length c4 (cl.map encI) := pm5.oc.keep fun b hb hbase hlt => hold b hlt (fun q => by
                have hx := (HX4.out b).2 q
                exact pm5.sm.il.own.apart pm5.oc (by decide) b hx (by rw [hb]; rfl)) (by omega)
              have pm7 : PM w W7 J B4 c4 la ll cl st.garb (T.drop st.used) sa2 sc2 (its ++ its2) xb xd := ⟨sm7, hby7, hoc7⟩
              have hcf : C + F ≤ ll.length := by
                have := congrArg List.length HR.out
                rw [List.length_drop] at this
                have := HPA.out.le
                omega
              have hpn : PieceAt ll (C + F) (U + st.used) st.garb (ks ++ st.keys) (T.drop st.used) := by
                have := HPA.out.next hcf (t := r.take F) (by rw [HR.out]) (lim := 1000) (by rw [HTT.out, ← HTL.out]; omega) (st := st) (by rw [HTT.out]; exact hst.out)
                rwa [HTT.out] at this
              have hM210 : M < 210 := by rw [← hTd]; exact hpn.short
              have HPN := Lib.hid hpn
              have HS2 := Lib.hid (show ∀ w0 : World, Byt w0 la ll → Byt w0 ra2 (r.drop F) from fun w0 h => by have := (byt_next (HSUB.out w0 h) hrc bF.1 hrn).1; rwa [hra] at this)
              have n0 := sm7.blk.cell 0
              have n1 := sm7.blk.cell 1
              have nl := sm7.blk.lt
              rw [hTd] at n0
              have hd210 : decide (210 ≤ M) = false := decide_eq_false (by omega)
              have hi210 : ¬ (210 : Int) ≤ (M : Int) := by omega
              have HDL := Lib.hid hdl
              clear hrg hbr hold hpay own7 k7 pm5 kx it5 py5 or5 sm7 hby7 hoc7 hpn hsub2 hra hTd hdl
              go_simp
              clear hk h85 h7
              go_wp2_with fail
              go_roundw
              case rel => exact ⟨i + 1, F, its ++ its2, xb, xd, T.drop st.used, sa2, sc2, st.garb, ks ++ st.keys, U + st.used, C + F, r.drop F, ra2, rc - F, by rw [List.length_append], by rw [HDL.out], rfl, by go_num, by omega, by rw [HDL.out]; omega, pm7, by rw [HR.out, List.drop_drop], HS2.out, by rw [HDL.out]; omega, by rw [HDL.out]; exact hnil2, by rw [List.map_append, HK.out, hk2.out], HPN.out⟩
              case measure => simp [intOf, sliceLen]; omega
    · obtain rfl : k = cl.length := by omega
      have hits : Items wr xa its := items_of pm.sm.il.own pm.sm.il.pays
      have hbd := HPA.out.bd
      have hCl := HPA.out.le
      have hC : C = ll.length := by
        have := HEND.out rfl
        rw [HR.out] at this
        have := congrArg List.length this
        rw [List.length_drop] at this
        simp at this
        omega
      have hkn := congrArg List.length HK.out
      rw [List.length_map] at hkn
      have hil600 : its.length ≤ 600 := by omega
      clear hkn
      have hkeys : Hid (its.map It.key = allK ll) := Lib.hid (HK.out.trans (HPA.out.done hC).symm)
      clear hC
      go_wp2_with (first | (go_at_call 15; (with_reducible refine (stream_All la ll _ lc _ pm.bb rfl cp2 (by omega) HN0.out).mono ?_); rintro e w3 ⟨its2, ia, ic, rfl, hk3, it3, hb3⟩) | (go_at_call 14; (with_reducible refine (same_E xa ia its its2 _ _ _ _ _ (hits.below hb3 (Nat.le_refl _)) it3 rfl rfl (by omega) (by have := congrArg List.length hk3; have h2 := allK_len ll; rw [List.length_map] at this; omega) (hkeys.out.trans hk3.symm)).mono ?_); rintro e w4 ⟨rfl, hb4⟩) | (go_at_call 16; (with_reducible refine (awake_yes _).mono ?_); rintro e w20 ⟨rfl, hb20⟩))
      go_ret
      exact ⟨rfl, (by repeat (first | (with_reducible refine Below.setCell ?_ ?_ _) | (with_reducible refine Below.alloc ?_ ?_ _) | (with_reducible refine Below.drew ?_) | (with_reducible refine below_drewN ?_ _) | (with_reducible exact Below.refl _ _) | (with_reducible refine Below.trans ?_ (Below.mono hb20 ?_)) | (with_reducible refine Below.trans ?_ (Below.mono hb4 ?_)) | (with_reducible refine Below.trans ?_ (Below.mono hb3 ?_)) | (with_reducible refine Below.trans ?_ (Below.mono pm.sm.il.be ?_)) | (focus (simp; done)) | (focus (simp; omega)) | (focus omega) | (focus (have q0 := Below.size hb20; (try simp at q0); have q1 := Below.size hb4; (try simp at q1); have q2 := Below.size hb3; (try simp at q2); have q3 := Below.size pm.sm.il.be; (try simp at q3); (try simp); omega))))⟩
end Go.Proofs.Ytjnajccobieamaa
