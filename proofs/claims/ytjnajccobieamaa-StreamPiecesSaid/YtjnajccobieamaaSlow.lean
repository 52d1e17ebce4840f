/- law 04: StreamSlow -/
import Derived.Test.YtjnajccobieamaaTakes
namespace Go.Proofs.Ytjnajccobieamaa
set_option linter.unusedVariables false
open Go.RowKit Go.Sort
set_option maxRecDepth 100000

/-! the plain law -/
theorem TS.ext {a b : TS} (h1 : a.used = b.used) (h2 : a.garb = b.garb) (h3 : a.keys = b.keys) : a = b := by
  cases a; cases b; simp only at h1 h2 h3; rw [h1, h2, h3]
def TS.shift (U : Nat) (ks : List Key) (st : TS) : TS := ⟨U + st.used, st.garb, ks ++ st.keys⟩
theorem tStep_shift (U : Nat) (ks : List Key) (st : TS) (r : PR) : tStep (st.shift U ks) r = (tStep st r).shift U ks := by
  obtain ⟨u, g, k⟩ := st
  unfold tStep TS.shift
  simp only
  split
  · cases g <;> simp [Nat.add_assoc]
  · simp [Nat.add_assoc]
theorem tRun_shift (lim : Nat) (l : List UInt8) (U : Nat) (ks : List Key) : ∀ st : TS, tRun (ks.length + lim) l (st.shift U ks) = (tRun lim (l.drop U) st).shift U ks := by
  intro st
  induction st using (tRun.induct lim (l.drop U)) with
  | case1 st h ih =>
    have e : l.drop (st.shift U ks).used = (l.drop U).drop st.used := by rw [List.drop_drop]; rfl
    have h' : tGo (ks.length + lim) l (st.shift U ks) := ⟨by have := h.1; simp only [TS.shift, List.length_append]; omega, by rw [e]; exact h.2⟩
    rw [tRun_go h', tRun_go h, e, tStep_shift, ih]
  | case2 st h =>
    have e : l.drop (st.shift U ks).used = (l.drop U).drop st.used := by rw [List.drop_drop]; rfl
    have h' : ¬ tGo (ks.length + lim) l (st.shift U ks) := fun q => h ⟨by have := q.1; simp only [TS.shift, List.length_append] at this; omega, by have := q.2; rwa [e] at this⟩
    rw [tRun_stop h', tRun_stop h]
/-- a valid place -/
def TSok (l : List UInt8) (st : TS) : Prop := st.keys.length ≤ st.used ∧ st.used ≤ l.length
theorem tsok_step {l : List UInt8} {st : TS} (h : TSok l st) (ho : (fParse (l.drop st.used)).ok = true) : TSok l (tStep st (fParse (l.drop st.used))) := by
  obtain ⟨h1, h2⟩ := fParse_size ho
  rw [List.length_drop] at h2
  refine ⟨?_, ?_⟩
  · rw [tStep_used]
    have := h.1
    rcases tStep_keys st (fParse (l.drop st.used)) with e | e <;> rw [e]
    · omega
    · simp; omega
  · rw [tStep_used]; have := h.2; omega
theorem tRun_through (L lim : Nat) (l : List UInt8) (hL : l.length < L) : ∀ st : TS, TSok l st → TSok l (tRun lim l st) ∧ tRun L l st = tRun L l (tRun lim l st) := by
  intro st
  induction st using (tRun.induct lim l) with
  | case1 st h ih =>
    intro hk
    have hk' := tsok_step hk h.2
    obtain ⟨i1, i2⟩ := ih hk'
    rw [tRun_go h]
    refine ⟨i1, ?_⟩
    rw [tRun_go (lim := L) ⟨by have := hk.1; have := hk.2; omega, h.2⟩]
    exact i2
  | case2 st h => intro hk; rw [tRun_stop h]; exact ⟨hk, rfl⟩
theorem tRun_used_le (lim : Nat) (l : List UInt8) : ∀ st : TS, st.used ≤ (tRun lim l st).used := by
  intro st
  induction st using (tRun.induct lim l) with
  | case1 st h ih => rw [tRun_go h]; have := tStep_used st (fParse (l.drop st.used)); omega
  | case2 st h => rw [tRun_stop h]; exact Nat.le_refl _
theorem tRun_moves {lim : Nat} {l : List UInt8} {st : TS} (h1 : st.keys.length < lim) (h2 : (fParse (l.drop st.used)).ok = true) : st.used + 1 ≤ (tRun lim l st).used := by
  rw [tRun_go ⟨h1, h2⟩]
  have := tRun_used_le lim l (tStep st (fParse (l.drop st.used)))
  rw [tStep_used] at this
  have := (fParse_size h2).1
  omega
/-- where some rounds of taking have come to -/
structure SlowAt (l : List UInt8) (i U : Nat) (G : Bool) (ks : List Key) : Prop where
  all : tRun (l.length + 1) l ⟨0, false, []⟩ = tRun (l.length + 1) l ⟨U, G, ks⟩
  ok : TSok l ⟨U, G, ks⟩
  far : i ≤ U ∨ (fParse (l.drop U)).ok = false
theorem SlowAt.start (l : List UInt8) : SlowAt l 0 0 false [] := ⟨rfl, ⟨by simp, by simp⟩, .inl (Nat.le_refl _)⟩
theorem SlowAt.next {l : List UInt8} {i U : Nat} {G : Bool} {ks : List Key} (h : SlowAt l i U G ks) {k : Nat} (hk : 1 ≤ k) {st : TS} (hst : tRun k (l.drop U) ⟨0, G, []⟩ = st) : SlowAt l (i + 1) (U + st.used) st.garb (ks ++ st.keys) := by
  have hs := tRun_shift k l U ks ⟨0, G, []⟩
  rw [hst] at hs
  have e0 : TS.shift U ks ⟨0, G, []⟩ = ⟨U, G, ks⟩ := by simp [TS.shift]
  rw [e0] at hs
  obtain ⟨q1, q2⟩ := tRun_through (l.length + 1) (ks.length + k) l (Nat.lt_succ_self _) ⟨U, G, ks⟩ h.ok
  rw [hs] at q1 q2
  refine ⟨h.all.trans q2, q1, ?_⟩
  by_cases ho : (fParse (l.drop U)).ok = true
  · left
    have := tRun_moves (lim := ks.length + k) (l := l) (st := ⟨U, G, ks⟩) (by simp only; omega) ho
    rw [hs] at this
    simp only [TS.shift] at this
    rcases h.far with f | f
    · omega
    · rw [ho] at f; cases f
  · right
    have hn : ¬ tGo (ks.length + k) l ⟨U, G, ks⟩ := fun q => ho q.2
    rw [tRun_stop hn] at hs
    have : U = U + st.used := by have := congrArg TS.used hs; simpa [TS.shift] using this
    rw [← this]
    simpa using ho
theorem SlowAt.done {l : List UInt8} {U : Nat} {G : Bool} {ks : List Key} (h : SlowAt l (l.length + 2) U G ks) : allK l = ks := by
  have ho : (fParse (l.drop U)).ok = false := by
    rcases h.far with f | f
    · have := h.ok.2; simp only at this; omega
    · exact f
  unfold allK
  rw [h.all, tRun_stop (fun q => by have := q.2; simp only at this; rw [ho] at this; cases this)]
theorem itCells_app (l m : List It) : itCells (l ++ m) = itCells l ++ itCells m := by simp [itCells]
/-- append of a list of items, an operation's obligation -/
theorem obl_appIts {w : World} {ρ : Operand → Value} {R : Value → World → Prop} {dst : Option Tmp} {s x : Operand} {ty : TypeId} {pos : String} {after : Array Edge} {guard : Option (Nat × Bool)}
    (base : Nat) (b : Option Addr) (n cap : Nat) (l : List It) (hs : ρ s = .slice b n cap) (A : Option Addr) (m c : Nat) (k : List It) (hx : ρ x = .slice A m c)
    (own : Own w base 31 3 b n cap (itCells l)) (hr : Row w A (itCells k)) (hm : m = k.length) (N : Nat) (hN : N = n + m) (hbig : N ≤ 1000000000) (hbase : base ≤ w.heap.size)
    (h : ∀ b' cap' w', Own w' base 31 3 b' N cap' (itCells (l ++ k)) → Grew base w w' b b' → R (.slice b' N cap') w') :
    oblUpon Try.prog R ((execOp ρ { dst, op := .call { callee := .builtin .append, args := #[s, x], argTypes := #[26, 26] }, type := ty, pos, after, guard }).run Try.prog w) := by
  obtain ⟨i0, hi, hz0, hz1, hz2⟩ := info_parts info_item
  have hone : ∀ u ∈ itCells k, u.oneCell' = true := by
    intro u hu
    simp only [itCells, List.mem_flatMap] at hu
    obtain ⟨y, _, hy⟩ := hu
    simp only [It.cells, List.mem_cons, List.not_mem_nil, or_false] at hy
    rcases hy with rfl | rfl | rfl <;> rfl
  obtain ⟨b', cap', w', hrun, own', g⟩ := run_append_row (P := Try.prog) w base 26 ty _ i0 _ 3 40 Try.underlying26 hi hz0 hz1 hz2 rfl (by decide) b n cap _ own A m c (itCells k) (by rw [itCells_len, hm]; omega) hr hone (by simp only [maxLen]; omega) (by omega) hbase
  simp only [execOp, resolve, invoke, builtin, Sem.run_bind, Sem.run_pure, Result.andThen_ok, List.map_toArray, List.map_cons, List.map_nil, hs, hx, hrun]
  rw [← hN] at own' ⊢
  rw [← itCells_app] at own'
  exact h b' cap' w' own' g

/-- the state of the rounds, in memory: J the stream's block -/
structure SlowM (w W : World) (J : Nat) (G : Bool) (r : List UInt8) (ra : Option Addr) (rc : Nat) (its : List It) (xa : Option Addr) (xc : Nat) : Prop where
  blk : Blk W J 43 #[.slice ra r.length rc, .bool G]
  rest : Byt W ra r
  cap : r.length ≤ rc
  nil : ra = none → r.length = 0 ∧ rc = 0
  il : ItL w W (J + 1) its xa xc
  j : w.heap.size ≤ J
theorem SlowM.below {w W W' : World} {J : Nat} {G : Bool} {r : List UInt8} {ra : Option Addr} {rc : Nat} {its : List It} {xa : Option Addr} {xc : Nat} (h : SlowM w W J G r ra rc its xa xc) (hb : RowKit.Below W.heap.size W W') : SlowM w W' J G r ra rc its xa xc :=
  ⟨h.blk.below hb h.blk.lt, h.rest.below hb (Nat.le_refl _), h.cap, h.nil, h.il.below hb, h.j⟩

theorem stream_TakeK (a : Option Addr) (l : List UInt8) (c : Nat) (g0 : Bool) (K : Nat) (w : World) (hb : Byt w a l) (hcap : l.length ≤ c) (hl : l.length ≤ 1000000000) (hnil : a = none → l.length = 0 ∧ c = 0) :
    Calls Try.prog 19 #[.agg #[.slice a l.length c, .bool g0], .int .i64 K] w (TakeR K l g0 w) := by
  have := stream_Take a l l.length c g0 (K : Int) w hb rfl hcap hl hnil
  rwa [Int.toNat_natCast] at this
set_option maxHeartbeats 4000000 in
theorem streamSlow_walk (a1 : Option Addr) (c1 : Nat) (l1 : List Int) (n : Int) (w : World) (h1 : Ints w a1 l1) (n1 : l1.length ≤ 9223372036854775807) :
    Calls Try.prog 6 #[.slice a1 l1.length c1, .int .i64 n] w fun e w' => e = .returned (.bool true) ∧ Below w.heap.size w w' := by
  obtain ⟨m, Em, m0, m1⟩ := modName n 3 (by omega)
  go_enter Try.func6, Try.ntmps6
  go_upto_region 6 with (first | (go_at_call 9; (with_reducible refine (mk_New a1 c1 l1 _ h1 n1).mono ?_); rintro e w1 ⟨rfl, hd1, hb1⟩) | (go_at_call 17; (with_reducible refine (law_line _ 9 _ _ _ 9 rfl (by omega) (by omega) hd1).mono ?_); rintro e w2 ⟨ll, k2, la, lc, rfl, hll, own2, hd2, g2⟩; (have be2 : RowKit.Below w.heap.size w w2 := hb1.grown g2 (by have := hb1.size; omega) (fun k hk => by injection hk with hk; omega))) | (go_at_call 18; (with_reducible refine (mk_ModE Em.out _ (by omega) (by omega)).mono ?_); rintro e w' ⟨rfl, rfl⟩))
  have cp2 := own2.cap_le
  have hll' : ll.length ≤ 270 := by omega
  obtain ⟨K, hK⟩ := Int.eq_ofNat_of_zero_le (show 0 ≤ 1 + m by omega)
  have hK1 : 1 ≤ K := by omega
  have hK3 : K ≤ 3 := by omega
  rw [hK]
  obtain ⟨J, hJ⟩ : ∃ J, J = w2.heap.size := ⟨_, rfl⟩
  have hwJ : w.heap.size ≤ J := by have := be2.size; omega
  refine wp_named (fun W => SlowM w W J false ll la lc [] none 0 ∧ Byt W la ll ∧ J < W.heap.size) ⟨⟨by rw [hJ]; exact Blk.new _ _ _, own2.byt.alloc _, cp2, fun h => own2.none_len h, ⟨Own.nil _ _ _ _, by simp, (by repeat (first | (with_reducible refine Below.setCell ?_ ?_ _) | (with_reducible refine Below.alloc ?_ ?_ _) | (with_reducible refine Below.drew ?_) | (with_reducible refine below_drewN ?_ _) | (with_reducible exact Below.refl _ _) | (with_reducible refine Below.trans ?_ (Below.mono be2 ?_)) | (focus (simp; done)) | (focus (simp; omega)) | (focus omega) | (focus (have q0 := Below.size be2; (try simp at q0); (try simp); omega)))), by omega, by simp; omega⟩, hwJ⟩, own2.byt.alloc _, by simp; omega⟩ ?_
  rintro W ⟨sm0, hby0, lJ⟩
  rw [← hJ]
  have HN0 := Lib.hid (show la = none → ll.length = 0 ∧ lc = 0 from fun h => own2.none_len h)
  have HLA := Lib.hid (show ∀ q, la.map (·.block) = some q → q < J from fun q hq => by rw [hJ]; exact own2.lt' q hq)
  clear own2 hd2 hd1 hb1 g2 be2 h1 hJ hK m0 m1
  go_loopw [22, 7] (fun i s7 wr => ∃ (j : Nat) (its : List It) (xa : Option Addr) (xc U : Nat) (G : Bool) (ks : List Key) (r : List UInt8) (ra : Option Addr) (rc : Nat), i = .int .i64 j ∧ j ≤ ll.length + 2 ∧ s7 = .slice xa its.length xc ∧ SlowM w wr J G r ra rc its xa xc ∧ r = ll.drop U ∧ its.map It.key = ks ∧ SlowAt ll j U G ks ∧ Byt wr la ll) (fun i _ _ => ll.length + 2 - (intOf i).toNat)
  case atStart => exact ⟨0, [], none, 0, 0, false, [], ll, la, lc, rfl, by omega, rfl, sm0, rfl, rfl, SlowAt.start _, hby0⟩
  case round =>
    obtain ⟨j, its, xa, xc, U, G, ks, r, ra, rc, rfl, hj, rfl, sm, hr, hk, hsl, hby⟩ := hrel
    have HR := Lib.hid hr
    have HSL := Lib.hid hsl
    have HK := Lib.hid hk
    have hrl : r.length ≤ 270 := by rw [hr, List.length_drop]; omega
    have hil : its.length ≤ 270 := by
      have h1 := hsl.ok.1
      have h2 := hsl.ok.2
      simp only at h1 h2
      rw [← hk, List.length_map] at h1
      omega
    clear sm0 hby0 hr hsl hk
    have u0 := sm.blk.cell 0
    have u1 := sm.blk.cell 1
    have ul := sm.blk.lt
    by_cases hlt : j < ll.length + 2
    · have hi : (j : Int) < (ll.length : Int) + 2 := by omega
      go_upto_if 33 with ((go_at_call 19; (with_reducible refine (stream_TakeK ra r rc G K _ sm.rest sm.cap (by omega) sm.nil).mono ?_); rintro e w3 ⟨st, its2, ia, ic, sa, sc, hst, rfl, hk2, own3, pays3, ownr3, hb3⟩; ((have sm3 := sm.below hb3); (have hi2 := keys_bd hst hk2))))
      have z1 : decide (K < its2.length) = false := decide_eq_false (by omega)
      have z2 : ¬ ((K : Int) < (its2.length : Int)) := by omega
      have cp3 := ownr3.cap_le
      have hnn3 : sa = none → r.length - st.used = 0 ∧ sc = 0 := fun h => ownr3.none_len h
      refine wp_named (fun W => SlowM w W J G r ra rc its xa xc ∧ Blk W w3.heap.size 43 #[.slice sa (r.length - st.used) sc, .bool st.garb] ∧ Items W ia its2 ∧ (∀ x ∈ its2, Own W 0 5 1 x.a x.pay.length x.c (x.pay.map encB)) ∧ Own W 0 5 1 sa (r.length - st.used) sc ((r.drop st.used).map encB) ∧ (∀ q, ia.map (·.block) = some q → wr.heap.size ≤ q) ∧ Byt W la ll ∧ J < wr.heap.size ∧ wr.heap.size ≤ w3.heap.size) ⟨sm3.below (by repeat (first | (with_reducible refine Below.setCell ?_ ?_ _) | (with_reducible refine Below.alloc ?_ ?_ _) | (with_reducible refine Below.drew ?_) | (with_reducible refine below_drewN ?_ _) | (with_reducible exact Below.refl _ _) | (focus (simp; done)) | (focus (simp; omega)) | (focus omega))), Blk.new _ _ _, (items_of own3 pays3).alloc _, fun x hx => (pays3 x hx).alloc _, (ownr3.mono (Nat.zero_le _)).alloc _, own3.base_le, (hby.below hb3 (Nat.le_refl _)).alloc _, ul, hb3.size⟩ ?_
      rintro W5 ⟨sm5, kx, it5, py5, or5, nia, hby5, lJ5, lw3⟩
      have hxlt := sm.il.own.lt'
      have hwrW : wr.heap.size ≤ W5.heap.size := by have := kx.lt; omega
      clear sm sm3 own3 pays3 ownr3 u0 u1 ul hb3 hby
      obtain ⟨gl, gh, x1, x2, x3, x4⟩ : ∃ gl gh, gl ≤ gh ∧ gh ≤ wr.heap.size ∧ ((gl = 0 ∧ gh = 0) ∨ J + 1 ≤ gl) ∧ ∀ k, xa.map (·.block) = some k ↔ gl ≤ k ∧ k < gh := by
        cases haa : xa with
        | none => exact ⟨0, 0, Nat.le_refl _, Nat.zero_le _, .inl ⟨rfl, rfl⟩, fun k => by simp⟩
        | some ad =>
          have q1 := sm5.il.own.base_le ad.block (by rw [haa]; rfl)
          have q2 := hxlt ad.block (by rw [haa]; rfl)
          exact ⟨ad.block, ad.block + 1, by omega, by omega, .inr q1, fun k => by simp; omega⟩
      have HX4 := Lib.hid x4
      have hxne : xa.map (·.block) ≠ some w3.heap.size := sm5.il.own.ne_blk kx (by decide)
      have hkn : ¬ (gl ≤ w3.heap.size ∧ w3.heap.size < gh) := fun h => hxne ((HX4.out _).2 h)
      have ljl := sm5.blk.lt
      have kxl := kx.lt
      clear x4
      go_upto_region 10 with fail
      apply wp_region_tab [(gl, gh), (J, (J+1))] 6 46 [some 34, some 35, some 36, some 37, none, some 7] [⟨[6, 7], [], [], []⟩, ⟨[6, 7], [], [], []⟩, ⟨[6, 7], [], [], []⟩, ⟨[1, 2, 6, 7], [1, 2, 6], [1, 2, 6], [6]⟩, ⟨[0, 1, 2, 3, 6, 7], [0, 7], [0, 7], [7]⟩, ⟨[0, 1, 2, 3, 4, 6, 7], [3], [3], []⟩, ⟨[], [], [], []⟩, ⟨[], [], [], []⟩] [0, 1, 2, 3, 4, 5] [3, 4, 5] [psiTrue, psiTrue, psiTrue, (fun f lo hi v b0 b1 W => ∃ (a : Option Addr) (c : Nat), v = .slice a (its.length + its2.length) c ∧ Own W (J+1) 31 3 a (its.length + its2.length) c (itCells (its ++ its2)) ∧ ∀ k, a.map (·.block) = some k → (gl ≤ k ∧ k < gh) ∨ (b0 ≤ k ∧ k < b1)), (fun f lo hi v b0 b1 W => Blk W J 43 #[.slice sa (r.length - st.used) sc, .bool st.garb]), (fun f _ _ v _ _ _ => v = f 3), (fun f lo hi v b0 b1 W => (b0 = gl ∧ b1 = gh) ∧ Own W (J+1) 31 3 xa its.length xc (itCells its)), (fun f lo hi v b0 b1 W => (b0 = J ∧ b1 = (J+1)) ∧ Blk W J 43 #[.slice ra r.length rc, .bool G])] [kVal _, kVal _, kVal _, kTrue, kTrue, kTrue]
      · kernel_rfl
      · kernel_rfl
      · rfl
      · rfl
      rotate_left 2
      refine ⟨?oR1_0, ?oR1_1, ?oR1_2, ?oR1_3, ?oR1_4, ?oR1_5, trivial⟩
      case hx => exact ⟨⟨by omega, by omega⟩, by simp; omega, ⟨by omega, by omega⟩, by simp, trivial⟩
      case hX => exact ⟨fun _ _ _ _ => ⟨⟨rfl, rfl⟩, sm5.il.own⟩, fun _ _ _ _ => ⟨⟨rfl, rfl⟩, sm5.blk⟩, trivial⟩
      case oR1_0 =>
        intro f lo hi w hb hx hf hk hrg R hR; (try replace hb := BelX.zero hb); (try simp (decide := true) only [go_sem] at hf); (try simp (decide := true) only [go_sem] at hk)
        have kk := hb.blk kx (fun r hr => by simp at hr; rcases hr with rfl | rfl <;> simp only <;> omega)
        have e0 := kk.cell 0
        have e1 := kk.cell 1
        go_simp
        exact hR _ _ (rpost_val rfl rfl (Below.refl _ _) rfl)
      case oR1_1 => intro f lo hi w hb hx hf hk hrg R hR; (try replace hb := BelX.zero hb); (try simp (decide := true) only [go_sem] at hf); (try simp (decide := true) only [go_sem] at hk); go_simp; exact hR _ _ (rpost_val rfl rfl (Below.refl _ _) rfl)
      case oR1_2 => intro f lo hi w hb hx hf hk hrg R hR; (try replace hb := BelX.zero hb); (try simp (decide := true) only [go_sem] at hf); (try simp (decide := true) only [go_sem] at hk); go_simp; exact hR _ _ (rpost_val rfl rfl (Below.refl _ _) rfl)
      case oR1_3 =>
        intro f lo hi w hb hx hf hk hrg R hR; (try replace hb := BelX.zero hb); (try simp (decide := true) only [go_sem] at hf); (try simp (decide := true) only [go_sem] at hk)
        obtain ⟨-, own⟩ := hf
        have hsz : W5.heap.size ≤ w.heap.size := hb.2.2.2.1
        have hrow := hb.row it5.1 (fun x hx r hr => by have := nia x hx; simp at hr; rcases hr with rfl | rfl <;> simp only <;> omega)
        have h1 := hk.1
        have h2 := hk.2.1
        refine obl_appIts (J + 1) xa its.length xc its ?_ ia its2.length ic its2 ?_ own hrow rfl (its.length + its2.length) rfl (by omega) (by omega) ?_
        · go_simp
        · go_simp
        intro b2 c2 w2 own2 g2
        refine hR _ _ (rpost_some rfl rfl (Grew.touch g2 fun k hk' => ⟨6, by simp, ?_⟩) ?_)
        · obtain ⟨q1, q2⟩ : lo 6 = gl ∧ hi 6 = gh := XOk.get _ _ hx 0 _ rfl
          have h4 := (HX4.out k).1 hk'
          omega
        (try simp (decide := true) only [go_sem])
        refine ⟨_, _, rfl, own2, fun k hk' => ?_⟩
        rcases g2.2.1 with e | e
        · exact .inl ((HX4.out k).1 (e ▸ hk'))
        · rw [e] at hk'
          exact .inr ⟨by injection hk' with hk'; omega, own2.lt' k (e ▸ hk')⟩
      case oR1_4 =>
        intro f lo hi w hb hx hf hk hrg R hR; (try replace hb := BelX.zero hb); (try simp (decide := true) only [go_sem] at hf); (try simp (decide := true) only [go_sem] at hk)
        obtain ⟨-, kb⟩ := hf
        have e0 := kb.cell 0
        have e1 := kb.cell 1
        have fz := kb.frozen
        have p1 : lo 7 = _ := (XOk.get _ _ hx 1 _ rfl).1
        have p2 : hi 7 = _ := (XOk.get _ _ hx 1 _ rfl).2
        go_simp
        refine hR _ _ (rpost_some rfl rfl ((Touch.set w (List.mem_singleton.2 rfl) (Nat.le_of_eq p1) (by rw [p2]; exact Nat.lt_succ_self _) 0 _).trans (Touch.set _ (List.mem_singleton.2 rfl) (Nat.le_of_eq p1) (by rw [p2]; exact Nat.lt_succ_self _) 1 _)) ?_)
        (try simp (decide := true) only [go_sem])
        exact (kb.set 0 _).set 1 _
      case oR1_5 => intro f lo hi w hb hx hf hk hrg R hR; (try replace hb := BelX.zero hb); (try simp (decide := true) only [go_sem] at hf); (try simp (decide := true) only [go_sem] at hk); go_simp; exact hR _ _ (rpost_none rfl (Below.refl _ _) rfl)
      case hcl =>
        refine ⟨Closed.true _ _ _ _, Closed.true _ _ _ _, Closed.true _ _ _ _, ?cR1_3, ?cR1_4, ?cR1_5, ?cR1_6, ?cR1_7, trivial⟩
        all_goals first
          | exact fun f lo hi v b0 b1 w w' h hs hB hown hU hX => by
              obtain ⟨a, c, h1, own, lt⟩ := h
              exact ⟨a, c, h1, own.keep fun b hb hl _ => (lt b (by rw [hb]; rfl)).elim (fun h => hX 0 _ rfl (by simp) b h.1 h.2) (fun h => hown b h.1 h.2), lt⟩
          | exact fun f lo hi v b0 b1 w w' h hs hB hown hU hX => (hX 1 _ rfl (by simp) _ (Nat.le_refl _) (Nat.lt_succ_self _)).trans h
          | exact fun f lo hi v b0 b1 w w' h hs hB hown hU hX => by
              obtain ⟨⟨rfl, rfl⟩, own⟩ := h
              exact ⟨⟨rfl, rfl⟩, own.keep fun b hb hl _ => by have := (HX4.out b).1 (by rw [hb]; rfl); exact hown b this.1 this.2⟩
          | exact fun f lo hi v b0 b1 w w' h hs hB hown hU hX => by
              obtain ⟨⟨rfl, rfl⟩, kb⟩ := h
              exact ⟨⟨rfl, rfl⟩, (hown _ (Nat.le_refl _) (Nat.lt_succ_self _)).trans kb⟩
          | exact fun _ _ _ _ _ _ _ _ h _ _ _ _ _ => h
      intro f lo hi W7 hbr hx hf hk hrg; (try replace hbr := BelX.zero hbr); clear hx; (try simp (decide := true) only [go_sem] at hf); (try simp (decide := true) only [go_sem] at hk)
      obtain ⟨⟨xb, xd, h37, own7, -⟩, k7, h7⟩ := hf
      rw [h37] at h7
      have hold : ∀ q, q < W5.heap.size → ¬ (gl ≤ q ∧ q < gh) → q ≠ J → W7.heap[q]? = W5.heap[q]? := fun q h1 h2 h3 => hbr.2.2.2.2 q ⟨h1, fun r hr => by simp at hr; rcases hr with rfl | rfl <;> simp only <;> omega⟩
      have hpay : ∀ (a : Option Addr) (n c : Nat) (xs : List Value), Own W5 0 5 1 a n c xs → Own W7 0 5 1 a n c xs := fun a n c xs h => h.keep fun b hb _ hlt => hold b hlt (fun q => by
        have hx := (HX4.out b).2 q
        exact sm5.il.own.apart h (by decide) b hx (by rw [hb]; rfl)) (fun e => h.ne_blk sm5.blk (by decide) (by rw [hb, ← e]; rfl))
      have hsz7 : W5.heap.size ≤ W7.heap.size := hbr.2.2.2.1
      have sm7 : SlowM w W7 J st.garb (r.drop st.used) sa sc (its ++ its2) xb xd := by
        refine ⟨by rw [List.length_drop]; exact k7, (hpay _ _ _ _ or5).byt, by rw [List.length_drop]; exact cp3, by rw [List.length_drop]; exact hnn3, ⟨by rw [List.length_append]; exact own7, fun x hx => ?_, ⟨hbr.1.trans sm5.il.be.os, hbr.2.1.trans sm5.il.be.tape, hbr.2.2.1.trans sm5.il.be.output, Nat.le_trans sm5.il.be.size hsz7, fun q hq => (hold q (by omega) (by omega) (by omega)).trans (sm5.il.be.block q hq)⟩, by omega, by omega⟩, hwJ⟩
        rcases List.mem_append.1 hx with h | h
        · exact hpay _ _ _ _ (sm5.il.pays x h)
        · exact hpay _ _ _ _ (py5 x h)
      have hby7 : Byt W7 la ll := hby5.keep fun b off e hlt => hold b hlt (fun q => by have := HLA.out b (by rw [e]; rfl); omega) (fun q => by have := HLA.out b (by rw [e]; rfl); omega)
      clear hrg hbr hold hpay own7 k7 sm5 kx it5 py5 or5 hby5
      go_simp
      clear hk h37 h7
      go_wp2_with fail
      go_roundw
      case rel => exact ⟨j + 1, its ++ its2, xb, xd, U + st.used, st.garb, ks ++ st.keys, r.drop st.used, sa, sc, by go_num, by omega, by simp, sm7, by rw [HR.out, List.drop_drop], by rw [List.map_append, HK.out, hk2], HSL.out.next hK1 (by rw [← HR.out]; exact hst.out), hby7⟩
      case measure => simp [intOf]; omega
    · obtain rfl : j = ll.length + 2 := by omega
      have hkeys : Hid (its.map It.key = allK ll) := Lib.hid (by rw [HK.out, HSL.out.done])
      have hits : Items wr xa its := items_of sm.il.own sm.il.pays
      go_wp2_with (first | (go_at_call 15; (with_reducible refine (stream_All la ll _ lc _ hby rfl cp2 (by omega) HN0.out).mono ?_); rintro e w3 ⟨its2, ia, ic, rfl, hk3, it3, hb3⟩) | (go_at_call 14; (with_reducible refine (same_E xa ia its its2 _ _ _ _ _ (hits.below hb3 (Nat.le_refl _)) it3 rfl rfl (by omega) (by have := congrArg List.length hk3; have h2 := allK_len ll; rw [List.length_map] at this; omega) (hkeys.out.trans hk3.symm)).mono ?_); rintro e w4 ⟨rfl, hb4⟩) | (go_at_call 16; (with_reducible refine (awake_yes _).mono ?_); rintro e w20 ⟨rfl, hb20⟩))
      go_ret
      exact ⟨rfl, (by repeat (first | (with_reducible refine Below.setCell ?_ ?_ _) | (with_reducible refine Below.alloc ?_ ?_ _) | (with_reducible refine Below.drew ?_) | (with_reducible refine below_drewN ?_ _) | (with_reducible exact Below.refl _ _) | (with_reducible refine Below.trans ?_ (Below.mono hb20 ?_)) | (with_reducible refine Below.trans ?_ (Below.mono hb4 ?_)) | (with_reducible refine Below.trans ?_ (Below.mono hb3 ?_)) | (with_reducible refine Below.trans ?_ (Below.mono sm.il.be ?_)) | (focus (simp; done)) | (focus (simp; omega)) | (focus omega) | (focus (have q0 := Below.size hb20; (try simp at q0); have q1 := Below.size hb4; (try simp at q1); have q2 := Below.size hb3; (try simp at q2); have q3 := Below.size sm.il.be; (try simp at q3); (try simp); omega))))⟩
end Go.Proofs.Ytjnajccobieamaa
