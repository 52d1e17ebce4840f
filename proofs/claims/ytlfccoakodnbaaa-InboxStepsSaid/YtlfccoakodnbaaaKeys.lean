/- what is kept of 04's laws for other seats: keys of items, rounds of taking, pieces -/
import Derived.Test.YtlfccoakodnbaaaPut
namespace Go.Proofs.Ytlfccoakodnbaaa
set_option linter.unusedVariables false
open Go.RowKit Go.Sort
set_option maxRecDepth 100000

theorem Own.none_len {w : World} {base : Nat} {e : TypeId} {size n cap : Nat} {a : Option Addr} {xs : List Value} (h : Own w base e size a n cap xs) (ha : a = none) : n = 0 ∧ cap = 0 := by
  subst ha
  rcases h.2 with ⟨hv, h0⟩ | ⟨g, c, cur, hv, _⟩
  · injection hv with _ _ h3
    exact ⟨h0, h3⟩
  · injection hv with h1 _ _; cases h1
theorem isRow_nil {k : IntKind} {w : World} {a : Option Addr} {len cap : Nat} {zs : List Int} (h : IsRow k w a len cap zs) : a = none → len = 0 ∧ cap = 0 := by
  rcases h with ⟨_, h1, h2, _⟩ | ⟨x, rfl, _⟩
  · exact fun _ => ⟨h1, h2⟩
  · intro q; cases q
theorem tRun_len (lim : Nat) (l : List UInt8) : ∀ st : TS, st.keys.length ≤ lim → (tRun lim l st).keys.length ≤ lim := by
  intro st
  induction st using (tRun.induct lim l) with
  | case1 st h ih =>
    intro _
    rw [tRun_go h]
    refine ih ?_
    have := h.1
    rcases tStep_keys st (fParse (l.drop st.used)) with e | e <;> rw [e]
    · omega
    · simp; omega
  | case2 st h => intro h1; rw [tRun_stop h]; exact h1
theorem allK_len (l : List UInt8) : (allK l).length ≤ l.length + 1 := tRun_len _ l _ (by simp)
theorem same_E (a b : Option Addr) (l m : List It) (na nb ca cb : Nat) (w : World) (hl : Items w a l) (hm : Items w b m) (ha : na = l.length) (hb : nb = m.length) (l9 : l.length ≤ 1000000000000) (m9 : m.length ≤ 1000000000000) (hk : l.map It.key = m.map It.key) :
    Calls Try.prog 12 #[.slice a na ca, .slice b nb cb] w fun e w' => e = .returned (.bool true) ∧ Below w.heap.size w w' := by
  have := ref03_Same a b l m na nb ca cb w hl hm ha hb l9 m9
  rwa [sameL_yes hk] at this
theorem keys_bd {lim : Nat} {l : List UInt8} {g : Bool} {st : TS} {its : List It} (h : Hid (tRun lim l ⟨0, g, []⟩ = st)) (hk : its.map It.key = st.keys) : its.length ≤ lim := by
  have := tRun_len lim l ⟨0, g, []⟩ (by simp)
  rw [h.out, ← hk, List.length_map] at this
  exact this

/-! the plain law -/
theorem TS.ext {a b : TS} (h1 : a.used = b.used) (h2 : a.garb = b.garb) (h3 : a.keys = b.keys) : a = b := by
  cases a; cases b; simp only at h1 h2 h3; rw [h1, h2, h3]
def TS.shift (U : Nat) (ks : List Key) (st : TS) : TS := ⟨U + st.used, st.garb, ks ++ st.keys⟩
theorem tStep_shift (U : Nat) (ks : List Key) (st : TS) (r : PR) : tStep (st.shift U ks) r = (tStep st r).shift U ks := by
  obtain ⟨u, g, k⟩ := st
  unfold tStep TS.shift
  simp only
  split
  · cases g <;> simp [Nat.add_assoc]
  · simp [Nat.add_assoc]
theorem tRun_shift (lim : Nat) (l : List UInt8) (U : Nat) (ks : List Key) : ∀ st : TS, tRun (ks.length + lim) l (st.shift U ks) = (tRun lim (l.drop U) st).shift U ks := by
  intro st
  induction st using (tRun.induct lim (l.drop U)) with
  | case1 st h ih =>
    have e : l.drop (st.shift U ks).used = (l.drop U).drop st.used := by rw [List.drop_drop]; rfl
    have h' : tGo (ks.length + lim) l (st.shift U ks) := ⟨by have := h.1; simp only [TS.shift, List.length_append]; omega, by rw [e]; exact h.2⟩
    rw [tRun_go h', tRun_go h, e, tStep_shift, ih]
  | case2 st h =>
    have e : l.drop (st.shift U ks).used = (l.drop U).drop st.used := by rw [List.drop_drop]; rfl
    have h' : ¬ tGo (ks.length + lim) l (st.shift U ks) := fun q => h ⟨by have := q.1; simp only [TS.shift, List.length_append] at this; omega, by have := q.2; rwa [e] at this⟩
    rw [tRun_stop h', tRun_stop h]
/-- a valid place -/
def TSok (l : List UInt8) (st : TS) : Prop := st.keys.length ≤ st.used ∧ st.used ≤ l.length
theorem tsok_step {l : List UInt8} {st : TS} (h : TSok l st) (ho : (fParse (l.drop st.used)).ok = true) : TSok l (tStep st (fParse (l.drop st.used))) := by
  obtain ⟨h1, h2⟩ := fParse_size ho
  rw [List.length_drop] at h2
  refine ⟨?_, ?_⟩
  · rw [tStep_used]
    have := h.1
    rcases tStep_keys st (fParse (l.drop st.used)) with e | e <;> rw [e]
    · omega
    · simp; omega
  · rw [tStep_used]; have := h.2; omega
theorem tRun_through (L lim : Nat) (l : List UInt8) (hL : l.length < L) : ∀ st : TS, TSok l st → TSok l (tRun lim l st) ∧ tRun L l st = tRun L l (tRun lim l st) := by
  intro st
  induction st using (tRun.induct lim l) with
  | case1 st h ih =>
    intro hk
    have hk' := tsok_step hk h.2
    obtain ⟨i1, i2⟩ := ih hk'
    rw [tRun_go h]
    refine ⟨i1, ?_⟩
    rw [tRun_go (lim := L) ⟨by have := hk.1; have := hk.2; omega, h.2⟩]
    exact i2
  | case2 st h => intro hk; rw [tRun_stop h]; exact ⟨hk, rfl⟩
theorem tRun_used_le (lim : Nat) (l : List UInt8) : ∀ st : TS, st.used ≤ (tRun lim l st).used := by
  intro st
  induction st using (tRun.induct lim l) with
  | case1 st h ih => rw [tRun_go h]; have := tStep_used st (fParse (l.drop st.used)); omega
  | case2 st h => rw [tRun_stop h]; exact Nat.le_refl _
theorem tRun_moves {lim : Nat} {l : List UInt8} {st : TS} (h1 : st.keys.length < lim) (h2 : (fParse (l.drop st.used)).ok = true) : st.used + 1 ≤ (tRun lim l st).used := by
  rw [tRun_go ⟨h1, h2⟩]
  have := tRun_used_le lim l (tStep st (fParse (l.drop st.used)))
  rw [tStep_used] at this
  have := (fParse_size h2).1
  omega
/-- where some rounds of taking have come to -/
structure SlowAt (l : List UInt8) (i U : Nat) (G : Bool) (ks : List Key) : Prop where
  all : tRun (l.length + 1) l ⟨0, false, []⟩ = tRun (l.length + 1) l ⟨U, G, ks⟩
  ok : TSok l ⟨U, G, ks⟩
  far : i ≤ U ∨ (fParse (l.drop U)).ok = false
theorem SlowAt.start (l : List UInt8) : SlowAt l 0 0 false [] := ⟨rfl, ⟨by simp, by simp⟩, .inl (Nat.le_refl _)⟩
theorem SlowAt.next {l : List UInt8} {i U : Nat} {G : Bool} {ks : List Key} (h : SlowAt l i U G ks) {k : Nat} (hk : 1 ≤ k) {st : TS} (hst : tRun k (l.drop U) ⟨0, G, []⟩ = st) : SlowAt l (i + 1) (U + st.used) st.garb (ks ++ st.keys) := by
  have hs := tRun_shift k l U ks ⟨0, G, []⟩
  rw [hst] at hs
  have e0 : TS.shift U ks ⟨0, G, []⟩ = ⟨U, G, ks⟩ := by simp [TS.shift]
  rw [e0] at hs
  obtain ⟨q1, q2⟩ := tRun_through (l.length + 1) (ks.length + k) l (Nat.lt_succ_self _) ⟨U, G, ks⟩ h.ok
  rw [hs] at q1 q2
  refine ⟨h.all.trans q2, q1, ?_⟩
  by_cases ho : (fParse (l.drop U)).ok = true
  · left
    have := tRun_moves (lim := ks.length + k) (l := l) (st := ⟨U, G, ks⟩) (by simp only; omega) ho
    rw [hs] at this
    simp only [TS.shift] at this
    rcases h.far with f | f
    · omega
    · rw [ho] at f; cases f
  · right
    have hn : ¬ tGo (ks.length + k) l ⟨U, G, ks⟩ := fun q => ho q.2
    rw [tRun_stop hn] at hs
    have : U = U + st.used := by have := congrArg TS.used hs; simpa [TS.shift] using this
    rw [← this]
    simpa using ho
theorem SlowAt.done {l : List UInt8} {U : Nat} {G : Bool} {ks : List Key} (h : SlowAt l (l.length + 2) U G ks) : allK l = ks := by
  have ho : (fParse (l.drop U)).ok = false := by
    rcases h.far with f | f
    · have := h.ok.2; simp only at this; omega
    · exact f
  unfold allK
  rw [h.all, tRun_stop (fun q => by have := q.2; simp only at this; rw [ho] at this; cases this)]
theorem itCells_app (l m : List It) : itCells (l ++ m) = itCells l ++ itCells m := by simp [itCells]
/-- append of a list of items, an operation's obligation -/
theorem obl_appIts {w : World} {ρ : Operand → Value} {R : Value → World → Prop} {dst : Option Tmp} {s x : Operand} {ty : TypeId} {pos : String} {after : Array Edge} {guard : Option (Nat × Bool)}
    (base : Nat) (b : Option Addr) (n cap : Nat) (l : List It) (hs : ρ s = .slice b n cap) (A : Option Addr) (m c : Nat) (k : List It) (hx : ρ x = .slice A m c)
    (own : Own w base 49 3 b n cap (itCells l)) (hr : Row w A (itCells k)) (hm : m = k.length) (N : Nat) (hN : N = n + m) (hbig : N ≤ 1000000000) (hbase : base ≤ w.heap.size)
    (h : ∀ b' cap' w', Own w' base 49 3 b' N cap' (itCells (l ++ k)) → Grew base w w' b b' → R (.slice b' N cap') w') :
    oblUpon Try.prog R ((execOp ρ { dst, op := .call { callee := .builtin .append, args := #[s, x], argTypes := #[33, 33] }, type := ty, pos, after, guard }).run Try.prog w) := by
  obtain ⟨i0, hi, hz0, hz1, hz2⟩ := info_parts info_item
  have hone : ∀ u ∈ itCells k, u.oneCell' = true := by
    intro u hu
    simp only [itCells, List.mem_flatMap] at hu
    obtain ⟨y, _, hy⟩ := hu
    simp only [It.cells, List.mem_cons, List.not_mem_nil, or_false] at hy
    rcases hy with rfl | rfl | rfl <;> rfl
  obtain ⟨b', cap', w', hrun, own', g⟩ := run_append_row (P := Try.prog) w base 33 ty _ i0 _ 3 40 Try.underlying33 hi hz0 hz1 hz2 rfl (by decide) b n cap _ own A m c (itCells k) (by rw [itCells_len, hm]; omega) hr hone (by simp only [maxLen]; omega) (by omega) hbase
  simp only [execOp, resolve, invoke, builtin, Sem.run_bind, Sem.run_pure, Result.andThen_ok, List.map_toArray, List.map_cons, List.map_nil, hs, hx, hrun]
  rw [← hN] at own' ⊢
  rw [← itCells_app] at own'
  exact h b' cap' w' own' g

theorem stream_TakeK (a : Option Addr) (l : List UInt8) (c : Nat) (g0 : Bool) (K : Nat) (w : World) (hb : Byt w a l) (hcap : l.length ≤ c) (hl : l.length ≤ 1000000000) (hnil : a = none → l.length = 0 ∧ c = 0) :
    Calls Try.prog 32 #[.agg #[.slice a l.length c, .bool g0], .int .i64 K] w (TakeR K l g0 w) := by
  have := stream_Take a l l.length c g0 (K : Int) w hb rfl hcap hl hnil
  rwa [Int.toNat_natCast] at this
/-! the plain law -/
theorem tRun_stuck {lim : Nat} {l : List UInt8} (hL : l.length < lim) : ∀ st : TS, TSok l st → (fParse (l.drop (tRun lim l st).used)).ok = false := by
  intro st
  induction st using (tRun.induct lim l) with
  | case1 st h ih => intro hk; rw [tRun_go h]; exact ih (tsok_step hk h.2)
  | case2 st h =>
    intro hk
    rw [tRun_stop h]
    cases ho : (fParse (l.drop st.used)).ok
    · rfl
    · exact absurd ⟨by have := hk.1; have := hk.2; omega, ho⟩ h
theorem tRun_lim {L1 L2 : Nat} {l : List UInt8} (h1 : l.length < L1) (h2 : l.length < L2) {st : TS} (hk : TSok l st) : tRun L1 l st = tRun L2 l st := by
  have q := (tRun_through L1 L2 l h1 st hk).2
  rw [q]
  have := tRun_stuck h2 st hk
  exact tRun_stop (fun g => by have := g.2; rw [‹(fParse _).ok = false›] at this; cases this)
/-- what was read of the beginning is read of the whole -/
theorem tRun_more {L : Nat} {l : List UInt8} (m : List UInt8) (hL : (l ++ m).length < L) : ∀ st : TS, TSok l st → tRun L (l ++ m) st = tRun L (l ++ m) (tRun L l st) := by
  intro st
  induction st using (tRun.induct L l) with
  | case1 st h ih =>
    intro hk
    have e : (l ++ m).drop st.used = l.drop st.used ++ m := by rw [List.drop_append_of_le_length hk.2]
    have hp : fParse ((l ++ m).drop st.used) = fParse (l.drop st.used) := by rw [e]; exact fParse_append m h.2
    rw [tRun_go h, tRun_go (l := l ++ m) (st := st) ⟨h.1, by rw [hp]; exact h.2⟩, hp]
    exact ih (tsok_step hk h.2)
  | case2 st h => intro hk; rw [tRun_stop h]
structure PieceAt (ll : List UInt8) (C U : Nat) (G : Bool) (ks : List Key) (sb : List UInt8) : Prop where
  run : tRun (ll.length + 1) (ll.take C) ⟨0, false, []⟩ = ⟨U, G, ks⟩
  buf : sb = (ll.take C).drop U
  le : C ≤ ll.length
section
variable {ll : List UInt8} {C U : Nat} {G : Bool} {ks : List Key} {sb : List UInt8}
theorem PieceAt.start (ll : List UInt8) : PieceAt ll 0 0 false [] [] := ⟨by rw [tRun_stop (fun h => by have := h.2; simp only [List.take_zero, List.drop_nil] at this; rw [fp_more0 rfl] at this; cases this)], by simp, by omega⟩
theorem PieceAt.ok (h : PieceAt ll C U G ks sb) : TSok (ll.take C) ⟨U, G, ks⟩ := by
  have := (tRun_through (ll.length + 1) (ll.length + 1) (ll.take C) (by rw [List.length_take]; omega) ⟨0, false, []⟩ ⟨by simp, by simp⟩).1
  rwa [h.run] at this
theorem PieceAt.stuck (h : PieceAt ll C U G ks sb) : (fParse sb).ok = false := by
  have := tRun_stuck (lim := ll.length + 1) (l := ll.take C) (by rw [List.length_take]; omega) ⟨0, false, []⟩ ⟨by simp, by simp⟩
  rw [h.run] at this
  rw [h.buf]
  exact this
theorem PieceAt.short (h : PieceAt ll C U G ks sb) : sb.length < 210 := by
  by_cases q : 210 ≤ sb.length
  · have := fParse_long q; rw [h.stuck] at this; cases this
  · omega
theorem PieceAt.bd (h : PieceAt ll C U G ks sb) : ks.length ≤ U ∧ U ≤ C := by
  have := h.ok
  have h1 := this.1
  have h2 := this.2
  simp only at h1 h2
  rw [List.length_take] at h2
  omega
theorem PieceAt.next (h : PieceAt ll C U G ks sb) {n : Nat} (hn : C + n ≤ ll.length) {t : List UInt8} (ht : t = (ll.drop C).take n) {lim : Nat} (hl : (sb ++ t).length < lim) {st : TS} (hst : tRun lim (sb ++ t) ⟨0, G, []⟩ = st) : PieceAt ll (C + n) (U + st.used) st.garb (ks ++ st.keys) ((sb ++ t).drop st.used) := by
  have hpre : ll.take (C + n) = ll.take C ++ t := by rw [ht, List.take_add]
  have hU : U ≤ (ll.take C).length := h.ok.2
  have hdrop : (ll.take (C + n)).drop U = sb ++ t := by rw [hpre, List.drop_append_of_le_length hU, h.buf]
  have hlen : (ll.take (C + n)).length < ll.length + 1 := by rw [List.length_take]; omega
  have hkl := h.bd
  refine ⟨?_, by rw [← hdrop, List.drop_drop], hn⟩
  have q1 := tRun_more (L := ll.length + 1) (l := ll.take C) t (by rw [← hpre]; exact hlen) ⟨0, false, []⟩ ⟨by simp, by simp⟩
  rw [h.run, ← hpre] at q1
  rw [q1]
  have hs := tRun_shift (ll.length + 1 - ks.length) (ll.take (C + n)) U ks ⟨0, G, []⟩
  rw [hdrop, show ks.length + (ll.length + 1 - ks.length) = ll.length + 1 by omega] at hs
  have e0 : TS.shift U ks ⟨0, G, []⟩ = ⟨U, G, ks⟩ := by simp [TS.shift]
  rw [e0] at hs
  rw [hs, tRun_lim (L1 := ll.length + 1 - ks.length) (L2 := lim) ?_ hl ⟨by simp, by simp⟩, hst]
  · rfl
  · have : (sb ++ t).length = (ll.take (C + n)).length - U := by rw [← hdrop, List.length_drop]
    rw [this, List.length_take]
    omega
theorem PieceAt.done (h : PieceAt ll C U G ks sb) (hC : C = ll.length) : allK ll = ks := by
  unfold allK
  have := h.run
  rw [hC, List.take_of_length_le (Nat.le_refl _)] at this
  rw [this]
end
/-- append of ints, an operation of the walk -/
theorem appI {ops : Array Oper} {rest : List Oper} {o : Oper} {a : Act} {Q : Exit → Act → World → Prop} {w : World} (hgd : o.guard = none) (s x : Operand) (ho : o.op = .call { callee := .builtin .append, args := #[s, x], argTypes := #[22, 22] })
    (base : Nat) (b : Option Addr) (n cap : Nat) (l : List Int) (hs : a.eval s = .slice b n cap) (A : Option Addr) (m c : Nat) (k : List Int) (hx : a.eval x = .slice A m c)
    (own : Own w base 3 1 b n cap (l.map encI)) (hr : Ints w A k) (hm : m = k.length) (N : Nat) (hN : N = n + m) (hbig : N ≤ 100000000000) (hbase : base ≤ w.heap.size)
    (h : ∀ b' cap' w', Own w' base 3 1 b' N cap' ((l ++ k).map encI) → Grew base w w' b b' → (∀ W, Below base W w → Below base W w') → wpList Try.prog ops Q rest (a.put o.dst (.slice b' N cap')) w') :
    wpList Try.prog ops Q (o :: rest) a w := by
  obtain ⟨i0, hi, hz0, hz1, hz2⟩ := info_parts info_int
  refine wp_append_row _ hgd s x _ ho base _ i0 _ 1 8 Try.underlying22 hi hz0 hz1 hz2 rfl (by decide) b n cap _ hs A m c hx own (k.map encI) (by simp [hm]) hr (mapI_one _) (by simp only [maxLen]; omega) (by omega) hbase ?_
  intro b' cap' w' own' g
  rw [← hN] at own' ⊢
  rw [← List.map_append] at own'
  exact h b' cap' w' own' g (Grew.step own g)

theorem stream_PutE (a : Option Addr) (s : List UInt8) (c : Nat) (g : Bool) (ba : Option Addr) (b : List UInt8) (n bc : Nat) (w : World) (hs : Byt w a s) (hb : Byt w ba b) (hn : n = b.length) (h256 : s.length + n ≤ 256) (hcb : n ≤ bc) (L : Nat) (hL : s.length + n = L) :
    Calls Try.prog 31 #[.agg #[.slice a s.length c, .bool g], .slice ba n bc] w fun e w' => ∃ pa pc, e = .returned (.tuple #[.agg #[.slice pa L pc, .bool g], .bool true]) ∧ Own w' w.heap.size 5 1 pa L pc ((s ++ b).map encB) ∧ Below w.heap.size w w' := by
  subst hn hL
  refine (stream_Put a s c g ba b bc w hs hb (by omega) hcb (by omega)).mono fun e w' h => ?_
  obtain ⟨pa, pc, n, ok, rfl, hn, hok, own, hbl⟩ := h
  have e1 : putL s b = s ++ b := by unfold putL; rw [List.take_of_length_le (by omega)]
  rw [e1] at hn own
  rw [List.length_append] at hn
  subst hn
  rw [hok, decide_eq_true h256]
  exact ⟨pa, pc, rfl, own, hbl⟩
end Go.Proofs.Ytlfccoakodnbaaa
