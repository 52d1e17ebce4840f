/- law 25: sessions in memory; what takes of four items come to -/
import Derived.Test.YtlfccoakodnbaaaAwake
import Derived.Test.YtlfccoakodnbaaaLine
namespace Go.Proofs.Ytlfccoakodnbaaa
set_option linter.unusedVariables false
open Go.RowKit Go.Sort
set_option maxRecDepth 100000

theorem tRun_end {lim : Nat} {l : List UInt8} : ∀ st : TS, ¬ tGo lim l (tRun lim l st) := by
  intro st
  induction st using (tRun.induct lim l) with
  | case1 st h ih => rw [tRun_go h]; exact ih
  | case2 st h => rw [tRun_stop h]; exact h
structure WaitAt (l : List UInt8) (i U : Nat) (G : Bool) (ks : List Key) : Prop where
  all : tRun (l.length + 1) l ⟨0, false, []⟩ = tRun (l.length + 1) l ⟨U, G, ks⟩
  ok : TSok l ⟨U, G, ks⟩
  far : 4 * i ≤ U ∨ (fParse (l.drop U)).ok = false
theorem WaitAt.start (l : List UInt8) : WaitAt l 0 0 false [] := ⟨rfl, ⟨by simp, by simp⟩, .inl (Nat.le_refl _)⟩
theorem WaitAt.next {l : List UInt8} {i U : Nat} {G : Bool} {ks : List Key} (h : WaitAt l i U G ks) {st : TS} (hst : tRun 4 (l.drop U) ⟨0, G, []⟩ = st) : WaitAt l (i + 1) (U + st.used) st.garb (ks ++ st.keys) := by
  have hs := tRun_shift 4 l U ks ⟨0, G, []⟩
  rw [hst] at hs
  have e0 : TS.shift U ks ⟨0, G, []⟩ = ⟨U, G, ks⟩ := by simp [TS.shift]
  rw [e0] at hs
  obtain ⟨q1, q2⟩ := tRun_through (l.length + 1) (ks.length + 4) l (Nat.lt_succ_self _) ⟨U, G, ks⟩ h.ok
  rw [hs] at q1 q2
  refine ⟨h.all.trans q2, q1, ?_⟩
  have hend := tRun_end (lim := 4) (l := l.drop U) ⟨0, G, []⟩
  have hok := (tRun_through ((l.drop U).length + 1) 4 (l.drop U) (Nat.lt_succ_self _) ⟨0, G, []⟩ ⟨by simp, by simp⟩).1
  rw [hst] at hend hok
  have hlim := tRun_len 4 (l.drop U) ⟨0, G, []⟩ (by simp)
  rw [hst] at hlim
  by_cases ho : (fParse ((l.drop U).drop st.used)).ok = true
  · have h4 : ¬ st.keys.length < 4 := fun q => hend ⟨q, ho⟩
    have hk := hok.1
    rcases h.far with f | f
    · left; omega
    · right
      rw [List.drop_drop] at ho
      have hno : ¬ tGo 4 (l.drop U) ⟨0, G, []⟩ := fun q => by have := q.2; simp only [List.drop_zero] at this; rw [f] at this; cases this
      rw [tRun_stop hno] at hst
      rw [← hst] at h4
      simp at h4
  · right
    rw [List.drop_drop] at ho
    simpa using ho
theorem WaitAt.done {l : List UInt8} {i U : Nat} {G : Bool} {ks : List Key} (h : WaitAt l i U G ks) (hi : l.length < 4 * i) : allK l = ks := by
  have ho : (fParse (l.drop U)).ok = false := by
    rcases h.far with f | f
    · have := h.ok.2; simp only at this; omega
    · exact f
  unfold allK
  rw [h.all, tRun_stop (fun q => by have := q.2; simp only at this; rw [ho] at this; cases this)]
theorem WaitAt.bd {l : List UInt8} {i U : Nat} {G : Bool} {ks : List Key} (h : WaitAt l i U G ks) : ks.length ≤ l.length := by
  have h1 := h.ok.1
  have h2 := h.ok.2
  simp only at h1 h2
  omega
/-- what Take hands back of an open session -/
def TakO (d g : Bool) (l : List UInt8) (w : World) (e : Ending) (w' : World) : Prop :=
  ∃ (st : TS) (a' : Option Addr) (c' n' : Nat) (its : List It) (xa : Option Addr) (xc m : Nat), Hid (tRun 4 l ⟨0, g, []⟩ = st) ∧ Hid (n' = (l.drop st.used).length) ∧ Hid (m = its.length) ∧ Hid (its.map It.key = (if d then [(15, 0, [])] else []) ++ st.keys) ∧ m ≤ 5 ∧ (d = false → m ≤ 4) ∧
    e = .returned (.tuple #[.agg #[.bool true, .bool false, .slice a' n' c', .bool st.garb], .agg #[.bool true, .slice xa m xc]]) ∧
    Own w' w.heap.size 5 1 a' n' c' ((l.drop st.used).map encB) ∧ Own w' w.heap.size 49 3 xa m xc (itCells its) ∧ (∀ x ∈ its, Own w' 0 5 1 x.a x.pay.length x.c (x.pay.map encB)) ∧ Below w.heap.size w w'
theorem TakO.of {d g : Bool} {l : List UInt8} {w w' : World} {e : Ending} (h : TakS ⟨true, d, l, g⟩ w e w') : TakO d g l w e w' := by
  obtain ⟨T, a, c, n, its, xa, xc, m, hT, hn, hm, hk, he, own1, own2, pays, hb⟩ := h
  have hT := hT.out
  simp only [Ses.nxt, Ses.tk, if_true] at hT
  subst hT
  have hl := tRun_len 4 l ⟨0, g, []⟩ (by simp)
  have hk' : its.map It.key = (if d then [(15, 0, [])] else []) ++ (tRun 4 l ⟨0, g, []⟩).keys := by have := hk.out; simpa only [Ses.inp, Ses.tk, if_true] using this
  have hlen := congrArg List.length hk'
  rw [List.length_map, List.length_append] at hlen
  have hm' := hm.out
  refine ⟨_, a, c, n, its, xa, xc, m, Lib.hid rfl, hn, hm, Lib.hid hk', ?_, ?_, he, own1, own2, pays, hb⟩
  · cases d <;> simp at hlen <;> omega
  · rintro rfl
    simp at hlen
    omega
theorem inbox_TakeO (d g : Bool) (l : List UInt8) (a : Option Addr) (n c : Nat) (w : World) (h : SAt w l a n c) :
    Calls Try.prog 11 #[.agg #[.bool true, .bool d, .slice a n c, .bool g]] w (TakO d g l w) := (inbox_Take true d g l a n c w h).mono fun _ _ h => TakO.of h
/-- a session's buffer -/
structure SOwn (w : World) (l : List UInt8) (a : Option Addr) (n c : Nat) : Prop where
  own : Own w 0 5 1 a n c (l.map encB)
  len : n = l.length
  small : n ≤ 1000000
theorem SOwn.at {w : World} {l : List UInt8} {a : Option Addr} {n c : Nat} (h : SOwn w l a n c) : SAt w l a n c := ⟨h.own.byt, h.len, h.own.cap_le, fun e => h.own.none_len e, h.small⟩
theorem SOwn.below {w w' : World} {l : List UInt8} {a : Option Addr} {n c B : Nat} (h : SOwn w l a n c) (hb : Below B w w') (hB : w.heap.size ≤ B) : SOwn w' l a n c := ⟨h.own.below hb hB, h.len, h.small⟩
/-- a session in its block, and the items so far -/
structure WtM (w W : World) (J : Nat) (la : Option Addr) (l : List UInt8) (G : Bool) (sb : List UInt8) (sa : Option Addr) (sn sc : Nat) (its : List It) (xa : Option Addr) (xc : Nat) : Prop where
  blk : Blk W J 30 #[.bool true, .bool false, .slice sa sn sc, .bool G]
  ses : SOwn W sb sa sn sc
  own : Own W (J + 1) 49 3 xa its.length xc (itCells its)
  pays : ∀ x ∈ its, Own W 0 5 1 x.a x.pay.length x.c (x.pay.map encB)
  byt : Byt W la l
  be : Below w.heap.size w W
  sz : w.heap.size ≤ J
theorem WtM.below {w W W' : World} {J : Nat} {la : Option Addr} {l : List UInt8} {G : Bool} {sb : List UInt8} {sa : Option Addr} {sn sc : Nat} {its : List It} {xa : Option Addr} {xc : Nat} (h : WtM w W J la l G sb sa sn sc its xa xc) (hb : Below W.heap.size W W') : WtM w W' J la l G sb sa sn sc its xa xc :=
  ⟨h.blk.below hb h.blk.lt, h.ses.below hb (Nat.le_refl _), h.own.below hb (Nat.le_refl _), fun x hx => (h.pays x hx).below hb (Nat.le_refl _), h.byt.below hb (Nat.le_refl _), h.be.trans (hb.mono h.be.size), h.sz⟩
end Go.Proofs.Ytlfccoakodnbaaa
