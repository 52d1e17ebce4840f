/- A region that draws its order, operation by operation: each operation's result is known up to a predicate over values, the blocks that it made, and the world; an operation may look at its forerunners alone. No program in sight. -/
import Derived.Test.YtgngmmmdhhjbhaaLib
import Derived.Orders
import Derived.BigCall
namespace Go.Proofs.Ytgngmmmdhhjbhaa
open Go.RowKit

abbrev Psi := (Nat → Value) → (Nat → Nat) → (Nat → Nat) → Value → Nat → Nat → World → Prop
/-- T: all forerunners; U: those that are looked at; V: those of them of which something is known still; W: those whose blocks may be written -/
structure RDat where
  T : List Nat
  U : List Nat
  V : List Nat
  W : List Nat
deriving Inhabited
/-- what is known of an operation's value whatever is written later -/
def kVal (c : Value) : Value → Prop := fun v => v = c
def kTrue : Value → Prop := fun _ => True
def psiTrue : Psi := fun _ _ _ _ _ _ _ => True

def msk {α : Type} (D : List Nat) (d : α) (f : Nat → α) : Nat → α := fun k => bif D.elem k then f k else d
theorem msk_at {α : Type} {D : List Nat} {d : α} {f : Nat → α} {k : Nat} (h : D.elem k = true) : msk D d f k = f k := by unfold msk; rw [h]; rfl
def upd {α : Type} (f : Nat → α) (i : Nat) (v : α) : Nat → α := fun k => if k = i then v else f k

def oblUpon (P : Program) (R : Value → World → Prop) : Result Next → Prop
  | .ok (.value v) w' => R v w'
  | .ok .skip w' => R undef w'
  | .ok (.enter f args) w' => Calls P f args w' fun e w'' => ∃ v, e = .returned v ∧ R v w''
  | _ => False

attribute [go_sem] oblUpon

def boolOf : Value → Option Bool
  | .bool b => some b
  | _ => none

def envOf (ds : List (Option Tmp)) (U : List Nat) (f : Nat → Value) (a : Act) : Act := U.foldl (fun a j => a.put (ds.getD j none) (f j)) a

/-- what an operation's operands are, the frame not laid out anew -/
def lkOf (ds : List (Option Tmp)) (f : Nat → Value) (t : Tmp) (d : Value) : List Nat → Value
  | [] => d
  | j :: U => if ds.getD j none = some t then f j else lkOf ds f t d U
def evOf (ds : List (Option Tmp)) (U : List Nat) (f : Nat → Value) (a : Act) : Operand → Value
  | .tmp t => lkOf ds f t (a.tmps.getD t undef) U
  | .const v => v
  | .global g => .pointer (some ⟨g, 0, none⟩)
  | .func g => .func (.func g) #[] #[]

attribute [go_sem] evOf lkOf List.getD_cons_zero List.getD_cons_succ Option.some.injEq kVal kTrue psiTrue msk_at and_true true_and

@[go_sem ↓] theorem execOp_call_any (dst : Option Tmp) (g : FuncId) (xs : Array Operand) (ats : Array TypeId) (ty : TypeId) (pos : String) (after : Array Edge) (guard : Option (Nat × Bool)) (ds : List (Option Tmp)) (U : List Nat) (f : Nat → Value) (a : Act) :
    execOp (evOf ds U f a) { dst, op := .call { callee := .value (.func g), args := xs, argTypes := ats }, type := ty, pos, after, guard } = callFunc g (#[] ++ xs.map (evOf ds U f a) ++ #[]) := rfl

attribute [go_sem] envOf List.foldl_cons List.foldl_nil
/-- blocks may have been made, and of the old ones those may have been written that lie in one of the ranges -/
def Touch (W : List Nat) (lo hi : Nat → Nat) (w w' : World) : Prop := w'.os = w.os ∧ w'.tape = w.tape ∧ w'.output = w.output ∧ w.heap.size ≤ w'.heap.size ∧ ∀ b, b < w.heap.size → (∀ k ∈ W, ¬ (lo k ≤ b ∧ b < hi k)) → w'.heap[b]? = w.heap[b]?
theorem Touch.of_below {W : List Nat} {lo hi : Nat → Nat} {w w' : World} (h : Below w.heap.size w w') : Touch W lo hi w w' := ⟨h.os, h.tape, h.output, h.size, fun b hb _ => h.block b hb⟩
theorem Touch.set {W : List Nat} {lo hi : Nat → Nat} (w : World) {b k : Nat} (hk : k ∈ W) (h1 : lo k ≤ b) (h2 : b < hi k) (o : Nat) (u : Value) : Touch W lo hi w (w.setCell ⟨b, o, none⟩ u) :=
  ⟨rfl, rfl, rfl, by simp [World.setCell], fun x _ hx => Below.heap_setCell w ⟨b, o, none⟩ u x (fun e => hx k hk (by simp only at e; omega))⟩
theorem Touch.trans {W : List Nat} {lo hi : Nat → Nat} {a b c : World} (h : Touch W lo hi a b) (g : Touch W lo hi b c) : Touch W lo hi a c :=
  ⟨g.1.trans h.1, g.2.1.trans h.2.1, g.2.2.1.trans h.2.2.1, Nat.le_trans h.2.2.2.1 g.2.2.2.1, fun k hk hx => (g.2.2.2.2 k (Nat.lt_of_lt_of_le hk h.2.2.2.1) hx).trans (h.2.2.2.2 k hk hx)⟩

theorem Blk.eight {w : World} {g : Nat} {t : TypeId} {a b c d e f h i : Value} (k : Blk w g t #[a, b, c, d, e, f, h, i]) : w.cell? ⟨g, 0, none⟩ = some a ∧ w.cell? ⟨g, 1, none⟩ = some b ∧ w.cell? ⟨g, 2, none⟩ = some c ∧ w.cell? ⟨g, 3, none⟩ = some d ∧ w.cell? ⟨g, 4, none⟩ = some e ∧ w.cell? ⟨g, 5, none⟩ = some f ∧ w.cell? ⟨g, 6, none⟩ = some h ∧ w.cell? ⟨g, 7, none⟩ = some i :=
  ⟨k.cell 0, k.cell 1, k.cell 2, k.cell 3, k.cell 4, k.cell 5, k.cell 6, k.cell 7⟩
theorem Touch.set2 {W : List Nat} {lo hi : Nat → Nat} (w : World) {b k : Nat} (hk : k ∈ W) (h1 : lo k ≤ b) (h2 : b < hi k) (v0 v1 : Value) : Touch W lo hi w ((w.setCell ⟨b, 0, none⟩ v0).setCell ⟨b, 1, none⟩ v1) :=
  (Touch.set w hk h1 h2 0 v0).trans (Touch.set _ hk h1 h2 1 v1)
theorem Touch.set3 {W : List Nat} {lo hi : Nat → Nat} (w : World) {b k : Nat} (hk : k ∈ W) (h1 : lo k ≤ b) (h2 : b < hi k) (v0 v1 v2 : Value) : Touch W lo hi w (((w.setCell ⟨b, 0, none⟩ v0).setCell ⟨b, 1, none⟩ v1).setCell ⟨b, 2, none⟩ v2) :=
  ((Touch.set w hk h1 h2 0 v0).trans (Touch.set _ hk h1 h2 1 v1)).trans (Touch.set _ hk h1 h2 2 v2)
theorem Touch.set5 {W : List Nat} {lo hi : Nat → Nat} (w : World) {b k : Nat} (hk : k ∈ W) (h1 : lo k ≤ b) (h2 : b < hi k) (v0 v1 v2 v3 v4 : Value) : Touch W lo hi w (((((w.setCell ⟨b, 0, none⟩ v0).setCell ⟨b, 1, none⟩ v1).setCell ⟨b, 2, none⟩ v2).setCell ⟨b, 3, none⟩ v3).setCell ⟨b, 4, none⟩ v4) :=
  ((((Touch.set w hk h1 h2 0 v0).trans (Touch.set _ hk h1 h2 1 v1)).trans (Touch.set _ hk h1 h2 2 v2)).trans (Touch.set _ hk h1 h2 3 v3)).trans (Touch.set _ hk h1 h2 4 v4)
theorem Touch.set8 {W : List Nat} {lo hi : Nat → Nat} (w : World) {b k : Nat} (hk : k ∈ W) (h1 : lo k ≤ b) (h2 : b < hi k) (v0 v1 v2 v3 v4 v5 v6 v7 : Value) : Touch W lo hi w ((((((((w.setCell ⟨b, 0, none⟩ v0).setCell ⟨b, 1, none⟩ v1).setCell ⟨b, 2, none⟩ v2).setCell ⟨b, 3, none⟩ v3).setCell ⟨b, 4, none⟩ v4).setCell ⟨b, 5, none⟩ v5).setCell ⟨b, 6, none⟩ v6).setCell ⟨b, 7, none⟩ v7) :=
  (((((((Touch.set w hk h1 h2 0 v0).trans (Touch.set _ hk h1 h2 1 v1)).trans (Touch.set _ hk h1 h2 2 v2)).trans (Touch.set _ hk h1 h2 3 v3)).trans (Touch.set _ hk h1 h2 4 v4)).trans (Touch.set _ hk h1 h2 5 v5)).trans (Touch.set _ hk h1 h2 6 v6)).trans (Touch.set _ hk h1 h2 7 v7)
theorem Blk.set2 {w : World} {b : Nat} {t : TypeId} {u0 u1 : Value} (h : Blk w b t #[u0, u1]) (v0 v1 : Value) : Blk ((w.setCell ⟨b, 0, none⟩ v0).setCell ⟨b, 1, none⟩ v1) b t #[v0, v1] := ((h.set 0 v0).set 1 v1)
theorem Blk.set3 {w : World} {b : Nat} {t : TypeId} {u0 u1 u2 : Value} (h : Blk w b t #[u0, u1, u2]) (v0 v1 v2 : Value) : Blk (((w.setCell ⟨b, 0, none⟩ v0).setCell ⟨b, 1, none⟩ v1).setCell ⟨b, 2, none⟩ v2) b t #[v0, v1, v2] := (((h.set 0 v0).set 1 v1).set 2 v2)
theorem Blk.set8 {w : World} {b : Nat} {t : TypeId} {u0 u1 u2 u3 u4 u5 u6 u7 : Value} (h : Blk w b t #[u0, u1, u2, u3, u4, u5, u6, u7]) (v0 v1 v2 v3 v4 v5 v6 v7 : Value) : Blk ((((((((w.setCell ⟨b, 0, none⟩ v0).setCell ⟨b, 1, none⟩ v1).setCell ⟨b, 2, none⟩ v2).setCell ⟨b, 3, none⟩ v3).setCell ⟨b, 4, none⟩ v4).setCell ⟨b, 5, none⟩ v5).setCell ⟨b, 6, none⟩ v6).setCell ⟨b, 7, none⟩ v7) b t #[v0, v1, v2, v3, v4, v5, v6, v7] := by
  have h0 : Blk (w.setCell ⟨b, 0, none⟩ v0) b t #[v0, u1, u2, u3, u4, u5, u6, u7] := h.set 0 v0
  have h1 : Blk ((w.setCell ⟨b, 0, none⟩ v0).setCell ⟨b, 1, none⟩ v1) b t #[v0, v1, u2, u3, u4, u5, u6, u7] := h0.set 1 v1
  have h2 : Blk (((w.setCell ⟨b, 0, none⟩ v0).setCell ⟨b, 1, none⟩ v1).setCell ⟨b, 2, none⟩ v2) b t #[v0, v1, v2, u3, u4, u5, u6, u7] := h1.set 2 v2
  have h3 : Blk ((((w.setCell ⟨b, 0, none⟩ v0).setCell ⟨b, 1, none⟩ v1).setCell ⟨b, 2, none⟩ v2).setCell ⟨b, 3, none⟩ v3) b t #[v0, v1, v2, v3, u4, u5, u6, u7] := h2.set 3 v3
  have h4 : Blk (((((w.setCell ⟨b, 0, none⟩ v0).setCell ⟨b, 1, none⟩ v1).setCell ⟨b, 2, none⟩ v2).setCell ⟨b, 3, none⟩ v3).setCell ⟨b, 4, none⟩ v4) b t #[v0, v1, v2, v3, v4, u5, u6, u7] := h3.set 4 v4
  have h5 : Blk ((((((w.setCell ⟨b, 0, none⟩ v0).setCell ⟨b, 1, none⟩ v1).setCell ⟨b, 2, none⟩ v2).setCell ⟨b, 3, none⟩ v3).setCell ⟨b, 4, none⟩ v4).setCell ⟨b, 5, none⟩ v5) b t #[v0, v1, v2, v3, v4, v5, u6, u7] := h4.set 5 v5
  have h6 : Blk (((((((w.setCell ⟨b, 0, none⟩ v0).setCell ⟨b, 1, none⟩ v1).setCell ⟨b, 2, none⟩ v2).setCell ⟨b, 3, none⟩ v3).setCell ⟨b, 4, none⟩ v4).setCell ⟨b, 5, none⟩ v5).setCell ⟨b, 6, none⟩ v6) b t #[v0, v1, v2, v3, v4, v5, v6, u7] := h5.set 6 v6
  have h7 : Blk ((((((((w.setCell ⟨b, 0, none⟩ v0).setCell ⟨b, 1, none⟩ v1).setCell ⟨b, 2, none⟩ v2).setCell ⟨b, 3, none⟩ v3).setCell ⟨b, 4, none⟩ v4).setCell ⟨b, 5, none⟩ v5).setCell ⟨b, 6, none⟩ v6).setCell ⟨b, 7, none⟩ v7) b t #[v0, v1, v2, v3, v4, v5, v6, v7] := h6.set 7 v7
  exact h7
/-- the old blocks but those that the region may write (each range from its first on, below its second) -/
theorem touch_grown {W : List Nat} {lo hi : Nat → Nat} {w w' : World} {p n : Nat} (h : w.grownBy w' (some p)) (hn : n ∈ W) (h1 : lo n = p) (h2 : hi n = p + 1) : Touch W lo hi w w' :=
  ⟨h.os, h.tape, h.output, h.size, fun b hb hx => h.block b hb fun e => hx n hn (by injection e with e; omega)⟩
def Base (W0 : World) (xr : List (Nat × Nat)) (b : Nat) : Prop := b < W0.heap.size ∧ ∀ r ∈ xr, ¬ (r.1 ≤ b ∧ b < r.2)
def BelX (W0 : World) (xr : List (Nat × Nat)) (w : World) : Prop := w.os = W0.os ∧ w.tape = W0.tape ∧ w.output = W0.output ∧ W0.heap.size ≤ w.heap.size ∧ ∀ b, Base W0 xr b → w.heap[b]? = W0.heap[b]?
theorem BelX.zero {W0 w : World} (h : BelX W0 [] w) : Below W0.heap.size W0 w := ⟨h.1, h.2.1, h.2.2.1, h.2.2.2.1, fun k hk => h.2.2.2.2 k ⟨hk, by simp⟩⟩
theorem BelX.blk {W0 w : World} {xr : List (Nat × Nat)} (h : BelX W0 xr w) {g : Nat} {t : TypeId} {cs : Array Value} (k : Blk W0 g t cs) (hne : ∀ r ∈ xr, ¬ (r.1 ≤ g ∧ g < r.2)) : Blk w g t cs := (h.2.2.2.2 g ⟨k.lt, hne⟩).trans k
theorem BelX.row {W0 w : World} {xr : List (Nat × Nat)} (h : BelX W0 xr w) {a : Option Addr} {xs : List Value} (k : Row W0 a xs) (hne : ∀ b, a.map (·.block) = some b → ∀ r ∈ xr, ¬ (r.1 ≤ b ∧ b < r.2)) : Row w a xs := k.keep fun b off e hlt => h.2.2.2.2 b ⟨hlt, hne b (by rw [e]; rfl)⟩
theorem BelX.own {W0 w : World} {xr : List (Nat × Nat)} (h : BelX W0 xr w) {base : Nat} {e : TypeId} {size n cap : Nat} {a : Option Addr} {xs : List Value} (k : Own W0 base e size a n cap xs) (hne : ∀ r ∈ xr, r.2 ≤ base) : Own w base e size a n cap xs := k.keep fun b _ hb hlt => h.2.2.2.2 b ⟨hlt, fun r hr => by have := hne r hr; omega⟩
theorem BelX.one {W0 w : World} {p : Nat} (h : BelX W0 [(p, p + 1)] w) : W0.grownBy w (some p) := ⟨h.1, h.2.1, h.2.2.1, h.2.2.2.1, fun k hk hne => h.2.2.2.2 k ⟨hk, fun r hr => by
  simp at hr
  subst hr
  exact fun hh => hne (by congr 1; omega)⟩⟩
/-- the ranges stand behind the operations' own, from number n on -/
def XOk (lo hi : Nat → Nat) : Nat → List (Nat × Nat) → Prop
  | _, [] => True
  | n, r :: rs => (lo n = r.1 ∧ hi n = r.2) ∧ XOk lo hi (n + 1) rs
def XDis (s : Nat) : List (Nat × Nat) → Prop
  | [] => True
  | r :: rs => (r.1 ≤ r.2 ∧ r.2 ≤ s) ∧ (∀ q ∈ rs, r.2 ≤ q.1 ∨ q.2 ≤ r.1) ∧ XDis s rs
def XFact (W : World) (ψs : List Psi) : Nat → List (Nat × Nat) → Prop
  | _, [] => True
  | n, r :: rs => (∀ f lo hi v, (ψs.getD n psiTrue) f lo hi v r.1 r.2 W) ∧ XFact W ψs (n + 1) rs
theorem XOk.get {lo hi : Nat → Nat} : ∀ (n : Nat) (xr : List (Nat × Nat)), XOk lo hi n xr → ∀ i r, xr[i]? = some r → lo (n + i) = r.1 ∧ hi (n + i) = r.2
  | _, [], _, i, r, h => by simp at h
  | n, q :: rs, h, 0, r, hr => by simp at hr; subst hr; exact h.1
  | n, q :: rs, h, i + 1, r, hr => by
    have := XOk.get (n + 1) rs h.2 i r (by simpa using hr)
    rwa [Nat.add_assoc, Nat.add_comm 1 i] at this
theorem XOk.mk {lo hi : Nat → Nat} : ∀ (n : Nat) (xr : List (Nat × Nat)), (∀ i r, xr[i]? = some r → lo (n + i) = r.1 ∧ hi (n + i) = r.2) → XOk lo hi n xr
  | _, [], _ => trivial
  | n, q :: rs, h => ⟨h 0 q rfl, XOk.mk (n + 1) rs fun i r hr => by
    have := h (i + 1) r (by simpa using hr)
    rwa [← Nat.add_assoc, Nat.add_right_comm] at this⟩
theorem XFact.get {W : World} {ψs : List Psi} : ∀ (n : Nat) (xr : List (Nat × Nat)), XFact W ψs n xr → ∀ i r, xr[i]? = some r → ∀ f lo hi v, (ψs.getD (n + i) psiTrue) f lo hi v r.1 r.2 W
  | _, [], _, i, r, h => by simp at h
  | n, q :: rs, h, 0, r, hr => by simp at hr; subst hr; exact h.1
  | n, q :: rs, h, i + 1, r, hr => by
    have := XFact.get (n + 1) rs h.2 i r (by simpa using hr)
    rwa [Nat.add_assoc, Nat.add_comm 1 i] at this
theorem XDis.get {s : Nat} : ∀ (xr : List (Nat × Nat)), XDis s xr → (∀ (i : Nat) (r : Nat × Nat), xr[i]? = some r → r.1 ≤ r.2 ∧ r.2 ≤ s) ∧ ∀ (i j : Nat) (r q : Nat × Nat), xr[i]? = some r → xr[j]? = some q → i ≠ j → r.2 ≤ q.1 ∨ q.2 ≤ r.1
  | [], _ => ⟨fun i r h => by simp at h, fun i j r q h => by simp at h⟩
  | p :: rs, h => by
    obtain ⟨g1, g2⟩ := XDis.get rs h.2.2
    refine ⟨fun i r hr => ?_, fun i j r q hr hq hne => ?_⟩
    · cases i with
      | zero => simp at hr; subst hr; exact h.1
      | succ i => exact g1 i r (by simpa using hr)
    · cases i with
      | zero => cases j with
        | zero => exact absurd rfl hne
        | succ j => simp at hr hq; subst hr; exact h.2.1 q (List.mem_of_getElem? hq)
      | succ i => cases j with
        | zero => simp at hr hq; subst hq; exact (h.2.1 r (List.mem_of_getElem? hr)).symm
        | succ j => exact g2 i j r q (by simpa using hr) (by simpa using hq) (fun e => hne (by rw [e]))
attribute [go_sem] XOk

section
variable (rows : List RDat) (ψs : List Psi) (f : Nat → Value) (lo hi : Nat → Nat)
def factAt (w : World) (j : Nat) : Prop := (ψs.getD j psiTrue) (msk (rows.getD j default).U undef f) (msk (rows.getD j default).U 0 lo) (msk (rows.getD j default).U 0 hi) (f j) (lo j) (hi j) w
def KFacts (ks : List (Value → Prop)) : List Nat → Prop
  | [] => True
  | j :: l => (ks.getD j kTrue) (f j) ∧ KFacts ks l
def Facts (w : World) : List Nat → Prop
  | [] => True
  | j :: l => factAt rows ψs f lo hi w j ∧ Facts w l
attribute [go_sem] Facts factAt KFacts
def RPost (ks : List (Value → Prop)) (i : Nat) (w : World) (v : Value) (w' : World) : Prop :=
  Touch (rows.getD i default).W lo hi w w' ∧ (ks.getD i kTrue) v ∧ (ψs.getD i psiTrue) (msk (rows.getD i default).U undef f) (msk (rows.getD i default).U 0 lo) (msk (rows.getD i default).U 0 hi) v w.heap.size w'.heap.size w'
end
theorem rpost_val {rows : List RDat} {ψs : List Psi} {ks : List (Value → Prop)} {f : Nat → Value} {lo hi : Nat → Nat} {i : Nat} {w w' : World} {v c : Value} (hk : ks.getD i kTrue = kVal c) (hψ : ψs.getD i psiTrue = psiTrue) (hb : Below w.heap.size w w') (hv : v = c) : RPost rows ψs f lo hi ks i w v w' := by
  unfold RPost
  rw [hψ, hk]
  exact ⟨.of_below hb, hv, trivial⟩
theorem rpost_none {rows : List RDat} {ψs : List Psi} {ks : List (Value → Prop)} {f : Nat → Value} {lo hi : Nat → Nat} {i : Nat} {w w' : World} {v : Value} (hk : ks.getD i kTrue = kTrue) (hb : Below w.heap.size w w')
    (h : (ψs.getD i psiTrue) (msk (rows.getD i default).U undef f) (msk (rows.getD i default).U 0 lo) (msk (rows.getD i default).U 0 hi) v w.heap.size w'.heap.size w') : RPost rows ψs f lo hi ks i w v w' := by
  unfold RPost
  rw [hk]
  exact ⟨.of_below hb, trivial, h⟩
theorem rpost_some {rows : List RDat} {ψs : List Psi} {ks : List (Value → Prop)} {f : Nat → Value} {lo hi : Nat → Nat} {i : Nat} {W : List Nat} {w w' : World} {v : Value} (hk : ks.getD i kTrue = kTrue) (hw : (rows.getD i default).W = W) (hb : Touch W lo hi w w')
    (h : (ψs.getD i psiTrue) (msk (rows.getD i default).U undef f) (msk (rows.getD i default).U 0 lo) (msk (rows.getD i default).U 0 hi) v w.heap.size w'.heap.size w') : RPost rows ψs f lo hi ks i w v w' := by
  unfold RPost
  rw [hk]
  exact ⟨hw ▸ hb, trivial, h⟩
theorem rpost_both {rows : List RDat} {ψs : List Psi} {ks : List (Value → Prop)} {f : Nat → Value} {lo hi : Nat → Nat} {i : Nat} {W : List Nat} {w w' : World} {v : Value} (hk : (ks.getD i kTrue) v) (hw : (rows.getD i default).W = W) (hb : Touch W lo hi w w')
    (h : (ψs.getD i psiTrue) (msk (rows.getD i default).U undef f) (msk (rows.getD i default).U 0 lo) (msk (rows.getD i default).U 0 hi) v w.heap.size w'.heap.size w') : RPost rows ψs f lo hi ks i w v w' := ⟨hw ▸ hb, hk, h⟩

def Obl (P : Program) (W0 : World) (xr : List (Nat × Nat)) (N : Nat) (a0 : Act) (ds : List (Option Tmp)) (rows : List RDat) (ψs : List Psi) (ks : List (Value → Prop)) (i : Nat) (o : Oper) : Prop :=
  ∀ f lo hi w, BelX W0 xr w → XOk lo hi N xr → Facts rows ψs f lo hi w (rows.getD i default).V → KFacts f ks (rows.getD i default).U → Hid (∀ j ∈ (rows.getD i default).T, (N ≤ j ∨ W0.heap.size ≤ lo j) ∧ lo j ≤ hi j ∧ hi j ≤ w.heap.size ∧ ∀ k ∈ (rows.getD i default).T, k ≠ j → hi k ≤ lo j ∨ hi j ≤ lo k) →
    ∀ R : Value → World → Prop, (∀ v w', RPost rows ψs f lo hi ks i w v w' → R v w') →
      match o.guard with
      | none => oblUpon P R ((execOp (evOf ds (rows.getD i default).U f a0) o).run P w)
      | some (j, b) => if boolOf (f j) = some b then oblUpon P R ((execOp (evOf ds (rows.getD i default).U f a0) o).run P w) else R undef w

def Obls (P : Program) (W0 : World) (xr : List (Nat × Nat)) (N : Nat) (a0 : Act) (ds : List (Option Tmp)) (rows : List RDat) (ψs : List Psi) (ks : List (Value → Prop)) : Nat → List Oper → Prop
  | _, [] => True
  | i, o :: os => Obl P W0 xr N a0 ds rows ψs ks i o ∧ Obls P W0 xr N a0 ds rows ψs ks (i + 1) os

/-- a predicate lives on as long as the old blocks, its own and those of what it looks at stay -/
def Closed (W0 : World) (xr : List (Nat × Nat)) (N : Nat) (U : List Nat) (ψ : Psi) : Prop :=
  ∀ f lo hi v l h w w', ψ f lo hi v l h w → w.heap.size ≤ w'.heap.size → (∀ b, Base W0 xr b → w'.heap[b]? = w.heap[b]?) → (∀ b, l ≤ b → b < h → w'.heap[b]? = w.heap[b]?) → (∀ m ∈ U, ∀ b, lo m ≤ b → b < hi m → w'.heap[b]? = w.heap[b]?) → (∀ i r, xr[i]? = some r → N + i ∈ U → ∀ b, r.1 ≤ b → b < r.2 → w'.heap[b]? = w.heap[b]?) → ψ f lo hi v l h w'
def Closeds (W0 : World) (xr : List (Nat × Nat)) (N : Nat) : List RDat → List Psi → Prop
  | r :: rs, ψ :: ψs => Closed W0 xr N r.U ψ ∧ Closeds W0 xr N rs ψs
  | _, _ => True
theorem Closed.true (W0 : World) (xr : List (Nat × Nat)) (N : Nat) (U : List Nat) : Closed W0 xr N U psiTrue := fun _ _ _ _ _ _ _ _ h _ _ _ _ _ => h

/-! the Bool over the region -/
def nodupB : List (Option Tmp) → Bool
  | [] => true
  | none :: l => nodupB l
  | some d :: l => !l.contains (some d) && nodupB l
def availB (n : Nat) (rows : List RDat) (j : Nat) (more : Nat → Bool) : Bool :=
  (List.range n).all fun t => (rows.getD t default).W.all fun k => !(k == j || (rows.getD j default).U.contains k) || t == j || (rows.getD j default).T.contains t || more t
def rowOk (ops : Array Oper) (ds : List (Option Tmp)) (rows : List RDat) (i : Nat) (o : Oper) : Bool :=
  let r := rows.getD i default
  (o.after.all fun e => !Region.binds .any e || e.on < i) &&
  (r.T.all fun j => (decide (ops.size ≤ j) && decide (j < rows.length)) || o.after.any fun e => Region.binds .any e && (e.on == j || (rows.getD e.on default).T.contains j)) &&
  (r.U.all fun j => r.T.contains j) && (r.V.all fun j => r.T.contains j) &&
  (match o.guard with | none => true | some (j, _) => r.T.contains j && ((ops[j]?).bind (·.dst)).isSome) &&
  (o.op.operands.all fun x => match x with
    | .tmp s => (List.range ops.size).all fun j => ds.getD j none != some s || r.U.contains j || j == i || (rows.getD j default).T.contains i
    | _ => true) &&
  (r.W.all fun k => r.T.contains k) &&
  (r.V.all fun j => availB ops.size rows j fun t => t == i || (rows.getD t default).T.contains i)
def regOk (ops : Array Oper) (M n0 kl : Nat) (ds : List (Option Tmp)) (rows : List RDat) (all F : List Nat) : Bool :=
  (ops.toList.map (·.dst) == ds) && rows.length == ops.size + M && Region.noSelect ops && nodupB ds && (all == List.range ops.size) &&
  (ds.all fun d => match d with | none => true | some s => decide (s < n0)) &&
  ((List.range ops.size).all fun i => match ops[i]? with | some o => rowOk ops ds rows i o | none => true) &&
  ((List.range M).all fun i => (rows.getD (ops.size + i) default).T.isEmpty && (rows.getD (ops.size + i) default).U.isEmpty && (rows.getD (ops.size + i) default).W.isEmpty) &&
  decide (kl ≤ ops.size) &&
  (F.all fun j => decide (j < rows.length) && availB ops.size rows j fun _ => false)

section
variable {P : Program} {ops : Array Oper} {Q : Exit → Act → World → Prop} {W0 : World} {xr : List (Nat × Nat)} {N : Nat} {a0 : Act} {ds : List (Option Tmp)} {rows : List RDat} {ψs : List Psi} {ks : List (Value → Prop)}

theorem Obls.get : ∀ (l : List Oper) (k : Nat), Obls P W0 xr N a0 ds rows ψs ks k l → ∀ i o, l[i]? = some o → Obl P W0 xr N a0 ds rows ψs ks (k + i) o
  | [], _, _, i, o, h => by simp at h
  | x :: l, k, h, 0, o, ho => by simp at ho; subst ho; exact h.1
  | x :: l, k, h, i + 1, o, ho => by
    have := Obls.get l (k + 1) h.2 i o (by simpa using ho)
    rwa [Nat.add_assoc, Nat.add_comm 1 i] at this
theorem Closeds.get : ∀ (rs : List RDat) (ps : List Psi), Closeds W0 xr N rs ps → ∀ i, i < rs.length → Closed W0 xr N (rs.getD i default).U (ps.getD i psiTrue)
  | [], _, _, i, h => by simp at h
  | r :: rs, [], _, i, _ => by simpa using Closed.true W0 xr N _
  | r :: rs, p :: ps, h, 0, _ => h.1
  | r :: rs, p :: ps, h, i + 1, hi => by simpa using Closeds.get rs ps h.2 i (by simpa using hi)

/-- what holds while the region goes on -/
structure RInv (P : Program) (ops : Array Oper) (W0 : World) (xr : List (Nat × Nat)) (a0 : Act) (ds : List (Option Tmp)) (rows : List RDat) (ψs : List Psi) (ks : List (Value → Prop)) (L : Nat → Prop) (f : Nat → Value) (lo hi : Nat → Nat) (a : Act) (w : World) : Prop where
  below : BelX W0 xr w
  exm : (∀ i, i < xr.length → L (ops.size + i)) ∧ XOk lo hi ops.size xr
  rng : ∀ j, L j → (ops.size ≤ j ∨ W0.heap.size ≤ lo j) ∧ lo j ≤ hi j ∧ hi j ≤ w.heap.size
  apart : ∀ i j, L i → L j → i ≠ j → hi i ≤ lo j ∨ hi j ≤ lo i
  shut : ∀ i, L i → ∀ j ∈ (rows.getD i default).T, L j
  facts : ∀ j, L j → (∀ t, L t → ∀ k ∈ (rows.getD t default).W, (k = j ∨ k ∈ (rows.getD j default).U) → t = j ∨ t ∈ (rows.getD j default).T) → factAt rows ψs f lo hi w j
  kfacts : ∀ j, L j → j < ops.size → (ks.getD j kTrue) (f j)
  size : a.tmps.size = a0.tmps.size
  defers : a.defers = a0.defers
  put : ∀ j, L j → ∀ s, ds.getD j none = some s → s < a0.tmps.size → a.tmps[s]? = some (f j)
  keep : ∀ s, (∀ j, L j → ds.getD j none ≠ some s) → a.tmps[s]? = a0.tmps[s]?

theorem msk_upd {α : Type} {D : List Nat} {d v : α} {g : Nat → α} {i : Nat} (h : i ∉ D) : msk D d (upd g i v) = msk D d g := by
  funext k
  unfold msk upd
  by_cases hk : k ∈ D
  · have : k ≠ i := fun e => h (e ▸ hk)
    simp [this]
  · have : D.elem k = false := by simpa using hk
    simp only [this, cond_false]

theorem factAt_upd {f : Nat → Value} {lo hi : Nat → Nat} {w : World} {i j : Nat} {v : Value} {x y : Nat} (hij : j ≠ i) (h : i ∉ (rows.getD j default).U) :
    factAt rows ψs (upd f i v) (upd lo i x) (upd hi i y) w j ↔ factAt rows ψs f lo hi w j := by
  unfold factAt
  rw [msk_upd h, msk_upd h, msk_upd h]
  simp only [upd, if_neg hij]
theorem factAt_self {f : Nat → Value} {lo hi : Nat → Nat} {w : World} {i : Nat} {v : Value} {x y : Nat} (h : i ∉ (rows.getD i default).U) :
    factAt rows ψs (upd f i v) (upd lo i x) (upd hi i y) w i ↔ (ψs.getD i psiTrue) (msk (rows.getD i default).U undef f) (msk (rows.getD i default).U 0 lo) (msk (rows.getD i default).U 0 hi) v x y w := by
  unfold factAt
  rw [msk_upd h, msk_upd h, msk_upd h]
  simp only [upd, if_true]

theorem facts_of {L : Nat → Prop} {f : Nat → Value} {lo hi : Nat → Nat} {w : World} : ∀ U : List Nat, (∀ j ∈ U, factAt rows ψs f lo hi w j) → Facts rows ψs f lo hi w U
  | [], _ => trivial
  | j :: U, h => ⟨h j (by simp), facts_of (L := L) U fun m hm => h m (by simp [hm])⟩

theorem kfacts_of {f : Nat → Value} : ∀ U : List Nat, (∀ j ∈ U, (ks.getD j kTrue) (f j)) → KFacts f ks U
  | [], _ => trivial
  | j :: U, h => ⟨h j (by simp), kfacts_of U fun m hm => h m (by simp [hm])⟩

theorem availB_spec {n : Nat} {j : Nat} {more : Nat → Bool} (h : availB n rows j more = true) (t : Nat) (ht : t < n) (k : Nat) (hW : k ∈ (rows.getD t default).W) (hk : k = j ∨ k ∈ (rows.getD j default).U) :
    t = j ∨ t ∈ (rows.getD j default).T ∨ more t = true := by
  unfold availB at h
  have h := List.all_eq_true.1 (List.all_eq_true.1 h t (List.mem_range.2 ht)) k hW
  simp only [Bool.or_eq_true, Bool.not_eq_true', beq_iff_eq, List.contains_iff_mem] at h
  rcases h with ((h | h) | h) | h
  · exfalso
    rw [Bool.or_eq_false_iff] at h
    rcases hk with hk | hk
    · simp [hk] at h
    · have := h.2
      rw [← Bool.not_eq_true, List.contains_iff_mem] at this
      exact this hk
  · exact .inl h
  · exact .inr (.inl h)
  · exact .inr (.inr h)

theorem envOf_size (f : Nat → Value) : ∀ (U : List Nat) (a : Act), (envOf ds U f a).tmps.size = a.tmps.size ∧ (envOf ds U f a).defers = a.defers
  | [], _ => ⟨rfl, rfl⟩
  | j :: U, a => by
    have h1 := envOf_size f U (a.put (ds.getD j none) (f j))
    show (envOf ds U f (a.put (ds.getD j none) (f j))).tmps.size = _ ∧ (envOf ds U f (a.put (ds.getD j none) (f j))).defers = _
    rw [h1.1, h1.2]
    cases ds.getD j none <;> simp [Act.put]
theorem repl_getD (n j : Nat) : (Array.replicate n false).getD j false = false := by
  by_cases h : j < n
  · simp [h]
  · simp [h]
theorem nodupB_spec : ∀ (l : List (Option Tmp)), nodupB l = true → ∀ i j s, l.getD i none = some s → l.getD j none = some s → i = j
  | [], _, i, j, s, h, _ => by simp at h
  | none :: l, hn, i, j, s, h1, h2 => by
    cases i with
    | zero => simp at h1
    | succ i => cases j with
      | zero => simp at h2
      | succ j => rw [nodupB_spec l hn i j s (by simpa using h1) (by simpa using h2)]
  | some d :: l, hn, i, j, s, h1, h2 => by
    simp only [nodupB, Bool.and_eq_true, Bool.not_eq_true'] at hn
    have hno : ∀ m, l.getD m none = some d → False := fun m hm => by
      have : l.contains (some d) = true := by
        rw [List.contains_iff_mem]
        have hlt : m < l.length := by
          rcases Nat.lt_or_ge m l.length with h | h
          · exact h
          · simp [List.getElem?_eq_none h] at hm
        have : l[m] = some d := by simpa [hlt] using hm
        rw [← this]; exact List.getElem_mem hlt
      rw [hn.1] at this
      cases this
    cases i with
    | zero => cases j with
      | zero => rfl
      | succ j => simp at h1; subst h1; exact (hno j (by simpa using h2)).elim
    | succ i => cases j with
      | zero => simp at h2; subst h2; exact (hno i (by simpa using h1)).elim
      | succ j => rw [nodupB_spec l hn.2 i j s (by simpa using h1) (by simpa using h2)]
theorem envOf_keep (s : Tmp) (f : Nat → Value) : ∀ (U : List Nat) (a : Act), (∀ j ∈ U, ds.getD j none ≠ some s) → (envOf ds U f a).tmps[s]? = a.tmps[s]?
  | [], _, _ => rfl
  | j :: U, a, h => by
    have h1 := h j (by simp)
    show (envOf ds U f (a.put (ds.getD j none) (f j))).tmps[s]? = _
    rw [envOf_keep s f U _ fun m hm => h m (by simp [hm])]
    revert h1
    cases ds.getD j none with
    | none => intro _; rfl
    | some d =>
      intro h1
      have : d ≠ s := fun e => h1 (by rw [e])
      simp [Act.put, Array.getElem?_setIfInBounds_ne this]
theorem envOf_put (hn : nodupB ds = true) (s : Tmp) (f : Nat → Value) (j : Nat) (hj : ds.getD j none = some s) : ∀ (U : List Nat) (a : Act), j ∈ U → s < a.tmps.size → (envOf ds U f a).tmps[s]? = some (f j)
  | [], _, h, _ => by simp at h
  | m :: U, a, h, hs => by
    show (envOf ds U f (a.put (ds.getD m none) (f m))).tmps[s]? = _
    by_cases hm : j ∈ U
    · refine envOf_put hn s f j hj U _ hm ?_
      cases ds.getD m none <;> simpa [Act.put] using hs
    · have e : m = j := by simp [hm] at h; exact h.symm
      subst e
      rw [envOf_keep s f U _ fun x hx hd => hm (nodupB_spec ds hn x m s hd hj ▸ hx), hj]
      simp [Act.put, hs]

theorem lkOf_keep (s : Tmp) (f : Nat → Value) (d : Value) : ∀ (U : List Nat), (∀ j ∈ U, ds.getD j none ≠ some s) → lkOf ds f s d U = d
  | [], _ => rfl
  | j :: U, h => by
    have h1 := h j (by simp)
    unfold lkOf
    rw [if_neg h1]
    exact lkOf_keep s f d U fun m hm => h m (by simp [hm])
theorem lkOf_put (hn : nodupB ds = true) (s : Tmp) (f : Nat → Value) (d : Value) (j : Nat) (hj : ds.getD j none = some s) : ∀ (U : List Nat), j ∈ U → lkOf ds f s d U = f j
  | [], h => by simp at h
  | m :: U, h => by
    unfold lkOf
    by_cases hc : ds.getD m none = some s
    · rw [if_pos hc, nodupB_spec ds hn m j s hc hj]
    · have hne : j ≠ m := fun e => hc (e ▸ hj)
      rw [if_neg hc]
      exact lkOf_put hn s f d j hj U (by simpa [hne] using h)

theorem put_same {a b : Act} {d : Option Tmp} {u v : Value} (hs : a.tmps.size = b.tmps.size) (h : a.put d u = a.put d v) : b.put d u = b.put d v := by
  cases d with
  | none => rfl
  | some d =>
    by_cases hd : d < a.tmps.size
    · have h1 : (a.put (some d) u).tmps[d]? = (a.put (some d) v).tmps[d]? := by rw [h]
      simp [Act.put, hd] at h1
      rw [h1]
    · have hd' : b.tmps.size ≤ d := hs ▸ Nat.le_of_not_lt hd
      simp [Act.put, Array.setIfInBounds_eq_of_size_le hd']

theorem wp_of_obl {o : Oper} {a : Act} {w : World} {K : Act → World → Prop} {R : Value → World → Prop} (h : oblUpon P R ((execOp a.eval o).run P w)) (hK : ∀ v w', R v w' → K (a.put o.dst v) w') : o.wp P a w K Q := by
  unfold Oper.wp
  generalize (execOp a.eval o).run P w = r at *
  cases r with
  | ok n w' =>
    cases n <;> simp only [oblUpon] at h <;> simp only [Oper.upon]
    case value => exact hK _ _ h
    case skip => exact hK _ _ h
    case enter =>
      refine h.mono fun e w'' hv => ?_
      obtain ⟨v, rfl, hv⟩ := hv
      exact hK _ _ hv
  | halt x w' => simp only [oblUpon] at h

theorem Touch.below {W : List Nat} {lo hi : Nat → Nat} {w w' W0 : World} {n : Nat} (h : Touch W lo hi w w') (hb : BelX W0 xr w) (hlo : ∀ k ∈ W, (∃ i, i < xr.length ∧ k = n + i) ∨ W0.heap.size ≤ lo k) (hn : XOk lo hi n xr) : BelX W0 xr w' :=
  ⟨h.1.trans hb.1, h.2.1.trans hb.2.1, h.2.2.1.trans hb.2.2.1, Nat.le_trans hb.2.2.2.1 h.2.2.2.1, fun k hk => by
    have hk' := hk
    obtain ⟨h1, h2⟩ := hk'
    have := hb.2.2.2.1
    rw [h.2.2.2.2 k (by omega) fun m hm => by
      rcases hlo m hm with ⟨i, hi, e⟩ | e
      · obtain ⟨e1, e2⟩ := XOk.get n xr hn i xr[i] (by simp [hi])
        rw [e, e1, e2]
        exact h2 _ (List.getElem_mem hi)
      · omega]; exact hb.2.2.2.2 k hk⟩

/-- one operation, in whatever order -/
theorem RInv.step {n0 : Nat} {all F : List Nat} (hok : regOk ops xr.length n0 ks.length ds rows all F = true) (hn0 : n0 = a0.tmps.size) (hcl : Closeds W0 xr ops.size rows ψs) (hob : Obls P W0 xr ops.size a0 ds rows ψs ks 0 ops.toList)
    {L : Nat → Prop} {f : Nat → Value} {lo hi : Nat → Nat} {a : Act} {w : World} (I : RInv P ops W0 xr a0 ds rows ψs ks L f lo hi a w) (hLn : ∀ j, L j → j < ops.size + xr.length) {i : Nat} {o : Oper} (ho : ops[i]? = some o) (hi' : ¬ L i)
    (hr : ∀ e ∈ o.after, Region.binds .any e = true → L e.on) {K : Act → World → Prop}
    (hK : ∀ f' lo' hi' a' w', RInv P ops W0 xr a0 ds rows ψs ks (fun j => L j ∨ j = i) f' lo' hi' a' w' → K a' w') : wpOp P ops Q i K a w := by
  have hil : i < ops.size := (Array.getElem?_eq_some_iff.1 ho).1
  have hpse : ∀ j, ops.size ≤ j → j < ops.size + xr.length → ∃ i, i < xr.length ∧ j = ops.size + i := fun j h1 h2 => ⟨j - ops.size, by omega, by omega⟩
  simp only [regOk, Bool.and_eq_true, beq_iff_eq, List.all_eq_true, List.mem_range] at hok
  obtain ⟨⟨⟨⟨⟨⟨⟨⟨⟨hds, hlen⟩, hsel⟩, hnd⟩, hall⟩, hdlt⟩, hrow⟩, hxE⟩, hkl⟩, hF⟩ := hok
  have hri := hrow i hil
  rw [ho] at hri
  simp only [rowOk, Bool.and_eq_true] at hri
  obtain ⟨⟨⟨⟨⟨⟨⟨hedge, hT⟩, hUT⟩, hVT⟩, hgd⟩, hlook⟩, hW⟩, hav⟩ := hri
  have hdst : ds.getD i none = o.dst := by rw [← hds]; simp [ho]
  have hdl : ∀ j s, ds.getD j none = some s → j < ops.size := fun j s h => by
    rcases Nat.lt_or_ge j ops.size with h1 | h1
    · exact h1
    · rw [← hds] at h
      simp [Array.getElem?_eq_none h1] at h
  -- all forerunners are done
  have hTL : ∀ j ∈ (rows.getD i default).T, L j := fun j hj => by
    have := List.all_eq_true.1 hT j hj
    simp only [Bool.or_eq_true, Bool.and_eq_true, decide_eq_true_eq] at this
    rcases this with this | this
    · obtain ⟨m, hm, e⟩ := hpse j this.1 (by omega)
      rw [e]; exact I.exm.1 m hm
    obtain ⟨e, he, hb⟩ := Array.any_eq_true'.1 this
    simp only [Bool.and_eq_true, Bool.or_eq_true, beq_iff_eq, List.contains_iff_mem] at hb
    have hL := hr e he hb.1
    rcases hb.2 with h | h
    · exact h ▸ hL
    · exact I.shut _ hL _ h
  have hUT' : ∀ j ∈ (rows.getD i default).U, j ∈ (rows.getD i default).T := fun j hj => by
    have := List.all_eq_true.1 hUT j hj
    rwa [List.contains_iff_mem] at this
  have hUL : ∀ j ∈ (rows.getD i default).U, L j := fun j hj => hTL j (hUT' j hj)
  have hVL : ∀ j ∈ (rows.getD i default).V, L j := fun j hj => hTL j (by
    have := List.all_eq_true.1 hVT j hj
    rwa [List.contains_iff_mem] at this)
  have hUi : i ∉ (rows.getD i default).U := fun h => hi' (hUL i h)
  have hno : ∀ j, L j → i ∉ (rows.getD j default).T := fun j hj h => hi' (I.shut j hj i h)
  have hrowU : ∀ j, L j → ∀ m ∈ (rows.getD j default).U, m ∈ (rows.getD j default).T := fun j hj m hm => by
    rcases Nat.lt_or_ge j ops.size with hjl | hjl
    rotate_left
    · obtain ⟨q, hq, e⟩ := hpse j hjl (hLn j hj)
      have := hxE q hq
      rw [e, List.isEmpty_iff.1 this.1.2] at hm
      cases hm
    have hrj := hrow j hjl
    rw [Array.getElem?_eq_getElem hjl] at hrj
    simp only [rowOk, Bool.and_eq_true] at hrj
    have := List.all_eq_true.1 hrj.1.1.1.1.1.2 m hm
    rwa [List.contains_iff_mem] at this
  have hnoU : ∀ j, L j → i ∉ (rows.getD j default).U := fun j hj h => hno j hj (hrowU j hj i h)
  -- the facts
  have hfacts : Facts rows ψs f lo hi w (rows.getD i default).V := facts_of (L := L) _ fun j hj => by
    refine I.facts j (hVL j hj) fun t ht k hk hkj => ?_
    have htl : t < ops.size := by
      rcases Nat.lt_or_ge t ops.size with h | h
      · exact h
      · obtain ⟨q, hq, e⟩ := hpse t h (hLn t ht)
        rw [e, List.isEmpty_iff.1 (hxE q hq).2] at hk; cases hk
    have := availB_spec (List.all_eq_true.1 hav j hj) t htl k hk hkj
    rcases this with h | h | h
    · exact .inl h
    · exact .inr h
    · simp only [Bool.or_eq_true, beq_iff_eq, List.contains_iff_mem] at h
      rcases h with h | h
      · exact absurd (h ▸ ht) hi'
      · exact absurd h (hno t ht)
  have hkf : ∀ j, ops.size ≤ j → (ks.getD j kTrue) = kTrue := fun j hj => by rw [List.getD_eq_getElem?_getD, List.getElem?_eq_none (by have := of_decide_eq_true hkl; omega)]; rfl
  have hkfacts : KFacts f ks (rows.getD i default).U := kfacts_of _ fun j hj => by
    rcases Nat.lt_or_ge j ops.size with h | h
    · exact I.kfacts j (hUL j hj) h
    · rw [hkf j h]; trivial
  -- the act that the obligation speaks of
  have heval : ∀ s, (Operand.tmp s) ∈ o.op.operands → lkOf ds f s (a0.tmps.getD s undef) (rows.getD i default).U = a.tmps.getD s undef := fun s hs => by
    have hl := Array.all_eq_true_iff_forall_mem.1 hlook _ hs
    simp only [List.all_eq_true, List.mem_range] at hl
    by_cases hex : ∃ j, L j ∧ ds.getD j none = some s
    · obtain ⟨j, hj, hd⟩ := hex
      have hs0 : s < a0.tmps.size := by
        have hmem : some s ∈ ds := by
          have hjl := hdl j s hd
          rw [← hds] at hd ⊢
          have hjl' : j < (ops.toList.map (·.dst)).length := by simpa using hjl
          have : (ops.toList.map (·.dst))[j] = some s := by simpa [hjl] using hd
          rw [← this]; exact List.getElem_mem hjl'
        have := hdlt _ hmem
        simp only [decide_eq_true_eq] at this
        rw [← hn0]; exact this
      rw [Array.getD_eq_getD_getElem? (xs := a.tmps), I.put j hj s hd hs0]
      have h1 := hl j (hdl j s hd)
      simp only [Bool.or_eq_true, bne_iff_ne, ne_eq, hd, not_true, false_or, List.contains_iff_mem, beq_iff_eq] at h1
      rcases h1 with (h1 | h1) | h1
      · exact lkOf_put hnd s f _ j hd _ h1
      · exact absurd (h1 ▸ hj) hi'
      · exact absurd h1 (hno j hj)
    · rw [Array.getD_eq_getD_getElem? (xs := a.tmps), I.keep s fun j hj hd => hex ⟨j, hj, hd⟩, lkOf_keep s f _ _ fun j hj hd => hex ⟨j, hUL j hj, hd⟩, Array.getD_eq_getD_getElem?]
  have hexec : execOp (evOf ds (rows.getD i default).U f a0) o = execOp a.eval o :=
    execOp_congr o (fun cs b => Region.noSelect_spec hsel i o cs b ho) fun x hx => by
      cases x with
      | tmp s =>
        have := heval s hx
        exact this
      | _ => rfl
  -- behind it
  have hpost : ∀ v w', RPost rows ψs f lo hi ks i w v w' → K (a.put o.dst v) w' := fun v w' hp => by
    have hAfter : ∃ x y, W0.heap.size ≤ x ∧ x ≤ y ∧ y ≤ w'.heap.size ∧ w.heap.size ≤ x ∧ w.heap.size ≤ w'.heap.size ∧ BelX W0 xr w' ∧
        (ψs.getD i psiTrue) (msk (rows.getD i default).U undef f) (msk (rows.getD i default).U 0 lo) (msk (rows.getD i default).U 0 hi) v x y w' ∧
        (∀ b, Base W0 xr b → w'.heap[b]? = w.heap[b]?) ∧
        (∀ m, L m → (∀ k ∈ (rows.getD i default).W, k ≠ m) → ∀ b, lo m ≤ b → b < hi m → w'.heap[b]? = w.heap[b]?) := by
      have hsz := I.below.2.2.2.1
      obtain ⟨hp, hkv, hq⟩ := hp
      have hWL : ∀ k ∈ (rows.getD i default).W, L k := fun k hk => by
        have := List.all_eq_true.1 hW k hk
        rw [List.contains_iff_mem] at this
        exact hTL k this
      have hsz' := hp.2.2.2.1
      refine ⟨w.heap.size, w'.heap.size, hsz, hsz', Nat.le_refl _, Nat.le_refl _, hsz', hp.below I.below (fun k hk => (I.rng k (hWL k hk)).1.imp (fun h => hpse k h (hLn k (hWL k hk))) id) I.exm.2, hq, fun b hb => hp.2.2.2.2 b (by have := hb.1; omega) fun k hk => ?_, fun m hm hne b hb1 hb2 => hp.2.2.2.2 b ?_ fun k hk => ?_⟩
      · have h1 := (I.rng k (hWL k hk)).1
        have h2 := hb.1
        rcases h1 with h1 | h1
        · obtain ⟨q, hq, e⟩ := hpse k h1 (hLn k (hWL k hk))
          obtain ⟨e1, e2⟩ := XOk.get ops.size xr I.exm.2 q xr[q] (by simp [hq])
          rw [e, e1, e2]
          exact hb.2 _ (List.getElem_mem hq)
        · omega
      · have := (I.rng m hm).2.2
        omega
      · rintro ⟨h1, h2⟩
        rcases I.apart k m (hWL k hk) hm (hne k hk) with h | h <;> omega
    obtain ⟨x, y, h1, h2, h3, h4, h5, hbel, hψ, hW0, hrest⟩ := hAfter
    have hkv := hp.2.1
    refine hK (upd f i v) (upd lo i x) (upd hi i y) _ _ ⟨hbel, ?_, ?_, ?_, ?_, ?_, ?_, ?_, ?_, ?_, ?_⟩
    · refine ⟨fun m hm => .inl (I.exm.1 m hm), XOk.mk _ _ fun m r hr => ?_⟩
      have e : ops.size + m ≠ i := by omega
      simp only [upd, if_neg e]
      exact XOk.get _ _ I.exm.2 m r hr
    · rintro j (hj | rfl)
      · have : j ≠ i := fun e => hi' (e ▸ hj)
        have := I.rng j hj
        simp only [upd, if_neg ‹j ≠ i›]
        omega
      · simp only [upd, if_true]; omega
    · rintro p q (hp' | rfl) (hq | rfl) hne
      · have e1 : p ≠ i := fun e => hi' (e ▸ hp')
        have e2 : q ≠ i := fun e => hi' (e ▸ hq)
        simp only [upd, if_neg e1, if_neg e2]
        exact I.apart p q hp' hq hne
      · have e1 : p ≠ q := hne
        have := (I.rng p hp').2.2
        simp only [upd, if_neg e1, if_true]
        omega
      · have e1 : q ≠ p := fun e => hne e.symm
        have := (I.rng q hq).2.2
        simp only [upd, if_neg e1, if_true]
        omega
      · exact absurd rfl hne
    · rintro j (hj | rfl) m hm
      · exact .inl (I.shut j hj m hm)
      · exact .inl (hTL m hm)
    · rintro j (hj | rfl) hal
      · have e1 : j ≠ i := fun e => hi' (e ▸ hj)
        rw [factAt_upd e1 (hnoU j hj)]
        have hold := I.facts j hj fun t ht k hk hkj => hal t (.inl ht) k hk hkj
        have hne : ∀ k ∈ (rows.getD i default).W, k ≠ j ∧ k ∉ (rows.getD j default).U := fun k hk => by
          refine ⟨fun e => ?_, fun e => ?_⟩
          · rcases hal i (.inr rfl) k hk (.inl e) with h | h
            · exact e1 h.symm
            · exact hno j hj h
          · rcases hal i (.inr rfl) k hk (.inr e) with h | h
            · exact e1 h.symm
            · exact hno j hj h
        have hjr : j < rows.length := by rw [hlen]; have := hLn j hj; omega
        unfold factAt at hold ⊢
        refine Closeds.get rows ψs hcl j hjr _ _ _ _ _ _ _ _ hold h5 hW0 (fun b hb1 hb2 => hrest j hj (fun k hk => (hne k hk).1) b hb1 hb2) (fun m hm b hb1 hb2 => ?_) (fun m r hr hm b hb1 hb2 => ?_)
        rotate_left
        · obtain ⟨e1, e2⟩ := XOk.get ops.size xr I.exm.2 m r hr
          exact hrest (ops.size + m) (I.shut j hj _ (hrowU j hj _ hm)) (fun k hk e => (hne k hk).2 (e ▸ hm)) b (by omega) (by omega)
        have em : (rows.getD j default).U.elem m = true := by simpa using hm
        simp only [msk, em, cond_true] at hb1 hb2
        exact hrest m (I.shut j hj m (hrowU j hj m hm)) (fun k hk e => (hne k hk).2 (e ▸ hm)) b hb1 hb2
      · rw [factAt_self hUi]
        exact hψ
    · rintro j (hj | rfl) hjn
      · have e1 : j ≠ i := fun e => hi' (e ▸ hj)
        simp only [upd, if_neg e1]
        exact I.kfacts j hj hjn
      · simp only [upd, if_true]
        exact hkv
    · cases o.dst <;> simpa [Act.put] using I.size
    · cases o.dst <;> simpa [Act.put] using I.defers
    · rintro j (hj | rfl) s hd hs
      · have e1 : j ≠ i := fun e => hi' (e ▸ hj)
        have : o.dst ≠ some s := fun e => e1 (nodupB_spec ds hnd j i s hd (by rw [hdst, e]))
        simp only [upd, if_neg e1]
        rw [← I.put j hj s hd hs]
        cases hod : o.dst with
        | none => rfl
        | some d =>
          have hds' : d ≠ s := fun e => this (by rw [hod, e])
          simp [Act.put, Array.getElem?_setIfInBounds_ne hds']
      · rw [hdst] at hd
        have : s < a.tmps.size := by rw [I.size]; exact hs
        simp [hd, Act.put, upd, this]
    · intro s hs
      rw [← I.keep s fun j hj => hs j (.inl hj)]
      have := hs i (.inr rfl)
      rw [hdst] at this
      cases hod : o.dst with
      | none => rfl
      | some d =>
        have hds' : d ≠ s := fun e => this (by rw [hod, e])
        simp [Act.put, Array.getElem?_setIfInBounds_ne hds']
  -- the operation itself
  have hO := Obls.get ops.toList 0 hob i o (by simpa using ho) f lo hi w I.below I.exm.2 (by simpa using hfacts) (by simpa using hkfacts) (Lib.hid fun j hj => have r := I.rng j (hTL j (by simpa using hj)); ⟨r.1, r.2.1, r.2.2, fun k hk hne => I.apart k j (hTL k (by simpa using hk)) (hTL j (by simpa using hj)) hne⟩) (fun v w' => K (a.put o.dst v) w') (fun v w' h => hpost v w' (by simpa using h))
  simp only [Nat.zero_add] at hO
  rw [hexec] at hO
  unfold wpOp
  simp only [ho]
  unfold Region.wanted
  cases hg : o.guard with
  | none =>
    rw [hg] at hO
    simp only [if_true]
    exact .inl (wp_of_obl hO fun _ _ h => h)
  | some gw =>
    obtain ⟨j, b⟩ := gw
    rw [hg] at hO hgd
    simp only [Bool.and_eq_true, List.contains_iff_mem] at hgd
    have hjL := hTL j hgd.1
    have hjd : ∃ s, ds.getD j none = some s := by
      have := hgd.2
      rw [← hds]
      cases hoj : ops[j]? with
      | none => rw [hoj] at this; simp at this
      | some oj =>
        rw [hoj] at this
        simp only [Option.bind_some, Option.isSome_iff_exists] at this
        obtain ⟨s, hs⟩ := this
        exact ⟨s, by simp [hoj, hs]⟩
    obtain ⟨s, hs⟩ := hjd
    have hs0 : s < a0.tmps.size := by
      have hmem : some s ∈ ds := by
        have hjl := hdl j s hs
        rw [← hds] at hs ⊢
        have hjl' : j < (ops.toList.map (·.dst)).length := by simpa using hjl
        have : (ops.toList.map (·.dst))[j] = some s := by simpa [hjl] using hs
        rw [← this]; exact List.getElem_mem hjl'
      have := hdlt _ hmem
      simp only [decide_eq_true_eq] at this
      rw [← hn0]; exact this
    have hy : yielded ops a.tmps j = boolOf (f j) := by
      have e : (ops[j]?).bind (·.dst) = some s := by
        rw [← hs, ← hds]
        cases hoj : ops[j]? with
        | none => have := hdl j s hs; rw [Array.getElem?_eq_getElem this] at hoj; cases hoj
        | some oj => simp [hoj]
      unfold yielded
      rw [e]
      simp only [Option.bind_some]
      rw [I.put j hjL s hs hs0]
      unfold boolOf
      cases f j <;> rfl
    simp only [hy]
    by_cases hb : boolOf (f j) = some b
    · dsimp only at hO
      rw [if_pos hb] at hO
      simp only [hb, beq_self_eq_true, if_true]
      exact .inl (wp_of_obl hO fun _ _ h => h)
    · dsimp only at hO
      rw [if_neg hb] at hO
      have : (boolOf (f j) == some b) = false := by simpa using hb
      simp only [this, Bool.false_eq_true, if_false]
      exact hO

theorem RInv.all {n0 : Nat} {all F : List Nat} (hok : regOk ops xr.length n0 ks.length ds rows all F = true) (hn0 : n0 = a0.tmps.size) (hcl : Closeds W0 xr ops.size rows ψs) (hob : Obls P W0 xr ops.size a0 ds rows ψs ks 0 ops.toList)
    (hfin : ∀ f lo hi w, BelX W0 xr w → XOk lo hi ops.size xr → Facts rows ψs f lo hi w F → KFacts f ks all → Hid (∀ j ∈ all, W0.heap.size ≤ lo j ∧ lo j ≤ hi j ∧ hi j ≤ w.heap.size ∧ ∀ i ∈ all, i ≠ j → hi i ≤ lo j ∨ hi j ≤ lo i) → Q .normal (envOf ds all f a0) w) :
    ∀ (fuel : Nat) (U : List Nat) (listed : Array Bool) (f : Nat → Value) (lo hi : Nat → Nat) (a : Act) (w : World), U.Nodup → (∀ j, j ∈ U ↔ j < ops.size ∧ listed.getD j false = false) → U.length = fuel → listed.size = ops.size →
      RInv P ops W0 xr a0 ds rows ψs ks (fun j => listed.getD j false = true ∨ (ops.size ≤ j ∧ j < ops.size + xr.length)) f lo hi a w → wpAny P .any ops Q fuel listed a w := by
  have hok' := hok
  simp only [regOk, Bool.and_eq_true, beq_iff_eq, List.all_eq_true, List.mem_range] at hok'
  obtain ⟨⟨⟨⟨⟨⟨⟨⟨⟨hds, hlen⟩, hsel⟩, hnd⟩, hall⟩, hdlt⟩, hrow⟩, hxE⟩, hkl⟩, hF⟩ := hok'
  have hLn : ∀ listed : Array Bool, listed.size = ops.size → ∀ j, listed.getD j false = true → j < ops.size := fun listed hs j hj => by
    rcases Nat.lt_or_ge j ops.size with h | h
    · exact h
    · simp [Array.getElem?_eq_none (by omega : listed.size ≤ j)] at hj
  -- nothing more comes up: all is done
  have hend : ∀ (listed : Array Bool), listed.size = ops.size → Region.ready .any ops listed = [] → ∀ i, i < ops.size → listed.getD i false = true := by
    intro listed hs hr i
    induction i using Nat.strongRecOn with
    | ind i ih =>
      intro hil
      have h1 := hrow i hil
      rw [Array.getElem?_eq_getElem hil] at h1
      simp only [rowOk, Bool.and_eq_true] at h1
      have hedge := h1.1.1.1.1.1.1.1
      by_cases hc : listed.getD i false = true
      · exact hc
      · exfalso
        have : i ∈ Region.ready .any ops listed := by
          rw [mem_ready]
          refine ⟨?_, _, Array.getElem?_eq_getElem hil, fun e he hb => ?_⟩
          · have hil' : i < listed.size := by omega
            simpa [hil'] using hc
          · have := Array.all_eq_true_iff_forall_mem.1 hedge e he
            simp only [hb, Bool.not_true, Bool.false_or, decide_eq_true_eq] at this
            exact ih e.on this (by omega)
        rw [hr] at this
        cases this
  have hQ : ∀ (listed : Array Bool) f lo hi a w, listed.size = ops.size → Region.ready .any ops listed = [] → RInv P ops W0 xr a0 ds rows ψs ks (fun j => listed.getD j false = true ∨ (ops.size ≤ j ∧ j < ops.size + xr.length)) f lo hi a w → Q .normal a w := by
    intro listed f lo hi a w hs hr I
    have hdone := hend listed hs hr
    have ha : a = envOf ds all f a0 := by
      have h1 := (envOf_size (ds := ds) f all a0).1
      have h2 := (envOf_size (ds := ds) f all a0).2
      have ht : a.tmps = (envOf ds all f a0).tmps := by
        apply Array.ext_getElem?
        intro s
        by_cases hex : ∃ j, j < ops.size ∧ ds.getD j none = some s
        · obtain ⟨j, hj, hd⟩ := hex
          by_cases hs0 : s < a0.tmps.size
          · rw [I.put j (.inl (hdone j hj)) s hd hs0, envOf_put hnd s f j hd _ _ (by rw [hall]; exact List.mem_range.2 hj) hs0]
          · rw [Array.getElem?_eq_none (by rw [I.size]; omega), Array.getElem?_eq_none (by rw [h1]; omega)]
        · rw [I.keep s fun j hj hd => hex ⟨j, by
              rcases hj with hj | hj
              · exact hLn listed hs j hj
              · rw [← hds] at hd; simp [Array.getElem?_eq_none hj.1] at hd, hd⟩, envOf_keep s f _ _ fun j hj hd => hex ⟨j, by rw [hall] at hj; exact List.mem_range.1 hj, hd⟩]
      obtain ⟨t, d⟩ := a
      have hd := I.defers
      simp only at ht hd
      rw [ht, hd, ← h2]
    rw [ha]
    refine hfin f lo hi w I.below I.exm.2 (facts_of (L := fun _ => True) _ fun j hj => ?_) (kfacts_of _ fun j hj => by
      rw [hall] at hj
      have hj := List.mem_range.1 hj
      exact I.kfacts j (.inl (hdone j hj)) hj) (Lib.hid fun j hj => by
      rw [hall] at hj
      have hj := List.mem_range.1 hj
      have h3 := I.rng j (.inl (hdone j hj))
      exact ⟨by omega, by omega, by omega, fun i hi' hne => by
        rw [hall] at hi'
        have hi' := List.mem_range.1 hi'
        exact I.apart i j (.inl (hdone i hi')) (.inl (hdone j hj)) hne⟩)
    have hFj := hF j hj
    simp only [decide_eq_true_eq] at hFj
    have hjL : listed.getD j false = true ∨ (ops.size ≤ j ∧ j < ops.size + xr.length) := by
      rcases Nat.lt_or_ge j ops.size with h | h
      · exact .inl (hdone j h)
      · exact .inr ⟨h, by omega⟩
    refine I.facts j hjL fun t ht k hk hkj => ?_
    have htl : t < ops.size := by
      rcases ht with h | h
      · exact hLn listed hs t h
      · have e : t = ops.size + (t - ops.size) := by omega
        rw [e, List.isEmpty_iff.1 (hxE (t - ops.size) (by omega)).2] at hk; cases hk
    rcases availB_spec hFj.2 t htl k hk hkj with h | h | h
    · exact .inl h
    · exact .inr h
    · cases h
  intro fuel
  induction fuel with
  | zero =>
    intro U listed f lo hi a w _ hU hlen' hs I
    have hnil : U = [] := List.eq_nil_of_length_eq_zero hlen'
    have hr : Region.ready .any ops listed = [] := by
      rw [List.eq_nil_iff_forall_not_mem]
      intro i hi
      obtain ⟨h0, o, ho, _⟩ := mem_ready.1 hi
      have hil : i < ops.size := (Array.getElem?_eq_some_iff.1 ho).1
      have : i ∈ U := (hU i).2 ⟨hil, by
        have hil' : i < listed.size := by omega
        simpa [hil'] using h0⟩
      rw [hnil] at this
      cases this
    exact ⟨hr, hQ listed f lo hi a w hs hr I⟩
  | succ fuel ih =>
    intro U listed f lo hi a w hUn hU hlen' hs I
    refine ⟨fun hr => hQ listed f lo hi a w hs hr I, fun i hi => ?_⟩
    obtain ⟨h0, o, ho, hafter⟩ := mem_ready.1 hi
    have hil : i < ops.size := (Array.getElem?_eq_some_iff.1 ho).1
    have hil' : i < listed.size := by omega
    have h0' : listed.getD i false = false := by simpa [hil'] using h0
    refine RInv.step hok hn0 hcl hob I (fun j hj => by
      rcases hj with hj | hj
      · have := hLn listed hs j hj; omega
      · omega) ho (by rw [h0']; simp; omega) (fun e he hb => .inl (hafter e he hb)) ?_
    intro f' lo' hi' a' w' I'
    refine ih (U.erase i) _ f' lo' hi' a' w' (hUn.erase i) ?_ ?_ (by simpa using hs) ?_
    · intro j
      rw [hUn.mem_erase_iff, hU j]
      by_cases hji : j = i
      · subst hji; simp [hil']
      · rw [getD_set_ne false (Ne.symm hji)]
        simp [hji]
    · rw [List.length_erase_of_mem ((hU i).2 ⟨hil, h0'⟩), hlen']
      rfl
    · have e : (fun j => (listed.setIfInBounds i true).getD j false = true ∨ (ops.size ≤ j ∧ j < ops.size + xr.length)) = (fun j => (listed.getD j false = true ∨ (ops.size ≤ j ∧ j < ops.size + xr.length)) ∨ j = i) := by
        funext j
        by_cases hji : j = i
        · subst hji; simp [hil']
        · rw [getD_set_ne false (Ne.symm hji)]
          simp [hji]
      rw [e]
      exact I'

/-- the world under one name -/
theorem wp_named {c : Code} {w : World} (Φ : World → Prop) (h : Φ w) (k : ∀ W, Φ W → c.wp P Q a0 W) : c.wp P Q a0 w := k w h
/-- **A region that draws its order, by a table of predicates**; 'N': how many operations there are (the last rows and the last predicates speak of the ranges 'xr' of old blocks, which operations may write). -/
theorem wp_region_tab {id : Nat} {l : List Oper} {w : World} (xr : List (Nat × Nat)) (N n0 : Nat) (ds : List (Option Tmp)) (rows : List RDat) (all F : List Nat) (ψs : List Psi) (ks : List (Value → Prop)) (hm : P.follows .mixedOrders = true) (hok : regOk l.toArray xr.length n0 ks.length ds rows all F = true) (hn0 : n0 = a0.tmps.size) (hN : l.length = N)
    (hx : XDis w.heap.size xr) (hX : XFact w.drew ψs N xr)
    (hob : Obls P w xr N a0 ds rows ψs ks 0 l) (hcl : Closeds w xr N rows ψs)
    (hfin : ∀ f lo hi w', BelX w xr w' → XOk lo hi N xr → Facts rows ψs f lo hi w' F → KFacts f ks all → Hid (∀ j ∈ all, w.heap.size ≤ lo j ∧ lo j ≤ hi j ∧ hi j ≤ w'.heap.size ∧ ∀ i ∈ all, i ≠ j → hi i ≤ lo j ∨ hi j ≤ lo i) → Q .normal (envOf ds all f a0) w') : (Code.region id l.toArray true).wp P Q a0 w := by
  subst hN
  refine wp_region_any hm ?_
  show wpAny P .any l.toArray Q l.toArray.size (Array.replicate l.toArray.size false) a0 w.drew
  have hno : ∀ j, ¬ ((Array.replicate l.toArray.size false).getD j false = true) := fun j => by
    rw [repl_getD]
    simp
  obtain ⟨d1, d2⟩ := XDis.get xr hx
  refine RInv.all (xr := xr) hok hn0 hcl (by simpa using hob) (by simpa using hfin) _ (List.range l.toArray.size) _ (fun _ => undef) (fun j => (xr.getD (j - l.length) (0, 0)).1) (fun j => (xr.getD (j - l.length) (0, 0)).2) a0 w.drew List.nodup_range (fun j => ?_) (by simp) (by simp) ?_
  · rw [List.mem_range, repl_getD]
    simp
  · have hL : ∀ j, ((Array.replicate l.toArray.size false).getD j false = true ∨ (l.toArray.size ≤ j ∧ j < l.toArray.size + xr.length)) → ∃ i, ∃ hi : i < xr.length, j = l.length + i := fun j h => by
      obtain ⟨h1, h2⟩ := h.resolve_left (hno j)
      simp at h1 h2
      exact ⟨j - l.length, by omega, by omega⟩
    have hg : ∀ i, xr.getD (l.length + i - l.length) (0, 0) = xr.getD i (0, 0) := fun i => by rw [Nat.add_sub_cancel_left]
    have hrows : ∀ i, i < xr.length → (rows.getD (l.length + i) default).T = [] := fun i hi => by
      simp only [regOk, Bool.and_eq_true, List.all_eq_true, List.mem_range] at hok
      have := hok.1.1.2 i hi
      exact List.isEmpty_iff.1 (by simpa using this.1.1)
    refine ⟨⟨rfl, rfl, rfl, Nat.le_refl _, fun _ _ => rfl⟩, ⟨fun i hi => .inr ⟨by simp, by simp; omega⟩, XOk.mk _ _ fun i r hr => ?_⟩, ?_, ?_, ?_, ?_, ?_, rfl, rfl, ?_, fun _ _ => rfl⟩
    · show (xr.getD (l.toArray.size + i - l.length) (0, 0)).1 = r.1 ∧ (xr.getD (l.toArray.size + i - l.length) (0, 0)).2 = r.2
      have : l.toArray.size + i - l.length = i := by simp
      rw [this]
      simp [hr]
    · intro j h
      obtain ⟨i, hi, rfl⟩ := hL j h
      simp only [hg]
      have := d1 i xr[i] (by simp [hi])
      have e : xr.getD i (0, 0) = xr[i] := by simp [hi]
      rw [e]
      exact ⟨.inl (by simp), this.1, this.2⟩
    · intro i j h h' hne
      obtain ⟨p, hp, rfl⟩ := hL i h
      obtain ⟨q, hq, rfl⟩ := hL j h'
      simp only [hg]
      have e : xr.getD p (0, 0) = xr[p] := by simp [hp]
      have e' : xr.getD q (0, 0) = xr[q] := by simp [hq]
      rw [e, e']
      exact d2 p q _ _ (by simp [hp]) (by simp [hq]) (fun e => hne (by rw [e]))
    · intro i h j hj
      obtain ⟨p, hp, rfl⟩ := hL i h
      rw [hrows p hp] at hj
      cases hj
    · intro j h _
      obtain ⟨p, hp, rfl⟩ := hL j h
      unfold factAt
      simp only [hg]
      have e : xr.getD p (0, 0) = xr[p] := by simp [hp]
      rw [e]
      exact XFact.get l.length xr hX p xr[p] (by simp [hp]) _ _ _ _
    · intro j h hj
      obtain ⟨p, hp, rfl⟩ := hL j h
      simp at hj
      omega
    · intro j h s hs _
      exfalso
      obtain ⟨p, hp, rfl⟩ := hL j h
      simp only [regOk, Bool.and_eq_true, beq_iff_eq] at hok
      rw [← hok.1.1.1.1.1.1.1.1.1] at hs
      simp at hs
end
end Go.Proofs.Ytgngmmmdhhjbhaa
