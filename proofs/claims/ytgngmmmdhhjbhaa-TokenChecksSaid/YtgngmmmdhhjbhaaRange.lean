/- A range over a function whose iterator hands over values that lie in memory: what holds of each is told to the loop's assign code, and by it to the body. No program in sight. -/
import Derived.RangeFuncNested
import Derived.RangeFuncBound
import Derived.RangeFuncCalls
import Derived.RangeFuncLeaves
import Derived.Shelf.Abstract
import Derived.Test.YtgngmmmdhhjbhaaLib
namespace Go.Proofs.Ytgngmmmdhhjbhaa
open Go.RowKit
variable {F : Fence} {n : Nat} {P : Program}

/-- the iterator's word: each value is handed over where V holds of it -/
def SeqV {α : Type} (F : Fence) (n : Nat) (P : Program) (g : Nat) (lb : Array Value) (encs : α → Array Value) (V : List α → α → World → Prop) (Kp : World → World → Prop) (S Sp : List α → Prop) (w : World) : Prop :=
  ∀ (l : Nat) (J Jx : List α → World → Prop) (W : World), Below w.heap.size w W → AbidesFrom W.heap.size J → AbidesFrom W.heap.size Jx →
    (∀ pre x W1, J pre W1 → V pre x W1 → YieldAt F (n - 1) P l (encs x) W1 fun e W' =>
      (e = .returned (.bool true) ∧ J (pre ++ [x]) W' ∧ Kp W1 W') ∨ (e = .returned (.bool false) ∧ Jx (pre ++ [x]) W')) →
    J [] W →
    CallsIn F n P g (#[.func (.yield l) #[] #[]] ++ lb) W fun e W' => (∃ v, e = .returned v) ∧ ((∃ xs, S xs ∧ J xs W') ∨ (∃ pre, Sp pre ∧ Jx pre W'))

section
variable {α : Type} {ps : Array Tmp} {assign body : Code} {tmps : Array Value} {fn : FuncId} {D l : Nat} {encs : α → Array Value} {V : List α → α → World → Prop} {Kp : World → World → Prop}
/-- the loop's record, as it stands between the rounds and within one -/
def recAt (fn : FuncId) (tmps : Array Value) (ps : Array Tmp) (assign body : Code) (D : Nat) (st : LoopState) (pe : Option Code) : Loop :=
  { state := st, pending := pe, fn, tmps, params := ps, assign, body, defers := D }
/-- the two blocks of book-keeping: the loop's record (ready, or done with a jump), the rounds' deferred calls -/
def Books (r : LoopState → Option Code → Loop) (D l : Nat) (st : LoopState) (pe : Option Code) (W : World) : Prop :=
  W.heap[l]? = some (.loop (r st pe)) ∧ W.heap[D]? = some (.deferred (some []))
theorem Books.put {r : LoopState → Option Code → Loop} {st st' : LoopState} {pe pe' : Option Code} {W : World} (h : Books r D l st pe W) (hne : D ≠ l) : Books r D l st' pe' (W.putObj l (.loop (r st' pe'))) :=
  ⟨World.putObj_heap_same (Array.getElem?_eq_some_iff.1 h.1).1, (World.putObj_heap_other hne).trans h.2⟩
theorem Books.keeps {r : LoopState → Option Code → Loop} {st : LoopState} {pe : Option Code} {W W' : World} {B : Nat} (h : Books r D l st pe W) (k : KeepsFrom B W W') (hD : B ≤ D) (hl : B ≤ l) : Books r D l st pe W' :=
  ⟨k.same _ _ hl h.1 rfl, k.same _ _ hD h.2 rfl⟩
theorem Books.grown {r : LoopState → Option Code → Loop} {st : LoopState} {pe : Option Code} {W W' : World} {row : Option Nat} (h : Books r D l st pe W) (g : W.grownBy W' row) (hr : ∀ q, row = some q → ∃ o : Obj, W.heap[q]? = some o ∧ o.isWalk = true) : Books r D l st pe W' :=
  ⟨(grownBy_keeps g hr h.1 rfl).trans h.1, (grownBy_keeps g hr h.2 rfl).trans h.2⟩

/-- one round -/
theorem round_at (hfn : F.fn fn) {B : Nat} (hBD : B ≤ D) (hBl : B ≤ l) (hne : D ≠ l)
    (hKt : ∀ {A B C : World}, Kp A B → Kp B C → Kp A C) (hKb : ∀ (W : World) (l : Nat) (o o' : Obj), B ≤ l → W.heap[l]? = some o → o.isCells = false → o.isWalk = false → Kp W (W.putObj l o')) (hps : ∀ x, (encs x).size = ps.size)
    (I : List α → World → Prop) (Ix : Code → List α → World → Prop) (hI : OwnFrom B I) (hIx : ∀ c, OwnFrom B (Ix c)) (Ax : List α → α → Act → World → Prop) (hAx : ∀ pre x a', OwnFrom B (fun (_ : Unit) W => Ax pre x a' W)) {m : Nat} (pre : List α) (x : α) (W : World)
    (hassign : ∀ (K : Act → World → Prop), (∀ a' W', KeepsFrom B W W' → Kp W W' → I pre W' → Ax pre x a' W' → K a' W') →
      assign.wpIn (F.inRound l) m P (Exit.then K (fun _ _ _ => False)) { tmps := (ps.zip (encs x)).foldl (fun t (p, v) => t.setIfInBounds p v) tmps, defers := [] } W)
    (hbody : ∀ (a' : Act) (W : World), (∃ r, W.heap[l]? = some (.loop r)) → I pre W → Ax pre x a' W → body.wpIn (F.inRound l) m P (ownPostG B Kp I Ix (pre ++ [x]) W) a' W)
    (hb : Books (recAt fn tmps ps assign body D) D l .ready none W) :
    YieldAt F m P l (encs x) W fun e W' =>
      (e = .returned (.bool true) ∧ (I (pre ++ [x]) W' ∧ Books (recAt fn tmps ps assign body D) D l .ready none W') ∧ Kp W W') ∨
      (e = .returned (.bool false) ∧ ∃ c, Ix c (pre ++ [x]) W' ∧ Books (recAt fn tmps ps assign body D) D l .done (some c) W') := by
  refine ⟨fn, _, assign, body, run_yield hb.1 (hps x), roundIn_of_wpIn hfn (hassign _ fun a' Wa hkf hkp hi hax => ?_)⟩
  have ba := hb.keeps hkf hBD hBl
  refine ⟨_, run_beginRound ba.1 rfl, ?_⟩
  have bb : Books (recAt fn tmps ps assign body D) D l .busy none (Wa.putObj l (.loop (recAt fn tmps ps assign body D .busy none))) := ba.put hne
  have kb : Kp Wa (Wa.putObj l (.loop (recAt fn tmps ps assign body D .busy none))) := hKb _ _ _ _ hBl ba.1 rfl rfl
  refine wpIn_mono (hbody a' _ ⟨_, bb.1⟩ (hI.putObj _ hi hBl ba.1 rfl) ((hAx pre x a').putObj (s := ()) _ hax hBl ba.1 rfl)) fun e a3 W3 hp => ?_
  have leave : ∀ c, KeepsFrom B (Wa.putObj l (.loop (recAt fn tmps ps assign body D .busy none))) W3 → Ix c (pre ++ [x]) W3 →
      ∃ c', Ix c' (pre ++ [x]) (W3.putObj l (.loop (recAt fn tmps ps assign body D .done (some c)))) ∧ Books (recAt fn tmps ps assign body D) D l .done (some c') (W3.putObj l (.loop (recAt fn tmps ps assign body D .done (some c)))) := fun c k3 hi3 => by
    have b3 := bb.keeps k3 hBD hBl
    exact ⟨c, (hIx c).putObj _ hi3 hBl b3.1 rfl, b3.put hne⟩
  cases e with
  | normal =>
    obtain ⟨k3, kp3, hi3⟩ := hp
    have b3 := bb.keeps k3 hBD hBl
    exact ⟨_, _, run_endRound none b3.1, .inl ⟨rfl, ⟨hI.putObj _ hi3 hBl b3.1 rfl, b3.put (st' := .ready) (pe' := none) hne⟩, hKt hkp (hKt kb (hKt kp3 (hKb _ _ _ _ hBl b3.1 rfl rfl)))⟩⟩
  | ret => exact ⟨_, _, run_endRound (some .ret) (bb.keeps hp.1 hBD hBl).1, .inr ⟨rfl, leave _ hp.1 hp.2⟩⟩
  | exit id => exact ⟨_, _, run_endRound (some (.exit id)) (bb.keeps hp.1 hBD hBl).1, .inr ⟨rfl, leave _ hp.1 hp.2⟩⟩
  | goto t => exact ⟨_, _, run_endRound (some (.goto t)) (bb.keeps hp.1 hBD hBl).1, .inr ⟨rfl, leave _ hp.1 hp.2⟩⟩
  | panic ch => exact hp.elim
  | outgrown => exact hp.elim
end

/-- THE LOOP -/
theorem wp_rangeV {w : World} {α : Type} {g : Operand} {ps : Array Tmp} {assign body : Code} {Q : Exit → Act → World → Prop} {a : Act}
    (hro : F.round = none) (h1 : 1 ≤ n) {gf : Nat} {lb : Array Value} (hg : a.eval g = .func (.func gf) #[] lb) (hFg : F.fn gf) (eg : ∀ args w, (callFunc gf args).run P w = .ok (.enter gf args) w)
    {encs : α → Array Value} {V : List α → α → World → Prop} {Kp : World → World → Prop} {S Sp : List α → Prop} {w0 : World} (hseq : SeqV F (n - 1) P gf lb encs V Kp S Sp w0)
    (hKt : ∀ {A B C : World}, Kp A B → Kp B C → Kp A C) (hKb : ∀ (W : World) (l : Nat) (o o' : Obj), w.heap.size ≤ l → W.heap[l]? = some o → o.isCells = false → o.isWalk = false → Kp W (W.putObj l o')) (hb0 : Below w0.heap.size w0 w) (hps : ∀ x, (encs x).size = ps.size)
    (I : List α → World → Prop) (Ix : Code → List α → World → Prop) (hI : OwnFrom w.heap.size I) (hIx : ∀ c, OwnFrom w.heap.size (Ix c)) (h0 : I [] w) (Ax : List α → α → Act → World → Prop) (hAx : ∀ pre x a', OwnFrom w.heap.size (fun (_ : Unit) W => Ax pre x a' W))
    (hassign : ∀ (l : Nat) (pre : List α) (x : α) (W : World) (K : Act → World → Prop), I pre W → V pre x W → (∀ a' W', KeepsFrom w.heap.size W W' → Kp W W' → I pre W' → Ax pre x a' W' → K a' W') →
      assign.wpIn (F.inRound l) (n - 1 - 1) P (Exit.then K (fun _ _ _ => False)) { tmps := (ps.zip (encs x)).foldl (fun t (p, v) => t.setIfInBounds p v) a.tmps, defers := [] } W)
    (hbody : ∀ (l : Nat) (pre : List α) (x : α) (a' : Act) (W : World), w.heap.size ≤ l → (∃ r, W.heap[l]? = some (.loop r)) → I pre W → Ax pre x a' W → body.wpIn (F.inRound l) (n - 1 - 1) P (ownPostG w.heap.size Kp I Ix (pre ++ [x]) W) a' W)
    (hdone : ∀ (D : Nat) (xs : List α) (W : World), w.heap.size ≤ D → S xs → I xs W → W.heap[D]? = some (.deferred (some [])) → Q .normal { a with defers := { target := .collected D, args := #[] } :: a.defers } W)
    (hstop : ∀ (D : Nat) (c : Code) (pre : List α) (W : World), w.heap.size ≤ D → Sp pre → Ix c pre W → W.heap[D]? = some (.deferred (some [])) → c.wpIn F n P Q { a with defers := { target := .collected D, args := #[] } :: a.defers } W) :
    (Code.rangeFunc g ps assign body).wpIn F n P Q a w := by
  refine wpIn_rangeFunc fun fn hfn => ?_
  rw [hro]
  obtain ⟨r, hr⟩ : ∃ r, r = recAt fn a.tmps ps assign body w.heap.size := ⟨_, rfl⟩
  obtain ⟨W1, hW1⟩ : ∃ W1, (w.alloc (.deferred (some []))).alloc (.loop (r .ready none)) = W1 := ⟨_, rfl⟩
  have hB1 : Books r w.heap.size (w.heap.size + 1) .ready none W1 := by
    rw [← hW1]
    exact ⟨by have := World.alloc_heap_new (w.alloc (.deferred (some []))) (.loop (r .ready none)); rwa [World.size_alloc] at this, (Below.heap_alloc _ _ _ (by simp)).trans (World.alloc_heap_new w _)⟩
  have hI1 : I [] W1 := by rw [← hW1]; exact hI.alloc _ (hI.alloc _ h0)
  have hb1 : Below w0.heap.size w0 W1 := by
    rw [← hW1]; exact hb0.trans ((((Below.refl _ w).alloc (Nat.le_refl _) _).alloc (by simp) _).mono hb0.size)
  have hz1 : w.heap.size ≤ W1.heap.size := by rw [← hW1]; simp; omega
  refine ⟨w.heap.size + 1, [{ target := .collected w.heap.size, args := #[] }], W1, { target := .fn (.func gf) lb, args := #[.func (.yield (w.heap.size + 1)) #[] #[]] }, W1, gf, #[.func (.yield (w.heap.size + 1)) #[] #[]] ++ lb, W1, ?_, ?_, ?_, ?_, fun _ => h1, ?_⟩
  · rw [← hW1, hr]; exact run_enterLoop_outer _ _ _ _ _
  · simp only [resolve, hg]
    simp [go_sem]
  · intro f' hf'; simp [Target.leads] at hf'; subst hf'; exact hFg
  · simp [invoke, go_sem, eg]
  · have hwalk : ∀ {A : World} {row : Option Nat}, (∀ q, row = some q → W1.heap.size ≤ q ∧ ∃ o : Obj, A.heap[q]? = some o ∧ o.isWalk = true) → ∀ q, row = some q → w.heap.size ≤ q ∧ ∃ o : Obj, A.heap[q]? = some o ∧ o.isCells = false :=
      fun h q e => by obtain ⟨hq, o, ho, hw⟩ := h q e; exact ⟨by omega, o, ho, Obj.not_cells_of_walk hw⟩
    refine (hseq (w.heap.size + 1) (fun pre W => I pre W ∧ Books r w.heap.size (w.heap.size + 1) .ready none W) (fun pre W => ∃ c, Ix c pre W ∧ Books r w.heap.size (w.heap.size + 1) .done (some c) W) W1 hb1
      (fun s A B row hs hg' hrow => ⟨hI s A B row hs.1 hg' (hwalk hrow), hs.2.grown hg' fun q e => (hrow q e).2⟩)
      (fun s A B row hs hg' hrow => by obtain ⟨c, hc, hl⟩ := hs; exact ⟨c, hIx c s A B row hc hg' (hwalk hrow), hl.grown hg' fun q e => (hrow q e).2⟩)
      (fun pre x W hJ hv => ?_) ⟨hI1, hB1⟩).mono ?_
    · subst hr
      exact round_at (Kp := Kp) hfn (Nat.le_refl _) (Nat.le_succ _) (by omega) (fun h k => hKt h k) hKb hps I Ix hI hIx Ax hAx pre x W (fun K hK => hassign _ pre x W K hJ.1 hv hK) (fun a' W' hl hi hax => hbody _ pre x a' W' (Nat.le_succ _) hl hi hax) hJ.2
    · rintro e W2 ⟨⟨v, rfl⟩, (⟨xs, hS, hi, hl⟩ | ⟨pre, hSp, c, hi, hl⟩)⟩
      · subst hr
        have he := run_endLoop (P := P) hl.1 (by simp [recAt])
        exact ⟨none, _, he, hdone _ xs _ (Nat.le_refl _) hS (hI.putObj _ hi (by omega) hl.1 rfl) ((World.putObj_heap_other (by omega)).trans hl.2)⟩
      · subst hr
        have he := run_endLoop (P := P) hl.1 (by simp [recAt])
        exact ⟨some c, _, he, hstop _ c pre _ (Nat.le_refl _) hSp ((hIx c).putObj _ hi (by omega) hl.1 rfl) ((World.putObj_heap_other (by omega)).trans hl.2)⟩
end Go.Proofs.Ytgngmmmdhhjbhaa
