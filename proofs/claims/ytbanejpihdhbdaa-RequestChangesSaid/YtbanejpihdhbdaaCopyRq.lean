/- copy of whole structs; append of made zeros where there is no room -/
import Derived.Test.YtbanejpihdhbdaaRqOps
import Derived.Laws.CopyOwn
import Derived.Lib.AppendZerosOnto
import Derived.Lib.Overlaps
import Derived.Laws.Externs
namespace Go.Proofs.Ytbanejpihdhbdaa
set_option linter.unusedVariables false
open Go.RowKit Go.Sort
set_option maxRecDepth 100000

theorem run_copyS {P : Program} (w : World) (dT sT ty elem : TypeId) (S g o dLen dCap : Nat) (a : Addr) (sLen sCap m : Nat) (cur : Array Value) (t : TypeId) (cs : List Value)
    (hu : P.underlying dT = some (.slice elem)) (hs : (P.info? elem).map (·.size) = some S)
    (hg : w.heap[g]? = some (.cells cur t (0, 0))) (hm : m = Nat.min sLen dLen) (hn : cs.length = m * S)
    (hsrc : ∀ j v, cs[j]? = some v → w.cell? (a.add j) = some v) (hfit : o + cs.length ≤ cur.size) (h1 : ∀ v ∈ cs, v.oneCell' = true) :
    (Builtin.copy_ #[dT, sT] ty #[.slice (some ⟨g, o, none⟩) dLen dCap, .slice (some a) sLen sCap]).run P w =
      .ok (goInt m) (w.setRow g (cur.toList.take o ++ cs ++ cur.toList.drop (o + cs.length)).toArray) := by
  have hl := run_loadCells_list (P := P) w a cs hsrc
  have hst := run_storeCells_at P g o t cs 0 cur w hg (by simpa using hfit) h1
  cases hq : P.info? elem with
  | none => simp [hq] at hs
  | some i =>
    have hi : i.size = S := by simpa [hq] using hs
    simp [Builtin.copy_, run_underlying hu, Builtin.lenOf, Builtin.firstCells, sizeOf, typeInfo, hq, hi, ← hm, ← hn, hl, hst]
/-- what a copy leaves: the row spliced, everything else as it was -/
theorem wp_copyS {P : Program} {ops : Array Oper} {rest : List Oper} {o : Oper} {a : Act} {Q : Exit → Act → World → Prop} {w : World} (hgd : o.guard = none) (d s : Operand) (dT sT elem : TypeId)
    (ho : o.op = .call { callee := .builtin .copy, args := #[d, s], argTypes := #[dT, sT] }) (S : Nat) (hu : P.underlying dT = some (.slice elem)) (hsz : (P.info? elem).map (·.size) = some S)
    (g off dLen dCap : Nat) (ad : Addr) (sLen sCap m : Nat) (hd : a.eval d = .slice (some ⟨g, off, none⟩) dLen dCap) (hs : a.eval s = .slice (some ad) sLen sCap)
    (cur : List Value) (t : TypeId) (hg : Blk w g t cur.toArray) (cs : List Value) (hm : m = Nat.min sLen dLen) (hn : cs.length = m * S)
    (hsrc : ∀ j v, cs[j]? = some v → w.cell? (ad.add j) = some v) (hfit : off + cs.length ≤ cur.length) (h1 : ∀ v ∈ cs, v.oneCell' = true)
    (h : ∀ w', Blk w' g t (splice cur off cs).toArray → w.grownBy w' (some g) → wpList P ops Q rest (a.put o.dst (.int .i64 (m : Int))) w') :
    wpList P ops Q (o :: rest) a w := by
  refine wpList_plain hgd fun K hK => ?_
  have hrun := run_copyS (P := P) w dT sT o.type elem S g off dLen dCap ad sLen sCap m cur.toArray t cs hu hsz hg hm hn hsrc (by simpa using hfit) h1
  unfold Oper.wp
  simp [execOp, ho, resolve, invoke, builtin, hd, hs, hrun, Result.andThen]
  refine hK _ _ (h _ ?_ ?_)
  · show _ = _
    simpa [splice] using setRow_heap w g _ _ t _ hg
  · exact ⟨rfl, rfl, rfl, by simp [World.setRow], fun k hk hne => setRow_other w g k _ (fun e => hne (by rw [e]))⟩
theorem Own.raw {w : World} {B : Nat} {e : TypeId} {S n cap g : Nat} {xs : List Value} (h : Own w B e S (some ⟨g, 0, none⟩) n cap xs) : ∃ cur : List Value, Blk w g e cur.toArray ∧ B ≤ g ∧ n ≤ cap ∧ cap ≤ maxLen ∧ cur.length = cap * S ∧ cur.take (n * S) = xs := by
  rcases h.2 with ⟨h0, _⟩ | ⟨g', c, cur, hv, hb, hg, hnc, hm, hs, ht⟩
  · cases h0
  · injection hv with ha _ hc
    injection ha with ha
    injection ha with ha _ _
    subst ha
    subst hc
    exact ⟨cur.toList, by simpa [Blk] using hg, hb, hnc, hm, by simpa using hs, by simpa using ht⟩
theorem Own.ofRaw {w : World} {B : Nat} {e : TypeId} {S n cap g : Nat} {xs cur : List Value} (k : Blk w g e cur.toArray) (hB : B ≤ g) (hn : n ≤ cap) (hm : cap ≤ maxLen) (hl : cur.length = cap * S) (ht : cur.take (n * S) = xs) : Own w B e S (some ⟨g, 0, none⟩) n cap xs := by
  have hx : xs.length = n * S := by
    rw [← ht, List.length_take, hl]
    exact Nat.min_eq_left (Nat.mul_le_mul_right _ hn)
  exact ⟨hx, .inr ⟨g, cap, cur.toArray, rfl, hB, k, hn, hm, by simpa using hl, by simpa using ht⟩⟩
/-- append(s, make([]T, k)...) where there is no room: a new row -/
theorem wp_growZ {ops : Array Oper} {rest : List Oper} {o : Oper} {a : Act} {Q : Exit → Act → World → Prop} {w : World} (hgd : o.guard = none) (s x : Operand)
    (ho : o.op = .call { callee := .builtin .append, args := #[s, x], argTypes := #[27, 3] })
    (base : Option Addr) (i n k : Nat) (olds : List Value) (hs : a.eval s = .slice base i n) (hx : a.eval x = .int .i64 k) (hr : Row w base olds) (ho5 : olds.length = i * 5) (hk : 0 < k) (hg : n < i + k) (hbig : i + k ≤ 100000)
    (h : ∀ w' cur cp, Blk w' w.heap.size 45 (cur : List Value).toArray → cur.length = cp * 5 → i + k ≤ cp → cp ≤ maxLen → cur.take (i * 5) = olds → Below w.heap.size w w' → wpList Try.prog ops Q rest (a.put o.dst (.slice (some ⟨w.heap.size, 0, none⟩) (i + k) cp)) w') :
    wpList Try.prog ops Q (o :: rest) a w := by
  obtain ⟨i0, hi, hz0, hz1, hz2⟩ := info_parts info_req
  refine wpList_plain hgd fun K hK => ?_
  have hold : (Builtin.firstCells i0.size i (.slice base i n)).run Try.prog w.drew = .ok olds.toArray w.drew := by
    rw [hz1]
    cases base with
    | none =>
      have h0 := hr.of_none
      subst h0
      rfl
    | some ad =>
      have := run_loadCells_list (P := Try.prog) w.drew ad olds (fun j v hv => Row.cells w.drew hr j v hv)
      simp only [Builtin.firstCells, ← ho5]
      exact this
  have hrun := Lib.run_append_grow_zeros (P := Try.prog) w 27 3 o.type 45 i0 _ .i64 .i64 Try.underlying27 Try.underlying3 hi hz0 base i n olds hold k hk (by rw [hz1]; decide) hg (by omega) (by rw [hz2]; omega) (growslice_fits (by omega) (by rw [hz2]; omega))
  unfold Oper.wp
  simp only [execOp, ho, resolve, invoke, builtin, Sem.run_bind, Sem.run_pure, Result.andThen_ok, List.map_toArray, List.map_cons, List.map_nil, hs, hx, hrun]
  refine hK _ _ (h _ (olds ++ (Builtin.zeroCells (Value.cells (.agg #[.int .i64 0, .int .i64 0, .int .i64 0, .int .i64 0, .slice none 0 0])) k).toList ++ (Builtin.zeroCells (Value.cells (.agg #[.int .i64 0, .int .i64 0, .int .i64 0, .int .i64 0, .slice none 0 0])) (grownCap w (i + k) n 45 - (i + k))).toList) _ ?_ ?_ ?_ ?_ ?_ ?_)
  · show _ = _
    have := heap_alloc_new w.drew (.cells (olds.toArray ++ Builtin.zeroCells (Value.cells (.agg #[.int .i64 0, .int .i64 0, .int .i64 0, .int .i64 0, .slice none 0 0])) k ++ Builtin.zeroCells (Value.cells (.agg #[.int .i64 0, .int .i64 0, .int .i64 0, .int .i64 0, .slice none 0 0])) (grownCap w (i + k) n 45 - (i + k))) 45)
    refine this.trans ?_
    simp
  · have hc := grownCap_ge w (i + k) n 45
    have e5 : (Value.cells (.agg #[.int .i64 0, .int .i64 0, .int .i64 0, .int .i64 0, .slice none 0 0])).size = 5 := rfl
    simp only [List.length_append, Array.length_toList, size_zeroCells, ho5, e5]
    omega
  · exact grownCap_ge w (i + k) n 45
  · exact grownCap_le_maxLen w (i + k) n 45 (by simp only [maxLen]; omega)
  · rw [List.append_assoc, ← ho5]
    exact List.take_left
  · exact (by repeat (first | (with_reducible refine Below.setCell ?_ ?_ _) | (with_reducible refine Below.alloc ?_ ?_ _) | (with_reducible refine Below.drew ?_) | (with_reducible refine below_drewN ?_ _) | (with_reducible exact Below.refl _ _) | (focus (simp; done)) | (focus (simp; omega)) | (focus omega)))
end Go.Proofs.Ytbanejpihdhbdaa
