/- append of made zeros, 'append(s, make([]T, n)...)', onto a row of the call's own -/
import Derived.Test.YthkoijgobigdnaaApp
import Derived.Test.YthkoijgobigdnaaApr
import Derived.Lib.AppendZerosOnto
namespace Go.Proofs.Ythkoijgobigdnaa
open Go.RowKit

theorem run_append_rowZ {P : Program} (w : World) (base : Nat) (t tn ty e : TypeId) (i : TypeInfo) (z : Value) (kq kn : IntKind) (size bytes : Nat) (ht : P.underlying t = some (.slice e)) (htn : P.underlying tn = some (.int kn)) (hi : P.info? e = some i) (hz : i.zero = some z)
    (hsize : i.size = size) (hby : i.bytes = bytes) (hzs : z.cells.size = size) (hsz : 0 < size)
    (a : Option Addr) (n cap : Nat) (xs : List Value) (hown : Own w base e size a n cap xs) (m : Nat) (h1 : ∀ u ∈ (Builtin.zeroCells z.cells m).toList, u.oneCell' = true)
    (h63 : n + m ≤ maxLen) (hbytes : (n + m) * bytes ≤ 140737488355328) (hbase : base ≤ w.heap.size) :
    ∃ a' cap' w', (Builtin.append_ #[t, tn] ty #[.slice a n cap, .int kq m]).run P w = .ok (.slice a' (n + m) cap') w' ∧ Own w' base e size a' (n + m) cap' (xs ++ (Builtin.zeroCells z.cells m).toList) ∧ Grew base w w' a a' := by
  subst hsize
  subst hby
  obtain ⟨news, hnews⟩ : ∃ news, (Builtin.zeroCells z.cells m).toList = news := ⟨_, rfl⟩
  have hl : news.length = m * i.size := by rw [← hnews, Array.length_toList, size_zeroCells, hzs]
  have hna : Builtin.zeroCells z.cells m = news.toArray := by rw [← hnews]
  rw [hnews] at h1 ⊢
  have hsmall : n + m ≤ 9223372036854775807 := by simp only [maxLen] at h63; omega
  have hlen : (xs ++ news).length = (n + m) * i.size := by rw [List.length_append, hown.1, hl, Nat.add_mul]
  have hmb : m * i.bytes ≤ 140737488355328 := Nat.le_trans (Nat.mul_le_mul_right _ (by omega)) hbytes
  have hw : IntKind.i64.wrap (m : Int) = m := by rw [IntKind.wrap_i64]; omega
  have hneg : ¬ ((m : Int) < 0) := by omega
  have h48i : ¬ (281474976710656 < (m : Int) * (i.bytes : Int)) := by
    rw [← Int.natCast_mul]
    omega
  -- what the growing arm leaves
  have grown : ∀ (old : Nat), old < n + m →
      Own (w.drew.alloc (.cells (xs.toArray ++ news.toArray ++ Builtin.zeroCells z.cells (grownCap w (n + m) old e - (n + m))) e)) base e i.size (some ⟨w.heap.size, 0, none⟩) (n + m) (grownCap w (n + m) old e) (xs ++ news) ∧
      Grew base w (w.drew.alloc (.cells (xs.toArray ++ news.toArray ++ Builtin.zeroCells z.cells (grownCap w (n + m) old e - (n + m))) e)) a (some ⟨w.heap.size, 0, none⟩) := by
    intro old ho
    have hge := grownCap_ge w (n + m) old e
    have hcm : grownCap w (n + m) old e ≤ maxLen := grownCap_le_maxLen w (n + m) old e h63
    refine ⟨⟨hlen, .inr ⟨w.heap.size, _, _, rfl, hbase, heap_alloc_new w.drew _, hge, hcm, ?_, ?_⟩⟩, ⟨rfl, rfl, rfl, by simp, fun k hk _ => heap_alloc_old w.drew _ hk⟩, .inr rfl, hbase⟩
    · simp only [Array.size_append, List.size_toArray, size_zeroCells, hzs, hown.1, hl, ← Nat.add_mul]
      congr 1
      omega
    · simp only [Array.toList_append, List.append_assoc]
      rw [← List.append_assoc, ← hlen]
      exact List.take_left
  rcases hown.2 with ⟨hv, rfl⟩ | ⟨g, cap', cur, hv, hbg, hg, hnc, hcm, hcs, htake⟩
  · injection hv with e1 _ e3
    subst e1 e3
    have hx : xs = [] := List.eq_nil_of_length_eq_zero (by simpa using hown.1)
    subst hx
    by_cases hm : m = 0
    · subst hm
      have hn : news = [] := List.eq_nil_of_length_eq_zero (by simpa using hl)
      subst hn
      refine ⟨none, 0, w, ?_, World.ownsRow_nil w base e i.size, World.grownBy.refl w _, .inl rfl, hbase⟩
      have hw0 : IntKind.i64.wrap 0 = 0 := by rw [IntKind.wrap_i64]; rfl
      simp [Builtin.append_, run_underlying ht, run_underlying htn, sizeOf, typeInfo, hi, asInt, asIntOf, hw0]
    · have hr := Lib.run_append_nil_zeros (P := P) w t tn ty e i z kq kn ht htn hi hz m (by omega) hsz (by omega) (by omega)
      have hgr := grown 0 (by omega)
      simp only [Nat.zero_add, List.nil_append, Array.empty_append] at hgr ⊢
      rw [hna] at hr
      exact ⟨_, _, _, hr, hgr.1, hgr.2⟩
  · injection hv with e1 _ e3
    subst e1 e3
    by_cases hroom : n + m ≤ cap
    · have hfit : n * i.size + news.length ≤ cur.size := by rw [hl, hcs, ← Nat.add_mul]; exact Nat.mul_le_mul_right _ hroom
      have hst := run_storeCells_at P g (n * i.size) e news 0 cur w hg (by simpa using hfit) h1
      simp only [Nat.add_zero] at hst
      by_cases hm : m = 0
      · subst hm
        have hn : news = [] := List.eq_nil_of_length_eq_zero (by simpa using hl)
        subst hn
        refine ⟨some ⟨g, 0, none⟩, cap, w, ?_, by simpa using hown, World.grownBy.refl w _, .inl rfl, hbase⟩
        have hn' : n ≤ cap := by omega
        have hw0 : IntKind.i64.wrap 0 = 0 := by rw [IntKind.wrap_i64]; rfl
        simp [Builtin.append_, run_underlying ht, run_underlying htn, sizeOf, typeInfo, hi, asInt, asIntOf, hw0, hn', Addr.add_lit, storeCells]
      · have hns : ¬ (m * i.size = 0) := Nat.mul_ne_zero hm (by omega)
        have hr : (Builtin.append_ #[t, tn] ty #[.slice (some ⟨g, 0, none⟩) n cap, .int kq m]).run P w = .ok (.slice (some ⟨g, 0, none⟩) (n + m) cap) (w.setRow g (cur.toList.take (n * i.size) ++ news ++ cur.toList.drop (n * i.size + news.length)).toArray) := by
          simp [Builtin.append_, run_underlying ht, run_underlying htn, sizeOf, typeInfo, zeroValue, hi, hz, asInt, asIntOf, hw, hneg, hns, h48i, hroom, hna, Addr.add_lit, hst]
        refine ⟨_, _, _, hr, ⟨hlen, .inr ⟨g, cap, _, rfl, hbg, setRow_heap w g cur _ e _ hg, hroom, hcm, ?_, ?_⟩⟩, ⟨rfl, rfl, rfl, by simp, fun k _ hk => setRow_other w g k _ (fun e => hk (by simp [e]))⟩, .inl rfl, hbase⟩
        · simp only [List.size_toArray, List.length_append, List.length_take, List.length_drop, Array.length_toList]
          omega
        · rw [htake, ← hlen]
          exact List.take_left
    · have hm : 0 < m := by omega
      have holds : ∀ j u, xs[j]? = some u → w.drew.cell? ((⟨g, 0, none⟩ : Addr).add j) = some u := hown.cells (g := g) rfl
      have hf := run_firstCells_some (P := P) w.drew i.size n ⟨g, 0, none⟩ n cap xs hown.1 holds
      have hr := Lib.run_append_grow_zeros (P := P) w t tn ty e i z kq kn ht htn hi hz (some ⟨g, 0, none⟩) n cap xs hf m hm hsz (by omega) (by omega) (by omega) (growslice_fits (by omega) hbytes)
      have hgr := grown cap (by omega)
      rw [hna] at hr
      exact ⟨_, _, _, hr, hgr.1, hgr.2⟩
theorem zeros_byte (m : Nat) : (Builtin.zeroCells (Value.int .u8 0).cells m).toList = (List.replicate m (0 : UInt8)).map encB := by
  apply List.ext_getElem
  · simp [Builtin.zeroCells, Value.cells]
  · intro k h1 h2
    simp [Builtin.zeroCells, Value.cells, encB, Nat.mod_one]
/-- bytes: an operation's obligation -/
theorem obl_appZ {w : World} {ρ : Operand → Value} {R : Value → World → Prop} {dst : Option Tmp} {s x : Operand} {ty : TypeId} {pos : String} {after : Array Edge} {guard : Option (Nat × Bool)}
    (base : Nat) (b : Option Addr) (n cap : Nat) (l : List UInt8) (hs : ρ s = .slice b n cap) (m : Nat) (hx : ρ x = .int .i64 m)
    (own : Own w base 5 1 b n cap (l.map encB)) (N : Nat) (hN : N = n + m) (hbig : N ≤ 100000000000) (hbase : base ≤ w.heap.size)
    (h : ∀ b' cap' w', Own w' base 5 1 b' N cap' ((l ++ List.replicate m 0).map encB) → Grew base w w' b b' → (∀ W, Below base W w → Below base W w') → R (.slice b' N cap') w') :
    oblUpon Try.prog R ((execOp ρ { dst, op := .call { callee := .builtin .append, args := #[s, x], argTypes := #[22, 3] }, type := ty, pos, after, guard }).run Try.prog w) := by
  obtain ⟨i0, hi, hz0, hz1, hz2⟩ := info_parts info_byte
  obtain ⟨b', cap', w', hrun, own', g⟩ := run_append_rowZ (P := Try.prog) w base 22 3 ty _ i0 _ .i64 .i64 1 1 Try.underlying22 Try.underlying3 hi hz0 hz1 hz2 rfl (by decide) b n cap _ own m (by rw [zeros_byte]; exact mapB_one _) (by simp only [maxLen]; omega) (by omega) hbase
  simp only [execOp, resolve, invoke, builtin, Sem.run_bind, Sem.run_pure, Result.andThen_ok, List.map_toArray, List.map_cons, List.map_nil, hs, hx, hrun]
  rw [← hN] at own' ⊢
  rw [zeros_byte, ← List.map_append] at own'
  exact h b' cap' w' own' g (Grew.step own g)
end Go.Proofs.Ythkoijgobigdnaa
