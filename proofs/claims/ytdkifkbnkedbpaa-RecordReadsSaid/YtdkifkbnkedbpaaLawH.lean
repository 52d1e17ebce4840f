/- words for the laws of views -/
import Derived.Test.YtdkifkbnkedbpaaSignal
namespace Go.Proofs.Ytdkifkbnkedbpaa
set_option linter.unusedVariables false
open Go.RowKit Go.Sort
set_option maxRecDepth 100000

theorem boolOf_bool (b : Bool) : boolOf (.bool b) = some b := rfl
attribute [go_sem] boolOf_bool
/-- make([]int, n) -/
theorem wp_makeI {ops : Array Oper} {rest : List Oper} {dst : Option Tmp} {a : Act} {Q : Exit → Act → World → Prop} {w : World} {ty : TypeId} {pos : String} {after : Array Edge} {x y : Operand}
    (n : Nat) (hx : a.eval x = .int .i64 n) (hy : a.eval y = .int .i64 n) (hn : n ≤ 1000000)
    (h : ∀ W, Blk W w.heap.size 3 ((List.replicate n (0 : Int)).map encI).toArray → Below w.heap.size w W → W.heap.size = w.heap.size + 1 → wpList Try.prog ops Q rest (a.put dst (.slice (some ⟨w.heap.size, 0, none⟩) n n)) W) :
    wpList Try.prog ops Q ({ dst := dst, op := .makeSlice 23 x y, type := ty, pos := pos, after := after, guard := none } :: rest) a w := by
  obtain ⟨i0, hi, hz0, hz1, hz2⟩ := info_parts info_int
  refine wp_make _ i0 _ Try.underlying23 hi hz0 hz1 rfl n n hx hy (Nat.le_refl _) (by rw [hz2]; omega) (by omega) ?_
  intro W hW
  refine h W ?_
  rw [List.map_replicate]
  exact hW
/-- a view that an operation made -/
def VW (fl ov : Bool) (n : Nat) (cs ns : List Int) (v : Value) (b0 b1 : Nat) (W : World) : Prop :=
  ∃ (ca : Option Addr) (cc : Nat) (na : Option Addr) (nc : Nat), v = vAgg fl ov n ca cc na nc ∧ Own W b0 3 1 ca n cc (cs.map encI) ∧ Own W b0 3 1 na n nc (ns.map encI) ∧ (∀ k, ca.map (·.block) = some k → k < b1) ∧ ∀ k, na.map (·.block) = some k → k < b1
section
variable {fl ov : Bool} {n : Nat} {cs ns : List Int} {v : Value} {b0 b1 : Nat} {W W' : World}
theorem VW.keep (h : VW fl ov n cs ns v b0 b1 W) (hk : ∀ q, b0 ≤ q → q < b1 → W'.heap[q]? = W.heap[q]?) : VW fl ov n cs ns v b0 b1 W' := by
  obtain ⟨ca, cc, na, nc, hv, o1, o2, h1, h2⟩ := h
  exact ⟨ca, cc, na, nc, hv, o1.keep fun b hb hl _ => hk b hl (h1 b (by rw [hb]; rfl)), o2.keep fun b hb hl _ => hk b hl (h2 b (by rw [hb]; rfl)), h1, h2⟩
theorem VW.of {w w' : World} {ca na : Option Addr} {cc nc : Nat} (o1 : Own w' w.heap.size 3 1 ca n cc (cs.map encI)) (o2 : Own w' w.heap.size 3 1 na n nc (ns.map encI)) : VW fl ov n cs ns (vAgg fl ov n ca cc na nc) w.heap.size w'.heap.size w' := ⟨ca, cc, na, nc, rfl, o1, o2, o1.lt', o2.lt'⟩
end
/-- a slice of one view that has been laid -/
def VS1 (fl ov : Bool) (n : Nat) (u v : Value) (b0 b1 : Nat) (W : World) : Prop :=
  ∃ (b : Nat) (ca : Option Addr) (cc : Nat) (na : Option Addr) (nc : Nat), u = vAgg fl ov n ca cc na nc ∧ v = .slice (some ⟨b, 0, none⟩) 1 1 ∧ b0 ≤ b ∧ b < b1 ∧ Blk W b 43 #[.bool fl, .bool ov, .slice ca n cc, .slice na n nc]
theorem own_len {W : World} {b0 n c : Nat} {e : TypeId} {a : Option Addr} {l : List Int} (h : Own W b0 e 1 a n c (l.map encI)) : l.length = n := by have := h.1; simpa using this
theorem vws_one {W : World} {b n : Nat} {fl ov : Bool} {ca na : Option Addr} {cc nc b0 b1 : Nat} {cs ns : List Int} (k : Blk W b 43 #[.bool fl, .bool ov, .slice ca n cc, .slice na n nc]) (o1 : Own W b0 3 1 ca n cc (cs.map encI)) (o2 : Own W b1 3 1 na n nc (ns.map encI)) : Vws W (some ⟨b, 0, none⟩) [⟨fl, ov, cs, ns, ca, cc, na, nc⟩] := by
  have h1 := own_len o1
  have h2 := own_len o2
  refine ⟨.inr ⟨b, 0, rfl, k.lt, fun i hi => ?_⟩, fun v hv => by rw [List.mem_singleton.1 hv]; exact o1.ints, fun v hv => by rw [List.mem_singleton.1 hv]; exact o2.ints⟩
  rw [Nat.zero_add, k.cell]
  have hi4 : i < 4 := by have := vxCells_len [⟨fl, ov, cs, ns, ca, cc, na, nc⟩]; simp at this; omega
  have : i = 0 ∨ i = 1 ∨ i = 2 ∨ i = 3 := by omega
  rcases this with rfl | rfl | rfl | rfl <;> simp [vxCells, Vx.cells, h1, h2]
/-- Same of two slices of one view each that say the same -/
theorem same_one {W : World} {n : Nat} {fl ov : Bool} {cs ns : List Int} {u u' v v' : Value} {b0 b1 b2 b3 b4 b5 b6 b7 : Nat} (h1 : VW fl ov n cs ns u b0 b1 W) (h2 : VS1 fl ov n u v b2 b3 W) (h3 : VW fl ov n cs ns u' b4 b5 W) (h4 : VS1 fl ov n u' v' b6 b7 W) (hn : n ≤ 1000000) :
    Calls Try.prog 18 #[v, v'] W fun e w' => e = .returned (.bool true) ∧ Below W.heap.size W w' := by
  obtain ⟨ca, cc, na, nc, hv, o1, o2, -, -⟩ := h1
  obtain ⟨b, ca', cc', na', nc', hv', rfl, -, -, k⟩ := h2
  obtain ⟨rfl, rfl, rfl, rfl⟩ : ca = ca' ∧ cc = cc' ∧ na = na' ∧ nc = nc' := by
    rw [hv] at hv'
    simpa [and_assoc] using hv'
  obtain ⟨ca2, cc2, na2, nc2, hv2, o3, o4, -, -⟩ := h3
  obtain ⟨b', ca', cc', na', nc', hv', rfl, -, -, k'⟩ := h4
  obtain ⟨rfl, rfl, rfl, rfl⟩ : ca2 = ca' ∧ cc2 = cc' ∧ na2 = na' ∧ nc2 = nc' := by
    rw [hv2] at hv'
    simpa [and_assoc] using hv'
  have l1 := own_len o1
  have l2 := own_len o2
  exact ref23_Same _ _ _ _ 1 1 1 1 W (vws_one k o1 o2) (vws_one k' o3 o4) rfl rfl (by simp) rfl (fun v hv => by rw [List.mem_singleton.1 hv]; exact ⟨by simp only; omega, by simp only; omega⟩)
end Go.Proofs.Ytdkifkbnkedbpaa
