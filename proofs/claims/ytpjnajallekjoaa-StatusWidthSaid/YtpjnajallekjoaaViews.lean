/- lists of views in memory; signalbrokerref23.ints, Same -/
import Derived.Test.YtpjnajallekjoaaOfR
namespace Go.Proofs.Ytpjnajallekjoaa
set_option linter.unusedVariables false
open Go.RowKit Go.Sort
set_option maxRecDepth 100000

/-- a view in a list: what it says, and where its numbers lie -/
structure Vx where
  fl : Bool
  ov : Bool
  cs : List Int
  ns : List Int
  ca : Option Addr
  cc : Nat
  na : Option Addr
  nc : Nat
abbrev Vk := Bool × Bool × List Int × List Int
def Vx.key (v : Vx) : Vk := (v.fl, v.ov, v.cs, v.ns)
def Vx.cells (v : Vx) : List Value := [.bool v.fl, .bool v.ov, .slice v.ca v.cs.length v.cc, .slice v.na v.ns.length v.nc]
def vxCells (l : List Vx) : List Value := l.flatMap Vx.cells
theorem vxCells_len : ∀ l : List Vx, (vxCells l).length = 4 * l.length
  | [] => rfl
  | v :: l => by
    have := vxCells_len l
    simp only [vxCells, List.flatMap_cons, List.length_append, List.length_cons] at this ⊢
    rw [this]
    simp [Vx.cells]
    omega
theorem vxCells_append (l m : List Vx) : vxCells (l ++ m) = vxCells l ++ vxCells m := by simp [vxCells]
theorem vxCells_get : ∀ (l : List Vx) (i : Nat) (h : i < l.length) (j : Nat) (_ : j < 4), (vxCells l)[4 * i + j]? = (l[i]).cells[j]?
  | p :: l, 0, _, j, hj => by
    simp only [vxCells, List.flatMap_cons]
    rw [Nat.mul_zero, Nat.zero_add, List.getElem?_append_left (by simp [Vx.cells]; omega)]
    rfl
  | p :: l, i + 1, h, j, hj => by
    have := vxCells_get l i (by simpa using h) j hj
    simp only [vxCells, List.flatMap_cons] at this ⊢
    rw [List.getElem?_append_right (by simp [Vx.cells]; omega)]
    simp only [List.getElem_cons_succ]
    rw [← this]
    congr 1
    simp [Vx.cells]
    omega
/-- views that can be read -/
structure Vws (w : World) (a : Option Addr) (l : List Vx) : Prop where
  row : Row w a (vxCells l)
  cs : ∀ v ∈ l, Ints w v.ca v.cs
  ns : ∀ v ∈ l, Ints w v.na v.ns
theorem Vws.below {w w' : World} {B : Nat} {a : Option Addr} {l : List Vx} (h : Vws w a l) (hb : Below B w w') (hB : w.heap.size ≤ B) : Vws w' a l :=
  ⟨h.row.below hb hB, fun v hv => (h.cs v hv).below hb hB, fun v hv => (h.ns v hv).below hb hB⟩
theorem Vws.alloc {w : World} {a : Option Addr} {l : List Vx} (h : Vws w a l) (o : Obj) : Vws (w.alloc o) a l :=
  h.below ((by repeat (first | (with_reducible refine Below.setCell ?_ ?_ _) | (with_reducible refine Below.alloc ?_ ?_ _) | (with_reducible refine Below.drew ?_) | (with_reducible refine below_drewN ?_ _) | (with_reducible exact Below.refl _ _) | (focus (simp; done)) | (focus (simp; omega)) | (focus omega)))) (Nat.le_refl _)
theorem Vws.open {w : World} {a : Option Addr} {l : List Vx} (h : Vws w a l) (hl : 0 < l.length) : ∃ b off, a = some ⟨b, off, none⟩ := by
  rcases h.row with h0 | ⟨b, off, e, _⟩
  · have := vxCells_len l; rw [h0] at this; simp at this; omega
  · exact ⟨b, off, e⟩
theorem row_view {w : World} {g off : Nat} {l : List Vx} (h : Row w (some ⟨g, off, none⟩) (vxCells l)) (x : Nat) (hx : x < l.length) :
    w.cell? ⟨g, off + x * 4, none⟩ = some (.bool l[x].fl) ∧ w.cell? ⟨g, off + x * 4 + 1, none⟩ = some (.bool l[x].ov) ∧ w.cell? ⟨g, off + x * 4 + 2, none⟩ = some (.slice l[x].ca l[x].cs.length l[x].cc) ∧ w.cell? ⟨g, off + x * 4 + 3, none⟩ = some (.slice l[x].na l[x].ns.length l[x].nc) ∧ g < w.heap.size := by
  have hl := vxCells_len l
  rcases h with h | ⟨b, off', e, hlt, hc⟩
  · rw [h] at hl; simp at hl; omega
  · injection e with e
    injection e with e1 e2 _
    subst e1 e2
    have key : ∀ j, j < 4 → ∀ v, (l[x].cells)[j]? = some v → w.cell? ⟨g, off + x * 4 + j, none⟩ = some v := fun j hj v hv => by
      have q0 : 4 * x + j < (vxCells l).length := by omega
      have := hc (4 * x + j) q0
      rw [show off + x * 4 + j = off + (4 * x + j) by omega, this]
      have q := vxCells_get l x hx j hj
      rw [hv, List.getElem?_eq_getElem q0] at q
      exact q
    exact ⟨key 0 (by omega) _ rfl, key 1 (by omega) _ rfl, key 2 (by omega) _ rfl, key 3 (by omega) _ rfl, hlt⟩
end Go.Proofs.Ytpjnajallekjoaa
