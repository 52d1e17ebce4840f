/- lists of views in memory; signalbrokerref23.ints, Same -/
import Derived.Test.YtdkifkbnkedbpaaOfR
namespace Go.Proofs.Ytdkifkbnkedbpaa
set_option linter.unusedVariables false
open Go.RowKit Go.Sort
set_option maxRecDepth 100000

/-- a view in a list: what it says, and where its numbers lie -/
structure Vx where
  fl : Bool
  ov : Bool
  cs : List Int
  ns : List Int
  ca : Option Addr
  cc : Nat
  na : Option Addr
  nc : Nat
abbrev Vk := Bool × Bool × List Int × List Int
def Vx.key (v : Vx) : Vk := (v.fl, v.ov, v.cs, v.ns)
def Vx.cells (v : Vx) : List Value := [.bool v.fl, .bool v.ov, .slice v.ca v.cs.length v.cc, .slice v.na v.ns.length v.nc]
def vxCells (l : List Vx) : List Value := l.flatMap Vx.cells
theorem vxCells_len : ∀ l : List Vx, (vxCells l).length = 4 * l.length
  | [] => rfl
  | v :: l => by
    have := vxCells_len l
    simp only [vxCells, List.flatMap_cons, List.length_append, List.length_cons] at this ⊢
    rw [this]
    simp [Vx.cells]
    omega
theorem vxCells_append (l m : List Vx) : vxCells (l ++ m) = vxCells l ++ vxCells m := by simp [vxCells]
theorem vxCells_get : ∀ (l : List Vx) (i : Nat) (h : i < l.length) (j : Nat) (_ : j < 4), (vxCells l)[4 * i + j]? = (l[i]).cells[j]?
  | p :: l, 0, _, j, hj => by
    simp only [vxCells, List.flatMap_cons]
    rw [Nat.mul_zero, Nat.zero_add, List.getElem?_append_left (by simp [Vx.cells]; omega)]
    rfl
  | p :: l, i + 1, h, j, hj => by
    have := vxCells_get l i (by simpa using h) j hj
    simp only [vxCells, List.flatMap_cons] at this ⊢
    rw [List.getElem?_append_right (by simp [Vx.cells]; omega)]
    simp only [List.getElem_cons_succ]
    rw [← this]
    congr 1
    simp [Vx.cells]
    omega
/-- views that can be read -/
structure Vws (w : World) (a : Option Addr) (l : List Vx) : Prop where
  row : Row w a (vxCells l)
  cs : ∀ v ∈ l, Ints w v.ca v.cs
  ns : ∀ v ∈ l, Ints w v.na v.ns
theorem Vws.below {w w' : World} {B : Nat} {a : Option Addr} {l : List Vx} (h : Vws w a l) (hb : Below B w w') (hB : w.heap.size ≤ B) : Vws w' a l :=
  ⟨h.row.below hb hB, fun v hv => (h.cs v hv).below hb hB, fun v hv => (h.ns v hv).below hb hB⟩
theorem Vws.alloc {w : World} {a : Option Addr} {l : List Vx} (h : Vws w a l) (o : Obj) : Vws (w.alloc o) a l :=
  h.below ((by repeat (first | (with_reducible refine Below.setCell ?_ ?_ _) | (with_reducible refine Below.alloc ?_ ?_ _) | (with_reducible refine Below.drew ?_) | (with_reducible refine below_drewN ?_ _) | (with_reducible exact Below.refl _ _) | (focus (simp; done)) | (focus (simp; omega)) | (focus omega)))) (Nat.le_refl _)
theorem Vws.open {w : World} {a : Option Addr} {l : List Vx} (h : Vws w a l) (hl : 0 < l.length) : ∃ b off, a = some ⟨b, off, none⟩ := by
  rcases h.row with h0 | ⟨b, off, e, _⟩
  · have := vxCells_len l; rw [h0] at this; simp at this; omega
  · exact ⟨b, off, e⟩
theorem row_view {w : World} {g off : Nat} {l : List Vx} (h : Row w (some ⟨g, off, none⟩) (vxCells l)) (x : Nat) (hx : x < l.length) :
    w.cell? ⟨g, off + x * 4, none⟩ = some (.bool l[x].fl) ∧ w.cell? ⟨g, off + x * 4 + 1, none⟩ = some (.bool l[x].ov) ∧ w.cell? ⟨g, off + x * 4 + 2, none⟩ = some (.slice l[x].ca l[x].cs.length l[x].cc) ∧ w.cell? ⟨g, off + x * 4 + 3, none⟩ = some (.slice l[x].na l[x].ns.length l[x].nc) ∧ g < w.heap.size := by
  have hl := vxCells_len l
  rcases h with h | ⟨b, off', e, hlt, hc⟩
  · rw [h] at hl; simp at hl; omega
  · injection e with e
    injection e with e1 e2 _
    subst e1 e2
    have key : ∀ j, j < 4 → ∀ v, (l[x].cells)[j]? = some v → w.cell? ⟨g, off + x * 4 + j, none⟩ = some v := fun j hj v hv => by
      have q0 : 4 * x + j < (vxCells l).length := by omega
      have := hc (4 * x + j) q0
      rw [show off + x * 4 + j = off + (4 * x + j) by omega, this]
      have q := vxCells_get l x hx j hj
      rw [hv, List.getElem?_eq_getElem q0] at q
      exact q
    exact ⟨key 0 (by omega) _ rfl, key 1 (by omega) _ rfl, key 2 (by omega) _ rfl, key 3 (by omega) _ rfl, hlt⟩
set_option maxHeartbeats 2000000 in
theorem ref23_ints (a b : Option Addr) (l : List Int) (n m ca cb : Nat) (w : World) (hl : Ints w a l) (hm : Ints w b l) (hn : n = l.length) (hm2 : m = l.length) (l9 : l.length ≤ 1000000000000) :
    Calls Try.prog 34 #[.slice a n ca, .slice b m cb] w fun e w' => e = .returned (.bool true) ∧ w = w' := by
  subst hn hm2
  go_enter Try.func34, Try.ntmps34
  go_wp2
  go_loopw [14] (fun i wr => ∃ k : Nat, k ≤ l.length ∧ i = .int .i64 k ∧ w = wr) (fun i _ => l.length - (intOf i).toNat)
  case atStart => exact ⟨0, by omega, rfl, rfl⟩
  case round =>
    obtain ⟨k, hk, rfl, rfl⟩ := hrel
    by_cases hlt : k < l.length
    · have h0 : l ≠ [] := by intro e; rw [e] at hlt; simp at hlt
      obtain ⟨ba, oa, rfl, la, xa⟩ := hl.open.resolve_left h0
      obtain ⟨bb, ob, rfl, lb, xb⟩ := hm.open.resolve_left h0
      have x0 := xa k hlt
      have y0 := xb k hlt
      have kx : (k : Int) < (l.length : Int) := by omega
      clear xa xb
      go_wp2
      go_roundw
      case rel => exact ⟨k + 1, by omega, by go_num, by trivial⟩
      case measure => simp [intOf]; omega
    · obtain rfl : k = l.length := by omega
      go_wp2
      go_ret
      exact ⟨rfl, rfl⟩
set_option maxHeartbeats 4000000 in
theorem ref23_Same (a b : Option Addr) (l m : List Vx) (n n' ca cb : Nat) (w : World) (hl : Vws w a l) (hm : Vws w b m) (ha : n = l.length) (hb : n' = m.length) (l9 : l.length ≤ 1000000) (hk : l.map Vx.key = m.map Vx.key) (hc : ∀ v ∈ l, v.cs.length ≤ 1000000 ∧ v.ns.length ≤ 1000000) :
    Calls Try.prog 18 #[.slice a n ca, .slice b n' cb] w fun e w' => e = .returned (.bool true) ∧ Below w.heap.size w w' := by
  have hlm : m.length = l.length := by have := congrArg List.length hk; simpa using this.symm
  rw [hlm] at hb
  subst ha hb
  have HK := Lib.hid hk
  clear hk
  go_enter Try.func18, Try.ntmps18
  go_wp2
  go_loopw [15] (fun i wr => ∃ k : Nat, k ≤ l.length ∧ i = .int .i64 k ∧ RowKit.Below w.heap.size w wr) (fun i _ => l.length - (intOf i).toNat)
  case atStart => exact ⟨0, by omega, rfl, (by repeat (first | (with_reducible refine Below.setCell ?_ ?_ _) | (with_reducible refine Below.alloc ?_ ?_ _) | (with_reducible refine Below.drew ?_) | (with_reducible refine below_drewN ?_ _) | (with_reducible exact Below.refl _ _) | (focus (simp; done)) | (focus (simp; omega)) | (focus omega)))⟩
  case round =>
    obtain ⟨k, hk, rfl, be⟩ := hrel
    by_cases hlt : k < l.length
    · have km : k < m.length := by omega
      obtain ⟨ba, oa, rfl⟩ := hl.open (by omega)
      obtain ⟨bb, ob, rfl⟩ := hm.open (by omega)
      have il := hl.below be (Nat.le_refl _)
      have im := hm.below be (Nat.le_refl _)
      obtain ⟨x0, x1, x2, x3, xb⟩ := row_view il.row k hlt
      obtain ⟨y0, y1, y2, y3, yb⟩ := row_view im.row k km
      have c1 := il.cs _ (List.getElem_mem hlt)
      have c2 := il.ns _ (List.getElem_mem hlt)
      have d1 := im.cs _ (List.getElem_mem km)
      have d2 := im.ns _ (List.getElem_mem km)
      have hcc := hc _ (List.getElem_mem hlt)
      have hkk : l[k].key = m[k].key := by
        have := congrArg (·[k]?) HK.out
        simpa [hlt, km] using this
      obtain ⟨x, hx⟩ : ∃ x, l[k] = x := ⟨_, rfl⟩
      obtain ⟨y, hy⟩ : ∃ y, m[k] = y := ⟨_, rfl⟩
      rw [hx] at x0 x1 x2 x3 c1 c2 hkk hcc
      rw [hy] at y0 y1 y2 y3 d1 d2 hkk
      clear hx hy il im
      obtain ⟨xf, xo, xcs, xns, xca, xcc, xna, xnc⟩ := x
      obtain ⟨yf, yo, ycs, yns, yca, ycc, yna, ync⟩ := y
      simp only [Vx.key, Prod.mk.injEq] at hkk
      obtain ⟨rfl, rfl, rfl, rfl⟩ := hkk
      simp only at x0 x1 x2 x3 y0 y1 y2 y3 c1 c2 d1 d2 hcc
      have kx : (k : Int) < (l.length : Int) := by omega
      have z1 : (xf != xf) = false := by simp
      have z2 : (xo != xo) = false := by simp
      have C1 : ∀ W, RowKit.Below wr.heap.size wr W → Ints W xca xcs := fun W h => c1.below h (Nat.le_refl _)
      have C2 : ∀ W, RowKit.Below wr.heap.size wr W → Ints W xna xns := fun W h => c2.below h (Nat.le_refl _)
      have D1 : ∀ W, RowKit.Below wr.heap.size wr W → Ints W yca xcs := fun W h => d1.below h (Nat.le_refl _)
      have D2 : ∀ W, RowKit.Below wr.heap.size wr W → Ints W yna xns := fun W h => d2.below h (Nat.le_refl _)
      go_wp2_with (first | (go_at_call 34; (with_reducible refine (ref23_ints xca yca xcs _ _ _ _ _ (C1 _ (by repeat (first | (with_reducible refine Below.setCell ?_ ?_ _) | (with_reducible refine Below.alloc ?_ ?_ _) | (with_reducible refine Below.drew ?_) | (with_reducible refine below_drewN ?_ _) | (with_reducible exact Below.refl _ _) | (focus (simp; done)) | (focus (simp; omega)) | (focus omega)))) (D1 _ (by repeat (first | (with_reducible refine Below.setCell ?_ ?_ _) | (with_reducible refine Below.alloc ?_ ?_ _) | (with_reducible refine Below.drew ?_) | (with_reducible refine below_drewN ?_ _) | (with_reducible exact Below.refl _ _) | (focus (simp; done)) | (focus (simp; omega)) | (focus omega)))) rfl rfl (by omega)).mono ?_); rintro e w2 ⟨rfl, rfl⟩) | (go_at_call 34; (with_reducible refine (ref23_ints xna yna xns _ _ _ _ _ (C2 _ (by repeat (first | (with_reducible refine Below.setCell ?_ ?_ _) | (with_reducible refine Below.alloc ?_ ?_ _) | (with_reducible refine Below.drew ?_) | (with_reducible refine below_drewN ?_ _) | (with_reducible exact Below.refl _ _) | (focus (simp; done)) | (focus (simp; omega)) | (focus omega)))) (D2 _ (by repeat (first | (with_reducible refine Below.setCell ?_ ?_ _) | (with_reducible refine Below.alloc ?_ ?_ _) | (with_reducible refine Below.drew ?_) | (with_reducible refine below_drewN ?_ _) | (with_reducible exact Below.refl _ _) | (focus (simp; done)) | (focus (simp; omega)) | (focus omega)))) rfl rfl (by omega)).mono ?_); rintro e w2 ⟨rfl, rfl⟩))
      go_roundw
      case rel => exact ⟨k + 1, by omega, by go_num, (by repeat (first | (with_reducible refine Below.setCell ?_ ?_ _) | (with_reducible refine Below.alloc ?_ ?_ _) | (with_reducible refine Below.drew ?_) | (with_reducible refine below_drewN ?_ _) | (with_reducible exact Below.refl _ _) | (with_reducible refine Below.trans ?_ (Below.mono be ?_)) | (focus (simp; done)) | (focus (simp; omega)) | (focus omega) | (focus (have q0 := Below.size be; (try simp at q0); (try simp); omega))))⟩
      case measure => simp [intOf]; omega
    · obtain rfl : k = l.length := by omega
      go_wp2
      go_ret
      exact ⟨rfl, be⟩
end Go.Proofs.Ytdkifkbnkedbpaa
