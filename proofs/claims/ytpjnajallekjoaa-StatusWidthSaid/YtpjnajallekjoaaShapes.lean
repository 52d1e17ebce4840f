/- signalbrokermake.shapes; phases; where the deck stands behind a junction -/
import Derived.Test.YtpjnajallekjoaaDeck
namespace Go.Proofs.Ytpjnajallekjoaa
open Go.RowKit Go.Sort
set_option maxRecDepth 100000

def shapeLen (n : Int) : Nat := if n = 0 then 2 else if n = 1 then 4 else if n = 2 then 3 else if n = 3 then 8 else if n = 4 then 3 else 1
theorem shapeLen_bd (n : Int) : 1 ≤ shapeLen n ∧ shapeLen n ≤ 8 := by
  unfold shapeLen
  repeat' split
  all_goals omega
def ShapeRet (m : Nat) (w : World) (e : Ending) (w' : World) : Prop := ∃ xs : List Int, e = .returned (.slice (some ⟨w.heap.size, 0, none⟩) m m) ∧ xs.length = 2 * m ∧ Ints w' (some ⟨w.heap.size, 0, none⟩) xs ∧ (∀ x ∈ xs, 0 ≤ x ∧ x ≤ 2) ∧ Below w.heap.size w w'
theorem ShapeRet.mk {m : Nat} {w : World} (C : Array Value) (e : TypeId) (xs : List Int) (h1 : C.toList = xs.map encI) (h2 : xs.length = 2 * m) (h3 : ∀ x ∈ xs, 0 ≤ x ∧ x ≤ 2) : ShapeRet m w (.returned (.slice (some ⟨w.heap.size, 0, none⟩) m m)) (w.alloc (.cells C e)) :=
  ⟨xs, rfl, h2, by unfold Ints; rw [← h1]; exact row_new w C e (0, 0), h3, (Below.refl _ _).alloc (Nat.le_refl _) _⟩

theorem mk_shapes (n : Int) (w : World) (h0 : 0 ≤ n) (h1 : n < 6) : Calls Try.prog 37 #[.int .i64 n] w (ShapeRet (shapeLen n) w) := by
  have hn : n = 0 ∨ n = 1 ∨ n = 2 ∨ n = 3 ∨ n = 4 ∨ n = 5 := by omega
  rcases hn with rfl | rfl | rfl | rfl | rfl | rfl
  all_goals
    go_enter Try.func37, Try.ntmps37
    go_wp2
    go_ret
  · exact ShapeRet.mk _ _ [0, 0, 0, 0] rfl rfl (by decide)
  · exact ShapeRet.mk _ _ [0, 0, 1, 0, 0, 1, 1, 1] rfl rfl (by decide)
  · exact ShapeRet.mk _ _ [0, 0, 1, 0, 0, 0] rfl rfl (by decide)
  · exact ShapeRet.mk _ _ [0, 0, 0, 0, 1, 0, 1, 0, 0, 1, 0, 1, 1, 1, 1, 1] rfl rfl (by decide)
  · exact ShapeRet.mk _ _ [1, 0, 0, 1, 0, 2] rfl rfl (by decide)
  · exact ShapeRet.mk _ _ [0, 0] rfl rfl (by decide)

theorem info_phase : (Try.prog.info? 85).map (fun i => (i.zero, i.size, i.bytes)) = some (some (.agg #[.int .i64 0, .int .i64 0, .int .i64 0, .int .i64 0, .int .i64 0, .int .i64 0, .int .i64 0, .int .i64 0]), 8, 64) := by kernel_rfl
theorem info_int : (Try.prog.info? 3).map (fun i => (i.zero, i.size, i.bytes)) = some (some (.int .i64 0), 1, 8) := by kernel_rfl
/-- a phase's eight numbers, as the deck makes them -/
structure Ph where
  ring : Int
  group : Int
  ming : Int
  maxg : Int
  yellow : Int
  red : Int
  walk : Int
  clear_ : Int
def Ph.ints (p : Ph) : List Int := [p.ring, p.group, p.ming, p.maxg, p.yellow, p.red, p.walk, p.clear_]
def Ph.agg (p : Ph) : Value := .agg #[.int .i64 p.ring, .int .i64 p.group, .int .i64 p.ming, .int .i64 p.maxg, .int .i64 p.yellow, .int .i64 p.red, .int .i64 p.walk, .int .i64 p.clear_]
structure PhOk (p : Ph) : Prop where
  ring : 0 ≤ p.ring ∧ p.ring ≤ 2
  group : 0 ≤ p.group ∧ p.group ≤ 2
  ming : 1 ≤ p.ming ∧ p.ming ≤ 3
  maxg : p.ming ≤ p.maxg ∧ p.walk + p.clear_ ≤ p.maxg ∧ p.maxg ≤ 7
  yellow : 1 ≤ p.yellow ∧ p.yellow ≤ 2
  red : 0 ≤ p.red ∧ p.red ≤ 2
  walk : (p.walk = 0 ∧ p.clear_ = 0) ∨ (1 ≤ p.walk ∧ p.walk ≤ 2 ∧ 1 ≤ p.clear_ ∧ p.clear_ ≤ 2)
def phCells (l : List Ph) : List Value := l.flatMap fun p => p.ints.map encI
theorem phCells_len : ∀ l : List Ph, (phCells l).length = 8 * l.length
  | [] => rfl
  | p :: l => by
    have := phCells_len l
    simp only [phCells, List.flatMap_cons, List.length_append, List.length_cons] at this ⊢
    rw [this]
    simp [Ph.ints]
    omega
theorem phCells_get : ∀ (l : List Ph) (i : Nat) (h : i < l.length) (j : Nat) (_ : j < 8), (phCells l)[8 * i + j]? = ((l[i]).ints.map encI)[j]?
  | p :: l, 0, _, j, hj => by
    simp only [phCells, List.flatMap_cons]
    rw [Nat.mul_zero, Nat.zero_add, List.getElem?_append_left (by simp [Ph.ints]; omega)]
    rfl
  | p :: l, i + 1, h, j, hj => by
    have := phCells_get l i (by simpa using h) j hj
    simp only [phCells, List.flatMap_cons] at this ⊢
    rw [List.getElem?_append_right (by simp [Ph.ints]; omega)]
    simp only [List.getElem_cons_succ]
    rw [← this]
    congr 1
    simp [Ph.ints]
    omega
theorem phCells_append (l : List Ph) (p : Ph) : phCells (l ++ [p]) = phCells l ++ p.ints.map encI := by simp [phCells]

/-- the eight cells of a phase in a row of phases -/
theorem row_phase {w : World} {g : Nat} {ps : List Ph} (h : Row w (some ⟨g, 0, none⟩) (phCells ps)) (x : Nat) (hx : x < ps.length) :
    w.cell? ⟨g, x * 8, none⟩ = some (.int .i64 ps[x].ring) ∧ w.cell? ⟨g, x * 8 + 1, none⟩ = some (.int .i64 ps[x].group) ∧ w.cell? ⟨g, x * 8 + 2, none⟩ = some (.int .i64 ps[x].ming) ∧ w.cell? ⟨g, x * 8 + 3, none⟩ = some (.int .i64 ps[x].maxg) ∧
    w.cell? ⟨g, x * 8 + 4, none⟩ = some (.int .i64 ps[x].yellow) ∧ w.cell? ⟨g, x * 8 + 5, none⟩ = some (.int .i64 ps[x].red) ∧ w.cell? ⟨g, x * 8 + 6, none⟩ = some (.int .i64 ps[x].walk) ∧ w.cell? ⟨g, x * 8 + 7, none⟩ = some (.int .i64 ps[x].clear_) := by
  have hl := phCells_len ps
  have key : ∀ j, j < 8 → ∀ v, (ps[x].ints.map encI)[j]? = some v → w.cell? ⟨g, x * 8 + j, none⟩ = some v := fun j hj v hv => by
    rcases h with h | ⟨b, off, e, _, hc⟩
    · rw [h] at hl; simp at hl; omega
    · injection e with e
      injection e with e1 e2 _
      subst e1 e2
      have := hc (8 * x + j) (by omega)
      rw [show x * 8 + j = 0 + (8 * x + j) by omega, this]
      have q := phCells_get ps x hx j hj
      rw [hv] at q
      rw [List.getElem?_eq_getElem (by omega)] at q
      exact q
  exact ⟨key 0 (by omega) _ rfl, key 1 (by omega) _ rfl, key 2 (by omega) _ rfl, key 3 (by omega) _ rfl, key 4 (by omega) _ rfl, key 5 (by omega) _ rfl, key 6 (by omega) _ rfl, key 7 (by omega) _ rfl⟩

/-- where the deck stands behind a phase's numbers -/
def phPos (l : List Int) (k : Nat) : Nat :=
  let k3 := dPos l (dPos l (dPos l k))
  let k4 := dPos l k3
  dPos l (if dVal l k3 3 = 2 then dPos l (dPos l k4) else k4)
def iter (f : Nat → Nat) : Nat → Nat → Nat
  | 0, k => k
  | n + 1, k => iter f n (f k)
theorem iter_succ (f : Nat → Nat) : ∀ n k, iter f (n + 1) k = f (iter f n k)
  | 0, _ => rfl
  | n + 1, k => iter_succ f n (f k)
/-- how many phases the next junction has, and where the deck stands behind it -/
def junLen (l : List Int) (k : Nat) : Nat := shapeLen (dVal l k 6)
def junPos (l : List Int) (k : Nat) : Nat := dPos l (iter (phPos l) (junLen l k) (dPos l (dPos l k)))
end Go.Proofs.Ytpjnajallekjoaa
