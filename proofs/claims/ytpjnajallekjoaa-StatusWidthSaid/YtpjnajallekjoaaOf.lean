/- record.Of, signalbrokerref23.Of -/
import Derived.Test.YtpjnajallekjoaaFlash
namespace Go.Proofs.Ytpjnajallekjoaa
set_option linter.unusedVariables false
open Go.RowKit Go.Sort
set_option maxRecDepth 100000

def vCol (a : Int) : Int := if a = 1 ∨ a = 2 then a else 0
def vCols (ls : List (Int × Int)) : List Int := ls.map fun l => vCol l.1
def vCnts (ps : List Ph) (ls : List (Int × Int)) : List Int := List.zipWith (fun p l => lCount p l.1 l.2) ps ls
theorem vCols_len (ls : List (Int × Int)) : (vCols ls).length = ls.length := by simp [vCols]
theorem vCnts_len {ps : List Ph} {ls : List (Int × Int)} (h : ls.length = ps.length) : (vCnts ps ls).length = ps.length := by simp [vCnts, h]
/-- the first i numbers, and noughts -/
def fillTo (l : List Int) (n i : Nat) : List Int := l.take i ++ List.replicate (n - i) 0
theorem fillTo_zero (l : List Int) (n : Nat) : fillTo l n 0 = List.replicate n 0 := by simp [fillTo]
theorem fillTo_all {l : List Int} {n : Nat} (h : l.length = n) : fillTo l n n = l := by simp [fillTo, ← h]
theorem fillTo_len {l : List Int} {n i : Nat} (h : l.length = n) (hi : i ≤ n) : (fillTo l n i).length = n := by simp [fillTo]; omega
theorem fillTo_set {l : List Int} {n i : Nat} (h : l.length = n) (hi : i < n) (x : Int) (hx : l[i]'(by omega) = x) : (fillTo l n i).set i x = fillTo l n (i + 1) := by
  subst hx
  unfold fillTo
  have h1 : (l.take i).length = i := by simp; omega
  rw [List.set_append_right _ _ (by omega), h1, Nat.sub_self, show n - i = (n - (i + 1)) + 1 by omega, List.replicate_succ, List.set_cons_zero, ← List.take_append_getElem (by omega), List.append_assoc]
  rfl
theorem fill_one {w : World} {B : Nat} {l : List Int} {n i : Nat} (h : Blk w B 3 ((fillTo l n i).map encI).toArray) (hl : l.length = n) (hi : i < n) (x : Int) (hx : l[i]'(by omega) = x) : Blk (w.setCell ⟨B, i, none⟩ (.int .i64 x)) B 3 ((fillTo l n (i + 1)).map encI).toArray := by
  rw [← fillTo_set hl hi x hx]
  exact h.setL i x rfl
theorem fill_two {w : World} {B : Nat} {l : List Int} {n i : Nat} (h : Blk w B 3 ((fillTo l n i).map encI).toArray) (hl : l.length = n) (hi : i < n) (x : Int) (hx : l[i]'(by omega) = x) : Blk ((w.setCell ⟨B, i, none⟩ (.int .i64 0)).setCell ⟨B, i, none⟩ (.int .i64 x)) B 3 ((fillTo l n (i + 1)).map encI).toArray := by
  have h2 := (h.setL i 0 (u := .int .i64 0) rfl).setL i x (u := .int .i64 x) rfl
  rw [List.set_set, fillTo_set hl hi x hx] at h2
  exact h2
theorem fill_cell {w : World} {B : Nat} {l : List Int} {n i : Nat} (h : Blk w B 3 ((fillTo l n i).map encI).toArray) (hl : l.length = n) (hi : i < n) : w.cell? ⟨B, i, none⟩ = some (.int .i64 0) := by
  have hk : (fillTo l n i).length = n := fillTo_len hl (by omega)
  rw [h.cellL i (by omega)]
  congr 1
  show Value.int .i64 _ = _
  congr 1
  simp only [fillTo]
  rw [List.getElem_append_right (by simp; omega)]
  simp
theorem Blk.bel {w W w' : World} {g : Nat} {t : TypeId} {cs : Array Value} {B : Nat} (h : Blk w g t cs) (hb : Below B W w') (hg : g < B) (e : W.heap = w.heap := by rfl) : Blk w' g t cs := by
  have := hb.block g hg
  rw [e] at this
  exact this.trans h
@[reducible] def sAgg (la : Option Addr) (n lc : Nat) (g : Int) (na : Option Addr) (nn nc : Nat) (wt : Int) (lat : Bool) : Value := .agg #[.slice la n lc, .int .i64 g, .slice na nn nc, .int .i64 wt, .bool lat]
/-- a view of n phases, made by the call -/
def VwR (fl ov : Bool) (n : Nat) (cs ns : List Int) (w : World) (e : Ending) (w' : World) : Prop :=
  ∃ (ca : Option Addr) (cc : Nat) (na : Option Addr) (nc : Nat), e = .returned (vAgg fl ov n ca cc na nc) ∧ Own w' w.heap.size 3 1 ca n cc (cs.map encI) ∧ Own w' w.heap.size 3 1 na n nc (ns.map encI) ∧ Below w.heap.size w w'
/-- what views are made of -/
structure Lts (w : World) (lb : Nat) (ps : List Ph) (ls : List (Int × Int)) (la : Option Addr) (lc : Nat) : Prop where
  own : Own w lb 90 2 la ps.length lc (liCells ls)
  ll : ls.length = ps.length
  lok : ∀ i (h : i < ps.length) (h' : i < ls.length), LiOk ps[i] ls[i].1 ls[i].2
def ofC (lat : Bool) (ls : List (Int × Int)) : List Int := if lat then List.replicate ls.length 0 else vCols ls
def ofN (lat : Bool) (ps : List Ph) (ls : List (Int × Int)) : List Int := if lat then List.replicate ls.length 0 else vCnts ps ls
theorem LiOk.tb {p : Ph} {a t : Int} (hp : PhOk p) (h : LiOk p a t) : -1000000000000 ≤ t ∧ t ≤ 1000000000000 := by
  have h1 := hp.yellow
  have h2 := hp.red
  unfold LiOk at h
  omega
theorem four_at (w : World) (c1 c2 c3 c4 : Array Value) (t1 t2 t3 t4 : TypeId) : Blk ((((w.alloc (.cells c1 t1)).alloc (.cells c2 t2)).alloc (.cells c3 t3)).alloc (.cells c4 t4)) w.heap.size t1 c1 ∧ Blk ((((w.alloc (.cells c1 t1)).alloc (.cells c2 t2)).alloc (.cells c3 t3)).alloc (.cells c4 t4)) (w.heap.size + 1) t2 c2 ∧ Blk ((((w.alloc (.cells c1 t1)).alloc (.cells c2 t2)).alloc (.cells c3 t3)).alloc (.cells c4 t4)) (w.heap.size + 2) t3 c3 ∧ Blk ((((w.alloc (.cells c1 t1)).alloc (.cells c2 t2)).alloc (.cells c3 t3)).alloc (.cells c4 t4)) (w.heap.size + 3) t4 c4 ∧ Below w.heap.size w ((((w.alloc (.cells c1 t1)).alloc (.cells c2 t2)).alloc (.cells c3 t3)).alloc (.cells c4 t4)) := by
  obtain ⟨q1, q2, q3, q4⟩ := three_at w c1 c2 c3 t1 t2 t3
  refine ⟨q2.alloc _, q3.alloc _, q4.alloc _, ?_, (by repeat (first | (with_reducible refine Below.setCell ?_ ?_ _) | (with_reducible refine Below.alloc ?_ ?_ _) | (with_reducible refine Below.drew ?_) | (with_reducible refine below_drewN ?_ _) | (with_reducible exact Below.refl _ _) | (focus (simp; done)) | (focus (simp; omega)) | (focus omega)))⟩
  have := Blk.new (((w.alloc (.cells c1 t1)).alloc (.cells c2 t2)).alloc (.cells c3 t3)) t4 c4
  simpa using this
theorem ref08_CountE {r g mg xg y rd wk cl a t N : Int} (h : Hid (lCount ⟨r, g, mg, xg, y, rd, wk, cl⟩ a t = N)) (w : World) (hp : PhOk ⟨r, g, mg, xg, y, rd, wk, cl⟩) (hx : -1000000000000 ≤ t ∧ t ≤ 1000000000000) :
    Calls Try.prog 41 #[.agg #[.int .i64 r, .int .i64 g, .int .i64 mg, .int .i64 xg, .int .i64 y, .int .i64 rd, .int .i64 wk, .int .i64 cl], .agg #[.int .i64 a, .int .i64 t]] w fun e w' => e = .returned (.int .i64 N) ∧ Below w.heap.size w w' := by
  have := ref08_Count ⟨r, g, mg, xg, y, rd, wk, cl⟩ a t w hp hx
  rw [h.out] at this
  exact this
end Go.Proofs.Ytpjnajallekjoaa
