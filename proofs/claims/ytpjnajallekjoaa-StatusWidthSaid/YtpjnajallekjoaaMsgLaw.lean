/- layer 5 in plain Lean: shapes, payloads, which messages are valid -/
import Derived.Test.YtpjnajallekjoaaVarintLaw
namespace Go.Proofs.Ytpjnajallekjoaa
open Go.RowKit

structure Shp where
  tok : Int
  fix : Int
  grp : Int
  lo : Int
  hi : Int
  dat : Int
def fixN (k : Int) : Int := if k = 2 then 3 else if k = 20 then 4 else if k = 4 ∨ k = 13 ∨ k = 14 ∨ k = 15 then 2 else if k = 3 ∨ k = 5 ∨ k = 8 ∨ k = 10 ∨ k = 11 ∨ k = 22 then 1 else 0
def shpOf (k : Int) : Shp :=
  if k = 6 then ⟨10, 3, 4, 1, 3, 0⟩ else if k = 7 then ⟨10, 1, 2, 1, 3, 0⟩ else if k = 16 then ⟨0, 1, 0, 0, 0, 10⟩ else if k = 17 ∨ k = 21 then ⟨0, 1, 0, 0, 0, -1⟩
  else if k = 18 then ⟨0, 1, 3, 0, 16, 0⟩ else if k = 19 then ⟨0, 0, 2, 0, 4, 0⟩ else ⟨if k ≤ 12 then 10 else 0, fixN k, 0, 0, 0, 0⟩
def Shp.agg (s : Shp) : Value := .agg #[.int .i64 s.tok, .int .i64 s.fix, .int .i64 s.grp, .int .i64 s.lo, .int .i64 s.hi, .int .i64 s.dat]
def Shp.ragg (s : Shp) : Value := .agg #[.int .i64 s.fix, .int .i64 s.grp, .int .i64 s.lo, .int .i64 s.hi, .int .i64 s.dat]
/-- what the shapes have in common -/
structure ShpOk (s : Shp) : Prop where
  tok : s.tok = 0 ∨ s.tok = 10
  fix : 0 ≤ s.fix ∧ s.fix ≤ 4
  grp : 0 ≤ s.grp ∧ s.grp ≤ 4
  lo : 0 ≤ s.lo ∧ s.lo ≤ 1
  hi : s.lo ≤ s.hi ∧ s.hi ≤ 16 ∧ (s.grp = 0 → s.hi = 0)
  dat : s.dat = -1 ∨ s.dat = 0 ∨ s.dat = 10
theorem shpOf_ok (k : Int) : ShpOk (shpOf k) := by
  have fb : 0 ≤ fixN k ∧ fixN k ≤ 4 := by unfold fixN; repeat' split <;> omega
  unfold shpOf
  repeat' split
  all_goals constructor <;> simp only <;> first | omega | (simp; done) | (repeat' split) <;> omega
theorem shpOf_tok {k : Int} (h1 : 1 ≤ k) (h2 : k ≤ 22) : (shpOf k).tok = if k ≤ 12 then 10 else 0 := by
  unfold shpOf
  repeat' split
  all_goals first | rfl | (simp only; omega) | (exfalso; omega)

structure Msg where
  kind : Int
  tok : List UInt8
  args : List Int
  dat : List UInt8
def argOk (n : Int) : Prop := 0 ≤ n ∧ n ≤ 4294967295
instance (n : Int) : Decidable (argOk n) := by unfold argOk; exact inferInstance
/-- how many groups -/
def grpN (s : Shp) (A : Int) : Int := if s.grp = 0 then 0 else (A - s.fix) / s.grp
def grpOk (s : Shp) (A : Int) : Prop := if s.grp = 0 then A = s.fix else s.fix ≤ A ∧ (A - s.fix) % s.grp = 0 ∧ s.lo ≤ (A - s.fix) / s.grp ∧ (A - s.fix) / s.grp ≤ s.hi
instance (s : Shp) (A : Int) : Decidable (grpOk s A) := by unfold grpOk; exact inferInstance
/-- the code of the number of groups, where it stands -/
def gCode (s : Shp) (g : Int) (i : Nat) : List UInt8 := if (i : Int) = s.fix ∧ 0 < s.grp then vEnc g.toNat else []
def encFrom (s : Shp) (g : Int) : Nat → List Int → List UInt8
  | i, [] => gCode s g i
  | i, n :: l => gCode s g i ++ (vEnc n.toNat ++ encFrom s g (i + 1) l)
def Msg.pay (m : Msg) : List UInt8 := m.tok ++ encFrom (shpOf m.kind) (grpN (shpOf m.kind) m.args.length) 0 m.args ++ m.dat
structure Msg.Ok (m : Msg) : Prop where
  kind : 1 ≤ m.kind ∧ m.kind ≤ 22
  tok : (m.tok.length : Int) = (shpOf m.kind).tok
  dat : (shpOf m.kind).dat = -1 ∨ (m.dat.length : Int) = (shpOf m.kind).dat
  grp : grpOk (shpOf m.kind) m.args.length
  dlen : m.dat.length ≤ 200
  args : ∀ n ∈ m.args, argOk n
  plen : m.pay.length ≤ 200
theorem grpN_bd {s : Shp} {A : Int} (hs : ShpOk s) (h : grpOk s A) : 0 ≤ grpN s A ∧ grpN s A ≤ 16 := by
  have h1 := hs.lo
  have h2 := hs.hi
  unfold grpOk at h
  unfold grpN
  split
  · omega
  · rename_i hg
    rw [if_neg hg] at h
    omega
theorem gCode_len {s : Shp} {g : Int} (h0 : 0 ≤ g) (h : g ≤ 16) (i : Nat) : (gCode s g i).length ≤ 1 := by
  unfold gCode
  split
  · rw [vEnc_lt (by omega)]; simp
  · simp
theorem encFrom_split (s : Shp) (g : Int) (l : List Int) : ∀ (i : Nat), l ≠ [] → encFrom s g i l = gCode s g i ++ (vEnc (l.headD 0).toNat ++ encFrom s g (i + 1) l.tail) := by
  intro i h
  cases l with
  | nil => exact absurd rfl h
  | cons n l => rfl
end Go.Proofs.Ytpjnajallekjoaa
