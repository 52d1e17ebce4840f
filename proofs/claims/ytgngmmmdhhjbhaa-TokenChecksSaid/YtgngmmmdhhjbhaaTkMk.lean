/- signalbrokermake.Secret of any number, Few, Short, Left; law14.agency, awake -/
import Derived.Test.YtgngmmmdhhjbhaaTkRChk
import Derived.Test.YtgngmmmdhhjbhaaTkTNew
import Derived.Test.YtgngmmmdhhjbhaaTkTDer
import Derived.Test.YtgngmmmdhhjbhaaTkTRev
import Derived.Test.YtgngmmmdhhjbhaaTkPl
import Derived.Test.YtgngmmmdhhjbhaaBelow
import Derived.Test.YtgngmmmdhhjbhaaMk
namespace Go.Proofs.Ytgngmmmdhhjbhaa
set_option linter.unusedVariables false
open Go.RowKit Go.Sort
set_option maxRecDepth 100000

/-- the bytes of a secret -/
def secV (n : Int) (k : Nat) : Int := bits .xor .u8 (n / 2 ^ (8 * k) % 256) (29 * (k : Int) + 7)
def secB (n : Int) (k : Nat) : UInt8 := UInt8.ofNat (secV n k).toNat
def secL (n : Int) (k : Nat) : List UInt8 := (List.range k).map (secB n)
theorem secV_byte (n : Int) (k : Nat) : secV n k = ((secB n k).toNat : Int) := by
  have h : ∃ x : Nat, secV n k = ((x % 256 : Nat) : Int) := by
    unfold secV
    exact ⟨(BitVec.ofInt 8 (n / 2 ^ (8 * k) % 256) ^^^ BitVec.ofInt 8 (29 * (k : Int) + 7)).toNat, by
      show IntKind.u8.wrap _ = _
      have e : ∀ x : Int, IntKind.u8.wrap x = x % 256 := fun x => by simp [IntKind.wrap, IntKind.signed, IntKind.bits]
      rw [e]
      rfl⟩
  obtain ⟨x, hx⟩ := h
  unfold secB
  rw [hx]
  simp
  omega
theorem secL_len (n : Int) (k : Nat) : (secL n k).length = k := by simp [secL]
theorem secL_succ (n : Int) (k : Nat) : secL n (k + 1) = secL n k ++ [secB n k] := by simp [secL, List.range_succ]
/-- a secret -/
def secX (n : Int) : List UInt8 := secL (IntKind.u64.wrap n) 8
theorem secX_len (n : Int) : (secX n).length = 8 := secL_len _ _
theorem mk_Secret (n : Int) (w : World) :
    Calls Try.prog 16 #[.int .i64 n] w fun e w' => ∃ a c, e = .returned (.slice a 8 c) ∧ Own w' w.heap.size 5 1 a 8 c ((secX n).map encB) ∧ Below w.heap.size w w' := by
  unfold secX
  go_enter Try.func16, Try.ntmps16
  go_wp2
  go_loopw [3, 5] (fun s i wr => ∃ (k : Nat) (a : Option Addr) (c : Nat), k ≤ 8 ∧ i = .int .i64 k ∧ s = .slice a k c ∧ Own wr w.heap.size 5 1 a k c ((secL (IntKind.u64.wrap n) k).map encB) ∧ RowKit.Below w.heap.size w wr) (fun _ i _ => 8 - (intOf i).toNat)
  case atStart => exact ⟨0, none, 0, by omega, rfl, rfl, Own.nil _ _ _ _, Below.refl _ _⟩
  case round =>
    obtain ⟨k, a, c, hk, rfl, rfl, own, bel⟩ := hrel
    by_cases hlt : k < 8
    · have hz := bel.size
      go_wp2_with (first | (at_builtin; refine app1B rfl _ _ rfl w.heap.size a k c (secL (IntKind.u64.wrap n) k) rfl (secB (IntKind.u64.wrap n) k) (secV (IntKind.u64.wrap n) k) rfl own (secV_byte (IntKind.u64.wrap n) k) (k + 1) rfl (by omega) hz ?_; intro b3 c3 w3 own3 gr3 bl3; (have be3 := bl3 w bel)))
      go_roundw
      case rel => exact ⟨k + 1, b3, c3, by omega, by go_num, rfl, by rw [secL_succ]; exact own3, be3⟩
      case measure => simp [intOf]; omega
    · obtain rfl : k = 8 := by omega
      go_wp2
      go_ret
      exact ⟨a, c, rfl, own, bel⟩
end Go.Proofs.Ytgngmmmdhhjbhaa
