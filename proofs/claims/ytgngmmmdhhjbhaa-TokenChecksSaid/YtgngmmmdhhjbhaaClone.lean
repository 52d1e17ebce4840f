/- slices.Clone of bytes -/
import Derived.Test.YtgngmmmdhhjbhaaBuf
import Derived.WalkSpells
namespace Go.Proofs.Ytgngmmmdhhjbhaa
open Go.RowKit
set_option maxRecDepth 20000

/-- bytes in memory of the call's own -/
def NewB (l : List UInt8) (w : World) (e : Ending) (w' : World) : Prop := ∃ a c, e = .returned (.slice a l.length c) ∧ Own w' w.heap.size 5 1 a l.length c (l.map encB) ∧ Below w.heap.size w w'
theorem clone_B (a : Option Addr) (n c : Nat) (l : List UInt8) (w : World) (hb : Byt w a l) (hn : n = l.length) (hl : l.length ≤ 100000000000) (ha : a = none → n = 0 ∧ c = 0) :
    Calls Try.prog 48 #[.slice a n c] w (NewB l w) := by
  subst hn
  have hnil := fun (w : World) (a : Option Addr) (n c : Nat) => Lib.run_eql_slice_nil (P := Try.prog) w 24 5 a n c 0 0 Try.underlying24
  cases a with
  | none =>
    obtain ⟨h0, rfl⟩ := ha rfl
    have hl0 : l = [] := List.eq_nil_of_length_eq_zero h0
    subst hl0
    go_enter Try.func48, Try.ntmps48
    go_wp2
    go_ret
    exact ⟨none, 0, rfl, Own.nil _ _ _ _, Below.refl _ _⟩
  | some ad =>
    go_enter Try.func48, Try.ntmps48
    go_wp2_with (first | (at_builtin; refine appB rfl _ _ rfl w.heap.size (some ⟨w.heap.size, 0, none⟩) 0 0 [] rfl (some ad) _ _ l rfl (own_made _ #[] _ 1 0 rfl (by simp [maxLen])) (hb.alloc _) rfl l.length (by omega) hl (by simp) ?_; intro a3 c3 w3 own3 g3 bl3; (have B3 : Below w.heap.size w w3 := bl3 w (by repeat (first | (with_reducible refine Below.setCell ?_ ?_ _) | (with_reducible refine Below.alloc ?_ ?_ _) | (with_reducible refine Below.drew ?_) | (with_reducible refine below_drewN ?_ _) | (with_reducible exact Below.refl _ _) | (focus (simp; done)) | (focus (simp; omega)) | (focus omega))))))
    go_ret
    exact ⟨_, _, rfl, own3, B3⟩
theorem clone_E (a : Option Addr) (n c : Nat) (l : List UInt8) (w : World) (hb : Byt w a l) (hn : n = l.length) (hl : l.length ≤ 100000000000) (ha : a = none → n = 0 ∧ c = 0) :
    Calls Try.prog 48 #[.slice a n c] w fun e w' => ∃ a' c', e = .returned (.slice a' n c') ∧ Own w' w.heap.size 5 1 a' n c' (l.map encB) ∧ Below w.heap.size w w' := by
  have := clone_B a n c l w hb hn hl ha
  subst hn
  exact this
end Go.Proofs.Ytgngmmmdhhjbhaa
