/- sessions: comparing -/
import Derived.Test.YtlfccoakodnbaaaInTakeR
namespace Go.Proofs.Ytlfccoakodnbaaa
set_option linter.unusedVariables false
open Go.RowKit Go.Sort
set_option maxRecDepth 100000

set_option maxHeartbeats 2000000 in
theorem ref25_SameY (o d g : Bool) (l : List UInt8) (a b : Option Addr) (n m c c' : Nat) (w : World) (ha : Byt w a l) (hb : Byt w b l) (hn : n = l.length) (hm : m = l.length) :
    Calls Try.prog 16 #[.agg #[.bool o, .bool d, .slice a n c, .bool g], .agg #[.bool o, .bool d, .slice b m c', .bool g]] w fun e w' => e = .returned (.bool true) ∧ Below w.heap.size w w' := by
  have HN := Lib.hid hn
  have HM := Lib.hid hm
  clear hn hm
  have z1 : (o == o) = true := by simp
  have z2 : (d == d) = true := by simp
  go_enter Try.func16, Try.ntmps16
  go_wp2_with ((go_at_call 34; (with_reducible refine (ref04_SameY a b l n m c c' g _ (ha.below (show RowKit.Below w.heap.size w _ from (by repeat (first | (with_reducible refine Below.setCell ?_ ?_ _) | (with_reducible refine Below.alloc ?_ ?_ _) | (with_reducible refine Below.drew ?_) | (with_reducible refine below_drewN ?_ _) | (with_reducible exact Below.refl _ _) | (focus (simp; done)) | (focus (simp; omega)) | (focus omega)))) (Nat.le_refl _)) (hb.below (show RowKit.Below w.heap.size w _ from (by repeat (first | (with_reducible refine Below.setCell ?_ ?_ _) | (with_reducible refine Below.alloc ?_ ?_ _) | (with_reducible refine Below.drew ?_) | (with_reducible refine below_drewN ?_ _) | (with_reducible exact Below.refl _ _) | (focus (simp; done)) | (focus (simp; omega)) | (focus omega)))) (Nat.le_refl _)) HN.out HM.out).mono ?_); rintro e w1 ⟨rfl, hb1⟩))
  go_ret
  exact ⟨rfl, (by repeat (first | (with_reducible refine Below.setCell ?_ ?_ _) | (with_reducible refine Below.alloc ?_ ?_ _) | (with_reducible refine Below.drew ?_) | (with_reducible refine below_drewN ?_ _) | (with_reducible exact Below.refl _ _) | (with_reducible refine Below.trans ?_ (Below.mono hb1 ?_)) | (focus (simp; done)) | (focus (simp; omega)) | (focus omega) | (focus (have q0 := Below.size hb1; (try simp at q0); (try simp); omega))))⟩
set_option maxHeartbeats 2000000 in
theorem ref25_SameInY (o : Bool) (l k : List It) (a b : Option Addr) (n m c c' : Nat) (w : World) (ha : Items w a l) (hb : Items w b k) (hn : n = l.length) (hm : m = k.length) (h9 : n ≤ 1000000) (h8 : m ≤ 1000000) (hk : l.map It.key = k.map It.key) :
    Calls Try.prog 17 #[.agg #[.bool o, .slice a n c], .agg #[.bool o, .slice b m c']] w fun e w' => e = .returned (.bool true) ∧ Below w.heap.size w w' := by
  have HN := Lib.hid hn
  have HM := Lib.hid hm
  have HK := Lib.hid hk
  clear hn hm hk
  have z1 : (o == o) = true := by simp
  go_enter Try.func17, Try.ntmps17
  go_wp2_with ((go_at_call 12; (with_reducible refine (same_E a b l k n m c c' _ (ha.below (show RowKit.Below w.heap.size w _ from (by repeat (first | (with_reducible refine Below.setCell ?_ ?_ _) | (with_reducible refine Below.alloc ?_ ?_ _) | (with_reducible refine Below.drew ?_) | (with_reducible refine below_drewN ?_ _) | (with_reducible exact Below.refl _ _) | (focus (simp; done)) | (focus (simp; omega)) | (focus omega)))) (Nat.le_refl _)) (hb.below (show RowKit.Below w.heap.size w _ from (by repeat (first | (with_reducible refine Below.setCell ?_ ?_ _) | (with_reducible refine Below.alloc ?_ ?_ _) | (with_reducible refine Below.drew ?_) | (with_reducible refine below_drewN ?_ _) | (with_reducible exact Below.refl _ _) | (focus (simp; done)) | (focus (simp; omega)) | (focus omega)))) (Nat.le_refl _)) HN.out HM.out (by have := HN.out; omega) (by have := HM.out; omega) HK.out).mono ?_); rintro e w1 ⟨rfl, hb1⟩))
  go_ret
  exact ⟨rfl, (by repeat (first | (with_reducible refine Below.setCell ?_ ?_ _) | (with_reducible refine Below.alloc ?_ ?_ _) | (with_reducible refine Below.drew ?_) | (with_reducible refine below_drewN ?_ _) | (with_reducible exact Below.refl _ _) | (with_reducible refine Below.trans ?_ (Below.mono hb1 ?_)) | (focus (simp; done)) | (focus (simp; omega)) | (focus omega) | (focus (have q0 := Below.size hb1; (try simp at q0); (try simp); omega))))⟩
end Go.Proofs.Ytlfccoakodnbaaa
