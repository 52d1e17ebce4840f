/- the reference's All, Same, Valid -/
import Derived.Test.YtlfccoakodnbaaaRefTake
import Derived.Test.YtlfccoakodnbaaaStr
namespace Go.Proofs.Ytlfccoakodnbaaa
set_option linter.unusedVariables false
open Go.RowKit Go.Sort
set_option maxRecDepth 100000

theorem ref04_All (a : Option Addr) (l : List UInt8) (n c : Nat) (w : World) (hb : Byt w a l) (hn : n = l.length) (hcap : l.length ≤ c) (hl : l.length ≤ 100000000) (hnil : a = none → l.length = 0 ∧ c = 0) :
    Calls Try.prog 13 #[.slice a n c] w (AllR l w) := by
  subst hn
  have hT : ∀ W, Byt W a l → Calls Try.prog 33 #[.agg #[.slice a l.length c, .bool false], .int .i64 ((l.length : Int) + 1)] W (TakeR (l.length + 1) l false W) := fun W h => by
    have := ref04_Take a l l.length c false ((l.length : Int) + 1) W h rfl hcap (by omega) hnil (by omega)
    rwa [show ((l.length : Int) + 1).toNat = l.length + 1 by omega] at this
  go_enter Try.func13, Try.ntmps13
  go_wp2_with ((go_at_call 33; (with_reducible refine (hT _ hb).mono ?_); rintro e w1 ⟨st, its, xa, xc, ra, rc, hst, rfl, hk, own, pays, -, hb1⟩))
  go_ret
  exact ⟨its, xa, xc, rfl, by rw [hk, allK, hst.out], (items_of own pays).alloc _, (by repeat (first | (with_reducible refine Below.setCell ?_ ?_ _) | (with_reducible refine Below.alloc ?_ ?_ _) | (with_reducible refine Below.drew ?_) | (with_reducible refine below_drewN ?_ _) | (with_reducible exact Below.refl _ _) | (with_reducible refine Below.trans ?_ (Below.mono hb1 ?_)) | (focus (simp; done)) | (focus (simp; omega)) | (focus omega) | (focus (have q0 := Below.size hb1; (try simp at q0); (try simp); omega))))⟩
theorem ref04_SameY (a b : Option Addr) (l : List UInt8) (n m c d : Nat) (g : Bool) (w : World) (ha : Byt w a l) (hb : Byt w b l) (hn : n = l.length) (hm : m = l.length) :
    Calls Try.prog 34 #[.agg #[.slice a n c, .bool g], .agg #[.slice b m d, .bool g]] w fun e w' => e = .returned (.bool true) ∧ Below w.heap.size w w' := by
  subst hn hm
  obtain ⟨S, hS⟩ : ∃ s : ByteArray, s = ⟨l.toArray⟩ := ⟨_, rfl⟩
  have HS := Lib.hid hS
  have z0 : (g == g) = true := by simp
  clear hS
  go_enter Try.func34, Try.ntmps34
  go_upto_region 1 with fail
  refine wp_named (fun W => Blk W w.heap.size 28 #[.slice a l.length c, .bool g] ∧ Blk W (w.heap.size + 1) 28 #[.slice b l.length d, .bool g] ∧ RowKit.Below w.heap.size w W) ⟨(Blk.new _ _ _).alloc _, Blk.next _ _ _ _, (by repeat (first | (with_reducible refine Below.setCell ?_ ?_ _) | (with_reducible refine Below.alloc ?_ ?_ _) | (with_reducible refine Below.drew ?_) | (with_reducible refine below_drewN ?_ _) | (with_reducible exact Below.refl _ _) | (focus (simp; done)) | (focus (simp; omega)) | (focus omega)))⟩ ?_
  rintro W ⟨k1, k2, be⟩
  have u0 := k1.cell 0
  have u1 := k1.cell 1
  have v0 := k2.cell 0
  have v1 := k2.cell 1
  have ul := k1.lt
  have vl := k2.lt
  have kA : (convert 23 9 (.slice a l.length c)).run Try.prog W = .ok (.string S) W := by rw [HS.out]; exact conv_str (ha.below be (Nat.le_refl _)) rfl
  have kB : (convert 23 9 (.slice b l.length d)).run Try.prog W = .ok (.string S) W := by rw [HS.out]; exact conv_str (hb.below be (Nat.le_refl _)) rfl
  go_wp2
  go_ret
  exact ⟨ret_bool (by simp), (by repeat (first | (with_reducible refine Below.setCell ?_ ?_ _) | (with_reducible refine Below.alloc ?_ ?_ _) | (with_reducible refine Below.drew ?_) | (with_reducible refine below_drewN ?_ _) | (with_reducible exact Below.refl _ _) | (with_reducible refine Below.trans ?_ (Below.mono be ?_)) | (focus (simp; done)) | (focus (simp; omega)) | (focus omega) | (focus (have q0 := Below.size be; (try simp at q0); (try simp); omega))))⟩
end Go.Proofs.Ytlfccoakodnbaaa
