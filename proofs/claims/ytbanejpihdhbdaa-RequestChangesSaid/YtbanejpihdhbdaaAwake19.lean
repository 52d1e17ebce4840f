/- signalbrokerlaw19.awake -/
import Derived.Test.YtbanejpihdhbdaaRqSub
import Derived.Test.YtbanejpihdhbdaaRqOps
import Derived.Test.YtbanejpihdhbdaaDkReqs
namespace Go.Proofs.Ytbanejpihdhbdaa
set_option linter.unusedVariables false
open Go.RowKit Go.Sort
set_option maxRecDepth 100000

theorem RqL.lgOk {W : World} {B : Nat} {l : List Rq} {xa : Option Addr} {xc : Nat} (h : RqL W B l xa xc) (hn : ∀ r ∈ l, r.legs.length ≤ 10000) : ∀ r ∈ l, LgOk r ∧ r.legs.length ≤ r.c := fun r hr =>
  ⟨⟨hn r hr, fun e => by have o := h.legs r hr; rw [e] at o; exact o.none_cap⟩, h.capLe r hr⟩
theorem one_leg {W : World} {g : Nat} {j p f t s : Int} (k : Blk W g 25 #[.int .i64 j, .int .i64 p, .int .i64 f, .int .i64 t, .int .i64 s]) : Row W (some ⟨g, 0, none⟩) (lgCells [⟨j, p, f, t, s⟩]) := by
  refine .inr ⟨g, 0, rfl, k.lt, fun i hi => ?_⟩
  rw [Nat.zero_add, k.cell]
  have : i = 0 ∨ i = 1 ∨ i = 2 ∨ i = 3 ∨ i = 4 := by simp [lgCells, Lg.cells] at hi; omega
  rcases this with rfl | rfl | rfl | rfl | rfl <;> rfl
theorem LegsOk.one {x : Lg} (h : lgV x = true) : LegsOk [x] := ⟨fun i hi => by
  have : i = 0 := by simp at hi; omega
  subst this; exact h, fun i j hj hi => by simp at hi; omega, ⟨by simp, by simp⟩⟩
theorem awake_1 : subM [] 1 4 2 0 3 [⟨0, 1, 0, 5, -1⟩] 0 = (0, [(4, 2, 0, 3, [⟨0, 1, 0, 5, -1⟩])]) := by
  rw [subM_more ⟨.nil (by decide), by decide, by decide, by decide⟩ ⟨by decide, by decide, LegsOk.one (by decide)⟩, if_neg (by decide), if_neg (by decide)]
  rfl
theorem awake_2 : subM [(4, 2, 0, 3, [⟨0, 1, 0, 5, -1⟩])] 1 5 2 0 3 [⟨0, 1, 0, 5, -1⟩] 0 = (14, []) := by
  rw [subM_more ⟨(subM_ok awake_1).1, by decide, by decide, by decide⟩ ⟨by decide, by decide, LegsOk.one (by decide)⟩, if_neg (by decide), if_pos (by decide)]
theorem awake_3 : cancM [(4, 2, 0, 3, [⟨0, 1, 0, 5, -1⟩])] 4 = (0, []) := by
  have h := (subM_ok awake_1).1
  rw [cancM_0 ⟨h.ok, h.inc, by decide⟩ (by decide)]
  rfl
set_option maxHeartbeats 4000000 in
theorem law_awake (w : World) : Calls Try.prog 8 #[] w fun e w' => e = .returned (.bool true) ∧ RowKit.Below w.heap.size w w' := by
  go_enter Try.func8, Try.ntmps8
  go_upto_region 2 with fail
  obtain ⟨V, hV⟩ : ∃ V, w.heap.size = V := ⟨_, rfl⟩
  refine wp_named (fun Y => Blk Y V 25 #[.int .i64 0, .int .i64 1, .int .i64 0, .int .i64 5, .int .i64 (-1)] ∧ RowKit.Below w.heap.size w Y) ⟨by rw [← hV]; exact Blk.new _ _ _, (by repeat (first | (with_reducible refine Below.setCell ?_ ?_ _) | (with_reducible refine Below.alloc ?_ ?_ _) | (with_reducible refine Below.drew ?_) | (with_reducible refine below_drewN ?_ _) | (with_reducible exact Below.refl _ _) | (focus (simp; done)) | (focus (simp; omega)) | (focus omega)))⟩ ?_
  rw [hV]
  rintro Y ⟨kY, be⟩
  go_upto_region 3 with ((go_at_call 10; (with_reducible refine (request_Submit none [] 0 0 1 4 2 0 3 (some ⟨V, 0, none⟩) [⟨0, 1, 0, 5, -1⟩] 1 1 0 _ (Rqs.nil _ _) rfl (by decide) (by simp) (one_leg kY) rfl (by decide) (by decide) (by simp)).mono ?_); rintro e w2 ⟨xa, n, xc, l2, er, rfl, hm, hn, il, hb⟩))
  obtain ⟨rfl, hk⟩ : er = 0 ∧ l2.map Rq.key = [(4, 2, 0, 3, [⟨0, 1, 0, 5, -1⟩])] := by
    have := hm.out
    rw [List.map_nil, awake_1] at this
    injection this with h1 h2
    exact ⟨h1.symm, h2.symm⟩
  have hlen : l2.length = 1 := by rw [← List.length_map (f := Rq.key), hk]; rfl
  obtain rfl : n = 1 := by rw [hn.out, hlen]
  have HK := Lib.hid hk
  have hlg := legs_le (l := [⟨4, 2, 0, 3, [⟨0, 1, 0, 5, -1⟩], none, 0⟩]) (l2 := l2) (N := 10000) (by rw [hk]; rfl) (by simp)
  have hok := il.lgOk hlg
  have H1 := Lib.hid hlen.symm
  clear hm hn hk hlen
  have kY2 := kY.below hb kY.lt
  go_upto_region 4 with ((go_at_call 10; (with_reducible refine (request_Submit xa l2 1 xc 1 5 2 0 3 (some ⟨V, 0, none⟩) [⟨0, 1, 0, 5, -1⟩] 1 1 0 _ il.rqs H1.out (by decide) hok (one_leg kY2) rfl (by decide) (by decide) (by simp)).mono ?_); rintro e w3 ⟨xb, n3, xd, l3, er3, rfl, hm3, hn3, il3, hb3⟩))
  obtain rfl : er3 = 14 := by
    have := hm3.out
    rw [HK.out, awake_2] at this
    injection this with h1 h2
    exact h1.symm
  clear hm3 hn3 il3
  have il' := il.below hb3
  go_upto_region 5 with ((go_at_call 13; (with_reducible refine (request_Cancel xa l2 1 xc 4 _ il'.rqs H1.out (by decide) hok).mono ?_); rintro e w4 ⟨xe, n4, xf, l4, er4, rfl, hm4, hn4, il4, hb4⟩))
  obtain ⟨rfl, rfl⟩ : er4 = 0 ∧ n4 = 0 := by
    have := hm4.out
    rw [HK.out, awake_3] at this
    injection this with h1 h2
    exact ⟨h1.symm, by rw [hn4.out]; simpa using (congrArg List.length h2).symm⟩
  clear hm4 hn4 il4
  go_wp2_with fail
  go_ret
  rw [hV]
  exact ⟨rfl, (by repeat (first | (with_reducible refine Below.setCell ?_ ?_ _) | (with_reducible refine Below.alloc ?_ ?_ _) | (with_reducible refine Below.drew ?_) | (with_reducible refine below_drewN ?_ _) | (with_reducible exact Below.refl _ _) | (with_reducible refine Below.trans ?_ (Below.mono hb4 ?_)) | (with_reducible refine Below.trans ?_ (Below.mono hb3 ?_)) | (with_reducible refine Below.trans ?_ (Below.mono hb ?_)) | (with_reducible refine Below.trans ?_ (Below.mono be ?_)) | (focus (simp; done)) | (focus (simp; omega)) | (focus omega) | (focus (have q0 := Below.size hb4; (try simp at q0); have q1 := Below.size hb3; (try simp at q1); have q2 := Below.size hb; (try simp at q2); have q3 := Below.size be; (try simp at q3); (try simp); omega))))⟩
end Go.Proofs.Ytbanejpihdhbdaa
