/- InboxSteps answers true for every input, and its arguments read afterwards as before. No conditions. -/
import Derived.Test.YtlfccoakodnbaaaRows
import Derived.Test.YtlfccoakodnbaaaOpen
import Derived.Test.YtlfccoakodnbaaaSteps
import Derived.WalkKit
import Derived.ProofKit
import Derived.OpenShut
import Derived.ShutString
import Derived.ChangeOld
import Derived.Below
namespace Go.Proofs.Ytlfccoakodnbaaa.inboxSteps
open Go.ChangeShapes Go.WideShapes Go.ChangeAt Go.RowKit
open Go.ChangeMaps (open_string shut_string)
set_option linter.unusedVariables false

theorem own : ownKnob Try.prog.godebug = none := by kernel_rfl
theorem laidOut : laidOutB Try.prog = true := by kernel_rfl

/-- THE WALK: the Go text returns true, and writes nothing that was there. -/
theorem walk (v0 : Value) (v1 : Value) (v2 : Value) (w : World) (R0 : Rd Try.prog w 30 v0) (R1 : Rd Try.prog w 22 v1) (R2 : Rd Try.prog w 23 v2) :
    Calls Try.prog 6 #[v0, v1, v2] w fun e w' => e = .returned (.bool true) ∧ Below w.heap.size w w' := by
  obtain ⟨b0, b1, b2, l0, c0, b3, rfl, h0, n0, k0, x0⟩ := R0.session Try.underlying30 (by kernel_rfl) Try.underlying4 (by kernel_rfl) rfl Try.underlying4 (by kernel_rfl) rfl Try.underlying28 (by kernel_rfl) rfl Try.underlying23 Try.underlying5 (by kernel_rfl) (by kernel_rfl) rfl Try.underlying4 (by kernel_rfl) rfl
  obtain ⟨x1, l1, c1, rfl, h1, n1, k1, -⟩ := R1.ints_ Try.underlying22 Try.underlying3 (by kernel_rfl)
  obtain ⟨x2, l2, c2, rfl, h2, n2, k2⟩ := R2.byts_ Try.underlying23 Try.underlying5 (by kernel_rfl)
  exact inboxSteps_walk b0 b1 b3 b2 c0 l0 x1 c1 l1 x2 c2 l2 w h0 n0 k0 x0 h1 n1 h2 n2 k2

set_option maxRecDepth 100000 in
theorem lifted (os : Os) (started : os.Started) (H : Type) (enc : TypeId × Value → H) :
    ReturnsInHanded {} Try.checked os 6 .any (Rows.inboxStepsSpec.pre6 enc Try.prog Try.f6 Rows.inboxStepsRow.domain false) (Rows.inboxStepsSpec.post enc Try.prog Try.f6 false true false false) := by
  refine returnsInHanded_of_change (C := Try.checked) own started (by kernel_rfl) Try.func6
    (ChangeSpec.witness6 (enc := enc) (C := Try.checked) false ⟨#[], #[.agg #[.bool false, .bool false, .slice none 0 0, .bool false], .slice none 0 0, .slice none 0 0], []⟩ 8 (by kernel_rfl) (by kernel_rfl) (by kernel_rfl) (by kernel_rfl)) ?_
  intro W base args ds gs before hval0 hW hcnd _
  have hval : ∀ (j : Nat) t v, Try.f6.params[j]? = some t → args[j]? = some v → Value.okWide Try.prog W .any base t v := hval0
  have hW' := hW
  obtain ⟨p, q, hA0, hV, rfl, hfz, hnd⟩ := hW
  have hA : DataW.TrodAll enc Try.prog W 0 (fun _ => true) true Try.f6.params.toList args.toList ds p := hA0
  rw [Try.params6] at hA hval
  obtain ⟨v0, vs0, d0, ds0, p0, q0, hargs, rfl, rfl, h0, r0⟩ := trodAll_cons hA
  obtain ⟨v1, vs1, d1, ds1, p1, q1, rfl, rfl, rfl, h1, r1⟩ := trodAll_cons r0
  obtain ⟨v2, vs2, d2, ds2, p2, q2, rfl, rfl, rfl, h2, r2⟩ := trodAll_cons r1
  obtain ⟨rfl, rfl, rfl⟩ := trodAll_nil r2
  obtain rfl : args = #[v0, v1, v2] := by cases args; simp_all
  obtain ⟨rfl, rfl⟩ := trodVars_none hV
  have k0 := h0
  have lt0 : ∀ x ∈ p0, x.block < W.heap.size := by obtain ⟨m, hm⟩ := k0; exact DataW.trod_lt m _ _ _ hm
  have R0 : Rd Try.prog W 30 v0 := ⟨⟨_, _, hval 0 30 v0 rfl rfl⟩, by obtain ⟨m, hm⟩ := h0; exact ⟨_, _, m, _, hm⟩⟩
  have k1 := h1
  have lt1 : ∀ x ∈ p1, x.block < W.heap.size := by obtain ⟨m, hm⟩ := k1; exact DataW.trod_lt m _ _ _ hm
  have R1 : Rd Try.prog W 22 v1 := ⟨⟨_, _, hval 1 22 v1 rfl rfl⟩, by obtain ⟨m, hm⟩ := h1; exact ⟨_, _, m, _, hm⟩⟩
  have k2 := h2
  have lt2 : ∀ x ∈ p2, x.block < W.heap.size := by obtain ⟨m, hm⟩ := k2; exact DataW.trod_lt m _ _ _ hm
  have R2 : Rd Try.prog W 23 v2 := ⟨⟨_, _, hval 2 23 v2 rfl rfl⟩, by obtain ⟨m, hm⟩ := h2; exact ⟨_, _, m, _, hm⟩⟩
  clear hA0 hval0
  refine (walk v0 v1 v2 W R0 R1 R2).mono fun e W' ⟨he, bel⟩ => ?_
  subst he
  exact ⟨_, rfl, _, _, _, [], _, [], hW', trodAll_mk1 (shut_bool Try.underlying4 _), (trodAll_cons_mk (Below.trod laidOut (by kernel_rfl) (of_decide_eq_true (by kernel_rfl)) k0 bel lt0) (trodAll_cons_mk (Below.trod laidOut (by kernel_rfl) (of_decide_eq_true (by kernel_rfl)) k1 bel lt1) (trodAll_cons_mk (Below.trod laidOut (by kernel_rfl) (of_decide_eq_true (by kernel_rfl)) k2 bel lt2) trodAll_mk0))), rfl, bel.frame _, fun h => by cases h⟩

theorem over : Rows.inboxStepsRow.holds Try.pinned (OpenSpec.ofChange Rows.inboxStepsSpec) :=
  OpenClaim.holds_of_wide 6 Try.f6 rfl rfl rfl rfl rfl rfl rfl ⟨rfl, rfl, rfl, rfl, rfl⟩ rfl rfl rfl rfl rfl (by kernel_rfl) Try.func6 (by kernel_rfl)
    (of_decide_eq_true (by kernel_rfl)) (by unfold Func.isWrapper; first | (rw [if_pos (by decide +kernel)]; kernel_rfl) | (rw [if_neg (by decide +kernel)]; exact ⟨rfl, rfl⟩))
    (fun os started H enc _ => lifted os started H enc)

/-- the statement -/
theorem proved : Rows.InboxStepsSaid := over
#print axioms proved
end Go.Proofs.Ytlfccoakodnbaaa.inboxSteps
