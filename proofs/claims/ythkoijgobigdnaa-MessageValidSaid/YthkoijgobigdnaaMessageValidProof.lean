/- MessageValid answers true for every input, and its arguments read afterwards as before. No conditions. -/
import Derived.Test.YthkoijgobigdnaaRows
import Derived.Test.YthkoijgobigdnaaOpen
import Derived.Test.YthkoijgobigdnaaValidM
import Derived.WalkKit
import Derived.ProofKit
import Derived.OpenShut
import Derived.ShutString
import Derived.ChangeOld
import Derived.Below
namespace Go.Proofs.Ythkoijgobigdnaa.messageValid
open Go.ChangeShapes Go.WideShapes Go.ChangeAt Go.RowKit
open Go.ChangeMaps (open_string shut_string)
set_option linter.unusedVariables false

theorem own : ownKnob Try.prog.godebug = none := by kernel_rfl
theorem laidOut : laidOutB Try.prog = true := by kernel_rfl

/-- THE WALK: the Go text returns true, and writes nothing that was there. -/
theorem walk (v0 : Value) (v1 : Value) (w : World) (R0 : Rd Try.prog w 27 v0) (R1 : Rd Try.prog w 23 v1) :
    Calls Try.prog 8 #[v0, v1] w fun e w' => e = .returned (.bool true) ∧ Below w.heap.size w w' := by
  obtain ⟨k, ta, tok, tc, aa, args, ac, da, dat, dc, rfl, hT, hA, hD, n1, n2, n3, hnil⟩ := R0.message Try.underlying27 (by kernel_rfl) Try.underlying3 (by kernel_rfl) rfl Try.underlying22 Try.underlying5 (by kernel_rfl) (by kernel_rfl) rfl Try.underlying23 Try.underlying3 (by kernel_rfl) (by kernel_rfl) rfl Try.underlying22 Try.underlying5 (by kernel_rfl) (by kernel_rfl) rfl
  obtain ⟨x1, l1, c1, rfl, h1, m1, -, -⟩ := R1.ints_ Try.underlying23 Try.underlying3 (by kernel_rfl)
  exact messageValid_walk k ta tok tc aa args ac da dat dc x1 c1 l1 w hT hA hD n1 n2 n3 hnil h1 m1

set_option maxRecDepth 100000 in
theorem lifted (os : Os) (started : os.Started) (H : Type) (enc : TypeId × Value → H) :
    ReturnsInHanded {} Try.checked os 8 .any (Rows.messageValidSpec.pre6 enc Try.prog Try.f8 Rows.messageValidRow.domain false) (Rows.messageValidSpec.post enc Try.prog Try.f8 false true false false) := by
  refine returnsInHanded_of_change (C := Try.checked) own started (by kernel_rfl) Try.func8
    (ChangeSpec.witness6 (enc := enc) (C := Try.checked) false ⟨#[], #[.agg #[.int .i64 0, .slice none 0 0, .slice none 0 0, .slice none 0 0], .slice none 0 0], []⟩ 8 (by kernel_rfl) (by kernel_rfl) (by kernel_rfl) (by kernel_rfl)) ?_
  intro W base args ds gs before hval0 hW hcnd _
  have hval : ∀ (j : Nat) t v, Try.f8.params[j]? = some t → args[j]? = some v → Value.okWide Try.prog W .any base t v := hval0
  have hW' := hW
  obtain ⟨p, q, hA0, hV, rfl, hfz, hnd⟩ := hW
  have hA : DataW.TrodAll enc Try.prog W 0 (fun _ => true) true Try.f8.params.toList args.toList ds p := hA0
  rw [Try.params8] at hA hval
  obtain ⟨v0, vs0, d0, ds0, p0, q0, hargs, rfl, rfl, h0, r0⟩ := trodAll_cons hA
  obtain ⟨v1, vs1, d1, ds1, p1, q1, rfl, rfl, rfl, h1, r1⟩ := trodAll_cons r0
  obtain ⟨rfl, rfl, rfl⟩ := trodAll_nil r1
  obtain rfl : args = #[v0, v1] := by cases args; simp_all
  obtain ⟨rfl, rfl⟩ := trodVars_none hV
  have k0 := h0
  have lt0 : ∀ x ∈ p0, x.block < W.heap.size := by obtain ⟨m, hm⟩ := k0; exact DataW.trod_lt m _ _ _ hm
  have R0 : Rd Try.prog W 27 v0 := ⟨⟨_, _, hval 0 27 v0 rfl rfl⟩, by obtain ⟨m, hm⟩ := h0; exact ⟨_, _, m, _, hm⟩⟩
  have k1 := h1
  have lt1 : ∀ x ∈ p1, x.block < W.heap.size := by obtain ⟨m, hm⟩ := k1; exact DataW.trod_lt m _ _ _ hm
  have R1 : Rd Try.prog W 23 v1 := ⟨⟨_, _, hval 1 23 v1 rfl rfl⟩, by obtain ⟨m, hm⟩ := h1; exact ⟨_, _, m, _, hm⟩⟩
  clear hA0 hval0
  refine (walk v0 v1 W R0 R1).mono fun e W' ⟨he, bel⟩ => ?_
  subst he
  exact ⟨_, rfl, _, _, _, [], _, [], hW', trodAll_mk1 (shut_bool Try.underlying4 _), (trodAll_cons_mk (Below.trod laidOut (by kernel_rfl) (of_decide_eq_true (by kernel_rfl)) k0 bel lt0) (trodAll_cons_mk (Below.trod laidOut (by kernel_rfl) (of_decide_eq_true (by kernel_rfl)) k1 bel lt1) trodAll_mk0)), rfl, bel.frame _, fun h => by cases h⟩

theorem over : Rows.messageValidRow.holds Try.pinned (OpenSpec.ofChange Rows.messageValidSpec) :=
  OpenClaim.holds_of_wide 8 Try.f8 rfl rfl rfl rfl rfl rfl rfl ⟨rfl, rfl, rfl, rfl, rfl⟩ rfl rfl rfl rfl rfl (by kernel_rfl) Try.func8 (by kernel_rfl)
    (of_decide_eq_true (by kernel_rfl)) (by unfold Func.isWrapper; first | (rw [if_pos (by decide +kernel)]; kernel_rfl) | (rw [if_neg (by decide +kernel)]; exact ⟨rfl, rfl⟩))
    (fun os started H enc _ => lifted os started H enc)

/-- the statement -/
theorem proved : Rows.MessageValidSaid := over
#print axioms proved
end Go.Proofs.Ythkoijgobigdnaa.messageValid
