/- StreamPuts answers true for every input, and its arguments read afterwards as before. No conditions. -/
import Derived.Test.YtjnajccobieamaaRows
import Derived.Test.YtjnajccobieamaaOpen
import Derived.Test.YtjnajccobieamaaPuts
import Derived.WalkKit
import Derived.ProofKit
import Derived.OpenShut
import Derived.ShutString
import Derived.ChangeOld
import Derived.Below
namespace Go.Proofs.Ytjnajccobieamaa.streamPuts
open Go.ChangeShapes Go.WideShapes Go.ChangeAt Go.RowKit
open Go.ChangeMaps (open_string shut_string)
set_option linter.unusedVariables false

theorem own : ownKnob Try.prog.godebug = none := by kernel_rfl
theorem laidOut : laidOutB Try.prog = true := by kernel_rfl

/-- THE WALK: the Go text returns true, and writes nothing that was there. -/
theorem walk (v0 : Value) (v1 : Value) (v2 : Value) (a3 : Int) (w : World) (R0 : Rd Try.prog w 43 v0) (R1 : Rd Try.prog w 25 v1) (R2 : Rd Try.prog w 22 v2) (w3 : (Lit.int .i64 a3).wf = true) :
    Calls Try.prog 7 #[v0, v1, v2, .int .i64 a3] w fun e w' => e = .returned (.bool true) ∧ Below w.heap.size w w' := by
  obtain ⟨b0, l0, c0, g0, rfl, h0, n0, -, -⟩ := R0.stream Try.underlying43 (by kernel_rfl) Try.underlying25 Try.underlying5 (by kernel_rfl) (by kernel_rfl) rfl Try.underlying4 (by kernel_rfl) rfl
  obtain ⟨b2, l2, c2, rfl, h2, n2, k2⟩ := R1.byts_ Try.underlying25 Try.underlying5 (by kernel_rfl)
  obtain ⟨x1, l1, c1, rfl, h1, n1, k1, -⟩ := R2.ints_ Try.underlying22 Try.underlying3 (by kernel_rfl)
  exact streamPuts_walk b0 c0 l0 g0 b2 c2 l2 x1 c1 l1 a3 w h0 n0 h2 n2 k2 h1 n1

set_option maxRecDepth 100000 in
theorem lifted (os : Os) (started : os.Started) (H : Type) (enc : TypeId × Value → H) :
    ReturnsInHanded {} Try.checked os 7 .any (Rows.streamPutsSpec.pre6 enc Try.prog Try.f7 Rows.streamPutsRow.domain false) (Rows.streamPutsSpec.post enc Try.prog Try.f7 false true false false) := by
  refine returnsInHanded_of_change (C := Try.checked) own started (by kernel_rfl) Try.func7
    (ChangeSpec.witness6 (enc := enc) (C := Try.checked) false ⟨#[], #[.agg #[.slice none 0 0, .bool false], .slice none 0 0, .slice none 0 0, .int .i64 0], []⟩ 8 (by kernel_rfl) (by kernel_rfl) (by kernel_rfl) (by kernel_rfl)) ?_
  intro W base args ds gs before hval0 hW hcnd _
  have hval : ∀ (j : Nat) t v, Try.f7.params[j]? = some t → args[j]? = some v → Value.okWide Try.prog W .any base t v := hval0
  have hW' := hW
  obtain ⟨p, q, hA0, hV, rfl, hfz, hnd⟩ := hW
  have hA : DataW.TrodAll enc Try.prog W 0 (fun _ => true) true Try.f7.params.toList args.toList ds p := hA0
  rw [Try.params7] at hA hval
  obtain ⟨v0, vs0, d0, ds0, p0, q0, hargs, rfl, rfl, h0, r0⟩ := trodAll_cons hA
  obtain ⟨v1, vs1, d1, ds1, p1, q1, rfl, rfl, rfl, h1, r1⟩ := trodAll_cons r0
  obtain ⟨v2, vs2, d2, ds2, p2, q2, rfl, rfl, rfl, h2, r2⟩ := trodAll_cons r1
  obtain ⟨v3, vs3, d3, ds3, p3, q3, rfl, rfl, rfl, h3, r3⟩ := trodAll_cons r2
  obtain ⟨rfl, rfl, rfl⟩ := trodAll_nil r3
  obtain rfl : args = #[v0, v1, v2, v3] := by cases args; simp_all
  obtain ⟨rfl, rfl⟩ := trodVars_none hV
  have k0 := h0
  have lt0 : ∀ x ∈ p0, x.block < W.heap.size := by obtain ⟨m, hm⟩ := k0; exact DataW.trod_lt m _ _ _ hm
  have R0 : Rd Try.prog W 43 v0 := ⟨⟨_, _, hval 0 43 v0 rfl rfl⟩, by obtain ⟨m, hm⟩ := h0; exact ⟨_, _, m, _, hm⟩⟩
  have k1 := h1
  have lt1 : ∀ x ∈ p1, x.block < W.heap.size := by obtain ⟨m, hm⟩ := k1; exact DataW.trod_lt m _ _ _ hm
  have R1 : Rd Try.prog W 25 v1 := ⟨⟨_, _, hval 1 25 v1 rfl rfl⟩, by obtain ⟨m, hm⟩ := h1; exact ⟨_, _, m, _, hm⟩⟩
  have k2 := h2
  have lt2 : ∀ x ∈ p2, x.block < W.heap.size := by obtain ⟨m, hm⟩ := k2; exact DataW.trod_lt m _ _ _ hm
  have R2 : Rd Try.prog W 22 v2 := ⟨⟨_, _, hval 2 22 v2 rfl rfl⟩, by obtain ⟨m, hm⟩ := h2; exact ⟨_, _, m, _, hm⟩⟩
  obtain ⟨a3, rfl, rfl, rfl, w3⟩ := open_int Try.underlying3 (hval 3 3 v3 rfl rfl) h3
  clear hA0 hval0
  refine (walk v0 v1 v2 a3 W R0 R1 R2 w3).mono fun e W' ⟨he, bel⟩ => ?_
  subst he
  exact ⟨_, rfl, _, _, _, [], _, [], hW', trodAll_mk1 (shut_bool Try.underlying4 _), (trodAll_cons_mk (Below.trod laidOut (by kernel_rfl) (of_decide_eq_true (by kernel_rfl)) k0 bel lt0) (trodAll_cons_mk (Below.trod laidOut (by kernel_rfl) (of_decide_eq_true (by kernel_rfl)) k1 bel lt1) (trodAll_cons_mk (Below.trod laidOut (by kernel_rfl) (of_decide_eq_true (by kernel_rfl)) k2 bel lt2) (trodAll_cons_mk (shut_int Try.underlying3 w3) trodAll_mk0)))), rfl, bel.frame _, fun h => by cases h⟩

theorem over : Rows.streamPutsRow.holds Try.pinned (OpenSpec.ofChange Rows.streamPutsSpec) :=
  OpenClaim.holds_of_wide 7 Try.f7 rfl rfl rfl rfl rfl rfl rfl ⟨rfl, rfl, rfl, rfl, rfl⟩ rfl rfl rfl rfl rfl (by kernel_rfl) Try.func7 (by kernel_rfl)
    (of_decide_eq_true (by kernel_rfl)) (by unfold Func.isWrapper; first | (rw [if_pos (by decide +kernel)]; kernel_rfl) | (rw [if_neg (by decide +kernel)]; exact ⟨rfl, rfl⟩))
    (fun os started H enc _ => lifted os started H enc)

/-- the statement -/
theorem proved : Rows.StreamPutsSaid := over
#print axioms proved
end Go.Proofs.Ytjnajccobieamaa.streamPuts
