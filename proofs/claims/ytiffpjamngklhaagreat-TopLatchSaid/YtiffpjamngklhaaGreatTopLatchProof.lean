/- TopLatch answers true for every input, and its arguments read afterwards as before. No conditions. -/
import Derived.Test.YtiffpjamngklhaaGreatRows
import Derived.Test.YtiffpjamngklhaaGreatP22
import Derived.WalkKit
import Derived.ProofKit
import Derived.OpenShut
import Derived.ShutString
import Derived.ChangeOld
import Derived.Below
namespace Go.Proofs.YtiffpjamngklhaaGreat
set_option linter.all false
set_option maxRecDepth 100000
open Go.ChangeShapes Go.WideShapes Go.ChangeAt Go.RowKit
open Go.Sort hiding Below
def IsRow(k:IntKind)(w:World)(a:Option Addr)(len cap:Nat)(zs:List Int):Prop:=
 (a=none∧len=0∧cap=0∧zs= [])∨
 ∃x,a=some x∧len≤cap∧cap≤maxLen∧zs.length=cap∧(∀i,i<zs.length→w.cell? (x.add i)=some (.int k (zs.getD i 0)))∧∀n∈zs,(Lit.int k n).wf=true
theorem isRow_row{k:IntKind}{w:World}{a:Option Addr}{len cap:Nat}{zs:List Int}(h:IsRow k w a len cap zs):
  len≤9223372036854775807∧(zs.take len).length=len∧Row w a ((zs.take len).map (Value.int k))∧∀n∈zs.take len,(Lit.int k n).wf=true:=by
 rcases h with⟨rfl,rfl,rfl,rfl⟩|⟨x,rfl,hl,hm,hz,hc,hw⟩
 ·exact⟨by omega,rfl,.inl rfl,by simp⟩
 ·unfold maxLen at hm;refine⟨by omega,by simp;omega,?_,fun n hn=>hw n (List.mem_of_mem_take hn)⟩;rcases Nat.eq_zero_or_pos len with h0|h0
  ·subst h0;exact .inl (by simp)
  ·obtain⟨b,off,sp⟩:=x;have h0c:=hc 0 (by omega);have hsp:sp=none:=by simpa [Addr.add]using World.cell?_spot h0c
   subst hsp;refine .inr ⟨b,off,rfl,?_,fun i hi=>?_⟩
   ·exact World.block_lt_of_cell? w _ h0c
   ·have hi':i<len∧i<zs.length:=by simp at hi;omega
    have hadd:(⟨b,off,none⟩:Addr).add i=⟨b,off+i,none⟩:=by unfold Addr.add;split<;>simp_all
    rw[←hadd,hc i hi'.2];simp[List.getD_eq_getElem?_getD,hi'.2]
theorem isRow_cap{k:IntKind}{w:World}{a:Option Addr}{len cap:Nat}{zs:List Int}(h:IsRow k w a len cap zs):len≤cap:=by
 rcases h with⟨_,rfl,rfl,_⟩|⟨_,_,h,_⟩
 ·omega
 ·exact h
theorem wf_i64{n:Int}(h:(Lit.int .i64 n).wf=true): -9223372036854775808≤n∧n≤9223372036854775807:=by
 simpa [Lit.wf,IntKind.min,IntKind.max,IntKind.signed,IntKind.bits]using h
theorem isRow_ints{w:World}{a:Option Addr}{len cap:Nat}{zs:List Int}(h:IsRow .i64 w a len cap zs):
  ∃l:List Int,l.length=len∧l.length≤9223372036854775807∧Ints w a l∧∀n∈l, -9223372036854775808≤n∧n≤9223372036854775807:=by
 obtain⟨h1,h2,h3,h4⟩:=isRow_row h;exact⟨zs.take len,h2,by omega,h3,fun n hn=>wf_i64 (h4 n hn)⟩
end Go.Proofs.YtiffpjamngklhaaGreat
namespace Go.Proofs.YtiffpjamngklhaaGreat.topLatch
open Go.ChangeShapes Go.WideShapes Go.ChangeAt Go.RowKit
open Go.ChangeMaps (open_string shut_string)
set_option linter.unusedVariables false

theorem own : ownKnob Tryz.prog.godebug = none := by kernel_rfl
theorem laidOut : laidOutB Tryz.prog = true := by kernel_rfl

/-- THE WALK: the Go text returns true, and writes nothing that was there. -/
theorem walk (a0 : Option Addr) (len0 cap0 : Nat) (z0 : List Int) (a1 : Int) (w : World) (w0 : IsRow .i64 w a0 len0 cap0 z0) (w1 : (Lit.int .i64 a1).wf = true) :
    Calls Tryz.prog 6 #[.slice a0 len0 cap0, .int .i64 a1] w fun e w' => e = .returned (.bool true) ∧ Below w.heap.size w w' := by
  have c0 := isRow_cap w0
  obtain ⟨l0, rfl, n0, h0, m0⟩ := isRow_ints w0
  have v1 := wf_i64 w1
  apply topLatch_walk <;> assumption

/-! ### THE ROW's STEP: WRITTEN OUT: LEAVE IT -/
set_option maxRecDepth 100000 in
theorem lifted (os : Os) (started : os.Started) (H : Type) (enc : TypeId × Value → H) :
    ReturnsInHanded {} Tryz.checked os 6 .any (Rows.topLatchSpec.pre6 enc Tryz.prog Tryz.f6 Rows.topLatchRow.domain false) (Rows.topLatchSpec.post enc Tryz.prog Tryz.f6 false true false false) := by
  refine returnsInHanded_of_change (C := Tryz.checked) own started (by kernel_rfl) Tryz.func6
    (ChangeSpec.witness6 (enc := enc) (C := Tryz.checked) false ⟨#[], #[.slice none 0 0, .int .i64 0], []⟩ 8 (by kernel_rfl) (by kernel_rfl) (by kernel_rfl) (by kernel_rfl)) ?_
  intro W base args ds gs before hval0 hW hcnd _
  have hval : ∀ (j : Nat) t v, Tryz.f6.params[j]? = some t → args[j]? = some v → Value.okWide Tryz.prog W .any base t v := hval0
  have hW' := hW
  obtain ⟨p, q, hA0, hV, rfl, hfz, hnd⟩ := hW
  have hA : DataW.TrodAll enc Tryz.prog W 0 (fun _ => true) true Tryz.f6.params.toList args.toList ds p := hA0
  rw [Tryz.params6] at hA hval
  obtain ⟨v0, vs0, d0, ds0, p0, q0, hargs, rfl, rfl, h0, r0⟩ := trodAll_cons hA
  obtain ⟨v1, vs1, d1, ds1, p1, q1, rfl, rfl, rfl, h1, r1⟩ := trodAll_cons r0
  obtain ⟨rfl, rfl, rfl⟩ := trodAll_nil r1
  obtain rfl : args = #[v0, v1] := by cases args; simp_all
  obtain ⟨rfl, rfl⟩ := trodVars_none hV
  obtain ⟨a0, len0, cap0, rfl⟩ := okWide_slice Tryz.underlying22 (hval 0 22 v0 rfl rfl)
  have k0 := h0
  have lt0 : ∀ x ∈ p0, x.block < W.heap.size := by obtain ⟨m, hm⟩ := k0; exact DataW.trod_lt m _ _ _ hm
  obtain ⟨z0, w0⟩ : ∃ zs, IsRow .i64 W a0 len0 cap0 zs := by
    obtain ⟨fuel, hf⟩ := h0
    rcases open_ints Tryz.underlying22 Tryz.underlying3 (by kernel_rfl) hf with ⟨hcs, _⟩ | ⟨x, l, c, zs, hcs, _, hl, hm, hz, _, hcell, hwz⟩
    · simp [Value.cells] at hcs
      obtain ⟨rfl, rfl, rfl⟩ := hcs
      exact ⟨[], .inl ⟨rfl, rfl, rfl, rfl⟩⟩
    · simp [Value.cells] at hcs
      obtain ⟨rfl, rfl, rfl⟩ := hcs
      exact ⟨zs, .inr ⟨_, rfl, hl, hm, by simpa using hz, hcell, hwz⟩⟩
  obtain ⟨a1, rfl, rfl, rfl, w1⟩ := open_int Tryz.underlying3 (hval 1 3 v1 rfl rfl) h1
  clear hA0 hval0
  refine (walk a0 len0 cap0 z0 a1 W w0 w1).mono fun e W' ⟨he, bel⟩ => ?_
  subst he
  exact ⟨_, rfl, _, _, _, [], _, [], hW', trodAll_mk1 (shut_bool Tryz.underlying4 _), (trodAll_cons_mk (Below.trod laidOut (by kernel_rfl) (of_decide_eq_true (by kernel_rfl)) k0 bel lt0) (trodAll_cons_mk (shut_int Tryz.underlying3 w1) trodAll_mk0)), rfl, bel.frame _, fun h => by cases h⟩

set_option maxHeartbeats 16000000 in
theorem over : Rows.topLatchRow.holds Tryz.pinned (OpenSpec.ofChange Rows.topLatchSpec) :=
  OpenClaim.holds_of_wide 6 Tryz.f6 rfl rfl rfl rfl rfl rfl rfl ⟨rfl, rfl, rfl, rfl, rfl⟩ rfl rfl rfl rfl rfl (by as_aux_lemma => kernel_rfl) Tryz.func6 (by as_aux_lemma => kernel_rfl)
    (of_decide_eq_true (by as_aux_lemma => kernel_rfl)) (by as_aux_lemma => unfold Func.isWrapper; first | (rw [if_pos (by decide +kernel)]; kernel_rfl) | (rw [if_neg (by decide +kernel)]; exact ⟨rfl, rfl⟩))
    (fun os started H enc _ => lifted os started H enc)

/-- ████ THE STATEMENT ████ -/
theorem proved : Rows.TopLatchSaid := over
#print axioms proved
end Go.Proofs.YtiffpjamngklhaaGreat.topLatch
