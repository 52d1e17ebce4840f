/- token.ancestors, descends -/
import Derived.Test.YtgngmmmdhhjbhaaTkLaw
namespace Go.Proofs.Ytgngmmmdhhjbhaa
set_option linter.unusedVariables false
open Go.RowKit Go.Sort Go.Shelf
set_option maxRecDepth 100000
attribute [local go_sem] Oper.semAt_some

theorem token_ancestors (a : Option Addr) (n c : Nat) (s : Int) (w : World) : Calls Try.prog 53 #[.slice a n c, .int .i64 s] w fun e w' => e = .returned (.func (.func 64) #[] #[.pointer (some ⟨w.heap.size + 1, 0, none⟩), .pointer (some ⟨w.heap.size, 0, none⟩)]) ∧ w' = (w.alloc (.cells #[.slice a n c] 22)).alloc (.cells #[.int .i64 s] 3) := by
  go_enter Try.func53, Try.ntmps53
  go_wp2
  go_ret
  exact ⟨rfl, rfl⟩
section
variable {W W' : World} {row : Option Nat}
theorem Blk.turn {g : Nat} {t : TypeId} {cs : Array Value} (h : Blk W g t cs) (hg : W.grownBy W' row) (hr : ∀ r, row = some r → ∃ o : Obj, W.heap[r]? = some o ∧ o.isCells = false) : Blk W' g t cs :=
  (hg.block g h.lt (fun e => by obtain ⟨o, ho, hc⟩ := hr g e.symm; rw [show W.heap[g]? = _ from h] at ho; cases ho; cases hc)).trans h
end
/-- what stands in the caller's cells between two rounds -/
structure DsI (w : World) (T R : Nat) (top : Int) (b : Bool) (p : Prop) (W : World) : Prop where
  p : p
  kT : Blk W T 3 #[.int .i64 top]
  kR : Blk W R 4 #[.bool b]
  be : Below w.heap.size w W
theorem DsI.own {α : Type} {w : World} {T R B : Nat} {top : Int} {b : Bool} {p : α → Prop} (hB : w.heap.size ≤ B) : OwnFrom B (fun pre W => DsI w T R top b (p pre) W) := by
  rintro pre W W' row h hg hr
  exact ⟨h.p, h.kT.turn hg fun r e => (hr r e).2, h.kR.turn hg fun r e => (hr r e).2, h.be.grown hg h.be.size fun k e => Nat.le_trans hB (hr k e).1⟩
set_option maxHeartbeats 4000000 in
theorem token_descends (a : Option Addr) (l : List Tk) (n c : Nat) (s top : Int) (w : World) (h : Tks w a l) (hn : n = l.length) :
    Calls Try.prog 50 #[.slice a n c, .int .i64 s, .int .i64 top] w fun e w' => e = .returned (.bool (dscK (l.map Tk.key) 8 s top)) ∧ Below w.heap.size w w' := by
  subst hn
  refine callsIn_wide.1 (callsIn_of_wp_marks (n := 6) Try.func50 rfl trivial (wpIn_wide.2 ?_) rfl)
  simp only [Try.ntmps50, List.size_toArray, List.length_cons, List.length_nil, Nat.reduceAdd, Nat.reduceSub, Array.replicate_succ, Array.replicate_zero, List.push_toArray, List.append_toArray, List.nil_append, List.cons_append]
  go_upto_region 1 with fail
  obtain ⟨T, hT⟩ : ∃ T, w.heap.size = T := ⟨_, rfl⟩
  refine wp_named (fun W => Blk W T 3 #[.int .i64 top] ∧ Blk W (T + 1) 4 #[.bool false] ∧ RowKit.Below w.heap.size w W ∧ W.heap.size = T + 2) ⟨by rw [← hT]; exact (Blk.new _ _ _).alloc _, by have := Blk.new (w.alloc (.cells #[.int .i64 top] 3)) 4 #[.bool false]; simpa [hT] using this, (by repeat (first | (with_reducible refine Below.setCell ?_ ?_ _) | (with_reducible refine Below.alloc ?_ ?_ _) | (with_reducible refine Below.drew ?_) | (with_reducible refine below_drewN ?_ _) | (with_reducible exact Below.refl _ _) | (focus (simp; done)) | (focus (simp; omega)) | (focus omega))), by simp [hT]⟩ ?_
  have HT := Lib.hid hT
  rw [hT]
  clear hT
  rintro W4 ⟨kT, kR, be4, z4⟩
  have be4 : RowKit.Below w.heap.size w W4 := by rw [HT.out]; exact be4
  have HZ := Lib.hid z4
  clear z4
  go_wp2_with (go_at_call 53; (with_reducible refine (token_ancestors _ _ _ _ _).mono ?_); rintro e w' ⟨rfl, rfl⟩)
  refine wp_named (fun W => Blk W T 3 #[.int .i64 top] ∧ Blk W (T + 1) 4 #[.bool false] ∧ Blk W (T + 2) 22 #[.slice a l.length c] ∧ Blk W (T + 2 + 1) 3 #[.int .i64 s] ∧ RowKit.Below w.heap.size w W ∧ W.heap.size = T + 4) ⟨(kT.alloc _).alloc _, (kR.alloc _).alloc _, by rw [← HZ.out]; exact (Blk.new _ _ _).alloc _, by have := Blk.new (W4.alloc (.cells #[.slice a l.length c] 22)) 3 #[.int .i64 s]; rw [World.size_alloc, HZ.out] at this; exact this, (be4.alloc be4.size _).alloc (by have := be4.size; simp; omega) _, by simp [HZ.out]⟩ ?_
  rw [HZ.out]
  clear kT kR be4
  rintro wc ⟨kT, kR, kL, kS, be, zc⟩
  have HT4 := Lib.hid zc
  clear zc
  refine (wpIn_wide (n := 6)).1 ?_
  refine wp_rangeV (F := Fence.wide) rfl (by omega) (gf := 64) (lb := #[.pointer (some ⟨T + 2 + 1, 0, none⟩), .pointer (some ⟨T + 2, 0, none⟩)]) rfl trivial (enters_of Try.func64 (by kernel_rfl) rfl)
    (ancestors_seq 5 (by omega) a l c s (T + 2 + 1) (T + 2) wc kS kL (h.below be (Nat.le_refl _))) belowK_t (belowK_b (Nat.le_refl _)) (Below.refl _ _) (fun _ => rfl)
    (fun pre W => DsI w T (T + 1) top false (top ∉ pre) W)
    (fun cd pre W => cd = .ret ∧ DsI w T (T + 1) top true (top ∈ pre) W)
    (DsI.own be.size) (fun cd => OwnFrom.and (ownFrom_pure _ _) (DsI.own be.size))
    ⟨by simp, kT, kR, be⟩
    (fun pre x a' W => a' = { tmps := #[.slice a l.length c, .int .i64 s, .int .i64 top, undef, undef, .pointer (some ⟨T, 0, none⟩), .pointer (some ⟨T + 1, 0, none⟩), .int .i64 x, .slice a l.length c, .int .i64 s, .func (.func 64) #[] #[.pointer (some ⟨T + 2 + 1, 0, none⟩), .pointer (some ⟨T + 2, 0, none⟩)], .int .i64 x, undef, undef, undef], defers := [] })
    (fun pre x a' => ownFrom_pure _ _) ?assign ?body ?done ?stop
  case assign =>
    rintro L pre x W K hi hv hK
    gi_wp2
    exact hK _ _ (KeepsFrom.refl _ _) (Below.refl _ _) hi rfl
  case body =>
    rintro L pre x a' W hL hrec ⟨hp, kT, kR, hb⟩ rfl
    have t0 := kT.cell 0
    have tl := kT.lt
    have r0 := kR.cell 0
    have rf := kR.frozen 0
    have rl := kR.lt
    by_cases hx : x = top
    · subst hx
      gi_wp2
      exact ⟨(KeepsOthers.setCell _ _ _).from _, rfl, by simp, kT.far (by simp) _, kR.set 0 _, hb.grown (grownBy_set _ (T + 1) 0 _) hb.size (fun k e => by injection e with e; have := HT.out; omega)⟩
    · have hx2 : (x == top) = false := by rw [beq_eq_false_iff_ne]; exact hx
      gi_wp2
      exact ⟨KeepsFrom.refl _ _, Below.refl _ _, by simp only [List.mem_append, List.mem_singleton, not_or]; exact ⟨hp, fun e => hx e.symm⟩, kT, kR, hb⟩
  case done =>
    rintro D xs W hD rfl ⟨hp, kT, kR, hb⟩ hK
    have r0 := kR.cell 0
    have rf := kR.frozen 0
    have rl := kR.lt
    go_wp2
    have hK2 : (W.setCell ⟨T + 1, 0, none⟩ (.bool false)).heap[D]? = some (.deferred (some [])) := (KeepsOthers.setCell W ⟨T + 1, 0, none⟩ (.bool false)).same D _ hK rfl
    have hput := grownBy_putObj' (W.setCell ⟨T + 1, 0, none⟩ (.bool false)) D (.deferred none)
    have hrow : ∀ r, some D = some r → ∃ o : Obj, (W.setCell ⟨T + 1, 0, none⟩ (.bool false)).heap[r]? = some o ∧ o.isCells = false := fun r e => by cases e; exact ⟨_, hK2, rfl⟩
    have k9 := (kR.set 0 (.bool false)).turn hput hrow
    have y0 := k9.cell 0
    refine ⟨by simp, .inl ⟨_, _, rfl, run_takeDeferred hK2, ?_⟩⟩
    refine ⟨.bool false, by simp [results, Try.results50, go_sem, y0], ?_⟩
    have hq : dscK (l.map Tk.key) 8 s top = false := by unfold dscK; simpa using hp
    rw [hq]
    exact ⟨rfl, (hb.grown (grownBy_set _ (T + 1) 0 _) hb.size (fun k e => by injection e with e; have := HT.out; omega)).grown hput (by have := hb.size; simp [World.setCell]; omega) (fun k e => by cases e; have := HT.out; have := HT4.out; omega)⟩
  case stop =>
    rintro D cd pre W hD ⟨t, ht⟩ ⟨rfl, hp, kT, kR, hb⟩ hK
    gi_wp2
    have hK2 := hK
    have hput := grownBy_putObj' (W) D (.deferred none)
    have hrow : ∀ r, some D = some r → ∃ o : Obj, (W).heap[r]? = some o ∧ o.isCells = false := fun r e => by cases e; exact ⟨_, hK2, rfl⟩
    have k9 := (kR).turn hput hrow
    have y0 := k9.cell 0
    refine ⟨by simp, .inl ⟨_, _, rfl, run_takeDeferred hK2, ?_⟩⟩
    refine ⟨.bool true, by simp [results, Try.results50, go_sem, y0], ?_⟩
    have hq : dscK (l.map Tk.key) 8 s top = true := by unfold dscK; rw [ht]; simp [hp]
    rw [hq]
    exact ⟨rfl, hb.grown hput hb.size (fun k e => by cases e; have := HT.out; have := HT4.out; omega)⟩
end Go.Proofs.Ytgngmmmdhhjbhaa
