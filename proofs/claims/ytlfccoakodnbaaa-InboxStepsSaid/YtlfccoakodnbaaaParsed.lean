/- stream.parsed: the iterator over what frame.Parse finds -/
import Derived.Test.YtlfccoakodnbaaaParse
import Derived.Test.YtlfccoakodnbaaaSame
import Derived.Test.YtlfccoakodnbaaaRange
import Derived.Test.YtlfccoakodnbaaaDeck
import Derived.Shelf.RegionOpen
import Derived.OwnWalkIn
import Derived.TacticsInMore
import Derived.LoopNIn
import Derived.LoopIn
namespace Go.Proofs.Ytlfccoakodnbaaa
set_option linter.unusedVariables false
open Go.RowKit Go.Sort Go.Shelf
set_option maxRecDepth 100000
attribute [local go_sem] Oper.semAt_some

theorem parse_E {l : List UInt8} {rc rk : Int} {rp : List UInt8} {rn : Nat} {ro : Bool} (h : Hid (fParse l = ⟨rc, rk, rp, rn, ro⟩)) (a : Option Addr) (n c : Nat) (w : World) (hb : Byt w a l) (hn : n = l.length) (hl : l.length ≤ 9223372036854775807) (hc : l.length ≤ c) :
    Calls Try.prog 45 #[.slice a n c] w fun e w' => ∃ a' c', e = .returned (.tuple #[.agg #[.int .i64 rc, .int .i64 rk, .slice a' rp.length c'], .int .i64 rn, .bool ro]) ∧ Own w' w.heap.size 5 1 a' rp.length c' (rp.map encB) ∧ Below w.heap.size w w' := by
  subst hn
  have := frame_Parse a l c w hb hl hc
  rw [h.out] at this
  exact this

/-- an item as it is handed over: what was read, where it lies, how many bytes it used up -/
structure PIt where
  it : It
  size : Nat
def PIt.pr (x : PIt) : PR := ⟨x.it.code, x.it.kind, x.it.pay, x.size, true⟩
def PIt.vals (x : PIt) : Array Value := #[.agg #[.int .i64 x.it.code, .int .i64 x.it.kind, .slice x.it.a x.it.pay.length x.it.c], .int .i64 (x.size : Int)]
def sumSz (l : List PIt) : Nat := (l.map PIt.size).sum
theorem sumSz_snoc (l : List PIt) (x : PIt) : sumSz (l ++ [x]) = sumSz l + x.size := by simp [sumSz]
/-- what comes next -/
def NextOk (l : List UInt8) (pre : List PIt) (x : PIt) : Prop := fParse (l.drop (sumSz pre)) = x.pr ∧ sumSz pre + x.size ≤ l.length ∧ 1 ≤ x.size
inductive Chain (l : List UInt8) : List PIt → Prop
  | nil : Chain l []
  | snoc {pre : List PIt} {x : PIt} : Chain l pre → NextOk l pre x → Chain l (pre ++ [x])
theorem Chain.le {l : List UInt8} {pre : List PIt} (h : Chain l pre) : sumSz pre ≤ l.length := by
  cases h with
  | nil => simp [sumSz]
  | snoc _ hx => rw [sumSz_snoc]; exact hx.2.1
def NextV (l : List UInt8) (pre : List PIt) (x : PIt) (W : World) : Prop := Chain l pre ∧ NextOk l pre x ∧ Own W 0 5 1 x.it.a x.it.pay.length x.it.c (x.it.pay.map encB)
def sliceLen : Value → Nat
  | .slice _ n _ => n
  | _ => 0

theorem add_block (x : Addr) (n : Nat) : (x.add n).block = x.block := by unfold Addr.add; split <;> rfl
theorem byt_next {w : World} {pa : Option Addr} {p : List UInt8} {pc T : Nat} (hb : Byt w pa p) (hc : p.length ≤ pc) (hT : T ≤ p.length) (hnil : pa = none → p.length = 0 ∧ pc = 0) : Byt w (if pc = T then pa else Option.map (fun x => x.add T) pa) (p.drop T) ∧ ((if pc = T then pa else Option.map (fun x => x.add T) pa) = none → p.length - T = 0 ∧ pc - T = 0) := by
  by_cases h : pc = T
  · rw [if_pos h]
    exact ⟨by rw [List.drop_eq_nil_of_le (by omega)]; exact Byt.nil _ _, fun _ => by omega⟩
  · rw [if_neg h]
    cases pa with
    | none => have := hnil rfl; omega
    | some ad =>
      refine ⟨?_, fun h => by simp at h⟩
      rcases hb.open with rfl | ⟨b, off, e, _, _⟩
      · simp; exact Byt.nil _ _
      · injection e with e
        subst e
        have := hb.drop T
        have hadd : (⟨b, off, none⟩ : Addr).add T = ⟨b, off + T, none⟩ := by unfold Addr.add; split <;> simp_all
        simpa [hadd] using this

set_option maxHeartbeats 2000000 in
theorem parsed_seq (n : Nat) (hn : 1 ≤ n) (a : Option Addr) (l : List UInt8) (c Bn n₀ : Nat) (w : World) (hB : Bn < w.heap.size) (hc : w.cell? ⟨Bn, 0, none⟩ = some (.slice a l.length c)) (hb : Byt w a l) (hcap : l.length ≤ c) (hl : l.length ≤ 9223372036854775807)
    (hn₀ : n₀ ≤ w.heap.size) (ha : l ≠ [] → ∀ k, a.map (·.block) = some k → k < n₀) :
    SeqV Fence.wide n Try.prog 44 #[.pointer (some ⟨Bn, 0, none⟩)] PIt.vals (NextV l) (Below n₀) (fun xs => Chain l xs ∧ (fParse (l.drop (sumSz xs))).ok = false) (fun pre => Chain l pre) w := fun L J Jx W hW hJ hJx hY h0 => by
  refine callsIn_of_wp Try.func44 rfl trivial ?_ rfl
  simp only [Try.ntmps44, List.size_toArray, List.length_cons, List.length_nil, Nat.reduceAdd, Nat.reduceSub, Array.replicate_succ, Array.replicate_zero, List.push_toArray, List.append_toArray, List.nil_append, List.cons_append]
  have cB : W.cell? ⟨Bn, 0, none⟩ = some (.slice a l.length c) := (hW.cell (p := ⟨Bn, 0, none⟩) hB).trans hc
  have hbW : Byt W a l := hb.below hW (Nat.le_refl _)
  gi_wp2
  gi_loopw [3] (fun s wr => ∃ (pre : List PIt) (r : List UInt8) (ra : Option Addr) (rc : Nat), s = .slice ra r.length rc ∧ r.length ≤ rc ∧ Chain l pre ∧ r = l.drop (sumSz pre) ∧ (r ≠ [] → ∀ k, ra.map (·.block) = some k → k < n₀) ∧ Byt wr ra r ∧ J pre wr ∧ W.heap.size ≤ wr.heap.size) (fun s _ => sliceLen s)
  case atStart => exact ⟨[], l, a, c, rfl, hcap, .nil, rfl, ha, hbW, h0, Nat.le_refl _⟩
  case round =>
    obtain ⟨pre, r, ra, rc, rfl, hrc, hch, hr, hra, hbr, hJ0, hWs⟩ := hrel
    obtain ⟨q, hq⟩ : ∃ q, fParse r = q := ⟨_, rfl⟩
    obtain ⟨qc, qk, qp, qn, qo⟩ := q
    have HQ := Lib.hid hq
    have HR := Lib.hid hr
    have hrl : r.length ≤ 9223372036854775807 := by rw [hr, List.length_drop]; omega
    clear hq hr
    cases qo with
    | false =>
      gi_wp2_with (refine ⟨trivial, ?_⟩; gi_at_call 45; refine (callsIn_wide.2 (parse_E HQ ra _ rc _ hbr rfl hrl hrc)).mono ?_; rintro e w2 ⟨a2, c2, rfl, b2, hb2⟩)
      refine ⟨fun _ h => (by cases h), ?_⟩
      gi_wp2
      refine bodyPost_ret (results_none rfl _ _ _) rfl ?_
      refine ⟨⟨_, rfl⟩, .inl ⟨pre, ⟨hch, by rw [← HR.out, HQ.out]⟩, ?_⟩⟩
      exact hJ _ _ _ none hJ0 (((hb2.mono (Nat.le_refl _)).alloc hb2.size _).grown_any none) (fun r e => by cases e)
    | true =>
      have hsz := fParse_size (l := r) (by rw [HQ.out])
      rw [HQ.out] at hsz
      simp only at hsz
      have HX : ∀ a2 c2, NextOk l pre ⟨⟨qc, qk, qp, a2, c2⟩, qn⟩ := fun a2 c2 => ⟨by rw [← HR.out, HQ.out]; rfl, by have := hch.le; have e := congrArg List.length HR.out; rw [List.length_drop] at e; simp only; omega, hsz.1⟩
      obtain ⟨rb, hrb⟩ : ∃ rb, (if rc = qn then ra else Option.map (fun x => x.add qn) ra) = rb := ⟨_, rfl⟩
      have HJ := Lib.hid hJ0
      clear hJ0
      gi_wp2_with (refine ⟨trivial, ?_⟩; gi_at_call 45; refine (callsIn_wide.2 (parse_E HQ ra _ rc _ hbr rfl hrl hrc)).mono ?_; rintro e w2 ⟨a2, c2, rfl, b2, hb2⟩; (obtain ⟨fn, tmps, assign, body, hy, hR⟩ := hY pre ⟨⟨qc, qk, qp, a2, c2⟩, qn⟩ (w2.alloc (.cells #[.int .i64 qc, .int .i64 qk, .slice a2 qp.length c2] 49)) (hJ _ _ _ none HJ.out ((hb2.alloc hb2.size _).grown_any none) (fun r e => by cases e)) ⟨hch, HX a2 c2, (b2.alloc _).mono (Nat.zero_le _)⟩); (dsimp only [PIt.vals] at hy))
      refine hR.mono ?_
      have hrne : r ≠ [] := fun e => by subst e; simp at hsz; omega
      have hnil : ra = none → r.length = 0 ∧ rc = 0 := fun h => by subst h; have := Row.of_none _ hbr; simp at this; subst this; simp at hsz; omega
      rintro e W3 (⟨rfl, hJ3, hk3⟩ | ⟨rfl, hJx3⟩)
      · have hb3 : Byt W3 ra r := hbr.keep fun b off e hlt => by
          have e0 : ra.map (·.block) = some b := by rw [e]; rfl
          exact (hk3.block b (hra hrne b e0)).trans ((Below.heap_alloc w2 _ b (Nat.lt_of_lt_of_le hlt hb2.size)).trans (hb2.block b hlt))
        have hrest := byt_next hb3 hrc hsz.2 hnil
        rw [hrb] at hrest
        have s3 := hk3.size
        simp at s3
        have s2 := hb2.size
        have q0 : (0 : Int) ≤ (qn : Int) := by omega
        have q1 : (qn : Int) ≤ (r.length : Int) := by omega
        have HRB := Lib.hid hrb
        have hld : (r.drop qn).length = r.length - qn := List.length_drop
        gi_wp2
        go_roundw
        case rel => exact ⟨pre ++ [⟨⟨qc, qk, qp, a2, c2⟩, qn⟩], r.drop qn, rb, rc - qn, by rw [hld], by omega, hch.snoc (HX a2 c2), by rw [sumSz_snoc, HR.out, List.drop_drop], fun _ k hk => by
          rw [← HRB.out] at hk
          split at hk
          · exact hra hrne k hk
          · cases hra' : ra with
            | none => rw [hra'] at hk; simp at hk
            | some ad => rw [hra'] at hk; exact hra hrne k (by rw [hra']; simpa [add_block] using hk), hrest.1, hJ3, by omega⟩
        case measure => simp [sliceLen]; omega
      · gi_wp2
        refine bodyPost_ret (results_none rfl _ _ _) rfl ?_
        exact ⟨⟨_, rfl⟩, .inr ⟨_, hch.snoc (HX a2 c2), hJx3⟩⟩
end Go.Proofs.Ytlfccoakodnbaaa
