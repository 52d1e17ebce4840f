/- views and the sizes of their junctions, one after the other -/
import Derived.Test.YtdkifkbnkedbpaaRView
namespace Go.Proofs.Ytdkifkbnkedbpaa
set_option linter.unusedVariables false
open Go.RowKit Go.Sort
set_option maxRecDepth 100000

def szL (its : List Vx) : List Int := (its.map Vx.key).map vSize
theorem szL_len (its : List Vx) : (szL its).length = its.length := by simp [szL]
structure VSz (p : Nat) (W : World) (B : Nat) (its : List Vx) (va : Option Addr) (vc : Nat) (sa : Option Addr) (sc : Nat) : Prop where
  vd : VxD p W B its va vc
  own : Own W B 3 1 sa its.length sc ((szL its).map encI)
  ne : ∀ v ∈ its, Apart sa v.ca ∧ Apart sa v.na
section
variable {p : Nat} {W W' U : World} {B : Nat} {its : List Vx} {va : Option Addr} {vc : Nat} {sa : Option Addr} {sc : Nat}
theorem VSz.below (h : VSz p W B its va vc sa sc) (hb : Below W.heap.size W W') : VSz p W' B its va vc sa sc := ⟨h.vd.below hb, h.own.below hb (Nat.le_refl _), h.ne⟩
theorem VSz.grown (h : VSz p W B its va vc sa sc) (hg : W.grownBy W' (some p)) (h1 : p < B) : VSz p W' B its va vc sa sc := ⟨h.vd.grown hg h1, h.own.grown hg h1, h.ne⟩
theorem VSz.nil (p : Nat) (W : World) (B : Nat) : VSz p W B [] none 0 none 0 := ⟨⟨VxL.nil _ _, by simp, by simp⟩, Own.nil _ _ _ _, by simp⟩
theorem VSz.push (h : VSz p U B its va vc sa sc) {gl gh kl kh b0 b1 c0 c1 b2 b3 xd sd : Nat} {xb sb : Option Addr} {x : Vx} (G5 : ∀ k, va.map (·.block) = some k ↔ gl ≤ k ∧ k < gh) (K5 : ∀ k, sa.map (·.block) = some k ↔ kl ≤ k ∧ k < kh)
    (hout : ∀ q, q < U.heap.size → ¬ (gl ≤ q ∧ q < gh) → ¬ (kl ≤ q ∧ q < kh) → W'.heap[q]? = U.heap[q]?) (ov : Own W' B 43 4 xb (its.length + 1) xd (vxCells its ++ x.cells)) (os : Own W' B 3 1 sb (its.length + 1) sd ((szL its ++ [vSize x.key]).map encI))
    (hs : ∀ k, sb.map (·.block) = some k → (kl ≤ k ∧ k < kh) ∨ (b0 ≤ k ∧ k < b1)) (o1 : Own W' c0 3 1 x.ca x.cs.length x.cc (x.cs.map encI)) (o2 : Own W' c0 3 1 x.na x.ns.length x.nc (x.ns.map encI)) (l1 : ∀ k, x.ca.map (·.block) = some k → k < c1) (l2 : ∀ k, x.na.map (·.block) = some k → k < c1)
    (hb0 : U.heap.size ≤ b0) (hc0 : U.heap.size ≤ c0) (hdis : b1 ≤ c0 ∨ c1 ≤ b0) (hpU : p < U.heap.size) (hok : OkB x.key) (hkU : kh ≤ U.heap.size) : VSz p W' B (its ++ [x]) xb xd sb sd := by
  have keep : ∀ {base n c : Nat} {a : Option Addr} {l : List Value}, Own U base 3 1 a n c l → Apart sa a → Own W' base 3 1 a n c l := fun o ha => o.keep fun b hb _ hl => hout b hl (fun hh => h.vd.l.own.apart2 o (by decide) b ((G5 b).2 hh) (by rw [hb]; rfl)) (fun hh => ha b ((K5 b).2 hh) (by rw [hb]; rfl))
  have esz : szL (its ++ [x]) = szL its ++ [vSize x.key] := by simp [szL]
  have q1 := fun k hk => o1.base_le k hk
  have q2 := fun k hk => o2.base_le k hk
  refine ⟨⟨⟨by rw [vxCells_append, List.length_append]; simpa [vxCells] using ov, fun v hv => ?_, fun v hv => ?_⟩, fun v hv => ?_, fun v hv => ?_⟩, by rw [esz, List.length_append]; exact os, fun v hv => ?_⟩
  · rcases List.mem_append.1 hv with hv | hv
    · exact keep (h.vd.l.cs v hv) (h.ne v hv).1
    · rw [List.mem_singleton.1 hv]; exact o1.mono (Nat.zero_le _)
  · rcases List.mem_append.1 hv with hv | hv
    · exact keep (h.vd.l.ns v hv) (h.ne v hv).2
    · rw [List.mem_singleton.1 hv]; exact o2.mono (Nat.zero_le _)
  · rcases List.mem_append.1 hv with hv | hv
    · exact h.vd.ok v hv
    · rw [List.mem_singleton.1 hv]; exact hok
  · rcases List.mem_append.1 hv with hv | hv
    · exact h.vd.ne v hv
    · rw [List.mem_singleton.1 hv]; exact ⟨fun b hb => by have := q1 b hb; omega, fun b hb => by have := q2 b hb; omega⟩
  · rcases List.mem_append.1 hv with hv | hv
    · refine ⟨fun k hk hk2 => ?_, fun k hk hk2 => ?_⟩
      · rcases hs k hk with hh | hh
        · exact (h.ne v hv).1 k ((K5 k).2 hh) hk2
        · have := (h.vd.l.cs v hv).lt' k hk2; omega
      · rcases hs k hk with hh | hh
        · exact (h.ne v hv).2 k ((K5 k).2 hh) hk2
        · have := (h.vd.l.ns v hv).lt' k hk2; omega
    · rw [List.mem_singleton.1 hv]
      refine ⟨fun k hk hk2 => ?_, fun k hk hk2 => ?_⟩
      · have a1 := q1 k hk2; have a2 := l1 k hk2; rcases hs k hk with hh | hh <;> omega
      · have a1 := q2 k hk2; have a2 := l2 k hk2; rcases hs k hk with hh | hh <;> omega
end
theorem szL_bytes {its : List Vx} (h : ∀ v ∈ its, OkB v.key) : pRun (bytesOf (its.map Vx.key)) (szL its) = some (its.map Vx.key) :=
  pRun_bytes _ fun v hv => by obtain ⟨x, hx, rfl⟩ := List.mem_map.1 hv; exact h x hx
end Go.Proofs.Ytdkifkbnkedbpaa
