/- the plain law of views' bytes -/
import Derived.Test.YtdkifkbnkedbpaaBytesR
namespace Go.Proofs.Ytdkifkbnkedbpaa
set_option linter.unusedVariables false
open Go.RowKit Go.Sort

def dig : Nat → Int → Option (List Int)
  | 0, x => if x = 0 then some [] else none
  | n + 1, x => if x % 4 = 3 then none else (dig n (x / 4)).map (x % 4 :: ·)
def unV : List UInt8 → Option Vk
  | x :: y :: z :: r => if 3 < x.toNat then none else (dig r.length (y.toNat * 256 + z.toNat)).map fun cs => (decide (x.toNat % 2 = 1), decide (1 < x.toNat), cs, r.map fun b => (b.toNat : Int))
  | _ => none
def pRun : List UInt8 → List Int → Option (List Vk)
  | b, [] => if b = [] then some [] else none
  | b, n :: ps => if n < 0 ∨ 8 < n ∨ b.length < 3 + n.toNat then none else (unV (b.take (3 + n.toNat))).bind fun v => (pRun (b.drop (3 + n.toNat)) ps).map (v :: ·)
theorem dig_some : ∀ (n : Nat) (x : Int) (cs : List Int), dig n x = some cs → cs.length = n ∧ (∀ c ∈ cs, 0 ≤ c ∧ c ≤ 2) ∧ colS cs = x
  | 0, x, cs, h => by
    unfold dig at h
    split at h
    · rename_i h0
      injection h with h
      subst h h0
      simp [colS]
    · cases h
  | n + 1, x, cs, h => by
    unfold dig at h
    split at h
    · cases h
    · rename_i h3
      obtain ⟨d, hd, rfl⟩ := Option.map_eq_some_iff.1 h
      obtain ⟨h1, h2, h4⟩ := dig_some n _ d hd
      refine ⟨by simp [h1], fun c hc => ?_, ?_⟩
      · rcases List.mem_cons.1 hc with rfl | hc
        · omega
        · exact h2 c hc
      · simp only [colS, h4]; omega
theorem dig_colS : ∀ (cs : List Int), (∀ c ∈ cs, 0 ≤ c ∧ c ≤ 2) → dig cs.length (colS cs) = some cs
  | [], _ => by simp [dig, colS]
  | c :: cs, h => by
    have h1 := dig_colS cs fun c hc => h c (List.mem_cons_of_mem _ hc)
    have h2 := h c List.mem_cons_self
    have e1 : (c + 4 * colS cs) % 4 = c := by omega
    have e2 : (c + 4 * colS cs) / 4 = colS cs := by omega
    simp only [List.length_cons, dig, colS]
    rw [e1, e2, if_neg (by omega), h1]
    rfl
theorem toB_nat (b : UInt8) : toB (b.toNat : Int) = b := by
  apply UInt8.toNat_inj.1
  have h1 := toB_val (b.toNat : Int)
  have := b.toNat_lt
  omega
theorem toB_map (r : List UInt8) : (r.map fun b => (b.toNat : Int)).map toB = r := by
  rw [List.map_map]
  conv => rhs; rw [← List.map_id r]
  exact List.map_congr_left fun b _ => toB_nat b
theorem unV_some {l : List UInt8} {v : Vk} (h : unV l = some v) : vBytes v = l ∧ v.2.2.1.length = l.length - 3 ∧ v.2.2.2.length = l.length - 3 ∧ (∀ c ∈ v.2.2.1, 0 ≤ c ∧ c ≤ 2) ∧ 3 ≤ l.length := by
  unfold unV at h
  split at h
  · rename_i x y z r
    split at h
    · cases h
    · rename_i h3
      obtain ⟨d, hd, rfl⟩ := Option.map_eq_some_iff.1 h
      obtain ⟨h1, h2, h4⟩ := dig_some _ _ d hd
      have hy := y.toNat_lt
      have hz := z.toNat_lt
      refine ⟨?_, by simp [h1], by simp, h2, by simp⟩
      have e1 : toB (vHead (decide (x.toNat % 2 = 1)) (decide (1 < x.toNat))) = x := by
        apply UInt8.toNat_inj.1
        have q := toB_val (vHead (decide (x.toNat % 2 = 1)) (decide (1 < x.toNat)))
        have hx : x.toNat = 0 ∨ x.toNat = 1 ∨ x.toNat = 2 ∨ x.toNat = 3 := by omega
        rcases hx with e | e | e | e <;> (rw [e] at q ⊢; simp [vHead] at q ⊢; omega)
      have e2 : toB (colS d / 256) = y := by
        apply UInt8.toNat_inj.1
        have q := toB_val (colS d / 256)
        omega
      have e3 : toB (colS d) = z := by
        apply UInt8.toNat_inj.1
        have q := toB_val (colS d)
        omega
      simp only [vBytes]
      rw [e1, e2, e3, toB_map]
  · cases h
theorem unV_bytes {v : Vk} (h1 : v.2.2.1.length = v.2.2.2.length) (h2 : ∀ c ∈ v.2.2.1, 0 ≤ c ∧ c ≤ 2) (h3 : ∀ c ∈ v.2.2.2, 0 ≤ c ∧ c ≤ 255) (h4 : v.2.2.1.length ≤ 8) : unV (vBytes v) = some v := by
  obtain ⟨fl, ov, cs, ns⟩ := v
  simp only at h1 h2 h3 h4
  have hb := colS_bd cs h2
  have hp := (pow4_bd h4).2
  have e0 := toB_val (vHead fl ov)
  have eb := vHead_bd fl ov
  have e1 := toB_val (colS cs / 256)
  have e2 := toB_val (colS cs)
  have en : (ns.map toB).map (fun b => (b.toNat : Int)) = ns := by
    rw [List.map_map]
    conv => rhs; rw [← List.map_id ns]
    refine List.map_congr_left fun c hc => ?_
    have := h3 c hc
    show ((toB c).toNat : Int) = c
    rw [toB_val]; omega
  simp only [vBytes, unV]
  rw [if_neg (by omega), show ((toB (colS cs / 256)).toNat : Int) * 256 + ((toB (colS cs)).toNat : Int) = colS cs by omega, List.length_map, ← h1, dig_colS cs h2, en]
  simp only [Option.map_some, Option.some.injEq, Prod.mk.injEq, and_true]
  have ht : ((toB (vHead fl ov)).toNat : Int) = vHead fl ov := by omega
  cases fl <;> cases ov <;> (simp [vHead] at ht ⊢; omega)
theorem pRun_some : ∀ (ps : List Int) (b : List UInt8) (vs : List Vk), pRun b ps = some vs → bytesOf vs = b ∧ (∀ v ∈ vs, OkK v) ∧ (∀ n ∈ ps, 0 ≤ n ∧ n ≤ 8) ∧ vs.length = ps.length ∧ (b.length : Int) = (ps.map (3 + ·)).sum
  | [], b, vs, h => by
    unfold pRun at h
    split at h
    · rename_i h0
      injection h with h
      subst h h0
      simp [bytesOf]
    · cases h
  | n :: ps, b, vs, h => by
    unfold pRun at h
    split at h
    · cases h
    · rename_i h0
      obtain ⟨v, hv, h⟩ := Option.bind_eq_some_iff.1 h
      obtain ⟨us, hu, rfl⟩ := Option.map_eq_some_iff.1 h
      obtain ⟨q1, q2, q3, q4, q5⟩ := unV_some hv
      obtain ⟨r1, r2, r3, r4, r5⟩ := pRun_some ps _ us hu
      rw [List.length_take] at q2 q3 q5
      rw [List.length_drop] at r5
      have hn : 0 ≤ n ∧ n ≤ 8 ∧ 3 + n.toNat ≤ b.length := by omega
      refine ⟨?_, fun w hw => ?_, fun m hm => ?_, by simp [r4], by simp only [List.map_cons, List.sum_cons, ← r5]; omega⟩
      · simp only [bytesOf, List.flatMap_cons] at r1 ⊢
        rw [q1, r1, List.take_append_drop]
      · rcases List.mem_cons.1 hw with rfl | hw
        · exact ⟨by omega, by omega, q4⟩
        · exact r2 w hw
      · rcases List.mem_cons.1 hm with rfl | hm
        · omega
        · exact r3 m hm
/-- a view's numbers as its bytes carry them -/
def OkB (v : Vk) : Prop := v.2.2.1.length = v.2.2.2.length ∧ v.2.2.1.length ≤ 8 ∧ (∀ c ∈ v.2.2.1, 0 ≤ c ∧ c ≤ 2) ∧ ∀ c ∈ v.2.2.2, 0 ≤ c ∧ c ≤ 255
theorem OkB.ok {v : Vk} (h : OkB v) : OkK v := ⟨h.2.1, by have := h.1; have := h.2.1; omega, h.2.2.1⟩
def vSize (v : Vk) : Int := (v.2.2.1.length : Int)
theorem pRun_bytes : ∀ (vs : List Vk), (∀ v ∈ vs, OkB v) → pRun (bytesOf vs) (vs.map vSize) = some vs
  | [], _ => by simp [pRun, bytesOf]
  | v :: vs, h => by
    have h1 := pRun_bytes vs fun c hc => h c (List.mem_cons_of_mem _ hc)
    obtain ⟨q1, q2, q3, q4⟩ := h v List.mem_cons_self
    have hl := vBytes_len v
    have e : (vSize v).toNat = v.2.2.1.length := by simp [vSize]
    have eb : bytesOf (v :: vs) = vBytes v ++ bytesOf vs := by simp [bytesOf]
    simp only [List.map_cons, pRun]
    rw [e, eb, if_neg (by simp only [vSize, List.length_append]; omega), List.take_left' (by omega), List.drop_left' (by omega), unV_bytes q1 q3 q4 q2, h1]
    rfl
end Go.Proofs.Ytdkifkbnkedbpaa
