/- RecordViews -/
import Derived.Test.YtdkifkbnkedbpaaLawH
namespace Go.Proofs.Ytdkifkbnkedbpaa
set_option linter.unusedVariables false
open Go.RowKit Go.Sort
set_option maxRecDepth 100000

theorem vCol_bd (a : Int) : 0 ≤ vCol a ∧ vCol a ≤ 2 := by unfold vCol; split <;> omega
theorem lCount_bd {p : Ph} {a t : Int} (hp : PhOk p) (h : LiOk p a t) : 0 ≤ lCount p a t ∧ lCount p a t ≤ 4 := by
  have h1 := lNeed_bd hp
  have h2 := hp.yellow
  have h3 := hp.red
  unfold LiOk at h
  unfold lCount
  split
  · split <;> omega
  · split
    · omega
    · split <;> omega
theorem ofK_ok {ps : List Ph} {ls : List (Int × Int)} (lat ov : Bool) (hn : ps.length ≤ 8) (hp : ∀ p ∈ ps, PhOk p) (hl : ls.length = ps.length) (hk : ∀ i (h : i < ps.length) (h' : i < ls.length), LiOk ps[i] ls[i].1 ls[i].2) : OkB (lat, ov, ofC lat ls, ofN lat ps ls) ∧ (ofC lat ls).length = ps.length ∧ (ofN lat ps ls).length = ps.length := by
  have hc := vCols_len ls
  have hd := vCnts_len hl
  cases lat with
  | true => exact ⟨⟨by simp [ofC, ofN], by simp [ofC]; omega, by simp [ofC], by simp [ofN]⟩, by simp [ofC, hl], by simp [ofN, hl]⟩
  | false =>
    refine ⟨⟨?_, ?_, ?_, ?_⟩, ?_, ?_⟩
    · show (vCols ls).length = (vCnts ps ls).length; omega
    · show (vCols ls).length ≤ 8; omega
    · intro c hc
      obtain ⟨x, _, rfl⟩ := List.mem_map.1 (show c ∈ vCols ls from hc)
      exact vCol_bd _
    · intro c hc
      have hc : c ∈ vCnts ps ls := hc
      obtain ⟨i, hi, rfl⟩ := List.getElem_of_mem hc
      have e : (vCnts ps ls)[i] = lCount (ps[i]'(by omega)) (ls[i]'(by omega)).1 (ls[i]'(by omega)).2 := by simp [vCnts]
      rw [e]
      have := lCount_bd (hp _ (List.getElem_mem _)) (hk i (by omega) (by omega))
      omega
    · show (vCols ls).length = _; omega
    · show (vCnts ps ls).length = _; omega
def VS2 (fl ov : Bool) (n : Nat) (ca : Option Addr) (cc : Nat) (na : Option Addr) (nc : Nat) (u v : Value) (b0 b1 : Nat) (W : World) : Prop :=
  ∃ (b : Nat) (ca' : Option Addr) (cc' : Nat) (na' : Option Addr) (nc' : Nat), u = vAgg true false n ca' cc' na' nc' ∧ v = .slice (some ⟨b, 0, none⟩) 2 2 ∧ b0 ≤ b ∧ b < b1 ∧ Blk W b 43 #[.bool fl, .bool ov, .slice ca n cc, .slice na n nc, .bool true, .bool false, .slice ca' n cc', .slice na' n nc']
theorem vws_two {W : World} {b n : Nat} {fl ov fl' ov' : Bool} {ca na ca' na' : Option Addr} {cc nc cc' nc' b0 b1 b2 b3 : Nat} {cs ns cs' ns' : List Int} (k : Blk W b 43 #[.bool fl, .bool ov, .slice ca n cc, .slice na n nc, .bool fl', .bool ov', .slice ca' n cc', .slice na' n nc']) (o1 : Own W b0 3 1 ca n cc (cs.map encI)) (o2 : Own W b1 3 1 na n nc (ns.map encI)) (o3 : Own W b2 3 1 ca' n cc' (cs'.map encI)) (o4 : Own W b3 3 1 na' n nc' (ns'.map encI)) : Vws W (some ⟨b, 0, none⟩) [⟨fl, ov, cs, ns, ca, cc, na, nc⟩, ⟨fl', ov', cs', ns', ca', cc', na', nc'⟩] := by
  have h1 := own_len o1
  have h2 := own_len o2
  have h3 := own_len o3
  have h4 := own_len o4
  refine ⟨.inr ⟨b, 0, rfl, k.lt, fun i hi => ?_⟩, fun v hv => ?_, fun v hv => ?_⟩
  · rw [Nat.zero_add, k.cell]
    have hi4 : i < 8 := by have := vxCells_len [⟨fl, ov, cs, ns, ca, cc, na, nc⟩, ⟨fl', ov', cs', ns', ca', cc', na', nc'⟩]; simp at this; omega
    have : i = 0 ∨ i = 1 ∨ i = 2 ∨ i = 3 ∨ i = 4 ∨ i = 5 ∨ i = 6 ∨ i = 7 := by omega
    rcases this with rfl | rfl | rfl | rfl | rfl | rfl | rfl | rfl <;> simp [vxCells, Vx.cells, h1, h2, h3, h4]
  · rcases List.mem_cons.1 hv with rfl | hv
    · exact o1.ints
    · rw [List.mem_singleton.1 hv]; exact o3.ints
  · rcases List.mem_cons.1 hv with rfl | hv
    · exact o2.ints
    · rw [List.mem_singleton.1 hv]; exact o4.ints
theorem VW.flash {n : Nat} {w w' : World} {B C : Nat} (kB : Blk w' B 3 ((List.replicate n (0 : Int)).map encI).toArray) (kC : Blk w' C 3 ((List.replicate n (0 : Int)).map encI).toArray) (hB : w.heap.size ≤ B) (hC : w.heap.size ≤ C) (hn : n ≤ 8) : VW true false n (List.replicate n 0) (List.replicate n 0) (vAgg true false n (some ⟨B, 0, none⟩) n (some ⟨C, 0, none⟩) n) w.heap.size w'.heap.size w' :=
  VW.of (kB.ownL hB (by simp) (by simp only [maxLen]; omega)) (kC.ownL hC (by simp) (by simp only [maxLen]; omega))
/-- Same of two slices of a view and a flashing one -/
theorem same_two {W : World} {n : Nat} {fl ov : Bool} {cs ns : List Int} {ca na ca1 na1 : Option Addr} {cc nc cc1 nc1 : Nat} {u u' v v' : Value} {b0 b1 b2 b3 b4 b5 b6 b7 b8 b9 b10 b11 : Nat} (o1 : Own W b8 3 1 ca n cc (cs.map encI)) (o2 : Own W b9 3 1 na n nc (ns.map encI)) (o3 : Own W b10 3 1 ca1 n cc1 (cs.map encI)) (o4 : Own W b11 3 1 na1 n nc1 (ns.map encI))
    (h1 : VW true false n (List.replicate n 0) (List.replicate n 0) u b0 b1 W) (h2 : VS2 fl ov n ca cc na nc u v b2 b3 W) (h3 : VW true false n (List.replicate n 0) (List.replicate n 0) u' b4 b5 W) (h4 : VS2 fl ov n ca1 cc1 na1 nc1 u' v' b6 b7 W) (hn : n ≤ 1000000) :
    Calls Try.prog 18 #[v, v'] W fun e w' => e = .returned (.bool true) ∧ Below W.heap.size W w' := by
  obtain ⟨xa, xc, ya, yc, hv, p1, p2, -, -⟩ := h1
  obtain ⟨b, ca', cc', na', nc', hv', rfl, -, -, k⟩ := h2
  obtain ⟨rfl, rfl, rfl, rfl⟩ : xa = ca' ∧ xc = cc' ∧ ya = na' ∧ yc = nc' := by
    rw [hv] at hv'
    simpa [and_assoc] using hv'
  obtain ⟨xa2, xc2, ya2, yc2, hv2, p3, p4, -, -⟩ := h3
  obtain ⟨b', ca', cc', na', nc', hv', rfl, -, -, k'⟩ := h4
  obtain ⟨rfl, rfl, rfl, rfl⟩ : xa2 = ca' ∧ xc2 = cc' ∧ ya2 = na' ∧ yc2 = nc' := by
    rw [hv2] at hv'
    simpa [and_assoc] using hv'
  have l1 := own_len o1
  have l2 := own_len o2
  exact ref23_Same _ _ _ _ 2 2 2 2 W (vws_two k o1 o2 p1 p2) (vws_two k' o3 o4 p3 p4) rfl rfl (by simp) rfl (fun v hv => by
    rcases List.mem_cons.1 hv with rfl | hv
    · exact ⟨by simp only; omega, by simp only; omega⟩
    · rw [List.mem_singleton.1 hv]; exact ⟨by simp; omega, by simp; omega⟩)
end Go.Proofs.Ytdkifkbnkedbpaa
