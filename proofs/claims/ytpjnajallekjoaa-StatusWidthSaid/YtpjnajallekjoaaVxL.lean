/- lists of views that a call makes -/
import Derived.Test.YtpjnajallekjoaaViews
import Derived.Test.YtpjnajallekjoaaBytes
import Derived.Test.YtpjnajallekjoaaService
import Derived.Deep.DeepCutAuto
namespace Go.Proofs.Ytpjnajallekjoaa
set_option linter.unusedVariables false
open Go.RowKit Go.Sort
set_option maxRecDepth 100000

/-- the blocks of a row, as a range -/
theorem Own.range {w : World} {base : Nat} {e : TypeId} {size n cap : Nat} {a : Option Addr} {xs : List Value} (h : Own w base e size a n cap xs) : ∃ gl gh, gl ≤ gh ∧ gh ≤ gl + 1 ∧ gh ≤ w.heap.size ∧ ((gl = 0 ∧ gh = 0) ∨ (base ≤ gl ∧ gh = gl + 1)) ∧ ∀ k, a.map (·.block) = some k ↔ gl ≤ k ∧ k < gh := by
  cases haa : a with
  | none => exact ⟨0, 0, Nat.le_refl _, Nat.zero_le _, Nat.zero_le _, .inl ⟨rfl, rfl⟩, fun k => by simp⟩
  | some ad =>
    have q1 := h.base_le ad.block (by rw [haa]; rfl)
    have q2 := h.lt' ad.block (by rw [haa]; rfl)
    exact ⟨ad.block, ad.block + 1, by omega, by omega, by omega, .inr ⟨q1, rfl⟩, fun k => by simp; omega⟩
theorem info_view : (Try.prog.info? 36).map (fun i => (i.zero, i.size, i.bytes)) = some (some (.agg #[.bool false, .bool false, .slice none 0 0, .slice none 0 0]), 4, 56) := by kernel_rfl
/-- a list of views that the call makes -/
structure VxL (W : World) (B : Nat) (its : List Vx) (xa : Option Addr) (xc : Nat) : Prop where
  own : Own W B 36 4 xa its.length xc (vxCells its)
  cs : ∀ v ∈ its, Own W 0 3 1 v.ca v.cs.length v.cc (v.cs.map encI)
  ns : ∀ v ∈ its, Own W 0 3 1 v.na v.ns.length v.nc (v.ns.map encI)
section
variable {w W W' : World} {B : Nat} {its : List Vx} {xa : Option Addr} {xc : Nat}
theorem VxL.keep (h : VxL W B its xa xc) (hb : ∀ b, b < W.heap.size → W'.heap[b]? = W.heap[b]?) : VxL W' B its xa xc :=
  ⟨h.own.keep fun b _ _ hl => hb b hl, fun v hv => (h.cs v hv).keep fun b _ _ hl => hb b hl, fun v hv => (h.ns v hv).keep fun b _ _ hl => hb b hl⟩
theorem VxL.below (h : VxL W B its xa xc) (hb : Below W.heap.size W W') : VxL W' B its xa xc := h.keep fun b hl => hb.block b hl
theorem VxL.vws (h : VxL W B its xa xc) : Vws W xa its := ⟨h.own.row, fun v hv => (h.cs v hv).ints, fun v hv => (h.ns v hv).ints⟩
theorem VxL.push (h : VxL W B its xa xc) {x : Vx} {xb : Option Addr} {N xd : Nat} (hN : N = its.length + 1) (own : Own W' B 36 4 xb N xd (vxCells its ++ x.cells)) (gr : Grew B W W' xa xb) (hp : Own W 0 3 1 x.ca x.cs.length x.cc (x.cs.map encI)) (hq : Own W 0 3 1 x.na x.ns.length x.nc (x.ns.map encI)) : VxL W' B (its ++ [x]) xb xd := by
  subst hN
  have pw : ∀ y ∈ its ++ [x], Own W 0 3 1 y.ca y.cs.length y.cc (y.cs.map encI) := fun y hy => by
    rcases List.mem_append.1 hy with hy | hy
    · exact h.cs y hy
    · rw [List.mem_singleton.1 hy]; exact hp
  have qw : ∀ y ∈ its ++ [x], Own W 0 3 1 y.na y.ns.length y.nc (y.ns.map encI) := fun y hy => by
    rcases List.mem_append.1 hy with hy | hy
    · exact h.ns y hy
    · rw [List.mem_singleton.1 hy]; exact hq
  have e : vxCells (its ++ [x]) = vxCells its ++ x.cells := by simp [vxCells]
  exact ⟨by rw [e, List.length_append]; exact own, fun y hy => (pw y hy).grew gr (h.own.apart2 (pw y hy) (by decide)), fun y hy => (qw y hy).grew gr (h.own.apart2 (qw y hy) (by decide))⟩
theorem VxL.nil (W : World) (B : Nat) : VxL W B [] none 0 := ⟨Own.nil _ _ _ _, by simp, by simp⟩
end
/-- append of views inside a region -/
theorem obl_appV {ρ : Operand → Value} {R : Value → World → Prop} {w : World} {dst : Option Tmp} {s x : Operand} {ty : TypeId} {pos : String} {after : Array Edge} {guard : Option (Nat × Bool)}
    (B : Nat) (xa : Option Addr) (n xc : Nat) (xs : List Value) (hs : ρ s = .slice xa n xc) (X : Nat) (v0 v1 v2 v3 : Value) (hx : ρ x = .slice (some ⟨X, 0, none⟩) 1 1) (kX : Blk w X 36 #[v0, v1, v2, v3])
    (own : Own w B 36 4 xa n xc xs) (h1 : v0.oneCell' = true ∧ v1.oneCell' = true ∧ v2.oneCell' = true ∧ v3.oneCell' = true) (hbig : n ≤ 1000000000) (hB : B ≤ w.heap.size)
    (h : ∀ b' cap' w', Own w' B 36 4 b' (n + 1) cap' (xs ++ [v0, v1, v2, v3]) → Grew B w w' xa b' → R (.slice b' (n + 1) cap') w') :
    oblUpon Try.prog R ((execOp ρ { dst, op := .call { callee := .builtin .append, args := #[s, x], argTypes := #[25, 25] }, type := ty, pos, after, guard }).run Try.prog w) := by
  obtain ⟨i0, hi, hz0, hz1, hz2⟩ := info_parts info_view
  have hr : Row w (some ⟨X, 0, none⟩) [v0, v1, v2, v3] := .inr ⟨X, 0, rfl, kX.lt, fun i hi => by
    rw [Nat.zero_add, kX.cell]
    have : i = 0 ∨ i = 1 ∨ i = 2 ∨ i = 3 := by simp at hi; omega
    rcases this with rfl | rfl | rfl | rfl <;> rfl⟩
  obtain ⟨b', cap', w', hrun, own', g⟩ := run_append_row (P := Try.prog) w B 25 ty _ i0 _ 4 56 Try.underlying25 hi hz0 hz1 hz2 rfl (by decide) xa n xc _ own (some ⟨X, 0, none⟩) 1 1 [v0, v1, v2, v3] rfl hr (by simp; exact h1) (by simp only [maxLen]; omega) (by omega) hB
  simp only [execOp, resolve, invoke, builtin, Sem.run_bind, Sem.run_pure, Result.andThen_ok, List.map_toArray, List.map_cons, List.map_nil, hs, hx, hrun]
  exact h b' cap' w' own' g
def OkB (v : Vk) : Prop := v.2.2.1.length = v.2.2.2.length ∧ v.2.2.1.length ≤ 8 ∧ (∀ c ∈ v.2.2.1, 0 ≤ c ∧ c ≤ 2) ∧ ∀ c ∈ v.2.2.2, 0 ≤ c ∧ c ≤ 255
theorem OkB.ok {v : Vk} (h : OkB v) : OkK v := ⟨h.2.1, by have := h.1; have := h.2.1; omega, h.2.2.1⟩
theorem VxL.grown {W W' : World} {B p : Nat} {its : List Vx} {xa : Option Addr} {xc : Nat} (h : VxL W B its xa xc) (hg : W.grownBy W' (some p)) (h1 : p < B) (h2 : ∀ v ∈ its, (∀ b, v.ca.map (·.block) = some b → b ≠ p) ∧ ∀ b, v.na.map (·.block) = some b → b ≠ p) : VxL W' B its xa xc :=
  ⟨h.own.grown hg h1, fun v hv => (h.cs v hv).keep fun b hb _ hl => hg.block b hl fun e => (h2 v hv).1 b (by rw [hb]; rfl) (by injection e), fun v hv => (h.ns v hv).keep fun b hb _ hl => hg.block b hl fun e => (h2 v hv).2 b (by rw [hb]; rfl) (by injection e)⟩
/-- a list of views, none of whose arrays is the deck -/
structure VxD (p : Nat) (W : World) (B : Nat) (its : List Vx) (xa : Option Addr) (xc : Nat) : Prop where
  l : VxL W B its xa xc
  ok : ∀ v ∈ its, OkB v.key
  ne : ∀ v ∈ its, (∀ b, v.ca.map (·.block) = some b → b ≠ p) ∧ ∀ b, v.na.map (·.block) = some b → b ≠ p
  lo : ∀ v ∈ its, (∀ b, v.ca.map (·.block) = some b → B ≤ b) ∧ ∀ b, v.na.map (·.block) = some b → B ≤ b
theorem VxD.below {p : Nat} {W W' : World} {B : Nat} {its : List Vx} {xa : Option Addr} {xc : Nat} (h : VxD p W B its xa xc) (hb : Below W.heap.size W W') : VxD p W' B its xa xc := ⟨h.l.below hb, h.ok, h.ne, h.lo⟩
theorem VxD.grown {p : Nat} {W W' : World} {B : Nat} {its : List Vx} {xa : Option Addr} {xc : Nat} (h : VxD p W B its xa xc) (hg : W.grownBy W' (some p)) (h1 : p < B) : VxD p W' B its xa xc := ⟨h.l.grown hg h1 h.ne, h.ok, h.ne, h.lo⟩
theorem VxD.vwsGrown {p q : Nat} {W W' : World} {B : Nat} {its : List Vx} {xa : Option Addr} {xc : Nat} (h : VxD p W B its xa xc) (hg : W.grownBy W' (some q)) (hq : q < B) : VxD p W' B its xa xc :=
  ⟨h.l.grown hg hq fun v hv => ⟨fun b hb => by have := (h.lo v hv).1 b hb; omega, fun b hb => by have := (h.lo v hv).2 b hb; omega⟩, h.ok, h.ne, h.lo⟩
/-- a view that an operation made -/
def VW (fl ov : Bool) (n : Nat) (cs ns : List Int) (v : Value) (b0 b1 : Nat) (W : World) : Prop :=
  ∃ (ca : Option Addr) (cc : Nat) (na : Option Addr) (nc : Nat), v = vAgg fl ov n ca cc na nc ∧ Own W b0 3 1 ca n cc (cs.map encI) ∧ Own W b0 3 1 na n nc (ns.map encI) ∧ (∀ k, ca.map (·.block) = some k → k < b1) ∧ ∀ k, na.map (·.block) = some k → k < b1
section
variable {fl ov : Bool} {n : Nat} {cs ns : List Int} {v : Value} {b0 b1 : Nat} {W W' : World}
theorem VW.keep (h : VW fl ov n cs ns v b0 b1 W) (hk : ∀ q, b0 ≤ q → q < b1 → W'.heap[q]? = W.heap[q]?) : VW fl ov n cs ns v b0 b1 W' := by
  obtain ⟨ca, cc, na, nc, hv, o1, o2, h1, h2⟩ := h
  exact ⟨ca, cc, na, nc, hv, o1.keep fun b hb hl _ => hk b hl (h1 b (by rw [hb]; rfl)), o2.keep fun b hb hl _ => hk b hl (h2 b (by rw [hb]; rfl)), h1, h2⟩
theorem VW.of {w w' : World} {ca na : Option Addr} {cc nc : Nat} (o1 : Own w' w.heap.size 3 1 ca n cc (cs.map encI)) (o2 : Own w' w.heap.size 3 1 na n nc (ns.map encI)) : VW fl ov n cs ns (vAgg fl ov n ca cc na nc) w.heap.size w'.heap.size w' := ⟨ca, cc, na, nc, rfl, o1, o2, o1.lt', o2.lt'⟩
end
theorem own_len {W : World} {b0 n c : Nat} {e : TypeId} {a : Option Addr} {l : List Int} (h : Own W b0 e 1 a n c (l.map encI)) : l.length = n := by have := h.1; simpa using this
theorem vCol_bd (a : Int) : 0 ≤ vCol a ∧ vCol a ≤ 2 := by unfold vCol; split <;> omega
theorem lCount_bd {p : Ph} {a t : Int} (hp : PhOk p) (h : LiOk p a t) : 0 ≤ lCount p a t ∧ lCount p a t ≤ 4 := by
  have h1 := lNeed_bd hp
  have h2 := hp.yellow
  have h3 := hp.red
  unfold LiOk at h
  unfold lCount
  split
  · split <;> omega
  · split
    · omega
    · split <;> omega
theorem ofK_ok {ps : List Ph} {ls : List (Int × Int)} (lat ov : Bool) (hn : ps.length ≤ 8) (hp : ∀ p ∈ ps, PhOk p) (hl : ls.length = ps.length) (hk : ∀ i (h : i < ps.length) (h' : i < ls.length), LiOk ps[i] ls[i].1 ls[i].2) : OkB (lat, ov, ofC lat ls, ofN lat ps ls) ∧ (ofC lat ls).length = ps.length ∧ (ofN lat ps ls).length = ps.length := by
  have hc := vCols_len ls
  have hd := vCnts_len hl
  cases lat with
  | true => exact ⟨⟨by simp [ofC, ofN], by simp [ofC]; omega, by simp [ofC], by simp [ofN]⟩, by simp [ofC, hl], by simp [ofN, hl]⟩
  | false =>
    refine ⟨⟨?_, ?_, ?_, ?_⟩, ?_, ?_⟩
    · show (vCols ls).length = (vCnts ps ls).length; omega
    · show (vCols ls).length ≤ 8; omega
    · intro c hc
      obtain ⟨x, _, rfl⟩ := List.mem_map.1 (show c ∈ vCols ls from hc)
      exact vCol_bd _
    · intro c hc
      have hc : c ∈ vCnts ps ls := hc
      obtain ⟨i, hi, rfl⟩ := List.getElem_of_mem hc
      have e : (vCnts ps ls)[i] = lCount (ps[i]'(by omega)) (ls[i]'(by omega)).1 (ls[i]'(by omega)).2 := by simp [vCnts]
      rw [e]
      have := lCount_bd (hp _ (List.getElem_mem _)) (hk i (by omega) (by omega))
      omega
    · show (vCols ls).length = _; omega
    · show (vCnts ps ls).length = _; omega
end Go.Proofs.Ytpjnajallekjoaa
