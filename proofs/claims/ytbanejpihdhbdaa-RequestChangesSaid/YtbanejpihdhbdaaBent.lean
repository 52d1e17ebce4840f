/- signalbrokerlaw19.light, bent -/
import Derived.Test.YtbanejpihdhbdaaAwake19
import Derived.Test.YtbanejpihdhbdaaUpLaw
namespace Go.Proofs.Ytbanejpihdhbdaa
set_option linter.unusedVariables false
open Go.RowKit Go.Sort
set_option maxRecDepth 100000

/-- a list of requests that the law's functions may be given -/
structure RqGd (w : World) (a : Option Addr) (l : List Rq) : Prop where
  rqs : Rqs w a l
  lg : ∀ r ∈ l, LgOk r ∧ r.legs.length ≤ r.c
  n : l.length ≤ 9
  sm : ∀ r ∈ l, r.legs.length ≤ 9
theorem RqGd.below {w w' : World} {a : Option Addr} {l : List Rq} (h : RqGd w a l) (hb : Below w.heap.size w w') : RqGd w' a l := ⟨h.rqs.below hb (Nat.le_refl _), h.lg, h.n, h.sm⟩
theorem RqGd.alloc {w : World} {a : Option Addr} {l : List Rq} (h : RqGd w a l) (o : Obj) : RqGd (w.alloc o) a l := ⟨h.rqs.alloc o, h.lg, h.n, h.sm⟩
theorem RqGd.nil (w : World) (a : Option Addr) : RqGd w a [] := ⟨Rqs.nil _ _, by simp, by simp, by simp⟩
def BentR (w : World) (e : Ending) (w' : World) : Prop := ∃ (a : Option Addr) (l : List Rq) (c : Nat), e = .returned (.slice a l.length c) ∧ RqGd w' a l ∧ Below w.heap.size w w' ∧ l.length ≤ c ∧ (a = none → c = 0)
def LightR (l : List Rq) (w : World) (e : Ending) (w' : World) : Prop := ∃ b : Bool, e = .returned (.bool b) ∧ Hid (b = true → l.length ≤ 9 ∧ ∀ r ∈ l, r.legs.length ≤ 9) ∧ Below w.heap.size w w'
set_option maxHeartbeats 4000000 in
theorem law_light (a : Option Addr) (l : List Rq) (n c : Nat) (w : World) (h : Rqs w a l) (hn : n = l.length) (l9 : n ≤ 9223372036854775807) :
    Calls Try.prog 19 #[.slice a n c] w (LightR l w) := by
  subst hn
  go_enter Try.func19, Try.ntmps19
  go_wp2_with fail
  go_loopw [7] (fun s7 wr => ∃ i : Nat, s7 = .int .i64 i ∧ i ≤ l.length ∧ Hid (∀ k (h : k < l.length), k < i → l[k].legs.length ≤ 9) ∧ RowKit.Below w.heap.size w wr) (fun s _ => l.length - (intOf s).toNat)
  case atStart => exact ⟨0, rfl, by omega, Lib.hid fun k _ h => by omega, (by repeat (first | (with_reducible refine Below.setCell ?_ ?_ _) | (with_reducible refine Below.alloc ?_ ?_ _) | (with_reducible refine Below.drew ?_) | (with_reducible refine below_drewN ?_ _) | (with_reducible exact Below.refl _ _) | (focus (simp; done)) | (focus (simp; omega)) | (focus omega)))⟩
  case round =>
    obtain ⟨i, rfl, hi, hall, be⟩ := hrel
    by_cases hlt : i < l.length
    · obtain ⟨ba, oa, rfl⟩ := h.open (by omega)
      have hr := h.below be (Nat.le_refl _)
      obtain ⟨x0, x1, x2, x3, x4, xb⟩ := row_req hr.row i hlt
      have HX := Lib.hid (show ∀ m, l[i].legs.length = m → m ≤ 9 → ∀ k (h : k < l.length), k < i + 1 → l[k].legs.length ≤ 9 from fun m e q k hk h1 => by
        by_cases z : k = i
        · subst z; omega
        · exact hall.out k hk (by omega))
      obtain ⟨x, hx⟩ : ∃ x, l[i] = x := ⟨_, rfl⟩
      rw [hx] at x0 x1 x2 x3 x4 HX
      clear hx hr
      obtain ⟨id, veh, cls, til, lg, la, lc⟩ := x
      simp only at x0 x1 x2 x3 x4 HX
      have kx : (i : Int) < (l.length : Int) := by omega
      by_cases h9 : lg.length ≤ 9
      · have HY := Lib.hid (HX.out _ rfl h9)
        have h9i : ¬ (9 : Int) < (lg.length : Int) := by omega
        go_wp2_with fail
        go_roundw
        case rel => exact ⟨i + 1, by go_num, by omega, HY, (by repeat (first | (with_reducible refine Below.setCell ?_ ?_ _) | (with_reducible refine Below.alloc ?_ ?_ _) | (with_reducible refine Below.drew ?_) | (with_reducible refine below_drewN ?_ _) | (with_reducible exact Below.refl _ _) | (with_reducible refine Below.trans ?_ (Below.mono be ?_)) | (focus (simp; done)) | (focus (simp; omega)) | (focus omega) | (focus (have q0 := Below.size be; (try simp at q0); (try simp); omega))))⟩
        case measure => simp [intOf]; omega
      · have h9i : (9 : Int) < (lg.length : Int) := by omega
        go_wp2_with fail
        go_ret
        exact ⟨false, rfl, Lib.hid (fun q => by cases q), (by repeat (first | (with_reducible refine Below.setCell ?_ ?_ _) | (with_reducible refine Below.alloc ?_ ?_ _) | (with_reducible refine Below.drew ?_) | (with_reducible refine below_drewN ?_ _) | (with_reducible exact Below.refl _ _) | (with_reducible refine Below.trans ?_ (Below.mono be ?_)) | (focus (simp; done)) | (focus (simp; omega)) | (focus omega) | (focus (have q0 := Below.size be; (try simp at q0); (try simp); omega))))⟩
    · obtain rfl : i = l.length := by omega
      go_wp2_with fail
      go_ret
      refine ⟨_, rfl, Lib.hid fun q => ⟨?_, fun r hr => ?_⟩, be⟩
      · simp at q; omega
      · obtain ⟨k, hk, rfl⟩ := List.mem_iff_getElem.1 hr
        exact hall.out k hk hk
theorem rqCells_set1 : ∀ (l : List Rq) (j : Nat) (h : j < l.length) (y : Rq) (c : Nat) (v : Value) (_ : c < 5) (_ : y.cells = l[j].cells.set c v), rqCells (l.set j y) = (rqCells l).set (j * 5 + c) v
  | p :: l, 0, _, y, c, v, hc, e => by
    simp only [rqCells, List.set_cons_zero, List.flatMap_cons, List.getElem_cons_zero] at e ⊢
    rw [e, Nat.zero_mul, Nat.zero_add, List.set_append_left _ _ (by simp [Rq.cells]; omega)]
  | p :: l, j + 1, h, y, c, v, hc, e => by
    have := rqCells_set1 l j (by simpa using h) y c v hc (by simpa using e)
    simp only [rqCells, List.flatMap_cons, List.set_cons_succ] at this ⊢
    rw [this, List.set_append_right _ _ (by simp [Rq.cells]; omega)]
    congr 2
    simp [Rq.cells]
    omega
/-- a number of a request is written over -/
theorem RqL.setNum {W : World} {B : Nat} {l : List Rq} {xb xc : Nat} (h : RqL W B l (some ⟨xb, 0, none⟩) xc) {k : Nat} (hk : k < l.length) (y : Rq) (c : Nat) (v : Value) (hc : c < 5) (e : y.cells = l[k].cells.set c v) (e2 : y.legs = l[k].legs ∧ y.a = l[k].a ∧ y.c = l[k].c) :
    Rqs (W.setCell ⟨xb, k * 5 + c, none⟩ v) (some ⟨xb, 0, none⟩) (l.set k y) := by
  refine ⟨?_, fun r hr => ?_⟩
  · rw [rqCells_set1 _ _ hk y c v hc e]
    exact (h.own.set _ _).row
  · have far : ∀ r ∈ l, Row (W.setCell ⟨xb, k * 5 + c, none⟩ v) r.a (lgCells r.legs) := fun r hr => ((h.legs r hr).far (p := ⟨xb, _, none⟩) (fun q => h.own.apart3 (h.legs r hr) (by decide) xb rfl q) v).row
    obtain ⟨j, hj, rfl⟩ := List.mem_iff_getElem.1 hr
    rw [List.length_set] at hj
    by_cases q : j = k
    · subst q
      rw [List.getElem_set_self, e2.1, e2.2.1]
      exact far _ (List.getElem_mem hk)
    · rw [List.getElem_set_ne (by omega)]
      exact far _ (List.getElem_mem hj)
theorem set_all {α : Type} {P : α → Prop} {l : List α} (h : ∀ r ∈ l, P r) {k : Nat} {y : α} (hy : P y) : ∀ r ∈ l.set k y, P r := fun r hr => by
  rcases List.mem_or_eq_of_mem_set hr with q | q
  · exact h r q
  · rw [q]; exact hy
/-- append(s, x...) of requests -/
theorem appRqs {ops : Array Oper} {rest : List Oper} {o : Oper} {a : Act} {Q : Exit → Act → World → Prop} {w : World} (hgd : o.guard = none) (s x : Operand) (ho : o.op = .call { callee := .builtin .append, args := #[s, x], argTypes := #[27, 27] })
    (B : Nat) (xa : Option Addr) (n xc : Nat) (l : List Rq) (hs : a.eval s = .slice xa n xc) (A : Option Addr) (m c : Nat) (k : List Rq) (hx : a.eval x = .slice A m c)
    (own : Own w B 45 5 xa n xc (rqCells l)) (hr : Row w A (rqCells k)) (hm : m = k.length) (hB : B ≤ w.heap.size) (hbig : n + m ≤ 1000000)
    (h : ∀ xb xd w', Own w' B 45 5 xb (n + m) xd (rqCells (l ++ k)) → Grew B w w' xa xb → (∀ W, Below B W w → Below B W w') → wpList Try.prog ops Q rest (a.put o.dst (.slice xb (n + m) xd)) w') : wpList Try.prog ops Q (o :: rest) a w := by
  obtain ⟨i0, hi, hz0, hz1, hz2⟩ := info_parts info_req
  refine wp_append_row _ hgd s x _ ho B _ i0 _ 5 56 Try.underlying27 hi hz0 hz1 hz2 rfl (by decide) xa n xc _ hs A m c hx own (rqCells k) (by rw [rqCells_len, hm]) hr (rqCells_one k) (by simp only [maxLen]; omega) (by omega) hB ?_
  intro xb xd w' own' gr
  exact h xb xd w' (by rw [rqCells_append]; exact own') gr (Grew.step own gr)
/-- append(s, x...) of legs, an operation's obligation -/
theorem obl_appLg {ρ : Operand → Value} {R : Value → World → Prop} {w : World} {dst : Option Tmp} {s x : Operand} {ty : TypeId} {pos : String} {after : Array Edge} {guard : Option (Nat × Bool)}
    (base : Nat) (b : Option Addr) (n cap : Nat) (l : List Lg) (hs : ρ s = .slice b n cap) (A : Option Addr) (m c : Nat) (k : List Lg) (hx : ρ x = .slice A m c)
    (own : Own w base 25 5 b n cap (lgCells l)) (hr : Row w A (lgCells k)) (hm : m = k.length) (hbig : n + m ≤ 1000000) (hbase : base ≤ w.heap.size)
    (h : ∀ b' cap' w', Own w' base 25 5 b' (n + m) cap' (lgCells (l ++ k)) → Grew base w w' b b' → R (.slice b' (n + m) cap') w') :
    oblUpon Try.prog R ((execOp ρ { dst, op := .call { callee := .builtin .append, args := #[s, x], argTypes := #[26, 26] }, type := ty, pos, after, guard }).run Try.prog w) := by
  obtain ⟨i0, hi, hz0, hz1, hz2⟩ := info_parts info_leg
  obtain ⟨b', cap', w', hrun, own', g⟩ := run_append_row (P := Try.prog) w base 26 ty _ i0 _ 5 40 Try.underlying26 hi hz0 hz1 hz2 rfl (by decide) b n cap _ own A m c (lgCells k) (by rw [lgCells_len, hm]) hr (lgCells_one k) (by simp only [maxLen]; omega) (by omega) hbase
  simp only [execOp, resolve, invoke, builtin, Sem.run_bind, Sem.run_pure, Result.andThen_ok, List.map_toArray, List.map_cons, List.map_nil, hs, hx, hrun]
  exact h b' cap' w' (by rw [lgCells_append]; exact own') g
/-- the list and each one's legs, but those of request k, and new legs -/
structure Mid (W : World) (B : Nat) (l : List Rq) (k : Nat) (xa : Option Addr) (xc : Nat) (a' : Option Addr) (N c' : Nat) (m : List Lg) : Prop where
  own : Own W B 45 5 xa l.length xc (rqCells l)
  legs : ∀ j (hj : j < l.length), j ≠ k → Own W B 25 5 l[j].a l[j].legs.length l[j].c (lgCells l[j].legs)
  nw : Own W B 25 5 a' N c' (lgCells m)
/-- the list and each one's legs -/
structure RqW (W : World) (B : Nat) (l : List Rq) (xa : Option Addr) (xc : Nat) : Prop where
  own : Own W B 45 5 xa l.length xc (rqCells l)
  legs : ∀ r ∈ l, Own W B 25 5 r.a r.legs.length r.c (lgCells r.legs)
section
variable {W W' : World} {B : Nat} {l : List Rq} {k : Nat} {xa : Option Addr} {xc : Nat} {a' : Option Addr} {N c' : Nat} {m : List Lg}
theorem RqW.rqs (h : RqW W B l xa xc) : Rqs W xa l := ⟨h.own.row, fun r hr => (h.legs r hr).row⟩
theorem Mid.keepIn {p : Nat → Prop} (h : Mid W B l k xa xc a' N c' m) (h1 : ∀ y, xa.map (·.block) = some y → p y) (h2 : ∀ j (hj : j < l.length), j ≠ k → ∀ y, l[j].a.map (·.block) = some y → p y) (h3 : ∀ y, a'.map (·.block) = some y → p y) (hb : ∀ b, B ≤ b → p b → W'.heap[b]? = W.heap[b]?) : Mid W' B l k xa xc a' N c' m :=
  ⟨h.own.keep fun b e hB _ => hb b hB (h1 b (by rw [e]; rfl)), fun j hj q => (h.legs j hj q).keep fun b e hB _ => hb b hB (h2 j hj q b (by rw [e]; rfl)), h.nw.keep fun b e hB _ => hb b hB (h3 b (by rw [e]; rfl))⟩
theorem RqW.keepIn {p : Nat → Prop} (h : RqW W B l xa xc) (h1 : ∀ y, xa.map (·.block) = some y → p y) (h2 : ∀ r ∈ l, ∀ y, r.a.map (·.block) = some y → p y) (hb : ∀ b, B ≤ b → p b → W'.heap[b]? = W.heap[b]?) : RqW W' B l xa xc :=
  ⟨h.own.keep fun b e hB _ => hb b hB (h1 b (by rw [e]; rfl)), fun r hr => (h.legs r hr).keep fun b e hB _ => hb b hB (h2 r hr b (by rw [e]; rfl))⟩
theorem RqL.mid (h : RqL W B l xa xc) {W' : World} (hk : k < l.length) {b' : Option Addr} (g : Grew B W W' l[k].a b') (own : Own W' B 25 5 b' N c' (lgCells m)) : Mid W' B l k xa xc b' N c' m :=
  ⟨h.own.grew g fun y h1 h2 => h.own.apart3 (h.legs _ (List.getElem_mem hk)) (by decide) y h2 h1, fun j hj q => (h.legs _ (List.getElem_mem hj)).grew g (by
    rcases Nat.lt_or_gt_of_ne q with e | e
    · exact fun y h1 h2 => h.ap j k hk e y h2 h1
    · exact h.ap k j hj e), own⟩
theorem Mid.store {xb : Nat} (h : Mid W B l k (some ⟨xb, 0, none⟩) xc a' N c' m) (hk : k < l.length) (hN : N = m.length) : RqW (W.setCell ⟨xb, k * 5 + 4, none⟩ (.slice a' N c')) B (l.set k ⟨l[k].id, l[k].veh, l[k].cls, l[k].til, m, a', c'⟩) (some ⟨xb, 0, none⟩) xc := by
  subst hN
  have far : ∀ {b : Option Addr} {n cap : Nat} {m' : List Lg}, Own W B 25 5 b n cap (lgCells m') → Own (W.setCell ⟨xb, k * 5 + 4, none⟩ (.slice a' m.length c')) B 25 5 b n cap (lgCells m') := fun o => o.far (p := ⟨xb, _, none⟩) (fun q => h.own.apart3 o (by decide) xb rfl q) _
  refine ⟨?_, fun r hr => ?_⟩
  · rw [List.length_set, rqCells_set1 _ _ hk _ 4 (.slice a' m.length c') (by decide) (by simp [Rq.cells])]
    exact h.own.set _ _
  · obtain ⟨j, hj, rfl⟩ := List.mem_iff_getElem.1 hr
    rw [List.length_set] at hj
    by_cases q : j = k
    · subst q
      rw [List.getElem_set_self]
      exact far h.nw
    · rw [List.getElem_set_ne (by omega)]
      exact far (h.legs j hj q)
end
set_option maxHeartbeats 8000000 in
theorem law_bent (a : Option Addr) (l : List Rq) (n c : Nat) (which by_ : Int) (w : World) (h : Rqs w a l) (hn : n = l.length) (l9 : n ≤ 4) (hl : ∀ r ∈ l, 1 ≤ r.legs.length ∧ r.legs.length ≤ 3) :
    Calls Try.prog 22 #[.slice a n c, .int .i64 which, .int .i64 by_] w (BentR w) := by
  subst hn
  go_enter Try.func22, Try.ntmps22
  go_upto_region 2 with ((go_at_call 51; (with_reducible refine (ref19_Copy a l l.length c _ h rfl (by omega) (fun r hr => by have := (hl r hr).2; omega)).mono ?_); rintro e w2 ⟨xa, xc, l2, rfl, hk, hn2, il, hb⟩))
  have hl2 : ∀ r ∈ l2, 1 ≤ r.legs.length ∧ r.legs.length ≤ 3 := fun r hr => by
    have q : r.key ∈ l.map Rq.key := by rw [← hk.out]; exact List.mem_map_of_mem hr
    obtain ⟨x, hx, e⟩ := List.mem_map.1 q
    have e2 : x.legs = r.legs := congrArg (fun k : Rk => k.2.2.2.2) e
    rw [← e2]; exact hl x hx
  have hn4 := hn2.out
  rw [hn4]
  rw [hn4] at l9
  have HL := Lib.hid hl2
  have HLG := Lib.hid (il.lgOk (fun r hr => by have := (hl2 r hr).2; omega))
  have hcap := il.own.cap_le
  have HNC : Hid (xa = none → xc = 0) := Lib.hid (fun e => by have o := il.own; rw [e] at o; exact o.none_cap)
  clear hn2 hn4 hk hl hl2 h
  obtain ⟨B, hB⟩ : ∃ B, w.heap.size = B := ⟨_, rfl⟩
  rw [hB] at il hb
  by_cases h0 : l2.length = 0
  · have hq := il.rqs
    obtain rfl : l2 = [] := List.length_eq_zero_iff.1 h0
    go_wp2_with fail
    go_ret
    exact ⟨xa, [], xc, rfl, RqGd.nil _ _, by rw [hB]; exact hb, by simp, HNC.out⟩
  · obtain ⟨k, Ek'⟩ : ∃ k : Nat, by_ % (l2.length : Int) = k := ⟨(by_ % (l2.length : Int)).toNat, by
      have := Int.emod_nonneg by_ (show (l2.length : Int) ≠ 0 by omega)
      omega⟩
    have hkl : k < l2.length := by
      have := Int.emod_lt_of_pos by_ (show (0 : Int) < (l2.length : Int) by omega)
      omega
    have Ek := Lib.hid Ek'
    have kx : (k : Int) < (l2.length : Int) := by omega
    have h0i : ¬ (l2.length : Int) = 0 := by omega
    have hpos : (1 : Int) ≤ (l2.length : Int) := by omega
    clear Ek' h0
    obtain ⟨q, Eq'⟩ : ∃ q : Nat, (wrap64 (by_.tdiv 4)) % 7 = q := ⟨((wrap64 (by_.tdiv 4)) % 7).toNat, by omega⟩
    have q7 : q < 7 := by omega
    have Eq := Lib.hid Eq'
    clear Eq'
    obtain ⟨xb, rfl, hxB, -⟩ := il.own.open_ (by omega)
    go_upto_region 5 with ((go_at_call 9; (with_reducible refine (mk_ModE Ek.out _ hpos (by omega)).mono ?_); rintro e wz ⟨rfl, rfl⟩))
    go_cut [8] (fun s8 wx => ∃ v : Int, s8 = .int .i64 v ∧ RqL wx B l2 (some ⟨xb, 0, none⟩) xc ∧ RowKit.Below B w wx)
    case first =>
      have hq : q = 0 ∨ q = 1 ∨ q = 2 ∨ q = 3 ∨ q = 4 ∨ q = 5 ∨ q = 6 := by omega
      rcases hq with rfl | rfl | rfl | rfl | rfl | rfl | rfl
      all_goals
        go_wp2_with ((go_at_call 9; (with_reducible refine (mk_ModE Eq.out _ (by decide) (by decide)).mono ?_); rintro e wz ⟨rfl, rfl⟩))
        go_meet
        exact ⟨_, rfl, il.alloc _, (by repeat (first | (with_reducible refine Below.setCell ?_ ?_ _) | (with_reducible refine Below.alloc ?_ ?_ _) | (with_reducible refine Below.drew ?_) | (with_reducible refine below_drewN ?_ _) | (with_reducible exact Below.refl _ _) | (with_reducible refine Below.trans ?_ (Below.mono hb ?_)) | (focus (simp; done)) | (focus (simp; omega)) | (focus omega) | (focus (have q0 := Below.size hb; (try simp at q0); (try simp); omega))))⟩
    case rest =>
      obtain ⟨v, rfl, il, hb⟩ := hcut
      obtain ⟨m, Em'⟩ : ∃ m, which % 7 = m := ⟨_, rfl⟩
      have hm : m = 0 ∨ m = 1 ∨ m = 2 ∨ m = 3 ∨ m = 4 ∨ m = 5 ∨ m = 6 := by omega
      have Em := Lib.hid Em'
      clear Em'
      obtain ⟨x0, x1, x2, x3, x4, xl⟩ := row_req il.rqs.row k hkl
      simp only [Nat.zero_add] at x0 x1 x2 x3 x4
      have xf := il.own.frozen
      have HY0 := Lib.hid (HLG.out _ (List.getElem_mem hkl))
      have hlg3 := HL.out _ (List.getElem_mem hkl)
      have HN : Hid (∀ r ∈ l2, r.legs.length ≤ 9) := Lib.hid fun r hr => by have := (HL.out r hr).2; omega
      obtain ⟨x, hx⟩ : ∃ x, l2[k] = x := ⟨_, rfl⟩
      rw [hx] at x0 x1 x2 x3 x4 HY0 hlg3
      have HX := Lib.hid hx
      clear hx
      obtain ⟨id, veh, cls, til, lg, la, lc⟩ := x
      simp only at x0 x1 x2 x3 x4 hlg3
      have HY : Hid (∀ i v c t, LgOk ⟨i, v, c, t, lg, la, lc⟩ ∧ lg.length ≤ lc) := Lib.hid fun i v c t => ⟨⟨HY0.out.1.n, HY0.out.1.nil⟩, HY0.out.2⟩
      have hlg9 : lg.length ≤ 9 := by omega
      have hbs := hb.size
      rcases hm with rfl | rfl | rfl | rfl | rfl | rfl | rfl
      · go_wp2_with ((go_at_call 9; (with_reducible refine (mk_ModE Em.out _ (by decide) (by decide)).mono ?_); rintro e wz ⟨rfl, rfl⟩))
        go_ret
        exact ⟨some ⟨xb, 0, none⟩, l2.set k ⟨v, veh, cls, til, lg, la, lc⟩, xc, by rw [List.length_set]; rfl, ⟨il.setNum hkl ⟨v, veh, cls, til, lg, la, lc⟩ 0 (.int .i64 v) (by decide) (by rw [HX.out]; rfl) (by rw [HX.out]; exact ⟨rfl, rfl, rfl⟩), set_all HLG.out (y := ⟨v, veh, cls, til, lg, la, lc⟩) (HY.out _ _ _ _), by rw [List.length_set]; omega, set_all HN.out (y := ⟨v, veh, cls, til, lg, la, lc⟩) hlg9⟩, by rw [hB]; exact hb.grown (grownBy_set _ xb _ _) (by omega) (fun k hk => by injection hk with hk; omega), by rw [List.length_set]; exact hcap, fun e => by cases e⟩
      · go_wp2_with ((go_at_call 9; (with_reducible refine (mk_ModE Em.out _ (by decide) (by decide)).mono ?_); rintro e wz ⟨rfl, rfl⟩))
        go_ret
        exact ⟨some ⟨xb, 0, none⟩, l2.set k ⟨id, v, cls, til, lg, la, lc⟩, xc, by rw [List.length_set]; rfl, ⟨il.setNum hkl ⟨id, v, cls, til, lg, la, lc⟩ 1 (.int .i64 v) (by decide) (by rw [HX.out]; rfl) (by rw [HX.out]; exact ⟨rfl, rfl, rfl⟩), set_all HLG.out (y := ⟨id, v, cls, til, lg, la, lc⟩) (HY.out _ _ _ _), by rw [List.length_set]; omega, set_all HN.out (y := ⟨id, v, cls, til, lg, la, lc⟩) hlg9⟩, by rw [hB]; exact hb.grown (grownBy_set _ xb _ _) (by omega) (fun k hk => by injection hk with hk; omega), by rw [List.length_set]; exact hcap, fun e => by cases e⟩
      · go_wp2_with ((go_at_call 9; (with_reducible refine (mk_ModE Em.out _ (by decide) (by decide)).mono ?_); rintro e wz ⟨rfl, rfl⟩))
        go_ret
        exact ⟨some ⟨xb, 0, none⟩, l2.set k ⟨id, veh, v, til, lg, la, lc⟩, xc, by rw [List.length_set]; rfl, ⟨il.setNum hkl ⟨id, veh, v, til, lg, la, lc⟩ 2 (.int .i64 v) (by decide) (by rw [HX.out]; rfl) (by rw [HX.out]; exact ⟨rfl, rfl, rfl⟩), set_all HLG.out (y := ⟨id, veh, v, til, lg, la, lc⟩) (HY.out _ _ _ _), by rw [List.length_set]; omega, set_all HN.out (y := ⟨id, veh, v, til, lg, la, lc⟩) hlg9⟩, by rw [hB]; exact hb.grown (grownBy_set _ xb _ _) (by omega) (fun k hk => by injection hk with hk; omega), by rw [List.length_set]; exact hcap, fun e => by cases e⟩
      · go_wp2_with ((go_at_call 9; (with_reducible refine (mk_ModE Em.out _ (by decide) (by decide)).mono ?_); rintro e wz ⟨rfl, rfl⟩))
        go_ret
        exact ⟨some ⟨xb, 0, none⟩, l2.set k ⟨id, veh, cls, v, lg, la, lc⟩, xc, by rw [List.length_set]; rfl, ⟨il.setNum hkl ⟨id, veh, cls, v, lg, la, lc⟩ 3 (.int .i64 v) (by decide) (by rw [HX.out]; rfl) (by rw [HX.out]; exact ⟨rfl, rfl, rfl⟩), set_all HLG.out (y := ⟨id, veh, cls, v, lg, la, lc⟩) (HY.out _ _ _ _), by rw [List.length_set]; omega, set_all HN.out (y := ⟨id, veh, cls, v, lg, la, lc⟩) hlg9⟩, by rw [hB]; exact hb.grown (grownBy_set _ xb _ _) (by omega) (fun k hk => by injection hk with hk; omega), by rw [List.length_set]; exact hcap, fun e => by cases e⟩
      · go_upto_region 17 with ((go_at_call 9; (with_reducible refine (mk_ModE Em.out _ (by decide) (by decide)).mono ?_); rintro e wz ⟨rfl, rfl⟩))
        obtain ⟨Z, hZ⟩ : ∃ Z, wc.heap.size = Z := ⟨_, rfl⟩
        have HRL := Lib.hid il.rlt
        rw [hZ] at HRL
        have HIL := Lib.hid il
        clear x0 x1 x2 x3 x4 xf il
        have hBZ : B ≤ Z := by omega
        have hxZ : xb < Z := by omega
        have HLA := Lib.hid (show ∀ y, la.map (·.block) = some y → y < Z from fun y e => HRL.out.2 _ (List.getElem_mem hkl) y (by rw [HX.out]; exact e))
        apply wp_region_tab [(B, Z)] 13 80 [some 58, some 59, some 60, some 61, some 62, some 63, some 64, some 65, some 66, some 67, some 68, some 69, none] [⟨[13], [], [], []⟩, ⟨[13], [], [], []⟩, ⟨[1, 13], [1], [1], []⟩, ⟨[1, 2, 13], [2], [2], []⟩, ⟨[1, 2, 3, 13], [3, 13], [3, 13], []⟩, ⟨[13], [], [], []⟩, ⟨[5, 13], [5], [5], []⟩, ⟨[5, 6, 13], [6], [6], []⟩, ⟨[5, 6, 7, 13], [7, 13], [7, 13], []⟩, ⟨[1, 2, 3, 4, 5, 6, 7, 8, 13], [4, 8, 13], [4, 8, 13], [13]⟩, ⟨[0, 1, 2, 3, 4, 5, 6, 7, 8, 9, 13], [0], [0], []⟩, ⟨[0, 1, 2, 3, 4, 5, 6, 7, 8, 9, 10, 13], [10], [10], []⟩, ⟨[0, 1, 2, 3, 4, 5, 6, 7, 8, 9, 10, 11, 13], [9, 11, 13], [9, 11], [13]⟩, ⟨[], [], [], []⟩] [0, 1, 2, 3, 4, 5, 6, 7, 8, 9, 10, 11, 12] [12] [psiTrue, psiTrue, psiTrue, psiTrue, psiTrue, psiTrue, psiTrue, psiTrue, psiTrue, (fun f lo hi v b0 b1 W => ∃ (a' : Option Addr) (c' : Nat), v = .slice a' (lg.length + lg.length) c' ∧ (∀ y, a'.map (·.block) = some y → y < Z ∨ (b0 ≤ y ∧ y < b1)) ∧ Mid W B l2 k (some ⟨xb, 0, none⟩) xc a' (lg.length + lg.length) c' (lg ++ lg)), psiTrue, psiTrue, (fun f lo hi v b0 b1 W => ∃ (a' : Option Addr) (c' : Nat), (∀ y, a'.map (·.block) = some y → y < Z ∨ (lo (9) ≤ y ∧ y < hi (9))) ∧ RqW W B (l2.set k ⟨id, veh, cls, til, lg ++ lg, a', c'⟩) (some ⟨xb, 0, none⟩) xc), (fun f lo hi v b0 b1 W => (b0 = B ∧ b1 = Z) ∧ RqL W B l2 (some ⟨xb, 0, none⟩) xc)] [kVal _, kVal _, kVal _, kVal _, kVal _, kVal _, kVal _, kVal _, kVal _, kTrue, kVal _, kVal _, kTrue]
        · kernel_rfl
        · kernel_rfl
        · rfl
        · rfl
        rotate_left 2
        refine ⟨?oR1_0, ?oR1_1, ?oR1_2, ?oR1_3, ?oR1_4, ?oR1_5, ?oR1_6, ?oR1_7, ?oR1_8, ?oR1_9, ?oR1_10, ?oR1_11, ?oR1_12, trivial⟩
        case hx => exact ⟨⟨by omega, by omega⟩, by simp, trivial⟩
        case hX => exact ⟨fun _ _ _ _ => ⟨⟨rfl, rfl⟩, HIL.out.keep fun _ _ => rfl⟩, trivial⟩
        case oR1_0 => intro f lo hi w hb hx hf hk hrg R hR; (try replace hb := BelX.zero hb); (try simp (decide := true) only [go_sem] at hf); (try simp (decide := true) only [go_sem] at hk); go_simp; exact hR _ _ (rpost_val rfl rfl (Below.refl _ _) rfl)
        case oR1_1 => intro f lo hi w hb hx hf hk hrg R hR; (try replace hb := BelX.zero hb); (try simp (decide := true) only [go_sem] at hf); (try simp (decide := true) only [go_sem] at hk); go_simp; exact hR _ _ (rpost_val rfl rfl (Below.refl _ _) rfl)
        case oR1_2 => intro f lo hi w hb hx hf hk hrg R hR; (try replace hb := BelX.zero hb); (try simp (decide := true) only [go_sem] at hf); (try simp (decide := true) only [go_sem] at hk); go_simp; exact hR _ _ (rpost_val rfl rfl (Below.refl _ _) rfl)
        case oR1_3 => intro f lo hi w hb hx hf hk hrg R hR; (try replace hb := BelX.zero hb); (try simp (decide := true) only [go_sem] at hf); (try simp (decide := true) only [go_sem] at hk); go_simp; exact hR _ _ (rpost_val rfl rfl (Below.refl _ _) rfl)
        case oR1_4 =>
          intro f lo hi w hb hx hf hk hrg R hR; (try replace hb := BelX.zero hb); (try simp (decide := true) only [go_sem] at hf); (try simp (decide := true) only [go_sem] at hk)
          obtain ⟨-, -, -, -, z4, zl⟩ := row_req hf.2.rqs.row k hkl
          rw [HX.out] at z4
          simp only [Nat.zero_add] at z4
          go_simp
          exact hR _ _ (rpost_val rfl rfl (Below.refl _ _) rfl)
        case oR1_5 => intro f lo hi w hb hx hf hk hrg R hR; (try replace hb := BelX.zero hb); (try simp (decide := true) only [go_sem] at hf); (try simp (decide := true) only [go_sem] at hk); go_simp; exact hR _ _ (rpost_val rfl rfl (Below.refl _ _) rfl)
        case oR1_6 => intro f lo hi w hb hx hf hk hrg R hR; (try replace hb := BelX.zero hb); (try simp (decide := true) only [go_sem] at hf); (try simp (decide := true) only [go_sem] at hk); go_simp; exact hR _ _ (rpost_val rfl rfl (Below.refl _ _) rfl)
        case oR1_7 => intro f lo hi w hb hx hf hk hrg R hR; (try replace hb := BelX.zero hb); (try simp (decide := true) only [go_sem] at hf); (try simp (decide := true) only [go_sem] at hk); go_simp; exact hR _ _ (rpost_val rfl rfl (Below.refl _ _) rfl)
        case oR1_8 =>
          intro f lo hi w hb hx hf hk hrg R hR; (try replace hb := BelX.zero hb); (try simp (decide := true) only [go_sem] at hf); (try simp (decide := true) only [go_sem] at hk)
          obtain ⟨-, -, -, -, z4, zl⟩ := row_req hf.2.rqs.row k hkl
          rw [HX.out] at z4
          simp only [Nat.zero_add] at z4
          go_simp
          exact hR _ _ (rpost_val rfl rfl (Below.refl _ _) rfl)
        case oR1_9 =>
          intro f lo hi w hb hx hf hk hrg R hR; (try replace hb := BelX.zero hb); (try simp (decide := true) only [go_sem] at hf); (try simp (decide := true) only [go_sem] at hk)
          have o := hf.2.legs _ (List.getElem_mem hkl)
          rw [HX.out] at o
          have hX0 : lo 13 = B ∧ hi 13 = Z := XOk.get _ _ hx 0 _ rfl
          refine obl_appLg B la lg.length lc lg ?_ la lg.length lc lg ?_ o o.row rfl (by omega) (by have := hb.2.2.2.1; omega) fun b' cap' w' own' g => ?_
          · go_simp
          · go_simp
          refine hR _ _ (rpost_some rfl rfl (g.touch fun y e => ⟨13, by simp, by rw [hX0.1]; exact o.base_le y e, by rw [hX0.2]; exact HLA.out y e⟩) ?_)
          (try simp (decide := true) only [go_sem])
          exact ⟨b', cap', rfl, fun y e => by
            rcases g.2.1 with q | q
            · exact .inl (HLA.out y (by rw [← q]; exact e))
            · rw [q] at e; injection e with e
              exact .inr ⟨by omega, own'.lt' y (by rw [q, e])⟩, hf.2.mid hkl (by rw [HX.out]; exact g) own'⟩
        case oR1_10 => intro f lo hi w hb hx hf hk hrg R hR; (try replace hb := BelX.zero hb); (try simp (decide := true) only [go_sem] at hf); (try simp (decide := true) only [go_sem] at hk); go_simp; exact hR _ _ (rpost_val rfl rfl (Below.refl _ _) rfl)
        case oR1_11 => intro f lo hi w hb hx hf hk hrg R hR; (try replace hb := BelX.zero hb); (try simp (decide := true) only [go_sem] at hf); (try simp (decide := true) only [go_sem] at hk); go_simp; exact hR _ _ (rpost_val rfl rfl (Below.refl _ _) rfl)
        case oR1_12 =>
          intro f lo hi w hb hx hf hk hrg R hR; (try replace hb := BelX.zero hb); (try simp (decide := true) only [go_sem] at hf); (try simp (decide := true) only [go_sem] at hk)
          obtain ⟨a', c', h67, loc, mid⟩ := hf
          have H67 := Lib.hid h67
          have LOC := Lib.hid loc
          obtain ⟨-, -, -, -, z4, zl⟩ := row_req mid.own.row k hkl
          simp only [Nat.zero_add] at z4
          have zf := mid.own.frozen
          have fin := mid.store hkl (by simp)
          simp only [HX.out] at fin
          have FIN := Lib.hid fin
          have hX0 : lo 13 = B ∧ hi 13 = Z := XOk.get _ _ hx 0 _ rfl
          clear fin loc mid
          go_simp
          refine hR _ _ (rpost_some rfl rfl (Touch.set _ (List.mem_singleton.2 rfl) (by rw [hX0.1]; exact hxB) (by rw [hX0.2]; exact hxZ) _ _) ?_)
          (try simp (decide := true) only [go_sem])
          exact ⟨a', c', LOC.out, FIN.out⟩
        case hcl =>
          refine ⟨Closed.true _ _ _ _, Closed.true _ _ _ _, Closed.true _ _ _ _, Closed.true _ _ _ _, Closed.true _ _ _ _, Closed.true _ _ _ _, Closed.true _ _ _ _, Closed.true _ _ _ _, Closed.true _ _ _ _, ?cR1_9, Closed.true _ _ _ _, Closed.true _ _ _ _, ?cR1_12, ?cR1_13, trivial⟩
          · exact fun f lo hi v b0 b1 w w' h hs hB hown hU hX => by
              obtain ⟨a', c', rfl, loc, mid⟩ := h
              refine ⟨a', c', rfl, loc, mid.keepIn (p := fun y => y < Z ∨ (b0 ≤ y ∧ y < b1)) (fun y e => .inl (HRL.out.1 y e)) (fun j hj q y e => .inl (HRL.out.2 _ (List.getElem_mem hj) y e)) loc fun b hb hp => ?_⟩
              rcases hp with q | ⟨q1, q2⟩
              · exact hX 0 _ rfl (by simp) b hb q
              · exact hown b q1 q2
          · exact fun f lo hi v b0 b1 w w' h hs hB hown hU hX => by
              obtain ⟨a', c', loc, fin⟩ := h
              refine ⟨a', c', loc, fin.keepIn (p := fun y => y < Z ∨ (lo 9 ≤ y ∧ y < hi 9)) (fun y e => .inl (HRL.out.1 y e)) (fun r hr y e => ?_) fun b hb hp => ?_⟩
              · rcases List.mem_or_eq_of_mem_set hr with q | q
                · exact .inl (HRL.out.2 r q y e)
                · rw [q] at e; exact loc y e
              · rcases hp with q | ⟨q1, q2⟩
                · exact hX 0 _ rfl (by simp) b hb q
                · exact hU 9 (by simp) b q1 q2
          · exact fun f lo hi v b0 b1 w w' h hs hB hown hU hX => by
              obtain ⟨⟨e1, e2⟩, h⟩ := h
              exact ⟨⟨e1, e2⟩, h.keepIn HRL.out fun b hb hlt => hown b (by omega) (by omega)⟩
        intro f lo hi W8 hbr hx hf hk hrg; (try replace hbr := BelX.zero hbr); clear hx; (try simp (decide := true) only [go_sem] at hf); (try simp (decide := true) only [go_sem] at hk)
        obtain ⟨a', c', -, fin⟩ := hf
        have hb8 : RowKit.Below B w W8 := ⟨hbr.1.trans hb.os, hbr.2.1.trans hb.tape, hbr.2.2.1.trans hb.output, Nat.le_trans hb.size hbr.2.2.2.1, fun k hk => (hbr.2.2.2.2 k ⟨by omega, fun r hr => by simp at hr; subst hr; simp only; omega⟩).trans (hb.block k hk)⟩
        go_simp
        clear hk
        have hmem := List.mem_set (l := l2) (i := k) (a := (⟨id, veh, cls, til, lg ++ lg, a', c'⟩ : Rq)) (by simpa using hkl)
        have onw := fin.legs _ hmem
        have ocap := onw.cap_le
        go_wp2_with fail
        go_ret
        exact ⟨some ⟨xb, 0, none⟩, l2.set k ⟨id, veh, cls, til, lg ++ lg, a', c'⟩, xc, by rw [List.length_set]; rfl, ⟨fin.rqs, set_all HLG.out ⟨⟨by simp; omega, fun e => by simp only at e; simp only [e] at onw; exact onw.none_cap⟩, ocap⟩, by rw [List.length_set]; omega, set_all HN.out (by simp; omega)⟩, by rw [hB]; exact hb8, by rw [List.length_set]; exact hcap, fun e => by cases e⟩
      · have o := il.legs _ (List.getElem_mem hkl)
        have hga := HX.out
        obtain ⟨g, rfl, gB, -⟩ : ∃ g, la = some ⟨g, 0, none⟩ ∧ B ≤ g ∧ True := by
          rw [HX.out] at o
          obtain ⟨g, e, gB, -⟩ := o.open_ (by simp only; omega)
          exact ⟨g, e, gB, trivial⟩
        rw [HX.out] at o
        have of := o.frozen
        obtain ⟨y0, y1, y2, y3, y4, yl⟩ := row_leg o.row 0 (show 0 < lg.length by omega)
        simp only [Nat.zero_add, Nat.zero_mul] at y0 y1 y2 y3 y4
        have hll : (0 : Int) < (lg.length : Int) := by omega
        have HLS := Lib.hid (show l2[k].legs.length = lg.length by rw [HX.out])
        have HG := Lib.hid (show l2[k].a = some ⟨g, 0, none⟩ by rw [HX.out])
        have HZ := Lib.hid (il.setOne hkl HG.out (j := 0) (by rw [HLS.out]; omega) ⟨l2[k].legs[0]'(by rw [HLS.out]; omega) |>.ju, l2[k].legs[0]'(by rw [HLS.out]; omega) |>.ph, l2[k].legs[0]'(by rw [HLS.out]; omega) |>.fr, l2[k].legs[0]'(by rw [HLS.out]; omega) |>.to_, v⟩ 4 (.int .i64 v) (by decide) rfl)
        clear y0 y1 y2 y3 hga o
        go_wp2_with ((go_at_call 9; (with_reducible refine (mk_ModE Em.out _ (by decide) (by decide)).mono ?_); rintro e wz ⟨rfl, rfl⟩))
        go_ret
        exact ⟨some ⟨xb, 0, none⟩, _, xc, by rw [List.length_set]; rfl, ⟨HZ.out.rqs, set_all HLG.out ⟨⟨by have := HLG.out _ (List.getElem_mem hkl); simpa using this.1.n, (HLG.out _ (List.getElem_mem hkl)).1.nil⟩, by have := HLG.out _ (List.getElem_mem hkl); simpa using this.2⟩, by rw [List.length_set]; omega, set_all HN.out (by have := HN.out _ (List.getElem_mem hkl); simpa using this)⟩, by rw [hB]; exact hb.grown (grownBy_set _ g _ _) (by omega) (fun k hk => by injection hk with hk; omega), by rw [List.length_set]; exact hcap, fun e => by cases e⟩
      · go_wp2_with (first | (go_at_call 9; (with_reducible refine (mk_ModE Em.out _ (by decide) (by decide)).mono ?_); rintro e wz ⟨rfl, rfl⟩) | (at_builtin; refine appRqs rfl _ _ rfl B (some ⟨xb, 0, none⟩) l2.length xc l2 rfl (some ⟨xb, 0, none⟩) l2.length xc l2 rfl il.own il.own.row rfl (by omega) (by omega) ?_; intro yb yd w7 own7 g7 bl7))
        go_ret
        exact ⟨yb, l2 ++ l2, yd, by rw [List.length_append]; rfl, ⟨⟨own7.row, fun r hr => by
          have hr2 : r ∈ l2 := by simpa using hr
          exact ((il.legs r hr2).grew g7 (il.own.apart3 (il.legs r hr2) (by decide))).row⟩, fun r hr => HLG.out r (by simpa using hr), by rw [List.length_append]; omega, fun r hr => HN.out r (by simpa using hr)⟩, by rw [hB]; exact bl7 _ hb, by rw [List.length_append]; exact own7.cap_le, fun e => by rw [e] at own7; exact own7.none_cap⟩
end Go.Proofs.Ytbanejpihdhbdaa
