/- law 08: LampFull -/
import Derived.Test.YtgcjnkdiggbfeaaAwake
import Derived.Test.YtgcjnkdiggbfeaaValid
import Derived.Maps.Views
import Derived.Maps.OwnOps
import Derived.Deep.DeepCutAuto
import Derived.Outline
namespace Go.Proofs.Ytgcjnkdiggbfeaa
set_option linter.unusedVariables false
open Go.RowKit Go.Sort Go.Maps
set_option maxRecDepth 100000

/-! a map that the law makes -/
/-- 'insert' (a map's literal) does what an assignment to an element does -/
theorem wpList_insert_own {H : Type} {P : Program} (w : World) {ops : Array Oper} {rest : List Oper} {o : Oper} {a : Act} {Q : Exit → Act → World → Prop}
    (hg : o.guard = none) (m x v : Operand) (t : TypeId) (hop : o.op = Op.insert t m x v)
    (k e : TypeId) (K : Keyed P k) (ht : P.underlying t = some (.map k e)) (R : Value → Option (DataW H × List MemPlace)) (b n : Nat) (D : DataW H)
    (hm : a.eval m = .map (some b)) (hown : w.ownsMap P k R b n D) (hn : n < maxLen) (key val : Value) (kl : Lit) (hx : a.eval x = key) (hv : a.eval v = val) (hkey : keyOf P k key = some kl)
    (d : DataW H) (ps : List MemPlace) (hval : R val = some (d, ps))
    (hK : ∀ w', w'.ownsMap P k R b (n + 1) (D.put kl d) → w.grownBy w' (some b) → wpList P ops Q rest (a.put o.dst undef) w') :
    wpList P ops Q (o :: rest) a w := by
  refine wpList_plain hg fun K' hK' => ?_
  obtain ⟨w', hrun, r1, r2⟩ := hown.update K ht hn hkey hval
  unfold Oper.wp
  simp [execOp, hop, hm, hx, hv, hrun, Result.andThen]
  exact hK' _ _ (hK w' r1 r2)
/-- a look-up that is guarded, and wanted -/
theorem wpList_lookup_own_intG {H : Type} {P : Program} (w : World) {ops : Array Oper} {rest : List Oper} {o : Oper} {a : Act} {Q : Exit → Act → World → Prop}
    (hw : Region.wanted o (yielded ops a.tmps) = true) (m x : Operand) (t : TypeId) (hop : o.op = Op.lookup t m x false)
    (k e : TypeId) (q : IntKind) (K : Keyed P k) (ht : P.underlying t = some (.map k e)) (he : P.underlying e = some (.int q)) (hz : (zeroValue e).run P w = .ok (.int q 0) w) (b n : Nat) (D : DataW H)
    (hm : a.eval m = .map (some b)) (hown : w.ownsMap P k (plainElem P e) b n D) (key : Value) (kl : Lit) (hx : a.eval x = key) (hkey : keyOf P k key = some kl)
    (hK : ∀ c : Int, D.atKey kl (.lit (.int q 0)) = .lit (.int q c) → (Lit.int q c).wf = true → wpList P ops Q rest (a.put o.dst (.int q c)) w) :
    wpList P ops Q (o :: rest) a w := by
  refine wpList_step fun K' hK' => ?_
  rw [if_pos hw]
  obtain ⟨c, hrun, hat, hwc⟩ := hown.lookup_int K ht he hz hkey
  unfold Oper.wp
  simp [execOp, hop, hm, hx, hrun, Result.andThen]
  exact hK' _ _ (hK c hat hwc)
/-- how often each lamp has been seen -/
structure Cnt (D : DataW Unit) (z g y c : Int) : Prop where
  map : IsMap D
  k0 : D.atKey (.int .i64 0) (.lit (.int .i64 0)) = .lit (.int .i64 z)
  k1 : D.atKey (.int .i64 1) (.lit (.int .i64 0)) = .lit (.int .i64 g)
  k2 : D.atKey (.int .i64 2) (.lit (.int .i64 0)) = .lit (.int .i64 y)
  k3 : D.atKey (.int .i64 3) (.lit (.int .i64 0)) = .lit (.int .i64 c)
theorem isMap_put {D : DataW Unit} (h : IsMap D) (k : Lit) (d : DataW Unit) : IsMap (D.put k d) := by
  obtain ⟨es, rfl⟩ := h
  exact ⟨_, rfl⟩
theorem cnt_0 {D : DataW Unit} {z g y c n : Int} (h : Cnt D z g y c) : Cnt (D.put (.int .i64 0) (.lit (.int .i64 n))) n g y c :=
  ⟨isMap_put h.map _ _, atKey_put_same h.map (by constructor) _ _, by rw [atKey_put_other (by simp)]; exact h.k1, by rw [atKey_put_other (by simp)]; exact h.k2, by rw [atKey_put_other (by simp)]; exact h.k3⟩
theorem cnt_1 {D : DataW Unit} {z g y c n : Int} (h : Cnt D z g y c) : Cnt (D.put (.int .i64 1) (.lit (.int .i64 n))) z n y c :=
  ⟨isMap_put h.map _ _, by rw [atKey_put_other (by simp)]; exact h.k0, atKey_put_same h.map (by constructor) _ _, by rw [atKey_put_other (by simp)]; exact h.k2, by rw [atKey_put_other (by simp)]; exact h.k3⟩
theorem cnt_2 {D : DataW Unit} {z g y c n : Int} (h : Cnt D z g y c) : Cnt (D.put (.int .i64 2) (.lit (.int .i64 n))) z g n c :=
  ⟨isMap_put h.map _ _, by rw [atKey_put_other (by simp)]; exact h.k0, by rw [atKey_put_other (by simp)]; exact h.k1, atKey_put_same h.map (by constructor) _ _, by rw [atKey_put_other (by simp)]; exact h.k3⟩
theorem cnt_3 {D : DataW Unit} {z g y c n : Int} (h : Cnt D z g y c) : Cnt (D.put (.int .i64 3) (.lit (.int .i64 n))) z g y n :=
  ⟨isMap_put h.map _ _, by rw [atKey_put_other (by simp)]; exact h.k0, by rw [atKey_put_other (by simp)]; exact h.k1, by rw [atKey_put_other (by simp)]; exact h.k2, atKey_put_same h.map (by constructor) _ _⟩
theorem cnt_start : Cnt ((DataW.map [] : DataW Unit).put (.int .i64 1) (.lit (.int .i64 1))) 0 1 0 0 :=
  cnt_1 (z := 0) (g := 0) ⟨isMap_empty, rfl, rfl, rfl, rfl⟩
theorem made_at (w : World) (b : Nat) (h : w.heap.size = b) : (w.alloc (.map #[] 0)).ownsMap (H := Unit) Try.prog 3 (plainElem Try.prog 3) b 0 (.map []) := by subst h; exact World.ownsMap_made _ _ _ _
theorem lawI : Keyed Try.prog 3 := int_keyed Try.underlying3
theorem zeroI (w : World) : (zeroValue 3).run Try.prog w = .ok (.int .i64 0) w := by kernel_rfl

/-! the plain law -/
def FullSt (p : Ph) (i : Nat) (a t g y c : Int) : Prop :=
  LiOk p a t ∧ 0 ≤ g ∧ g ≤ 100 ∧ ((a = 1 ∧ t = i ∧ i ≤ 60 ∧ g = t + 1 ∧ y = 0 ∧ c = 0) ∨ (a = 2 ∧ (i : Int) ≤ 61 + t ∧ lNeed p ≤ g ∧ y = t + 1 ∧ c = 0) ∨ (a = 3 ∧ (i : Int) ≤ 61 + p.yellow + t ∧ lNeed p ≤ g ∧ y = p.yellow ∧ c = t + 1) ∨ (a = 0 ∧ t = 0 ∧ lNeed p ≤ g ∧ y = p.yellow ∧ c = p.red))
theorem full_start {p : Ph} (hp : PhOk p) : FullSt p 0 1 0 1 0 0 := ⟨LiOk.g (by omega) (by omega), by omega, by omega, .inl ⟨rfl, rfl, by omega, by omega, rfl, rfl⟩⟩
/-- what a round does: the counts of green, yellow and clear behind it, and what the two looks at the pedestrians say -/
theorem full_cases {p : Ph} {i : Nat} {a t g y c a' t' : Int} {lv : Bool} (hp : PhOk p) (h : FullSt p i a t g y c) (ha : a ≠ 0) (hl : i = 60 → lv = true) (hs : lStep p a t lv = (a', t')) :
    ∃ wv wv2, lWalk p a t = wv ∧ lWalk p a' t' = wv2 ∧
      ((a = 1 ∧ a' = 1 ∧ FullSt p (i + 1) 1 t' (g + 1) y c ∧ ((wv = 1 ∧ wv2 = 1) ∨ (wv = 1 ∧ wv2 = 2) ∨ (wv = 2 ∧ wv2 = 2) ∨ (wv = 2 ∧ wv2 = 0) ∨ (wv = 0 ∧ wv2 = 0))) ∨
       (a = 1 ∧ a' = 2 ∧ FullSt p (i + 1) 2 t' g (y + 1) c ∧ wv2 = 0 ∧ (wv = 2 ∨ wv = 0)) ∨
       (a = 2 ∧ a' = 2 ∧ FullSt p (i + 1) 2 t' g (y + 1) c ∧ wv2 = 0 ∧ wv = 0) ∨ (a = 2 ∧ a' = 3 ∧ FullSt p (i + 1) 3 t' g y (c + 1) ∧ wv2 = 0 ∧ wv = 0) ∨ (a = 2 ∧ a' = 0 ∧ FullSt p (i + 1) 0 t' g y c ∧ wv2 = 0 ∧ wv = 0) ∨
       (a = 3 ∧ a' = 3 ∧ FullSt p (i + 1) 3 t' g y (c + 1) ∧ wv2 = 0 ∧ wv = 0) ∨ (a = 3 ∧ a' = 0 ∧ FullSt p (i + 1) 0 t' g y c ∧ wv2 = 0 ∧ wv = 0)) := by
  have h1 := hp.yellow
  have h2 := hp.red
  have h3 := lNeed_bd hp
  have h4 := hp.walk
  have hok := lStep_ok hp h.1 lv
  rw [hs] at hok
  simp only at hok
  obtain ⟨hx, g0, g1, hc⟩ := h
  refine ⟨_, _, rfl, rfl, ?_⟩
  unfold lStep at hs
  rcases hc with ⟨rfl, rfl, q1, q2, rfl, rfl⟩ | ⟨rfl, q1, q2, rfl, rfl⟩ | ⟨rfl, q1, q2, rfl, rfl⟩ | ⟨rfl, _⟩
  · simp only [if_true] at hs
    have hi60 : (i : Int) + 1 ≤ 61 := by omega
    by_cases hc : lv = true ∧ lNeed p ≤ (i : Int) + 1
    · rw [if_pos hc] at hs
      injection hs with e1 e2
      subst e1 e2
      refine .inr (.inl ⟨rfl, rfl, ⟨hok, g0, g1, .inr (.inl ⟨rfl, by omega, by omega, by omega, rfl⟩)⟩, by simp [lWalk], ?_⟩)
      have e1 : ∀ s : Int, lWalk p 1 s = if s < p.walk then 1 else if s < p.walk + p.clear_ then 2 else 0 := fun s => by simp [lWalk]
      have hni : ¬ (i : Int) < p.walk := by omega
      by_cases c2 : (i : Int) < p.walk + p.clear_
      · exact .inl (by rw [e1, if_neg hni, if_pos c2])
      · exact .inr (by rw [e1, if_neg hni, if_neg c2])
    · rw [if_neg hc, if_neg (by omega)] at hs
      injection hs with e1 e2
      subst e1 e2
      have hi : i < 60 := by
        rcases Nat.lt_or_ge i 60 with h | h
        · exact h
        · have : i = 60 := by omega
          exact absurd ⟨hl this, by omega⟩ hc
      refine .inl ⟨rfl, rfl, ⟨hok, by omega, by omega, .inl ⟨rfl, by omega, by omega, by omega, rfl, rfl⟩⟩, ?_⟩
      have e1 : ∀ s : Int, lWalk p 1 s = if s < p.walk then 1 else if s < p.walk + p.clear_ then 2 else 0 := fun s => by simp [lWalk]
      by_cases c1 : (i : Int) < p.walk
      · have v1 : lWalk p 1 (i : Int) = 1 := by rw [e1, if_pos c1]
        by_cases c2 : (i : Int) + 1 < p.walk
        · have v2 : lWalk p 1 ((i : Int) + 1) = 1 := by rw [e1, if_pos c2]
          rw [v1, v2]; simp
        · have v2 : lWalk p 1 ((i : Int) + 1) = 2 := by rw [e1, if_neg c2, if_pos (by omega)]
          rw [v1, v2]; simp
      · by_cases c2 : (i : Int) < p.walk + p.clear_
        · have v1 : lWalk p 1 (i : Int) = 2 := by rw [e1, if_neg c1, if_pos c2]
          by_cases c3 : (i : Int) + 1 < p.walk + p.clear_
          · have v2 : lWalk p 1 ((i : Int) + 1) = 2 := by rw [e1, if_neg (by omega), if_pos c3]
            rw [v1, v2]; simp
          · have v2 : lWalk p 1 ((i : Int) + 1) = 0 := by rw [e1, if_neg (by omega), if_neg c3]
            rw [v1, v2]; simp
        · have v1 : lWalk p 1 (i : Int) = 0 := by rw [e1, if_neg c1, if_neg c2]
          have v2 : lWalk p 1 ((i : Int) + 1) = 0 := by rw [e1, if_neg (by omega), if_neg (by omega)]
          rw [v1, v2]; simp
  · simp only [show ¬ (2 : Int) = 1 by decide, if_false, if_true] at hs
    by_cases hc : t + 1 < p.yellow
    · rw [if_pos hc] at hs
      injection hs with e1 e2
      subst e1 e2
      exact .inr (.inr (.inl ⟨rfl, rfl, ⟨hok, g0, g1, .inr (.inl ⟨rfl, by omega, by omega, by omega, rfl⟩)⟩, by simp [lWalk], by simp [lWalk]⟩))
    · rw [if_neg hc] at hs
      have ht : t + 1 = p.yellow := by rcases hx with h | h | h | h <;> omega
      by_cases hr : p.red = 0
      · rw [if_pos hr] at hs
        injection hs with e1 e2
        subst e1 e2
        exact .inr (.inr (.inr (.inr (.inl ⟨rfl, rfl, ⟨hok, g0, g1, .inr (.inr (.inr ⟨rfl, rfl, by omega, by omega, by omega⟩))⟩, by simp [lWalk], by simp [lWalk]⟩))))
      · rw [if_neg hr] at hs
        injection hs with e1 e2
        subst e1 e2
        exact .inr (.inr (.inr (.inl ⟨rfl, rfl, ⟨hok, g0, g1, .inr (.inr (.inl ⟨rfl, by omega, by omega, by omega, by omega⟩))⟩, by simp [lWalk], by simp [lWalk]⟩)))
  · simp only [show ¬ (3 : Int) = 1 by decide, show ¬ (3 : Int) = 2 by decide, if_false, if_true] at hs
    by_cases hc : t + 1 < p.red
    · rw [if_pos hc] at hs
      injection hs with e1 e2
      subst e1 e2
      exact .inr (.inr (.inr (.inr (.inr (.inl ⟨rfl, rfl, ⟨hok, g0, g1, .inr (.inr (.inl ⟨rfl, by omega, by omega, by omega, by omega⟩))⟩, by simp [lWalk], by simp [lWalk]⟩)))))
    · rw [if_neg hc] at hs
      have ht : t + 1 = p.red := by rcases hx with h | h | h | h <;> omega
      injection hs with e1 e2
      subst e1 e2
      exact .inr (.inr (.inr (.inr (.inr (.inr ⟨rfl, rfl, ⟨hok, g0, g1, .inr (.inr (.inr ⟨rfl, rfl, by omega, by omega, by omega⟩))⟩, by simp [lWalk], by simp [lWalk]⟩)))))
  · exact absurd rfl ha
theorem full_end {p : Ph} {a t g y c : Int} (hp : PhOk p) (h : FullSt p 90 a t g y c) : a = 0 := by
  have h1 := hp.yellow
  have h2 := hp.red
  obtain ⟨hx, g0, g1, hc⟩ := h
  rcases hc with ⟨rfl, h⟩ | ⟨rfl, h⟩ | ⟨rfl, h⟩ | ⟨rfl, h⟩
  · omega
  · rcases hx with k | k | k | k <;> omega
  · rcases hx with k | k | k | k <;> omega
  · rfl
theorem Blk.next (w : World) (o : Obj) (e : TypeId) (C : Array Value) : Blk ((w.alloc o).alloc (.cells C e)) (w.heap.size + 1) e C := by
  have := Blk.new (w.alloc o) e C
  simpa using this
theorem valid_T {r g mg xg y rd wk cl a t : Int} (h : Hid (LiOk ⟨r, g, mg, xg, y, rd, wk, cl⟩ a t)) (w : World) : Calls Try.prog 15 #[.agg #[.int .i64 r, .int .i64 g, .int .i64 mg, .int .i64 xg, .int .i64 y, .int .i64 rd, .int .i64 wk, .int .i64 cl], .agg #[.int .i64 a, .int .i64 t]] w fun e w' => e = .returned (.bool true) ∧ Below w.heap.size w w' := by
  have := lamp_Valid ⟨r, g, mg, xg, y, rd, wk, cl⟩ a t w
  rw [lValid_ok h.out] at this
  exact this
theorem wf_i64_of {n : Int} (h1 : -1000000 ≤ n) (h2 : n ≤ 1000000) : (Lit.int .i64 n).wf = true := by
  simp [Lit.wf, IntKind.min, IntKind.max, IntKind.signed, IntKind.bits]; omega
theorem full_bd {p : Ph} {i : Nat} {a t g y c : Int} (hp : PhOk p) (h : FullSt p i a t g y c) : 0 ≤ a ∧ a ≤ 3 ∧ 0 ≤ t ∧ t ≤ 1073741824 ∧ 0 ≤ g ∧ g ≤ 100 ∧ 0 ≤ y ∧ y ≤ 4 ∧ 0 ≤ c ∧ c ≤ 4 := by
  have h1 := hp.yellow
  have h2 := hp.red
  obtain ⟨hx, g0, g1, hc⟩ := h
  have hb := hx.bd hp
  refine ⟨hb.1, hb.2.1, hb.2.2.1, hb.2.2.2, g0, g1, ?_⟩
  rcases hc with ⟨rfl, h⟩ | ⟨rfl, h⟩ | ⟨rfl, h⟩ | ⟨rfl, h⟩ <;> rcases hx with k | k | k | k <;> omega

set_option maxHeartbeats 8000000 in
theorem lampFull_walk (a0 : Option Addr) (c0 : Nat) (l0 : List Int) (a1 : Option Addr) (c1 : Nat) (l1 : List Int) (n : Int) (w : World) (h0 : Ints w a0 l0) (n0 : l0.length ≤ 9223372036854775807) (h1 : Ints w a1 l1) (n1 : l1.length ≤ 9223372036854775807) :
    Calls Try.prog 5 #[.slice a0 l0.length c0, .slice a1 l1.length c1, .int .i64 n] w fun e w' => e = .returned (.bool true) ∧ RowKit.Below w.heap.size w w' := by
  by_cases hs : l1.length ≤ 60
  case neg =>
    have hs' : decide (60 < l1.length) = true := decide_eq_true (by omega)
    have hs2 : (60 : Int) < (l1.length : Int) := by omega
    clear hs
    go_enter Try.func5, Try.ntmps5
    go_wp2_with ((go_at_call 10; (with_reducible refine (awake_yes _).mono ?_); rintro e w20 ⟨rfl, hb20⟩))
    go_ret
    exact ⟨rfl, (by repeat (first | (with_reducible refine Below.setCell ?_ ?_ _) | (with_reducible refine Below.alloc ?_ ?_ _) | (with_reducible refine Below.drew ?_) | (with_reducible refine below_drewN ?_ _) | (with_reducible exact Below.refl _ _) | (with_reducible refine Below.trans ?_ (Below.mono hb20 ?_)) | (focus (simp; done)) | (focus (simp; omega)) | (focus omega) | (focus (have q0 := Below.size hb20; (try simp at q0); (try simp); omega))))⟩
  have hs' : decide (60 < l1.length) = false := decide_eq_false (by omega)
  have hs2 : ¬ (60 : Int) < (l1.length : Int) := by omega
  have hmm := @run_makeMap Try.prog
  go_enter Try.func5, Try.ntmps5
  go_upto_region 5 with ((go_at_call 7; (with_reducible refine (law08_phase a0 c0 l0 n _ h0 n0).mono ?_); rintro e w1 ⟨p, rfl, hp, hb1⟩; (obtain ⟨r, g, mg, xg, y, rd, wk, cl⟩ := p; simp only [Ph.agg])))
  go_upto_region 6 with ((refine wpList_insert_own (H := Unit) _ rfl (.tmp 22) (.const (.int .i64 1)) (.const (.int .i64 1)) 35 rfl 3 3 lawI Try.underlying35 (plainElem Try.prog 3) _ 0 (.map []) rfl (made_at _ _ (by simp)) (by unfold maxLen; omega) (.int .i64 1) (.int .i64 1) (.int .i64 1) rfl rfl (keyOf_int_mk Try.underlying3 (by decide)) _ [] (plainElem_int Try.underlying3 (by decide)) ?_; intro w3 own3 gr3))
  have z1 := hb1.size
  have hM : ∀ q, q ≠ w1.heap.size + 2 → q < w1.heap.size + 2 → w3.heap[q]? = _ := fun q h1 h2 => gr3.block q (by simp; omega) (by simpa using h1)
  obtain ⟨P, hP⟩ : ∃ P, w1.heap.size = P := ⟨_, rfl⟩
  refine wp_named (fun W => W.ownsMap Try.prog 3 (plainElem Try.prog 3) (P + 2) 1 ((DataW.map [] : DataW Unit).put (.int .i64 1) (.lit (.int .i64 1))) ∧ Blk W P 24 #[.int .i64 r, .int .i64 g, .int .i64 mg, .int .i64 xg, .int .i64 y, .int .i64 rd, .int .i64 wk, .int .i64 cl] ∧ Blk W (P + 1) 27 #[.int .i64 1, .int .i64 0] ∧ RowKit.Below w.heap.size w W ∧ w.heap.size ≤ P) ⟨by rw [← hP]; exact own3, by
      rw [← hP]
      exact (hM _ (by omega) (by omega)).trans (((Blk.new w1 24 _).alloc _).alloc _), by
      rw [← hP]
      exact (hM _ (by omega) (by omega)).trans ((Blk.next w1 _ 27 _).alloc _), ((by repeat (first | (with_reducible refine Below.setCell ?_ ?_ _) | (with_reducible refine Below.alloc ?_ ?_ _) | (with_reducible refine Below.drew ?_) | (with_reducible refine below_drewN ?_ _) | (with_reducible exact Below.refl _ _) | (with_reducible refine Below.trans ?_ (Below.mono hb1 ?_)) | (focus (simp; done)) | (focus (simp; omega)) | (focus omega) | (focus (have q0 := Below.size hb1; (try simp at q0); (try simp); omega)))) : RowKit.Below w.heap.size w _).grown gr3 (by simp; omega) (fun k hk => by injection hk with hk; omega), by omega⟩ ?_
  rw [hP] at *
  clear own3 gr3 hb1 z1 hM hP
  rintro W ⟨own, kP, kX, be, hwP⟩
  have bb := hp.b
  go_wp2_with fail
  go_loopw [10] (fun s10 wr => ∃ (i : Nat) (a t G Y C Z : Int) (N : Nat) (D : DataW Unit), s10 = .int .i64 i ∧ i ≤ 90 ∧ FullSt ⟨r, g, mg, xg, y, rd, wk, cl⟩ i a t G Y C ∧ Cnt D Z G Y C ∧ 0 ≤ Z ∧ Z ≤ i ∧ N ≤ i + 1 ∧ wr.ownsMap Try.prog 3 (plainElem Try.prog 3) (P + 2) N D ∧ Blk wr P 24 #[.int .i64 r, .int .i64 g, .int .i64 mg, .int .i64 xg, .int .i64 y, .int .i64 rd, .int .i64 wk, .int .i64 cl] ∧ Blk wr (P + 1) 27 #[.int .i64 a, .int .i64 t] ∧ RowKit.Below w.heap.size w wr) (fun s _ => 90 - (intOf s).toNat)
  case atStart => exact ⟨0, 1, 0, 1, 0, 0, 0, 1, _, rfl, by omega, full_start hp, cnt_start, by omega, by omega, by omega, own, kP, kX, be⟩
  case round =>
    clear own kP kX be
    obtain ⟨i, a, t, G, Y, C, Z, N, D, rfl, hi, hst, hcn, hz0, hz1, hN, own, kP, kX, be⟩ := hrel
    obtain ⟨q1, q2, q3, q4, q5, q6, q7, q8, q9, q10⟩ := full_bd hp hst
    obtain ⟨f0, f1, f2, f3, f4, f5, f6, f7, fl⟩ := kP.eightF
    obtain ⟨x0, x1, xf, xl⟩ := kX.two
    by_cases ha : a = 0
    · have HCN := Lib.hid hcn
      clear hcn
      subst ha
      obtain ⟨hx, -, -, hc⟩ := hst
      rcases hc with ⟨h, -⟩ | ⟨h, -⟩ | ⟨h, -⟩ | ⟨-, rfl, hn, rfl, rfl⟩
      · cases h
      · cases h
      · cases h
      have hnd := lNeed_bd hp
      simp only at hnd hn HCN q7 q8 q9 q10
      have hg1 : mg ≤ G := by omega
      have hg2 : wk + cl ≤ G := by omega
      obtain ⟨b1, b2, b3, b4, b5, b6⟩ := bb
      clear hn hnd hx
      go_wp2_with (first | (at_lookup; refine wpList_lookup_own_intG _ rfl _ _ 35 rfl 3 3 .i64 lawI Try.underlying35 Try.underlying3 (zeroI _) (P + 2) N D rfl own (.int .i64 1) (.int .i64 1) rfl (keyOf_int_mk Try.underlying3 (by decide)) ?_; intro cc hat hwc; (obtain rfl : G = cc := by have h := HCN.out.k1.symm.trans hat; injection h with h; injection h); clear hat hwc) | (at_lookup; refine wpList_lookup_own_intG _ rfl _ _ 35 rfl 3 3 .i64 lawI Try.underlying35 Try.underlying3 (zeroI _) (P + 2) N D rfl own (.int .i64 2) (.int .i64 2) rfl (keyOf_int_mk Try.underlying3 (by decide)) ?_; intro cc hat hwc; (obtain rfl : Y = cc := by have h := HCN.out.k2.symm.trans hat; injection h with h; injection h); clear hat hwc) | (at_lookup; refine wpList_lookup_own_intG _ rfl _ _ 35 rfl 3 3 .i64 lawI Try.underlying35 Try.underlying3 (zeroI _) (P + 2) N D rfl own (.int .i64 3) (.int .i64 3) rfl (keyOf_int_mk Try.underlying3 (by decide)) ?_; intro cc hat hwc; (obtain rfl : C = cc := by have h := HCN.out.k3.symm.trans hat; injection h with h; injection h); clear hat hwc) | (go_at_call 10; (with_reducible refine (awake_yes _).mono ?_); rintro e w20 ⟨rfl, hb20⟩))
      all_goals
        go_ret
        exact ⟨rfl, (by repeat (first | (with_reducible refine Below.setCell ?_ ?_ _) | (with_reducible refine Below.alloc ?_ ?_ _) | (with_reducible refine Below.drew ?_) | (with_reducible refine below_drewN ?_ _) | (with_reducible exact Below.refl _ _) | (with_reducible refine Below.trans ?_ (Below.mono hb20 ?_)) | (with_reducible refine Below.trans ?_ (Below.mono be ?_)) | (focus (simp; done)) | (focus (simp; omega)) | (focus omega) | (focus (have q0 := Below.size hb20; (try simp at q0); have q1 := Below.size be; (try simp at q1); (try simp); omega))))⟩
    · have hlt : i < 90 := by
        rcases Nat.lt_or_ge i 90 with h | h
        · exact h
        · obtain rfl : i = 90 := by omega
          exact absurd (full_end hp hst) ha
      have hii : (i : Int) < 90 := by omega
      have ha' : (a != 0) = true := by rw [bne_iff_ne]; exact ha
      obtain ⟨lv, hlv⟩ : ∃ lv, (decide (l1.length ≤ i) || (if h : i < l1.length then (bits BinOp.and IntKind.i64 l1[i] 1 == 1) else true)) = lv := ⟨_, rfl⟩
      have hl60 : i = 60 → lv = true := fun h => by rw [← hlv, decide_eq_true (by omega)]; rfl
      obtain ⟨⟨a', t'⟩, hs'⟩ : ∃ q, lStep ⟨r, g, mg, xg, y, rd, wk, cl⟩ a t lv = q := ⟨_, rfl⟩
      obtain ⟨wv, wv2, hw1, hw2, hcase⟩ := full_cases hp hst ha hl60 hs'
      have hxl2 : LiOk ⟨r, g, mg, xg, y, rd, wk, cl⟩ a' t' := by have := lStep_ok hp hst.1 lv; rw [hs'] at this; exact this
      have hxl := hst.1
      have HS := Lib.hid hs'
      have HW1 := Lib.hid hw1
      have HW2 := Lib.hid hw2
      have HXL2 := Lib.hid hxl2
      have HLV := Lib.hid hlv
      have HCN := Lib.hid hcn
      have HCASE := Lib.hid hcase
      have hbd2 := hxl2.bd hp
      clear hs' hw1 hw2 hxl2 hlv hcn hst hcase ha hl60
      go_upto_region 9 with fail
      go_cut [11] from 33 to 44 (fun s11 wx => s11 = .bool lv ∧ wr = wx)
      case first =>
        by_cases hil : i < l1.length
        · rcases (h1.below be (Nat.le_refl _)).open with h | ⟨b1, o1, rfl, bl, hc⟩
          · rw [h] at hil; simp at hil
          have hcell := hc i hil
          obtain ⟨lw, hlw⟩ : ∃ lw, (bits BinOp.and IntKind.i64 l1[i] 1 == 1) = lw := ⟨_, rfl⟩
          have hni : decide (l1.length ≤ i) = false := decide_eq_false (by omega)
          have HQ : Hid (lv = lw) := Lib.hid (by rw [← HLV.out, hni, dif_pos hil, hlw]; rfl)
          clear hc
          go_wp2_with fail
          go_meet
          exact ⟨by rw [HQ.out], rfl⟩
        · have hni : decide (l1.length ≤ i) = true := decide_eq_true (by omega)
          have HQ : Hid (lv = true) := Lib.hid (by rw [← HLV.out, hni]; rfl)
          go_wp2_with fail
          go_meet
          exact ⟨by rw [HQ.out], rfl⟩
      case rest =>
        obtain ⟨rfl, rfl⟩ := hcut
        rcases HCASE.out with ⟨rfl, rfl, hst2, hw⟩ | ⟨rfl, rfl, hst2, rfl, hw⟩ | ⟨rfl, rfl, hst2, rfl, rfl⟩ | ⟨rfl, rfl, hst2, rfl, rfl⟩ | ⟨rfl, rfl, hst2, rfl, rfl⟩ | ⟨rfl, rfl, hst2, rfl, rfl⟩ | ⟨rfl, rfl, hst2, rfl, rfl⟩
        · clear HCASE
          rcases hw with ⟨rfl, rfl⟩ | ⟨rfl, rfl⟩ | ⟨rfl, rfl⟩ | ⟨rfl, rfl⟩ | ⟨rfl, rfl⟩
          · have HST2 := Lib.hid hst2
            clear hst2
            go_upto_region 17 with (first | (go_at_call 14; (with_reducible refine (walk_c 1 t HW1 _ hp).mono ?_); rintro e w4 ⟨rfl, hb4⟩; ((have own4 := own.kept (hb4.grown_any none) (by simp)); (have hbL : RowKit.Below wr.heap.size wr w4 := hb4); (have kP4 := kP.below hb4 kP.lt); (have kX4 := kX.below hb4 kX.lt); clear f0 f1 f2 f3 f4 f5 f6 f7 fl x0 x1 xl xf; (obtain ⟨f0, f1, f2, f3, f4, f5, f6, f7, fl⟩ := kP4.eightF); (obtain ⟨x0, x1, xf, xl⟩ := kX4.two))) | (go_at_call 11; (with_reducible refine (step_c HS _ hp hxl).mono ?_); rintro e w5 ⟨rfl, hb5⟩; ((have own5 := (own4.kept (hb5.grown_any none) (by simp)).alloc (.cells #[.int .i64 1, .int .i64 t'] 27)); (have hbL : RowKit.Below wr.heap.size wr (w5.alloc (.cells #[.int .i64 1, .int .i64 t'] 27)) := (by repeat (first | (with_reducible refine Below.setCell ?_ ?_ _) | (with_reducible refine Below.alloc ?_ ?_ _) | (with_reducible refine Below.drew ?_) | (with_reducible refine below_drewN ?_ _) | (with_reducible exact Below.refl _ _) | (with_reducible refine Below.trans ?_ (Below.mono hb5 ?_)) | (with_reducible refine Below.trans ?_ (Below.mono hbL ?_)) | (focus (simp; done)) | (focus (simp; omega)) | (focus omega) | (focus (have q0 := Below.size hb5; (try simp at q0); have q1 := Below.size hbL; (try simp at q1); (try simp); omega))))); (have kP5 := (kP4.below hb5 fl).alloc (.cells #[.int .i64 1, .int .i64 t'] 27)); (have kX5 := (kX4.below hb5 xl).alloc (.cells #[.int .i64 1, .int .i64 t'] 27)); (have kY5 := Blk.new w5 27 #[.int .i64 1, .int .i64 t']); clear f0 f1 f2 f3 f4 f5 f6 f7 fl x0 x1 xl xf; (obtain ⟨f0, f1, f2, f3, f4, f5, f6, f7, fl⟩ := kP5.eightF); (obtain ⟨x0, x1, xf, xl⟩ := kX5.two); (obtain ⟨y0, y1, yf, yl⟩ := kY5.two))) | (go_at_call 15; (with_reducible refine (valid_T HXL2 _).mono ?_); rintro e w6 ⟨rfl, hb6⟩; ((have own6 := own5.kept (hb6.grown_any none) (by simp)); (have hbL := hbL.trans (hb6.mono hbL.size)); (have kP6 := kP5.below hb6 fl); (have kX6 := kX5.below hb6 xl); (have kY6 := kY5.below hb6 yl); clear f0 f1 f2 f3 f4 f5 f6 f7 fl x0 x1 xl xf y0 y1 yf yl; (obtain ⟨f0, f1, f2, f3, f4, f5, f6, f7, fl⟩ := kP6.eightF); (obtain ⟨x0, x1, xf, xl⟩ := kX6.two); (obtain ⟨y0, y1, yf, yl⟩ := kY6.two))))
            refine wp_named (fun V => V.ownsMap Try.prog 3 (plainElem Try.prog 3) (P + 2) N D ∧ Blk V P 24 #[.int .i64 r, .int .i64 g, .int .i64 mg, .int .i64 xg, .int .i64 y, .int .i64 rd, .int .i64 wk, .int .i64 cl] ∧ Blk V (P + 1) 27 #[.int .i64 1, .int .i64 t'] ∧ RowKit.Below w.heap.size w V) ⟨own6.kept ((grownBy_set _ (P + 1) 0 _).trans (grownBy_set _ (P + 1) 1 _)) (by simp), (kP6.far (by simp) _).far (by simp) _, (kX6.set 0 _).set 1 _, (by repeat (first | (with_reducible refine Below.setCell ?_ ?_ _) | (with_reducible refine Below.alloc ?_ ?_ _) | (with_reducible refine Below.drew ?_) | (with_reducible refine below_drewN ?_ _) | (with_reducible exact Below.refl _ _) | (with_reducible refine Below.trans ?_ (Below.mono hbL ?_)) | (with_reducible refine Below.trans ?_ (Below.mono be ?_)) | (focus (simp; done)) | (focus (simp; omega)) | (focus omega) | (focus (have q0 := Below.size hbL; (try simp at q0); have q1 := Below.size be; (try simp at q1); (try simp); omega))))⟩ ?_
            clear kP kX kP4 kP5 kP6 kX4 kX5 kX6 kY5 kY6 own own4 own5 own6 be hbL f0 f1 f2 f3 f4 f5 f6 f7 fl x0 x1 xl xf y0 y1 yf yl
            rintro V ⟨own7, kP7, kX7, be7⟩
            obtain ⟨x0, x1, xf, xl⟩ := kX7.two
            go_wp2_with (first | (at_lookup; refine wpList_lookup_own_int _ rfl _ _ 35 rfl 3 3 .i64 lawI Try.underlying35 Try.underlying3 (zeroI _) (P + 2) N D rfl own7 (.int .i64 1) (.int .i64 1) rfl (keyOf_int_mk Try.underlying3 (by decide)) ?_; intro cc hat hwc; (obtain rfl : G = cc := by have h := HCN.out.k1.symm.trans hat; injection h with h; injection h); clear hat hwc) | (at_mapUpdate; refine wpList_mapUpdate_own _ rfl _ _ _ 35 rfl 3 3 lawI Try.underlying35 _ (P + 2) N D rfl own7 (by unfold maxLen; omega) (.int .i64 1) (.int .i64 (G + 1)) (.int .i64 1) rfl rfl (keyOf_int_mk Try.underlying3 (by decide)) _ [] (plainElem_int Try.underlying3 (wf_i64_of (by omega) (by omega))) ?_; intro w8 own8 gr8))
            go_roundw
            case rel => exact ⟨i + 1, 1, t', G + 1, Y, C, Z, N + 1, _, by go_num, by omega, HST2.out, cnt_1 HCN.out, by omega, by omega, by omega, own8, kP7.grown gr8 (by omega), kX7.grown gr8 (by omega), be7.grown gr8 be7.size (fun k hk => by injection hk with hk; omega)⟩
            case measure => simp [intOf]; omega
          · have HST2 := Lib.hid hst2
            clear hst2
            go_upto_region 17 with (first | (go_at_call 14; (with_reducible refine (walk_c 1 t HW1 _ hp).mono ?_); rintro e w4 ⟨rfl, hb4⟩; ((have own4 := own.kept (hb4.grown_any none) (by simp)); (have hbL : RowKit.Below wr.heap.size wr w4 := hb4); (have kP4 := kP.below hb4 kP.lt); (have kX4 := kX.below hb4 kX.lt); clear f0 f1 f2 f3 f4 f5 f6 f7 fl x0 x1 xl xf; (obtain ⟨f0, f1, f2, f3, f4, f5, f6, f7, fl⟩ := kP4.eightF); (obtain ⟨x0, x1, xf, xl⟩ := kX4.two))) | (go_at_call 11; (with_reducible refine (step_c HS _ hp hxl).mono ?_); rintro e w5 ⟨rfl, hb5⟩; ((have own5 := (own4.kept (hb5.grown_any none) (by simp)).alloc (.cells #[.int .i64 1, .int .i64 t'] 27)); (have hbL : RowKit.Below wr.heap.size wr (w5.alloc (.cells #[.int .i64 1, .int .i64 t'] 27)) := (by repeat (first | (with_reducible refine Below.setCell ?_ ?_ _) | (with_reducible refine Below.alloc ?_ ?_ _) | (with_reducible refine Below.drew ?_) | (with_reducible refine below_drewN ?_ _) | (with_reducible exact Below.refl _ _) | (with_reducible refine Below.trans ?_ (Below.mono hb5 ?_)) | (with_reducible refine Below.trans ?_ (Below.mono hbL ?_)) | (focus (simp; done)) | (focus (simp; omega)) | (focus omega) | (focus (have q0 := Below.size hb5; (try simp at q0); have q1 := Below.size hbL; (try simp at q1); (try simp); omega))))); (have kP5 := (kP4.below hb5 fl).alloc (.cells #[.int .i64 1, .int .i64 t'] 27)); (have kX5 := (kX4.below hb5 xl).alloc (.cells #[.int .i64 1, .int .i64 t'] 27)); (have kY5 := Blk.new w5 27 #[.int .i64 1, .int .i64 t']); clear f0 f1 f2 f3 f4 f5 f6 f7 fl x0 x1 xl xf; (obtain ⟨f0, f1, f2, f3, f4, f5, f6, f7, fl⟩ := kP5.eightF); (obtain ⟨x0, x1, xf, xl⟩ := kX5.two); (obtain ⟨y0, y1, yf, yl⟩ := kY5.two))) | (go_at_call 15; (with_reducible refine (valid_T HXL2 _).mono ?_); rintro e w6 ⟨rfl, hb6⟩; ((have own6 := own5.kept (hb6.grown_any none) (by simp)); (have hbL := hbL.trans (hb6.mono hbL.size)); (have kP6 := kP5.below hb6 fl); (have kX6 := kX5.below hb6 xl); (have kY6 := kY5.below hb6 yl); clear f0 f1 f2 f3 f4 f5 f6 f7 fl x0 x1 xl xf y0 y1 yf yl; (obtain ⟨f0, f1, f2, f3, f4, f5, f6, f7, fl⟩ := kP6.eightF); (obtain ⟨x0, x1, xf, xl⟩ := kX6.two); (obtain ⟨y0, y1, yf, yl⟩ := kY6.two))))
            refine wp_named (fun V => V.ownsMap Try.prog 3 (plainElem Try.prog 3) (P + 2) N D ∧ Blk V P 24 #[.int .i64 r, .int .i64 g, .int .i64 mg, .int .i64 xg, .int .i64 y, .int .i64 rd, .int .i64 wk, .int .i64 cl] ∧ Blk V (P + 1) 27 #[.int .i64 1, .int .i64 t'] ∧ RowKit.Below w.heap.size w V) ⟨own6.kept ((grownBy_set _ (P + 1) 0 _).trans (grownBy_set _ (P + 1) 1 _)) (by simp), (kP6.far (by simp) _).far (by simp) _, (kX6.set 0 _).set 1 _, (by repeat (first | (with_reducible refine Below.setCell ?_ ?_ _) | (with_reducible refine Below.alloc ?_ ?_ _) | (with_reducible refine Below.drew ?_) | (with_reducible refine below_drewN ?_ _) | (with_reducible exact Below.refl _ _) | (with_reducible refine Below.trans ?_ (Below.mono hbL ?_)) | (with_reducible refine Below.trans ?_ (Below.mono be ?_)) | (focus (simp; done)) | (focus (simp; omega)) | (focus omega) | (focus (have q0 := Below.size hbL; (try simp at q0); have q1 := Below.size be; (try simp at q1); (try simp); omega))))⟩ ?_
            clear kP kX kP4 kP5 kP6 kX4 kX5 kX6 kY5 kY6 own own4 own5 own6 be hbL f0 f1 f2 f3 f4 f5 f6 f7 fl x0 x1 xl xf y0 y1 yf yl
            rintro V ⟨own7, kP7, kX7, be7⟩
            obtain ⟨x0, x1, xf, xl⟩ := kX7.two
            go_wp2_with (first | (at_lookup; refine wpList_lookup_own_int _ rfl _ _ 35 rfl 3 3 .i64 lawI Try.underlying35 Try.underlying3 (zeroI _) (P + 2) N D rfl own7 (.int .i64 1) (.int .i64 1) rfl (keyOf_int_mk Try.underlying3 (by decide)) ?_; intro cc hat hwc; (obtain rfl : G = cc := by have h := HCN.out.k1.symm.trans hat; injection h with h; injection h); clear hat hwc) | (at_mapUpdate; refine wpList_mapUpdate_own _ rfl _ _ _ 35 rfl 3 3 lawI Try.underlying35 _ (P + 2) N D rfl own7 (by unfold maxLen; omega) (.int .i64 1) (.int .i64 (G + 1)) (.int .i64 1) rfl rfl (keyOf_int_mk Try.underlying3 (by decide)) _ [] (plainElem_int Try.underlying3 (wf_i64_of (by omega) (by omega))) ?_; intro w8 own8 gr8))
            go_roundw
            case rel => exact ⟨i + 1, 1, t', G + 1, Y, C, Z, N + 1, _, by go_num, by omega, HST2.out, cnt_1 HCN.out, by omega, by omega, by omega, own8, kP7.grown gr8 (by omega), kX7.grown gr8 (by omega), be7.grown gr8 be7.size (fun k hk => by injection hk with hk; omega)⟩
            case measure => simp [intOf]; omega
          · have HST2 := Lib.hid hst2
            clear hst2
            go_upto_region 17 with (first | (go_at_call 14; (with_reducible refine (walk_c 1 t HW1 _ hp).mono ?_); rintro e w4 ⟨rfl, hb4⟩; ((have own4 := own.kept (hb4.grown_any none) (by simp)); (have hbL : RowKit.Below wr.heap.size wr w4 := hb4); (have kP4 := kP.below hb4 kP.lt); (have kX4 := kX.below hb4 kX.lt); clear f0 f1 f2 f3 f4 f5 f6 f7 fl x0 x1 xl xf; (obtain ⟨f0, f1, f2, f3, f4, f5, f6, f7, fl⟩ := kP4.eightF); (obtain ⟨x0, x1, xf, xl⟩ := kX4.two))) | (go_at_call 11; (with_reducible refine (step_c HS _ hp hxl).mono ?_); rintro e w5 ⟨rfl, hb5⟩; ((have own5 := (own4.kept (hb5.grown_any none) (by simp)).alloc (.cells #[.int .i64 1, .int .i64 t'] 27)); (have hbL : RowKit.Below wr.heap.size wr (w5.alloc (.cells #[.int .i64 1, .int .i64 t'] 27)) := (by repeat (first | (with_reducible refine Below.setCell ?_ ?_ _) | (with_reducible refine Below.alloc ?_ ?_ _) | (with_reducible refine Below.drew ?_) | (with_reducible refine below_drewN ?_ _) | (with_reducible exact Below.refl _ _) | (with_reducible refine Below.trans ?_ (Below.mono hb5 ?_)) | (with_reducible refine Below.trans ?_ (Below.mono hbL ?_)) | (focus (simp; done)) | (focus (simp; omega)) | (focus omega) | (focus (have q0 := Below.size hb5; (try simp at q0); have q1 := Below.size hbL; (try simp at q1); (try simp); omega))))); (have kP5 := (kP4.below hb5 fl).alloc (.cells #[.int .i64 1, .int .i64 t'] 27)); (have kX5 := (kX4.below hb5 xl).alloc (.cells #[.int .i64 1, .int .i64 t'] 27)); (have kY5 := Blk.new w5 27 #[.int .i64 1, .int .i64 t']); clear f0 f1 f2 f3 f4 f5 f6 f7 fl x0 x1 xl xf; (obtain ⟨f0, f1, f2, f3, f4, f5, f6, f7, fl⟩ := kP5.eightF); (obtain ⟨x0, x1, xf, xl⟩ := kX5.two); (obtain ⟨y0, y1, yf, yl⟩ := kY5.two))) | (go_at_call 15; (with_reducible refine (valid_T HXL2 _).mono ?_); rintro e w6 ⟨rfl, hb6⟩; ((have own6 := own5.kept (hb6.grown_any none) (by simp)); (have hbL := hbL.trans (hb6.mono hbL.size)); (have kP6 := kP5.below hb6 fl); (have kX6 := kX5.below hb6 xl); (have kY6 := kY5.below hb6 yl); clear f0 f1 f2 f3 f4 f5 f6 f7 fl x0 x1 xl xf y0 y1 yf yl; (obtain ⟨f0, f1, f2, f3, f4, f5, f6, f7, fl⟩ := kP6.eightF); (obtain ⟨x0, x1, xf, xl⟩ := kX6.two); (obtain ⟨y0, y1, yf, yl⟩ := kY6.two))) | (go_at_call 14; (with_reducible refine (walk_c 1 t' HW2 _ hp).mono ?_); rintro e w7 ⟨rfl, hb7⟩; ((have own6 := own6.kept (hb7.grown_any none) (by simp)); (have hbL := hbL.trans (hb7.mono hbL.size)); (have kP6 := kP6.below hb7 fl); (have kX6 := kX6.below hb7 xl); (have kY6 := kY6.below hb7 yl); clear f0 f1 f2 f3 f4 f5 f6 f7 fl x0 x1 xl xf y0 y1 yf yl; (obtain ⟨f0, f1, f2, f3, f4, f5, f6, f7, fl⟩ := kP6.eightF); (obtain ⟨x0, x1, xf, xl⟩ := kX6.two); (obtain ⟨y0, y1, yf, yl⟩ := kY6.two))))
            refine wp_named (fun V => V.ownsMap Try.prog 3 (plainElem Try.prog 3) (P + 2) N D ∧ Blk V P 24 #[.int .i64 r, .int .i64 g, .int .i64 mg, .int .i64 xg, .int .i64 y, .int .i64 rd, .int .i64 wk, .int .i64 cl] ∧ Blk V (P + 1) 27 #[.int .i64 1, .int .i64 t'] ∧ RowKit.Below w.heap.size w V) ⟨own6.kept ((grownBy_set _ (P + 1) 0 _).trans (grownBy_set _ (P + 1) 1 _)) (by simp), (kP6.far (by simp) _).far (by simp) _, (kX6.set 0 _).set 1 _, (by repeat (first | (with_reducible refine Below.setCell ?_ ?_ _) | (with_reducible refine Below.alloc ?_ ?_ _) | (with_reducible refine Below.drew ?_) | (with_reducible refine below_drewN ?_ _) | (with_reducible exact Below.refl _ _) | (with_reducible refine Below.trans ?_ (Below.mono hbL ?_)) | (with_reducible refine Below.trans ?_ (Below.mono be ?_)) | (focus (simp; done)) | (focus (simp; omega)) | (focus omega) | (focus (have q0 := Below.size hbL; (try simp at q0); have q1 := Below.size be; (try simp at q1); (try simp); omega))))⟩ ?_
            clear kP kX kP4 kP5 kP6 kX4 kX5 kX6 kY5 kY6 own own4 own5 own6 be hbL f0 f1 f2 f3 f4 f5 f6 f7 fl x0 x1 xl xf y0 y1 yf yl
            rintro V ⟨own7, kP7, kX7, be7⟩
            obtain ⟨x0, x1, xf, xl⟩ := kX7.two
            go_wp2_with (first | (at_lookup; refine wpList_lookup_own_int _ rfl _ _ 35 rfl 3 3 .i64 lawI Try.underlying35 Try.underlying3 (zeroI _) (P + 2) N D rfl own7 (.int .i64 1) (.int .i64 1) rfl (keyOf_int_mk Try.underlying3 (by decide)) ?_; intro cc hat hwc; (obtain rfl : G = cc := by have h := HCN.out.k1.symm.trans hat; injection h with h; injection h); clear hat hwc) | (at_mapUpdate; refine wpList_mapUpdate_own _ rfl _ _ _ 35 rfl 3 3 lawI Try.underlying35 _ (P + 2) N D rfl own7 (by unfold maxLen; omega) (.int .i64 1) (.int .i64 (G + 1)) (.int .i64 1) rfl rfl (keyOf_int_mk Try.underlying3 (by decide)) _ [] (plainElem_int Try.underlying3 (wf_i64_of (by omega) (by omega))) ?_; intro w8 own8 gr8))
            go_roundw
            case rel => exact ⟨i + 1, 1, t', G + 1, Y, C, Z, N + 1, _, by go_num, by omega, HST2.out, cnt_1 HCN.out, by omega, by omega, by omega, own8, kP7.grown gr8 (by omega), kX7.grown gr8 (by omega), be7.grown gr8 be7.size (fun k hk => by injection hk with hk; omega)⟩
            case measure => simp [intOf]; omega
          · have HST2 := Lib.hid hst2
            clear hst2
            go_upto_region 17 with (first | (go_at_call 14; (with_reducible refine (walk_c 1 t HW1 _ hp).mono ?_); rintro e w4 ⟨rfl, hb4⟩; ((have own4 := own.kept (hb4.grown_any none) (by simp)); (have hbL : RowKit.Below wr.heap.size wr w4 := hb4); (have kP4 := kP.below hb4 kP.lt); (have kX4 := kX.below hb4 kX.lt); clear f0 f1 f2 f3 f4 f5 f6 f7 fl x0 x1 xl xf; (obtain ⟨f0, f1, f2, f3, f4, f5, f6, f7, fl⟩ := kP4.eightF); (obtain ⟨x0, x1, xf, xl⟩ := kX4.two))) | (go_at_call 11; (with_reducible refine (step_c HS _ hp hxl).mono ?_); rintro e w5 ⟨rfl, hb5⟩; ((have own5 := (own4.kept (hb5.grown_any none) (by simp)).alloc (.cells #[.int .i64 1, .int .i64 t'] 27)); (have hbL : RowKit.Below wr.heap.size wr (w5.alloc (.cells #[.int .i64 1, .int .i64 t'] 27)) := (by repeat (first | (with_reducible refine Below.setCell ?_ ?_ _) | (with_reducible refine Below.alloc ?_ ?_ _) | (with_reducible refine Below.drew ?_) | (with_reducible refine below_drewN ?_ _) | (with_reducible exact Below.refl _ _) | (with_reducible refine Below.trans ?_ (Below.mono hb5 ?_)) | (with_reducible refine Below.trans ?_ (Below.mono hbL ?_)) | (focus (simp; done)) | (focus (simp; omega)) | (focus omega) | (focus (have q0 := Below.size hb5; (try simp at q0); have q1 := Below.size hbL; (try simp at q1); (try simp); omega))))); (have kP5 := (kP4.below hb5 fl).alloc (.cells #[.int .i64 1, .int .i64 t'] 27)); (have kX5 := (kX4.below hb5 xl).alloc (.cells #[.int .i64 1, .int .i64 t'] 27)); (have kY5 := Blk.new w5 27 #[.int .i64 1, .int .i64 t']); clear f0 f1 f2 f3 f4 f5 f6 f7 fl x0 x1 xl xf; (obtain ⟨f0, f1, f2, f3, f4, f5, f6, f7, fl⟩ := kP5.eightF); (obtain ⟨x0, x1, xf, xl⟩ := kX5.two); (obtain ⟨y0, y1, yf, yl⟩ := kY5.two))) | (go_at_call 15; (with_reducible refine (valid_T HXL2 _).mono ?_); rintro e w6 ⟨rfl, hb6⟩; ((have own6 := own5.kept (hb6.grown_any none) (by simp)); (have hbL := hbL.trans (hb6.mono hbL.size)); (have kP6 := kP5.below hb6 fl); (have kX6 := kX5.below hb6 xl); (have kY6 := kY5.below hb6 yl); clear f0 f1 f2 f3 f4 f5 f6 f7 fl x0 x1 xl xf y0 y1 yf yl; (obtain ⟨f0, f1, f2, f3, f4, f5, f6, f7, fl⟩ := kP6.eightF); (obtain ⟨x0, x1, xf, xl⟩ := kX6.two); (obtain ⟨y0, y1, yf, yl⟩ := kY6.two))) | (go_at_call 14; (with_reducible refine (walk_c 1 t' HW2 _ hp).mono ?_); rintro e w7 ⟨rfl, hb7⟩; ((have own6 := own6.kept (hb7.grown_any none) (by simp)); (have hbL := hbL.trans (hb7.mono hbL.size)); (have kP6 := kP6.below hb7 fl); (have kX6 := kX6.below hb7 xl); (have kY6 := kY6.below hb7 yl); clear f0 f1 f2 f3 f4 f5 f6 f7 fl x0 x1 xl xf y0 y1 yf yl; (obtain ⟨f0, f1, f2, f3, f4, f5, f6, f7, fl⟩ := kP6.eightF); (obtain ⟨x0, x1, xf, xl⟩ := kX6.two); (obtain ⟨y0, y1, yf, yl⟩ := kY6.two))))
            refine wp_named (fun V => V.ownsMap Try.prog 3 (plainElem Try.prog 3) (P + 2) N D ∧ Blk V P 24 #[.int .i64 r, .int .i64 g, .int .i64 mg, .int .i64 xg, .int .i64 y, .int .i64 rd, .int .i64 wk, .int .i64 cl] ∧ Blk V (P + 1) 27 #[.int .i64 1, .int .i64 t'] ∧ RowKit.Below w.heap.size w V) ⟨own6.kept ((grownBy_set _ (P + 1) 0 _).trans (grownBy_set _ (P + 1) 1 _)) (by simp), (kP6.far (by simp) _).far (by simp) _, (kX6.set 0 _).set 1 _, (by repeat (first | (with_reducible refine Below.setCell ?_ ?_ _) | (with_reducible refine Below.alloc ?_ ?_ _) | (with_reducible refine Below.drew ?_) | (with_reducible refine below_drewN ?_ _) | (with_reducible exact Below.refl _ _) | (with_reducible refine Below.trans ?_ (Below.mono hbL ?_)) | (with_reducible refine Below.trans ?_ (Below.mono be ?_)) | (focus (simp; done)) | (focus (simp; omega)) | (focus omega) | (focus (have q0 := Below.size hbL; (try simp at q0); have q1 := Below.size be; (try simp at q1); (try simp); omega))))⟩ ?_
            clear kP kX kP4 kP5 kP6 kX4 kX5 kX6 kY5 kY6 own own4 own5 own6 be hbL f0 f1 f2 f3 f4 f5 f6 f7 fl x0 x1 xl xf y0 y1 yf yl
            rintro V ⟨own7, kP7, kX7, be7⟩
            obtain ⟨x0, x1, xf, xl⟩ := kX7.two
            go_wp2_with (first | (at_lookup; refine wpList_lookup_own_int _ rfl _ _ 35 rfl 3 3 .i64 lawI Try.underlying35 Try.underlying3 (zeroI _) (P + 2) N D rfl own7 (.int .i64 1) (.int .i64 1) rfl (keyOf_int_mk Try.underlying3 (by decide)) ?_; intro cc hat hwc; (obtain rfl : G = cc := by have h := HCN.out.k1.symm.trans hat; injection h with h; injection h); clear hat hwc) | (at_mapUpdate; refine wpList_mapUpdate_own _ rfl _ _ _ 35 rfl 3 3 lawI Try.underlying35 _ (P + 2) N D rfl own7 (by unfold maxLen; omega) (.int .i64 1) (.int .i64 (G + 1)) (.int .i64 1) rfl rfl (keyOf_int_mk Try.underlying3 (by decide)) _ [] (plainElem_int Try.underlying3 (wf_i64_of (by omega) (by omega))) ?_; intro w8 own8 gr8))
            go_roundw
            case rel => exact ⟨i + 1, 1, t', G + 1, Y, C, Z, N + 1, _, by go_num, by omega, HST2.out, cnt_1 HCN.out, by omega, by omega, by omega, own8, kP7.grown gr8 (by omega), kX7.grown gr8 (by omega), be7.grown gr8 be7.size (fun k hk => by injection hk with hk; omega)⟩
            case measure => simp [intOf]; omega
          · have HST2 := Lib.hid hst2
            clear hst2
            go_upto_region 17 with (first | (go_at_call 14; (with_reducible refine (walk_c 1 t HW1 _ hp).mono ?_); rintro e w4 ⟨rfl, hb4⟩; ((have own4 := own.kept (hb4.grown_any none) (by simp)); (have hbL : RowKit.Below wr.heap.size wr w4 := hb4); (have kP4 := kP.below hb4 kP.lt); (have kX4 := kX.below hb4 kX.lt); clear f0 f1 f2 f3 f4 f5 f6 f7 fl x0 x1 xl xf; (obtain ⟨f0, f1, f2, f3, f4, f5, f6, f7, fl⟩ := kP4.eightF); (obtain ⟨x0, x1, xf, xl⟩ := kX4.two))) | (go_at_call 11; (with_reducible refine (step_c HS _ hp hxl).mono ?_); rintro e w5 ⟨rfl, hb5⟩; ((have own5 := (own4.kept (hb5.grown_any none) (by simp)).alloc (.cells #[.int .i64 1, .int .i64 t'] 27)); (have hbL : RowKit.Below wr.heap.size wr (w5.alloc (.cells #[.int .i64 1, .int .i64 t'] 27)) := (by repeat (first | (with_reducible refine Below.setCell ?_ ?_ _) | (with_reducible refine Below.alloc ?_ ?_ _) | (with_reducible refine Below.drew ?_) | (with_reducible refine below_drewN ?_ _) | (with_reducible exact Below.refl _ _) | (with_reducible refine Below.trans ?_ (Below.mono hb5 ?_)) | (with_reducible refine Below.trans ?_ (Below.mono hbL ?_)) | (focus (simp; done)) | (focus (simp; omega)) | (focus omega) | (focus (have q0 := Below.size hb5; (try simp at q0); have q1 := Below.size hbL; (try simp at q1); (try simp); omega))))); (have kP5 := (kP4.below hb5 fl).alloc (.cells #[.int .i64 1, .int .i64 t'] 27)); (have kX5 := (kX4.below hb5 xl).alloc (.cells #[.int .i64 1, .int .i64 t'] 27)); (have kY5 := Blk.new w5 27 #[.int .i64 1, .int .i64 t']); clear f0 f1 f2 f3 f4 f5 f6 f7 fl x0 x1 xl xf; (obtain ⟨f0, f1, f2, f3, f4, f5, f6, f7, fl⟩ := kP5.eightF); (obtain ⟨x0, x1, xf, xl⟩ := kX5.two); (obtain ⟨y0, y1, yf, yl⟩ := kY5.two))) | (go_at_call 15; (with_reducible refine (valid_T HXL2 _).mono ?_); rintro e w6 ⟨rfl, hb6⟩; ((have own6 := own5.kept (hb6.grown_any none) (by simp)); (have hbL := hbL.trans (hb6.mono hbL.size)); (have kP6 := kP5.below hb6 fl); (have kX6 := kX5.below hb6 xl); (have kY6 := kY5.below hb6 yl); clear f0 f1 f2 f3 f4 f5 f6 f7 fl x0 x1 xl xf y0 y1 yf yl; (obtain ⟨f0, f1, f2, f3, f4, f5, f6, f7, fl⟩ := kP6.eightF); (obtain ⟨x0, x1, xf, xl⟩ := kX6.two); (obtain ⟨y0, y1, yf, yl⟩ := kY6.two))))
            refine wp_named (fun V => V.ownsMap Try.prog 3 (plainElem Try.prog 3) (P + 2) N D ∧ Blk V P 24 #[.int .i64 r, .int .i64 g, .int .i64 mg, .int .i64 xg, .int .i64 y, .int .i64 rd, .int .i64 wk, .int .i64 cl] ∧ Blk V (P + 1) 27 #[.int .i64 1, .int .i64 t'] ∧ RowKit.Below w.heap.size w V) ⟨own6.kept ((grownBy_set _ (P + 1) 0 _).trans (grownBy_set _ (P + 1) 1 _)) (by simp), (kP6.far (by simp) _).far (by simp) _, (kX6.set 0 _).set 1 _, (by repeat (first | (with_reducible refine Below.setCell ?_ ?_ _) | (with_reducible refine Below.alloc ?_ ?_ _) | (with_reducible refine Below.drew ?_) | (with_reducible refine below_drewN ?_ _) | (with_reducible exact Below.refl _ _) | (with_reducible refine Below.trans ?_ (Below.mono hbL ?_)) | (with_reducible refine Below.trans ?_ (Below.mono be ?_)) | (focus (simp; done)) | (focus (simp; omega)) | (focus omega) | (focus (have q0 := Below.size hbL; (try simp at q0); have q1 := Below.size be; (try simp at q1); (try simp); omega))))⟩ ?_
            clear kP kX kP4 kP5 kP6 kX4 kX5 kX6 kY5 kY6 own own4 own5 own6 be hbL f0 f1 f2 f3 f4 f5 f6 f7 fl x0 x1 xl xf y0 y1 yf yl
            rintro V ⟨own7, kP7, kX7, be7⟩
            obtain ⟨x0, x1, xf, xl⟩ := kX7.two
            go_wp2_with (first | (at_lookup; refine wpList_lookup_own_int _ rfl _ _ 35 rfl 3 3 .i64 lawI Try.underlying35 Try.underlying3 (zeroI _) (P + 2) N D rfl own7 (.int .i64 1) (.int .i64 1) rfl (keyOf_int_mk Try.underlying3 (by decide)) ?_; intro cc hat hwc; (obtain rfl : G = cc := by have h := HCN.out.k1.symm.trans hat; injection h with h; injection h); clear hat hwc) | (at_mapUpdate; refine wpList_mapUpdate_own _ rfl _ _ _ 35 rfl 3 3 lawI Try.underlying35 _ (P + 2) N D rfl own7 (by unfold maxLen; omega) (.int .i64 1) (.int .i64 (G + 1)) (.int .i64 1) rfl rfl (keyOf_int_mk Try.underlying3 (by decide)) _ [] (plainElem_int Try.underlying3 (wf_i64_of (by omega) (by omega))) ?_; intro w8 own8 gr8))
            go_roundw
            case rel => exact ⟨i + 1, 1, t', G + 1, Y, C, Z, N + 1, _, by go_num, by omega, HST2.out, cnt_1 HCN.out, by omega, by omega, by omega, own8, kP7.grown gr8 (by omega), kX7.grown gr8 (by omega), be7.grown gr8 be7.size (fun k hk => by injection hk with hk; omega)⟩
            case measure => simp [intOf]; omega
        · clear HCASE
          rcases hw with rfl | rfl
          · have HST2 := Lib.hid hst2
            clear hst2
            go_upto_region 17 with (first | (go_at_call 14; (with_reducible refine (walk_c 1 t HW1 _ hp).mono ?_); rintro e w4 ⟨rfl, hb4⟩; ((have own4 := own.kept (hb4.grown_any none) (by simp)); (have hbL : RowKit.Below wr.heap.size wr w4 := hb4); (have kP4 := kP.below hb4 kP.lt); (have kX4 := kX.below hb4 kX.lt); clear f0 f1 f2 f3 f4 f5 f6 f7 fl x0 x1 xl xf; (obtain ⟨f0, f1, f2, f3, f4, f5, f6, f7, fl⟩ := kP4.eightF); (obtain ⟨x0, x1, xf, xl⟩ := kX4.two))) | (go_at_call 11; (with_reducible refine (step_c HS _ hp hxl).mono ?_); rintro e w5 ⟨rfl, hb5⟩; ((have own5 := (own4.kept (hb5.grown_any none) (by simp)).alloc (.cells #[.int .i64 2, .int .i64 t'] 27)); (have hbL : RowKit.Below wr.heap.size wr (w5.alloc (.cells #[.int .i64 2, .int .i64 t'] 27)) := (by repeat (first | (with_reducible refine Below.setCell ?_ ?_ _) | (with_reducible refine Below.alloc ?_ ?_ _) | (with_reducible refine Below.drew ?_) | (with_reducible refine below_drewN ?_ _) | (with_reducible exact Below.refl _ _) | (with_reducible refine Below.trans ?_ (Below.mono hb5 ?_)) | (with_reducible refine Below.trans ?_ (Below.mono hbL ?_)) | (focus (simp; done)) | (focus (simp; omega)) | (focus omega) | (focus (have q0 := Below.size hb5; (try simp at q0); have q1 := Below.size hbL; (try simp at q1); (try simp); omega))))); (have kP5 := (kP4.below hb5 fl).alloc (.cells #[.int .i64 2, .int .i64 t'] 27)); (have kX5 := (kX4.below hb5 xl).alloc (.cells #[.int .i64 2, .int .i64 t'] 27)); (have kY5 := Blk.new w5 27 #[.int .i64 2, .int .i64 t']); clear f0 f1 f2 f3 f4 f5 f6 f7 fl x0 x1 xl xf; (obtain ⟨f0, f1, f2, f3, f4, f5, f6, f7, fl⟩ := kP5.eightF); (obtain ⟨x0, x1, xf, xl⟩ := kX5.two); (obtain ⟨y0, y1, yf, yl⟩ := kY5.two))) | (go_at_call 15; (with_reducible refine (valid_T HXL2 _).mono ?_); rintro e w6 ⟨rfl, hb6⟩; ((have own6 := own5.kept (hb6.grown_any none) (by simp)); (have hbL := hbL.trans (hb6.mono hbL.size)); (have kP6 := kP5.below hb6 fl); (have kX6 := kX5.below hb6 xl); (have kY6 := kY5.below hb6 yl); clear f0 f1 f2 f3 f4 f5 f6 f7 fl x0 x1 xl xf y0 y1 yf yl; (obtain ⟨f0, f1, f2, f3, f4, f5, f6, f7, fl⟩ := kP6.eightF); (obtain ⟨x0, x1, xf, xl⟩ := kX6.two); (obtain ⟨y0, y1, yf, yl⟩ := kY6.two))))
            refine wp_named (fun V => V.ownsMap Try.prog 3 (plainElem Try.prog 3) (P + 2) N D ∧ Blk V P 24 #[.int .i64 r, .int .i64 g, .int .i64 mg, .int .i64 xg, .int .i64 y, .int .i64 rd, .int .i64 wk, .int .i64 cl] ∧ Blk V (P + 1) 27 #[.int .i64 2, .int .i64 t'] ∧ RowKit.Below w.heap.size w V) ⟨own6.kept ((grownBy_set _ (P + 1) 0 _).trans (grownBy_set _ (P + 1) 1 _)) (by simp), (kP6.far (by simp) _).far (by simp) _, (kX6.set 0 _).set 1 _, (by repeat (first | (with_reducible refine Below.setCell ?_ ?_ _) | (with_reducible refine Below.alloc ?_ ?_ _) | (with_reducible refine Below.drew ?_) | (with_reducible refine below_drewN ?_ _) | (with_reducible exact Below.refl _ _) | (with_reducible refine Below.trans ?_ (Below.mono hbL ?_)) | (with_reducible refine Below.trans ?_ (Below.mono be ?_)) | (focus (simp; done)) | (focus (simp; omega)) | (focus omega) | (focus (have q0 := Below.size hbL; (try simp at q0); have q1 := Below.size be; (try simp at q1); (try simp); omega))))⟩ ?_
            clear kP kX kP4 kP5 kP6 kX4 kX5 kX6 kY5 kY6 own own4 own5 own6 be hbL f0 f1 f2 f3 f4 f5 f6 f7 fl x0 x1 xl xf y0 y1 yf yl
            rintro V ⟨own7, kP7, kX7, be7⟩
            obtain ⟨x0, x1, xf, xl⟩ := kX7.two
            go_wp2_with (first | (at_lookup; refine wpList_lookup_own_int _ rfl _ _ 35 rfl 3 3 .i64 lawI Try.underlying35 Try.underlying3 (zeroI _) (P + 2) N D rfl own7 (.int .i64 2) (.int .i64 2) rfl (keyOf_int_mk Try.underlying3 (by decide)) ?_; intro cc hat hwc; (obtain rfl : Y = cc := by have h := HCN.out.k2.symm.trans hat; injection h with h; injection h); clear hat hwc) | (at_mapUpdate; refine wpList_mapUpdate_own _ rfl _ _ _ 35 rfl 3 3 lawI Try.underlying35 _ (P + 2) N D rfl own7 (by unfold maxLen; omega) (.int .i64 2) (.int .i64 (Y + 1)) (.int .i64 2) rfl rfl (keyOf_int_mk Try.underlying3 (by decide)) _ [] (plainElem_int Try.underlying3 (wf_i64_of (by omega) (by omega))) ?_; intro w8 own8 gr8))
            go_roundw
            case rel => exact ⟨i + 1, 2, t', G, Y + 1, C, Z, N + 1, _, by go_num, by omega, HST2.out, cnt_2 HCN.out, by omega, by omega, by omega, own8, kP7.grown gr8 (by omega), kX7.grown gr8 (by omega), be7.grown gr8 be7.size (fun k hk => by injection hk with hk; omega)⟩
            case measure => simp [intOf]; omega
          · have HST2 := Lib.hid hst2
            clear hst2
            go_upto_region 17 with (first | (go_at_call 14; (with_reducible refine (walk_c 1 t HW1 _ hp).mono ?_); rintro e w4 ⟨rfl, hb4⟩; ((have own4 := own.kept (hb4.grown_any none) (by simp)); (have hbL : RowKit.Below wr.heap.size wr w4 := hb4); (have kP4 := kP.below hb4 kP.lt); (have kX4 := kX.below hb4 kX.lt); clear f0 f1 f2 f3 f4 f5 f6 f7 fl x0 x1 xl xf; (obtain ⟨f0, f1, f2, f3, f4, f5, f6, f7, fl⟩ := kP4.eightF); (obtain ⟨x0, x1, xf, xl⟩ := kX4.two))) | (go_at_call 11; (with_reducible refine (step_c HS _ hp hxl).mono ?_); rintro e w5 ⟨rfl, hb5⟩; ((have own5 := (own4.kept (hb5.grown_any none) (by simp)).alloc (.cells #[.int .i64 2, .int .i64 t'] 27)); (have hbL : RowKit.Below wr.heap.size wr (w5.alloc (.cells #[.int .i64 2, .int .i64 t'] 27)) := (by repeat (first | (with_reducible refine Below.setCell ?_ ?_ _) | (with_reducible refine Below.alloc ?_ ?_ _) | (with_reducible refine Below.drew ?_) | (with_reducible refine below_drewN ?_ _) | (with_reducible exact Below.refl _ _) | (with_reducible refine Below.trans ?_ (Below.mono hb5 ?_)) | (with_reducible refine Below.trans ?_ (Below.mono hbL ?_)) | (focus (simp; done)) | (focus (simp; omega)) | (focus omega) | (focus (have q0 := Below.size hb5; (try simp at q0); have q1 := Below.size hbL; (try simp at q1); (try simp); omega))))); (have kP5 := (kP4.below hb5 fl).alloc (.cells #[.int .i64 2, .int .i64 t'] 27)); (have kX5 := (kX4.below hb5 xl).alloc (.cells #[.int .i64 2, .int .i64 t'] 27)); (have kY5 := Blk.new w5 27 #[.int .i64 2, .int .i64 t']); clear f0 f1 f2 f3 f4 f5 f6 f7 fl x0 x1 xl xf; (obtain ⟨f0, f1, f2, f3, f4, f5, f6, f7, fl⟩ := kP5.eightF); (obtain ⟨x0, x1, xf, xl⟩ := kX5.two); (obtain ⟨y0, y1, yf, yl⟩ := kY5.two))) | (go_at_call 15; (with_reducible refine (valid_T HXL2 _).mono ?_); rintro e w6 ⟨rfl, hb6⟩; ((have own6 := own5.kept (hb6.grown_any none) (by simp)); (have hbL := hbL.trans (hb6.mono hbL.size)); (have kP6 := kP5.below hb6 fl); (have kX6 := kX5.below hb6 xl); (have kY6 := kY5.below hb6 yl); clear f0 f1 f2 f3 f4 f5 f6 f7 fl x0 x1 xl xf y0 y1 yf yl; (obtain ⟨f0, f1, f2, f3, f4, f5, f6, f7, fl⟩ := kP6.eightF); (obtain ⟨x0, x1, xf, xl⟩ := kX6.two); (obtain ⟨y0, y1, yf, yl⟩ := kY6.two))))
            refine wp_named (fun V => V.ownsMap Try.prog 3 (plainElem Try.prog 3) (P + 2) N D ∧ Blk V P 24 #[.int .i64 r, .int .i64 g, .int .i64 mg, .int .i64 xg, .int .i64 y, .int .i64 rd, .int .i64 wk, .int .i64 cl] ∧ Blk V (P + 1) 27 #[.int .i64 2, .int .i64 t'] ∧ RowKit.Below w.heap.size w V) ⟨own6.kept ((grownBy_set _ (P + 1) 0 _).trans (grownBy_set _ (P + 1) 1 _)) (by simp), (kP6.far (by simp) _).far (by simp) _, (kX6.set 0 _).set 1 _, (by repeat (first | (with_reducible refine Below.setCell ?_ ?_ _) | (with_reducible refine Below.alloc ?_ ?_ _) | (with_reducible refine Below.drew ?_) | (with_reducible refine below_drewN ?_ _) | (with_reducible exact Below.refl _ _) | (with_reducible refine Below.trans ?_ (Below.mono hbL ?_)) | (with_reducible refine Below.trans ?_ (Below.mono be ?_)) | (focus (simp; done)) | (focus (simp; omega)) | (focus omega) | (focus (have q0 := Below.size hbL; (try simp at q0); have q1 := Below.size be; (try simp at q1); (try simp); omega))))⟩ ?_
            clear kP kX kP4 kP5 kP6 kX4 kX5 kX6 kY5 kY6 own own4 own5 own6 be hbL f0 f1 f2 f3 f4 f5 f6 f7 fl x0 x1 xl xf y0 y1 yf yl
            rintro V ⟨own7, kP7, kX7, be7⟩
            obtain ⟨x0, x1, xf, xl⟩ := kX7.two
            go_wp2_with (first | (at_lookup; refine wpList_lookup_own_int _ rfl _ _ 35 rfl 3 3 .i64 lawI Try.underlying35 Try.underlying3 (zeroI _) (P + 2) N D rfl own7 (.int .i64 2) (.int .i64 2) rfl (keyOf_int_mk Try.underlying3 (by decide)) ?_; intro cc hat hwc; (obtain rfl : Y = cc := by have h := HCN.out.k2.symm.trans hat; injection h with h; injection h); clear hat hwc) | (at_mapUpdate; refine wpList_mapUpdate_own _ rfl _ _ _ 35 rfl 3 3 lawI Try.underlying35 _ (P + 2) N D rfl own7 (by unfold maxLen; omega) (.int .i64 2) (.int .i64 (Y + 1)) (.int .i64 2) rfl rfl (keyOf_int_mk Try.underlying3 (by decide)) _ [] (plainElem_int Try.underlying3 (wf_i64_of (by omega) (by omega))) ?_; intro w8 own8 gr8))
            go_roundw
            case rel => exact ⟨i + 1, 2, t', G, Y + 1, C, Z, N + 1, _, by go_num, by omega, HST2.out, cnt_2 HCN.out, by omega, by omega, by omega, own8, kP7.grown gr8 (by omega), kX7.grown gr8 (by omega), be7.grown gr8 be7.size (fun k hk => by injection hk with hk; omega)⟩
            case measure => simp [intOf]; omega
        · clear HCASE
          have HST2 := Lib.hid hst2
          clear hst2
          go_upto_region 17 with (first | (go_at_call 14; (with_reducible refine (walk_c 2 t HW1 _ hp).mono ?_); rintro e w4 ⟨rfl, hb4⟩; ((have own4 := own.kept (hb4.grown_any none) (by simp)); (have hbL : RowKit.Below wr.heap.size wr w4 := hb4); (have kP4 := kP.below hb4 kP.lt); (have kX4 := kX.below hb4 kX.lt); clear f0 f1 f2 f3 f4 f5 f6 f7 fl x0 x1 xl xf; (obtain ⟨f0, f1, f2, f3, f4, f5, f6, f7, fl⟩ := kP4.eightF); (obtain ⟨x0, x1, xf, xl⟩ := kX4.two))) | (go_at_call 11; (with_reducible refine (step_c HS _ hp hxl).mono ?_); rintro e w5 ⟨rfl, hb5⟩; ((have own5 := (own4.kept (hb5.grown_any none) (by simp)).alloc (.cells #[.int .i64 2, .int .i64 t'] 27)); (have hbL : RowKit.Below wr.heap.size wr (w5.alloc (.cells #[.int .i64 2, .int .i64 t'] 27)) := (by repeat (first | (with_reducible refine Below.setCell ?_ ?_ _) | (with_reducible refine Below.alloc ?_ ?_ _) | (with_reducible refine Below.drew ?_) | (with_reducible refine below_drewN ?_ _) | (with_reducible exact Below.refl _ _) | (with_reducible refine Below.trans ?_ (Below.mono hb5 ?_)) | (with_reducible refine Below.trans ?_ (Below.mono hbL ?_)) | (focus (simp; done)) | (focus (simp; omega)) | (focus omega) | (focus (have q0 := Below.size hb5; (try simp at q0); have q1 := Below.size hbL; (try simp at q1); (try simp); omega))))); (have kP5 := (kP4.below hb5 fl).alloc (.cells #[.int .i64 2, .int .i64 t'] 27)); (have kX5 := (kX4.below hb5 xl).alloc (.cells #[.int .i64 2, .int .i64 t'] 27)); (have kY5 := Blk.new w5 27 #[.int .i64 2, .int .i64 t']); clear f0 f1 f2 f3 f4 f5 f6 f7 fl x0 x1 xl xf; (obtain ⟨f0, f1, f2, f3, f4, f5, f6, f7, fl⟩ := kP5.eightF); (obtain ⟨x0, x1, xf, xl⟩ := kX5.two); (obtain ⟨y0, y1, yf, yl⟩ := kY5.two))) | (go_at_call 15; (with_reducible refine (valid_T HXL2 _).mono ?_); rintro e w6 ⟨rfl, hb6⟩; ((have own6 := own5.kept (hb6.grown_any none) (by simp)); (have hbL := hbL.trans (hb6.mono hbL.size)); (have kP6 := kP5.below hb6 fl); (have kX6 := kX5.below hb6 xl); (have kY6 := kY5.below hb6 yl); clear f0 f1 f2 f3 f4 f5 f6 f7 fl x0 x1 xl xf y0 y1 yf yl; (obtain ⟨f0, f1, f2, f3, f4, f5, f6, f7, fl⟩ := kP6.eightF); (obtain ⟨x0, x1, xf, xl⟩ := kX6.two); (obtain ⟨y0, y1, yf, yl⟩ := kY6.two))))
          refine wp_named (fun V => V.ownsMap Try.prog 3 (plainElem Try.prog 3) (P + 2) N D ∧ Blk V P 24 #[.int .i64 r, .int .i64 g, .int .i64 mg, .int .i64 xg, .int .i64 y, .int .i64 rd, .int .i64 wk, .int .i64 cl] ∧ Blk V (P + 1) 27 #[.int .i64 2, .int .i64 t'] ∧ RowKit.Below w.heap.size w V) ⟨own6.kept ((grownBy_set _ (P + 1) 0 _).trans (grownBy_set _ (P + 1) 1 _)) (by simp), (kP6.far (by simp) _).far (by simp) _, (kX6.set 0 _).set 1 _, (by repeat (first | (with_reducible refine Below.setCell ?_ ?_ _) | (with_reducible refine Below.alloc ?_ ?_ _) | (with_reducible refine Below.drew ?_) | (with_reducible refine below_drewN ?_ _) | (with_reducible exact Below.refl _ _) | (with_reducible refine Below.trans ?_ (Below.mono hbL ?_)) | (with_reducible refine Below.trans ?_ (Below.mono be ?_)) | (focus (simp; done)) | (focus (simp; omega)) | (focus omega) | (focus (have q0 := Below.size hbL; (try simp at q0); have q1 := Below.size be; (try simp at q1); (try simp); omega))))⟩ ?_
          clear kP kX kP4 kP5 kP6 kX4 kX5 kX6 kY5 kY6 own own4 own5 own6 be hbL f0 f1 f2 f3 f4 f5 f6 f7 fl x0 x1 xl xf y0 y1 yf yl
          rintro V ⟨own7, kP7, kX7, be7⟩
          obtain ⟨x0, x1, xf, xl⟩ := kX7.two
          go_wp2_with (first | (at_lookup; refine wpList_lookup_own_int _ rfl _ _ 35 rfl 3 3 .i64 lawI Try.underlying35 Try.underlying3 (zeroI _) (P + 2) N D rfl own7 (.int .i64 2) (.int .i64 2) rfl (keyOf_int_mk Try.underlying3 (by decide)) ?_; intro cc hat hwc; (obtain rfl : Y = cc := by have h := HCN.out.k2.symm.trans hat; injection h with h; injection h); clear hat hwc) | (at_mapUpdate; refine wpList_mapUpdate_own _ rfl _ _ _ 35 rfl 3 3 lawI Try.underlying35 _ (P + 2) N D rfl own7 (by unfold maxLen; omega) (.int .i64 2) (.int .i64 (Y + 1)) (.int .i64 2) rfl rfl (keyOf_int_mk Try.underlying3 (by decide)) _ [] (plainElem_int Try.underlying3 (wf_i64_of (by omega) (by omega))) ?_; intro w8 own8 gr8))
          go_roundw
          case rel => exact ⟨i + 1, 2, t', G, Y + 1, C, Z, N + 1, _, by go_num, by omega, HST2.out, cnt_2 HCN.out, by omega, by omega, by omega, own8, kP7.grown gr8 (by omega), kX7.grown gr8 (by omega), be7.grown gr8 be7.size (fun k hk => by injection hk with hk; omega)⟩
          case measure => simp [intOf]; omega
        · clear HCASE
          have HST2 := Lib.hid hst2
          clear hst2
          go_upto_region 17 with (first | (go_at_call 14; (with_reducible refine (walk_c 2 t HW1 _ hp).mono ?_); rintro e w4 ⟨rfl, hb4⟩; ((have own4 := own.kept (hb4.grown_any none) (by simp)); (have hbL : RowKit.Below wr.heap.size wr w4 := hb4); (have kP4 := kP.below hb4 kP.lt); (have kX4 := kX.below hb4 kX.lt); clear f0 f1 f2 f3 f4 f5 f6 f7 fl x0 x1 xl xf; (obtain ⟨f0, f1, f2, f3, f4, f5, f6, f7, fl⟩ := kP4.eightF); (obtain ⟨x0, x1, xf, xl⟩ := kX4.two))) | (go_at_call 11; (with_reducible refine (step_c HS _ hp hxl).mono ?_); rintro e w5 ⟨rfl, hb5⟩; ((have own5 := (own4.kept (hb5.grown_any none) (by simp)).alloc (.cells #[.int .i64 3, .int .i64 t'] 27)); (have hbL : RowKit.Below wr.heap.size wr (w5.alloc (.cells #[.int .i64 3, .int .i64 t'] 27)) := (by repeat (first | (with_reducible refine Below.setCell ?_ ?_ _) | (with_reducible refine Below.alloc ?_ ?_ _) | (with_reducible refine Below.drew ?_) | (with_reducible refine below_drewN ?_ _) | (with_reducible exact Below.refl _ _) | (with_reducible refine Below.trans ?_ (Below.mono hb5 ?_)) | (with_reducible refine Below.trans ?_ (Below.mono hbL ?_)) | (focus (simp; done)) | (focus (simp; omega)) | (focus omega) | (focus (have q0 := Below.size hb5; (try simp at q0); have q1 := Below.size hbL; (try simp at q1); (try simp); omega))))); (have kP5 := (kP4.below hb5 fl).alloc (.cells #[.int .i64 3, .int .i64 t'] 27)); (have kX5 := (kX4.below hb5 xl).alloc (.cells #[.int .i64 3, .int .i64 t'] 27)); (have kY5 := Blk.new w5 27 #[.int .i64 3, .int .i64 t']); clear f0 f1 f2 f3 f4 f5 f6 f7 fl x0 x1 xl xf; (obtain ⟨f0, f1, f2, f3, f4, f5, f6, f7, fl⟩ := kP5.eightF); (obtain ⟨x0, x1, xf, xl⟩ := kX5.two); (obtain ⟨y0, y1, yf, yl⟩ := kY5.two))) | (go_at_call 15; (with_reducible refine (valid_T HXL2 _).mono ?_); rintro e w6 ⟨rfl, hb6⟩; ((have own6 := own5.kept (hb6.grown_any none) (by simp)); (have hbL := hbL.trans (hb6.mono hbL.size)); (have kP6 := kP5.below hb6 fl); (have kX6 := kX5.below hb6 xl); (have kY6 := kY5.below hb6 yl); clear f0 f1 f2 f3 f4 f5 f6 f7 fl x0 x1 xl xf y0 y1 yf yl; (obtain ⟨f0, f1, f2, f3, f4, f5, f6, f7, fl⟩ := kP6.eightF); (obtain ⟨x0, x1, xf, xl⟩ := kX6.two); (obtain ⟨y0, y1, yf, yl⟩ := kY6.two))))
          refine wp_named (fun V => V.ownsMap Try.prog 3 (plainElem Try.prog 3) (P + 2) N D ∧ Blk V P 24 #[.int .i64 r, .int .i64 g, .int .i64 mg, .int .i64 xg, .int .i64 y, .int .i64 rd, .int .i64 wk, .int .i64 cl] ∧ Blk V (P + 1) 27 #[.int .i64 3, .int .i64 t'] ∧ RowKit.Below w.heap.size w V) ⟨own6.kept ((grownBy_set _ (P + 1) 0 _).trans (grownBy_set _ (P + 1) 1 _)) (by simp), (kP6.far (by simp) _).far (by simp) _, (kX6.set 0 _).set 1 _, (by repeat (first | (with_reducible refine Below.setCell ?_ ?_ _) | (with_reducible refine Below.alloc ?_ ?_ _) | (with_reducible refine Below.drew ?_) | (with_reducible refine below_drewN ?_ _) | (with_reducible exact Below.refl _ _) | (with_reducible refine Below.trans ?_ (Below.mono hbL ?_)) | (with_reducible refine Below.trans ?_ (Below.mono be ?_)) | (focus (simp; done)) | (focus (simp; omega)) | (focus omega) | (focus (have q0 := Below.size hbL; (try simp at q0); have q1 := Below.size be; (try simp at q1); (try simp); omega))))⟩ ?_
          clear kP kX kP4 kP5 kP6 kX4 kX5 kX6 kY5 kY6 own own4 own5 own6 be hbL f0 f1 f2 f3 f4 f5 f6 f7 fl x0 x1 xl xf y0 y1 yf yl
          rintro V ⟨own7, kP7, kX7, be7⟩
          obtain ⟨x0, x1, xf, xl⟩ := kX7.two
          go_wp2_with (first | (at_lookup; refine wpList_lookup_own_int _ rfl _ _ 35 rfl 3 3 .i64 lawI Try.underlying35 Try.underlying3 (zeroI _) (P + 2) N D rfl own7 (.int .i64 3) (.int .i64 3) rfl (keyOf_int_mk Try.underlying3 (by decide)) ?_; intro cc hat hwc; (obtain rfl : C = cc := by have h := HCN.out.k3.symm.trans hat; injection h with h; injection h); clear hat hwc) | (at_mapUpdate; refine wpList_mapUpdate_own _ rfl _ _ _ 35 rfl 3 3 lawI Try.underlying35 _ (P + 2) N D rfl own7 (by unfold maxLen; omega) (.int .i64 3) (.int .i64 (C + 1)) (.int .i64 3) rfl rfl (keyOf_int_mk Try.underlying3 (by decide)) _ [] (plainElem_int Try.underlying3 (wf_i64_of (by omega) (by omega))) ?_; intro w8 own8 gr8))
          go_roundw
          case rel => exact ⟨i + 1, 3, t', G, Y, C + 1, Z, N + 1, _, by go_num, by omega, HST2.out, cnt_3 HCN.out, by omega, by omega, by omega, own8, kP7.grown gr8 (by omega), kX7.grown gr8 (by omega), be7.grown gr8 be7.size (fun k hk => by injection hk with hk; omega)⟩
          case measure => simp [intOf]; omega
        · clear HCASE
          have HST2 := Lib.hid hst2
          clear hst2
          go_upto_region 17 with (first | (go_at_call 14; (with_reducible refine (walk_c 2 t HW1 _ hp).mono ?_); rintro e w4 ⟨rfl, hb4⟩; ((have own4 := own.kept (hb4.grown_any none) (by simp)); (have hbL : RowKit.Below wr.heap.size wr w4 := hb4); (have kP4 := kP.below hb4 kP.lt); (have kX4 := kX.below hb4 kX.lt); clear f0 f1 f2 f3 f4 f5 f6 f7 fl x0 x1 xl xf; (obtain ⟨f0, f1, f2, f3, f4, f5, f6, f7, fl⟩ := kP4.eightF); (obtain ⟨x0, x1, xf, xl⟩ := kX4.two))) | (go_at_call 11; (with_reducible refine (step_c HS _ hp hxl).mono ?_); rintro e w5 ⟨rfl, hb5⟩; ((have own5 := (own4.kept (hb5.grown_any none) (by simp)).alloc (.cells #[.int .i64 0, .int .i64 t'] 27)); (have hbL : RowKit.Below wr.heap.size wr (w5.alloc (.cells #[.int .i64 0, .int .i64 t'] 27)) := (by repeat (first | (with_reducible refine Below.setCell ?_ ?_ _) | (with_reducible refine Below.alloc ?_ ?_ _) | (with_reducible refine Below.drew ?_) | (with_reducible refine below_drewN ?_ _) | (with_reducible exact Below.refl _ _) | (with_reducible refine Below.trans ?_ (Below.mono hb5 ?_)) | (with_reducible refine Below.trans ?_ (Below.mono hbL ?_)) | (focus (simp; done)) | (focus (simp; omega)) | (focus omega) | (focus (have q0 := Below.size hb5; (try simp at q0); have q1 := Below.size hbL; (try simp at q1); (try simp); omega))))); (have kP5 := (kP4.below hb5 fl).alloc (.cells #[.int .i64 0, .int .i64 t'] 27)); (have kX5 := (kX4.below hb5 xl).alloc (.cells #[.int .i64 0, .int .i64 t'] 27)); (have kY5 := Blk.new w5 27 #[.int .i64 0, .int .i64 t']); clear f0 f1 f2 f3 f4 f5 f6 f7 fl x0 x1 xl xf; (obtain ⟨f0, f1, f2, f3, f4, f5, f6, f7, fl⟩ := kP5.eightF); (obtain ⟨x0, x1, xf, xl⟩ := kX5.two); (obtain ⟨y0, y1, yf, yl⟩ := kY5.two))) | (go_at_call 15; (with_reducible refine (valid_T HXL2 _).mono ?_); rintro e w6 ⟨rfl, hb6⟩; ((have own6 := own5.kept (hb6.grown_any none) (by simp)); (have hbL := hbL.trans (hb6.mono hbL.size)); (have kP6 := kP5.below hb6 fl); (have kX6 := kX5.below hb6 xl); (have kY6 := kY5.below hb6 yl); clear f0 f1 f2 f3 f4 f5 f6 f7 fl x0 x1 xl xf y0 y1 yf yl; (obtain ⟨f0, f1, f2, f3, f4, f5, f6, f7, fl⟩ := kP6.eightF); (obtain ⟨x0, x1, xf, xl⟩ := kX6.two); (obtain ⟨y0, y1, yf, yl⟩ := kY6.two))))
          refine wp_named (fun V => V.ownsMap Try.prog 3 (plainElem Try.prog 3) (P + 2) N D ∧ Blk V P 24 #[.int .i64 r, .int .i64 g, .int .i64 mg, .int .i64 xg, .int .i64 y, .int .i64 rd, .int .i64 wk, .int .i64 cl] ∧ Blk V (P + 1) 27 #[.int .i64 0, .int .i64 t'] ∧ RowKit.Below w.heap.size w V) ⟨own6.kept ((grownBy_set _ (P + 1) 0 _).trans (grownBy_set _ (P + 1) 1 _)) (by simp), (kP6.far (by simp) _).far (by simp) _, (kX6.set 0 _).set 1 _, (by repeat (first | (with_reducible refine Below.setCell ?_ ?_ _) | (with_reducible refine Below.alloc ?_ ?_ _) | (with_reducible refine Below.drew ?_) | (with_reducible refine below_drewN ?_ _) | (with_reducible exact Below.refl _ _) | (with_reducible refine Below.trans ?_ (Below.mono hbL ?_)) | (with_reducible refine Below.trans ?_ (Below.mono be ?_)) | (focus (simp; done)) | (focus (simp; omega)) | (focus omega) | (focus (have q0 := Below.size hbL; (try simp at q0); have q1 := Below.size be; (try simp at q1); (try simp); omega))))⟩ ?_
          clear kP kX kP4 kP5 kP6 kX4 kX5 kX6 kY5 kY6 own own4 own5 own6 be hbL f0 f1 f2 f3 f4 f5 f6 f7 fl x0 x1 xl xf y0 y1 yf yl
          rintro V ⟨own7, kP7, kX7, be7⟩
          obtain ⟨x0, x1, xf, xl⟩ := kX7.two
          go_wp2_with (first | (at_lookup; refine wpList_lookup_own_int _ rfl _ _ 35 rfl 3 3 .i64 lawI Try.underlying35 Try.underlying3 (zeroI _) (P + 2) N D rfl own7 (.int .i64 0) (.int .i64 0) rfl (keyOf_int_mk Try.underlying3 (by decide)) ?_; intro cc hat hwc; (obtain rfl : Z = cc := by have h := HCN.out.k0.symm.trans hat; injection h with h; injection h); clear hat hwc) | (at_mapUpdate; refine wpList_mapUpdate_own _ rfl _ _ _ 35 rfl 3 3 lawI Try.underlying35 _ (P + 2) N D rfl own7 (by unfold maxLen; omega) (.int .i64 0) (.int .i64 (Z + 1)) (.int .i64 0) rfl rfl (keyOf_int_mk Try.underlying3 (by decide)) _ [] (plainElem_int Try.underlying3 (wf_i64_of (by omega) (by omega))) ?_; intro w8 own8 gr8))
          go_roundw
          case rel => exact ⟨i + 1, 0, t', G, Y, C, Z + 1, N + 1, _, by go_num, by omega, HST2.out, cnt_0 HCN.out, by omega, by omega, by omega, own8, kP7.grown gr8 (by omega), kX7.grown gr8 (by omega), be7.grown gr8 be7.size (fun k hk => by injection hk with hk; omega)⟩
          case measure => simp [intOf]; omega
        · clear HCASE
          have HST2 := Lib.hid hst2
          clear hst2
          go_upto_region 17 with (first | (go_at_call 14; (with_reducible refine (walk_c 3 t HW1 _ hp).mono ?_); rintro e w4 ⟨rfl, hb4⟩; ((have own4 := own.kept (hb4.grown_any none) (by simp)); (have hbL : RowKit.Below wr.heap.size wr w4 := hb4); (have kP4 := kP.below hb4 kP.lt); (have kX4 := kX.below hb4 kX.lt); clear f0 f1 f2 f3 f4 f5 f6 f7 fl x0 x1 xl xf; (obtain ⟨f0, f1, f2, f3, f4, f5, f6, f7, fl⟩ := kP4.eightF); (obtain ⟨x0, x1, xf, xl⟩ := kX4.two))) | (go_at_call 11; (with_reducible refine (step_c HS _ hp hxl).mono ?_); rintro e w5 ⟨rfl, hb5⟩; ((have own5 := (own4.kept (hb5.grown_any none) (by simp)).alloc (.cells #[.int .i64 3, .int .i64 t'] 27)); (have hbL : RowKit.Below wr.heap.size wr (w5.alloc (.cells #[.int .i64 3, .int .i64 t'] 27)) := (by repeat (first | (with_reducible refine Below.setCell ?_ ?_ _) | (with_reducible refine Below.alloc ?_ ?_ _) | (with_reducible refine Below.drew ?_) | (with_reducible refine below_drewN ?_ _) | (with_reducible exact Below.refl _ _) | (with_reducible refine Below.trans ?_ (Below.mono hb5 ?_)) | (with_reducible refine Below.trans ?_ (Below.mono hbL ?_)) | (focus (simp; done)) | (focus (simp; omega)) | (focus omega) | (focus (have q0 := Below.size hb5; (try simp at q0); have q1 := Below.size hbL; (try simp at q1); (try simp); omega))))); (have kP5 := (kP4.below hb5 fl).alloc (.cells #[.int .i64 3, .int .i64 t'] 27)); (have kX5 := (kX4.below hb5 xl).alloc (.cells #[.int .i64 3, .int .i64 t'] 27)); (have kY5 := Blk.new w5 27 #[.int .i64 3, .int .i64 t']); clear f0 f1 f2 f3 f4 f5 f6 f7 fl x0 x1 xl xf; (obtain ⟨f0, f1, f2, f3, f4, f5, f6, f7, fl⟩ := kP5.eightF); (obtain ⟨x0, x1, xf, xl⟩ := kX5.two); (obtain ⟨y0, y1, yf, yl⟩ := kY5.two))) | (go_at_call 15; (with_reducible refine (valid_T HXL2 _).mono ?_); rintro e w6 ⟨rfl, hb6⟩; ((have own6 := own5.kept (hb6.grown_any none) (by simp)); (have hbL := hbL.trans (hb6.mono hbL.size)); (have kP6 := kP5.below hb6 fl); (have kX6 := kX5.below hb6 xl); (have kY6 := kY5.below hb6 yl); clear f0 f1 f2 f3 f4 f5 f6 f7 fl x0 x1 xl xf y0 y1 yf yl; (obtain ⟨f0, f1, f2, f3, f4, f5, f6, f7, fl⟩ := kP6.eightF); (obtain ⟨x0, x1, xf, xl⟩ := kX6.two); (obtain ⟨y0, y1, yf, yl⟩ := kY6.two))))
          refine wp_named (fun V => V.ownsMap Try.prog 3 (plainElem Try.prog 3) (P + 2) N D ∧ Blk V P 24 #[.int .i64 r, .int .i64 g, .int .i64 mg, .int .i64 xg, .int .i64 y, .int .i64 rd, .int .i64 wk, .int .i64 cl] ∧ Blk V (P + 1) 27 #[.int .i64 3, .int .i64 t'] ∧ RowKit.Below w.heap.size w V) ⟨own6.kept ((grownBy_set _ (P + 1) 0 _).trans (grownBy_set _ (P + 1) 1 _)) (by simp), (kP6.far (by simp) _).far (by simp) _, (kX6.set 0 _).set 1 _, (by repeat (first | (with_reducible refine Below.setCell ?_ ?_ _) | (with_reducible refine Below.alloc ?_ ?_ _) | (with_reducible refine Below.drew ?_) | (with_reducible refine below_drewN ?_ _) | (with_reducible exact Below.refl _ _) | (with_reducible refine Below.trans ?_ (Below.mono hbL ?_)) | (with_reducible refine Below.trans ?_ (Below.mono be ?_)) | (focus (simp; done)) | (focus (simp; omega)) | (focus omega) | (focus (have q0 := Below.size hbL; (try simp at q0); have q1 := Below.size be; (try simp at q1); (try simp); omega))))⟩ ?_
          clear kP kX kP4 kP5 kP6 kX4 kX5 kX6 kY5 kY6 own own4 own5 own6 be hbL f0 f1 f2 f3 f4 f5 f6 f7 fl x0 x1 xl xf y0 y1 yf yl
          rintro V ⟨own7, kP7, kX7, be7⟩
          obtain ⟨x0, x1, xf, xl⟩ := kX7.two
          go_wp2_with (first | (at_lookup; refine wpList_lookup_own_int _ rfl _ _ 35 rfl 3 3 .i64 lawI Try.underlying35 Try.underlying3 (zeroI _) (P + 2) N D rfl own7 (.int .i64 3) (.int .i64 3) rfl (keyOf_int_mk Try.underlying3 (by decide)) ?_; intro cc hat hwc; (obtain rfl : C = cc := by have h := HCN.out.k3.symm.trans hat; injection h with h; injection h); clear hat hwc) | (at_mapUpdate; refine wpList_mapUpdate_own _ rfl _ _ _ 35 rfl 3 3 lawI Try.underlying35 _ (P + 2) N D rfl own7 (by unfold maxLen; omega) (.int .i64 3) (.int .i64 (C + 1)) (.int .i64 3) rfl rfl (keyOf_int_mk Try.underlying3 (by decide)) _ [] (plainElem_int Try.underlying3 (wf_i64_of (by omega) (by omega))) ?_; intro w8 own8 gr8))
          go_roundw
          case rel => exact ⟨i + 1, 3, t', G, Y, C + 1, Z, N + 1, _, by go_num, by omega, HST2.out, cnt_3 HCN.out, by omega, by omega, by omega, own8, kP7.grown gr8 (by omega), kX7.grown gr8 (by omega), be7.grown gr8 be7.size (fun k hk => by injection hk with hk; omega)⟩
          case measure => simp [intOf]; omega
        · clear HCASE
          have HST2 := Lib.hid hst2
          clear hst2
          go_upto_region 17 with (first | (go_at_call 14; (with_reducible refine (walk_c 3 t HW1 _ hp).mono ?_); rintro e w4 ⟨rfl, hb4⟩; ((have own4 := own.kept (hb4.grown_any none) (by simp)); (have hbL : RowKit.Below wr.heap.size wr w4 := hb4); (have kP4 := kP.below hb4 kP.lt); (have kX4 := kX.below hb4 kX.lt); clear f0 f1 f2 f3 f4 f5 f6 f7 fl x0 x1 xl xf; (obtain ⟨f0, f1, f2, f3, f4, f5, f6, f7, fl⟩ := kP4.eightF); (obtain ⟨x0, x1, xf, xl⟩ := kX4.two))) | (go_at_call 11; (with_reducible refine (step_c HS _ hp hxl).mono ?_); rintro e w5 ⟨rfl, hb5⟩; ((have own5 := (own4.kept (hb5.grown_any none) (by simp)).alloc (.cells #[.int .i64 0, .int .i64 t'] 27)); (have hbL : RowKit.Below wr.heap.size wr (w5.alloc (.cells #[.int .i64 0, .int .i64 t'] 27)) := (by repeat (first | (with_reducible refine Below.setCell ?_ ?_ _) | (with_reducible refine Below.alloc ?_ ?_ _) | (with_reducible refine Below.drew ?_) | (with_reducible refine below_drewN ?_ _) | (with_reducible exact Below.refl _ _) | (with_reducible refine Below.trans ?_ (Below.mono hb5 ?_)) | (with_reducible refine Below.trans ?_ (Below.mono hbL ?_)) | (focus (simp; done)) | (focus (simp; omega)) | (focus omega) | (focus (have q0 := Below.size hb5; (try simp at q0); have q1 := Below.size hbL; (try simp at q1); (try simp); omega))))); (have kP5 := (kP4.below hb5 fl).alloc (.cells #[.int .i64 0, .int .i64 t'] 27)); (have kX5 := (kX4.below hb5 xl).alloc (.cells #[.int .i64 0, .int .i64 t'] 27)); (have kY5 := Blk.new w5 27 #[.int .i64 0, .int .i64 t']); clear f0 f1 f2 f3 f4 f5 f6 f7 fl x0 x1 xl xf; (obtain ⟨f0, f1, f2, f3, f4, f5, f6, f7, fl⟩ := kP5.eightF); (obtain ⟨x0, x1, xf, xl⟩ := kX5.two); (obtain ⟨y0, y1, yf, yl⟩ := kY5.two))) | (go_at_call 15; (with_reducible refine (valid_T HXL2 _).mono ?_); rintro e w6 ⟨rfl, hb6⟩; ((have own6 := own5.kept (hb6.grown_any none) (by simp)); (have hbL := hbL.trans (hb6.mono hbL.size)); (have kP6 := kP5.below hb6 fl); (have kX6 := kX5.below hb6 xl); (have kY6 := kY5.below hb6 yl); clear f0 f1 f2 f3 f4 f5 f6 f7 fl x0 x1 xl xf y0 y1 yf yl; (obtain ⟨f0, f1, f2, f3, f4, f5, f6, f7, fl⟩ := kP6.eightF); (obtain ⟨x0, x1, xf, xl⟩ := kX6.two); (obtain ⟨y0, y1, yf, yl⟩ := kY6.two))))
          refine wp_named (fun V => V.ownsMap Try.prog 3 (plainElem Try.prog 3) (P + 2) N D ∧ Blk V P 24 #[.int .i64 r, .int .i64 g, .int .i64 mg, .int .i64 xg, .int .i64 y, .int .i64 rd, .int .i64 wk, .int .i64 cl] ∧ Blk V (P + 1) 27 #[.int .i64 0, .int .i64 t'] ∧ RowKit.Below w.heap.size w V) ⟨own6.kept ((grownBy_set _ (P + 1) 0 _).trans (grownBy_set _ (P + 1) 1 _)) (by simp), (kP6.far (by simp) _).far (by simp) _, (kX6.set 0 _).set 1 _, (by repeat (first | (with_reducible refine Below.setCell ?_ ?_ _) | (with_reducible refine Below.alloc ?_ ?_ _) | (with_reducible refine Below.drew ?_) | (with_reducible refine below_drewN ?_ _) | (with_reducible exact Below.refl _ _) | (with_reducible refine Below.trans ?_ (Below.mono hbL ?_)) | (with_reducible refine Below.trans ?_ (Below.mono be ?_)) | (focus (simp; done)) | (focus (simp; omega)) | (focus omega) | (focus (have q0 := Below.size hbL; (try simp at q0); have q1 := Below.size be; (try simp at q1); (try simp); omega))))⟩ ?_
          clear kP kX kP4 kP5 kP6 kX4 kX5 kX6 kY5 kY6 own own4 own5 own6 be hbL f0 f1 f2 f3 f4 f5 f6 f7 fl x0 x1 xl xf y0 y1 yf yl
          rintro V ⟨own7, kP7, kX7, be7⟩
          obtain ⟨x0, x1, xf, xl⟩ := kX7.two
          go_wp2_with (first | (at_lookup; refine wpList_lookup_own_int _ rfl _ _ 35 rfl 3 3 .i64 lawI Try.underlying35 Try.underlying3 (zeroI _) (P + 2) N D rfl own7 (.int .i64 0) (.int .i64 0) rfl (keyOf_int_mk Try.underlying3 (by decide)) ?_; intro cc hat hwc; (obtain rfl : Z = cc := by have h := HCN.out.k0.symm.trans hat; injection h with h; injection h); clear hat hwc) | (at_mapUpdate; refine wpList_mapUpdate_own _ rfl _ _ _ 35 rfl 3 3 lawI Try.underlying35 _ (P + 2) N D rfl own7 (by unfold maxLen; omega) (.int .i64 0) (.int .i64 (Z + 1)) (.int .i64 0) rfl rfl (keyOf_int_mk Try.underlying3 (by decide)) _ [] (plainElem_int Try.underlying3 (wf_i64_of (by omega) (by omega))) ?_; intro w8 own8 gr8))
          go_roundw
          case rel => exact ⟨i + 1, 0, t', G, Y, C, Z + 1, N + 1, _, by go_num, by omega, HST2.out, cnt_0 HCN.out, by omega, by omega, by omega, own8, kP7.grown gr8 (by omega), kX7.grown gr8 (by omega), be7.grown gr8 be7.size (fun k hk => by injection hk with hk; omega)⟩
          case measure => simp [intOf]; omega
end Go.Proofs.Ytgcjnkdiggbfeaa
