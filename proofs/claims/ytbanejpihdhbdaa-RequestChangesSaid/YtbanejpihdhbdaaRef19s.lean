/- signalbrokerref19.Submit -/
import Derived.Test.YtbanejpihdhbdaaRef19f
import Derived.Test.YtbanejpihdhbdaaReg
import Derived.Test.YtbanejpihdhbdaaApr
import Derived.Deep.CutBlock
namespace Go.Proofs.Ytbanejpihdhbdaa
set_option linter.unusedVariables false
open Go.RowKit Go.Sort
set_option maxRecDepth 100000

def insM (l : List Rk) (r : Rk) : List Rk :=
  l.take (l.findIdx fun y => !decide (y.1 < r.1)) ++ [r] ++ l.drop (l.findIdx fun y => !decide (y.1 < r.1))
open Classical in
noncomputable def subM (l : List Rk) (q id vid vcls life : Int) (x : List Lg) (now : Int) : Int × List Rk :=
  if ¬ (RqsOk l q ∧ (0 ≤ vid ∧ vid ≤ 4294967295) ∧ (0 ≤ vcls ∧ vcls ≤ 3) ∧ (0 ≤ now ∧ now ≤ 1073741824)) then (1, [])
  else if ¬ ((0 ≤ id ∧ id ≤ 4294967295) ∧ (1 ≤ life ∧ life ≤ 600) ∧ LegsOk x) then (8, [])
  else if (findM l id).isSome = true then (11, [])
  else if q ≤ (l.length : Int) ∨ 4 ≤ l.length then (14, [])
  else (0, insM l (id, vid, vcls, now + life, x))
theorem insM_at {l : List Rq} {r : Rk} {i : Nat} (hi : i ≤ l.length) (hb : ∀ k (hk : k < l.length), k < i → l[k].id < r.1) (he : ∀ h : i < l.length, ¬ l[i].id < r.1) :
    insM (l.map Rq.key) r = (l.take i).map Rq.key ++ [r] ++ (l.drop i).map Rq.key := by
  have e : (l.map Rq.key).findIdx (fun y => !decide (y.1 < r.1)) = i := by
    by_cases h : i < l.length
    · rw [List.findIdx_eq (by simpa using h)]
      refine ⟨by have := he h; simpa [Rq.key] using this, fun j hj => ?_⟩
      have := hb j (by omega) hj
      simpa [Rq.key] using decide_eq_true this
    · obtain rfl : i = l.length := by omega
      rw [show l.length = (l.map Rq.key).length by simp, List.findIdx_eq_length]
      intro x hx
      simp only [List.mem_map] at hx
      obtain ⟨y, hy, rfl⟩ := hx
      obtain ⟨k, hk, rfl⟩ := List.mem_iff_getElem.1 hy
      have := hb k hk hk
      show (!decide (l[k].id < r.1)) = false
      rw [decide_eq_true this]
      rfl
  unfold insM
  rw [e, List.map_take, List.map_drop]
def SubR (l : List Rk) (q id vid vcls life : Int) (x : List Lg) (now : Int) (w : World) (e : Ending) (w' : World) : Prop :=
  ∃ (xa : Option Addr) (n xc : Nat) (l2 : List Rq) (er : Int), e = .returned (.tuple #[.slice xa n xc, .int .i64 er]) ∧ Hid (subM l q id vid vcls life x now = (er, l2.map Rq.key)) ∧ Hid (n = l2.length) ∧ RqL w' w.heap.size l2 xa xc ∧ Below w.heap.size w w'
theorem SubR.err {l : List Rk} {q id vid vcls life : Int} {x : List Lg} {now : Int} {w w' : World} {er : Int} (h : subM l q id vid vcls life x now = (er, [])) (hb : Below w.heap.size w w') :
    SubR l q id vid vcls life x now w (.returned (.tuple #[.slice none 0 0, .int .i64 er])) w' := ⟨none, 0, 0, [], er, rfl, Lib.hid h, Lib.hid rfl, RqL.nil _ _, hb⟩
section
variable {l : List Rk} {q id vid vcls life : Int} {x : List Lg} {now : Int}
theorem subM_1 (h : ¬ (RqsOk l q ∧ (0 ≤ vid ∧ vid ≤ 4294967295) ∧ (0 ≤ vcls ∧ vcls ≤ 3) ∧ (0 ≤ now ∧ now ≤ 1073741824))) : subM l q id vid vcls life x now = (1, []) := by
  unfold subM; rw [if_pos h]
theorem subM_8 (h : RqsOk l q ∧ (0 ≤ vid ∧ vid ≤ 4294967295) ∧ (0 ≤ vcls ∧ vcls ≤ 3) ∧ (0 ≤ now ∧ now ≤ 1073741824)) (h2 : ¬ ((0 ≤ id ∧ id ≤ 4294967295) ∧ (1 ≤ life ∧ life ≤ 600) ∧ LegsOk x)) : subM l q id vid vcls life x now = (8, []) := by
  unfold subM; rw [if_neg (not_not_intro h), if_pos h2]
theorem subM_more (h : RqsOk l q ∧ (0 ≤ vid ∧ vid ≤ 4294967295) ∧ (0 ≤ vcls ∧ vcls ≤ 3) ∧ (0 ≤ now ∧ now ≤ 1073741824)) (h2 : (0 ≤ id ∧ id ≤ 4294967295) ∧ (1 ≤ life ∧ life ≤ 600) ∧ LegsOk x) :
    subM l q id vid vcls life x now = if (findM l id).isSome = true then (11, []) else if q ≤ (l.length : Int) ∨ 4 ≤ l.length then (14, []) else (0, insM l (id, vid, vcls, now + life, x)) := by
  unfold subM; rw [if_neg (not_not_intro h), if_neg (not_not_intro h2)]
end
theorem obl_appRq {ρ : Operand → Value} {R : Value → World → Prop} {w : World} {dst : Option Tmp} {s x : Operand} {ty : TypeId} {pos : String} {after : Array Edge} {guard : Option (Nat × Bool)}
    (base : Nat) (b : Option Addr) (n cap : Nat) (l : List Value) (hs : ρ s = .slice b n cap) (A : Option Addr) (m c : Nat) (k : List Value) (hx : ρ x = .slice A m c)
    (own : Own w base 45 5 b n cap l) (hr : Row w A k) (hk1 : ∀ u ∈ k, u.oneCell' = true) (hm : k.length = m * 5) (N : Nat) (hN : N = n + m) (hbig : N ≤ 100000000) (hbase : base ≤ w.heap.size)
    (h : ∀ b' cap' w', Own w' base 45 5 b' N cap' (l ++ k) → Grew base w w' b b' → R (.slice b' N cap') w') :
    oblUpon Try.prog R ((execOp ρ { dst, op := .call { callee := .builtin .append, args := #[s, x], argTypes := #[27, 27] }, type := ty, pos, after, guard }).run Try.prog w) := by
  obtain ⟨i0, hi, hz0, hz1, hz2⟩ := info_parts info_req
  obtain ⟨b', cap', w', hrun, own', g⟩ := run_append_row (P := Try.prog) w base 27 ty _ i0 _ 5 56 Try.underlying27 hi hz0 hz1 hz2 rfl (by decide) b n cap _ own A m c k hm hr hk1 (by simp only [maxLen]; omega) (by omega) hbase
  simp only [execOp, resolve, invoke, builtin, Sem.run_bind, Sem.run_pure, Result.andThen_ok, List.map_toArray, List.map_cons, List.map_nil, hs, hx, hrun]
  rw [← hN] at own' ⊢
  exact h b' cap' w' own' g
def RqLt (l : List Rq) (a : Option Addr) (b1 : Nat) : Prop := (∀ x, a.map (·.block) = some x → x < b1) ∧ ∀ r ∈ l, ∀ x, r.a.map (·.block) = some x → x < b1
theorem RqL.rlt {W : World} {B : Nat} {l : List Rq} {xa : Option Addr} {xc : Nat} (h : RqL W B l xa xc) : RqLt l xa W.heap.size := ⟨h.own.lt', fun r hr => (h.legs r hr).lt'⟩
theorem RqL.keepIn {W W' : World} {B b1 : Nat} {l : List Rq} {xa : Option Addr} {xc : Nat} (h : RqL W B l xa xc) (hl : RqLt l xa b1) (hb : ∀ b, B ≤ b → b < b1 → W'.heap[b]? = W.heap[b]?) : RqL W' B l xa xc :=
  ⟨h.own.keep fun b e hB _ => hb b hB (hl.1 b (by rw [e]; rfl)), fun v hv => (h.legs v hv).keep fun b e hB _ => hb b hB (hl.2 v hv b (by rw [e]; rfl)), h.ap⟩
theorem rqCells_take (l : List Rq) (i : Nat) : rqCells (l.take i) = (rqCells l).take (i * 5) := by
  by_cases h : i ≤ l.length
  · have e : l = l.take i ++ l.drop i := (List.take_append_drop i l).symm
    rw [show (rqCells l).take (i * 5) = (rqCells (l.take i ++ l.drop i)).take (i * 5) by rw [← e], rqCells_append, List.take_left' (by rw [rqCells_len]; simp; omega)]
  · rw [List.take_of_length_le (by omega), List.take_of_length_le (by rw [rqCells_len]; omega)]
theorem rqCells_drop (l : List Rq) (i : Nat) : rqCells (l.drop i) = (rqCells l).drop (i * 5) := by
  by_cases h : i ≤ l.length
  · have e : l = l.take i ++ l.drop i := (List.take_append_drop i l).symm
    rw [show (rqCells l).drop (i * 5) = (rqCells (l.take i ++ l.drop i)).drop (i * 5) by rw [← e], rqCells_append, List.drop_left' (by rw [rqCells_len]; simp; omega)]
  · rw [List.drop_of_length_le (by omega), List.drop_of_length_le (by rw [rqCells_len]; omega)]
    rfl
theorem Rqs.take {w : World} {a : Option Addr} {l : List Rq} (h : Rqs w a l) (i : Nat) : Row w a (rqCells (l.take i)) := by
  rw [rqCells_take]
  exact h.row.take _
theorem Rqs.drop {w : World} {b off : Nat} {l : List Rq} (h : Rqs w (some ⟨b, off, none⟩) l) (i : Nat) : Row w (some ⟨b, off + i * 5, none⟩) (rqCells (l.drop i)) := by
  rw [rqCells_drop]
  exact h.row.drop _
set_option maxHeartbeats 8000000 in
theorem ref19_Submit (a : Option Addr) (l : List Rq) (n c : Nat) (q id vid vcls life : Int) (xa : Option Addr) (x : List Lg) (xn xc : Nat) (now : Int) (w : World) (h : Rqs w a l) (hn : n = l.length) (hc : n ≤ c) (hnil : a = none → c = 0) (l9 : n ≤ 10000) (hl : ∀ r ∈ l, r.legs.length ≤ r.c ∧ r.legs.length ≤ 10000)
    (hx : Row w xa (lgCells x)) (hxn : xn = x.length) (hxc : xn ≤ xc) (hx9 : xn ≤ 10000) :
    Calls Try.prog 23 #[.slice a n c, .int .i64 q, .int .i64 id, .agg #[.int .i64 vid, .int .i64 vcls], .int .i64 life, .slice xa xn xc, .int .i64 now] w (SubR (l.map Rq.key) q id vid vcls life x now w) := by
  subst hn hxn
  have hml : (l.map Rq.key).length = l.length := by simp
  have HC := Lib.hid hc
  have HNIL := Lib.hid hnil
  clear hc hnil
  go_enter Try.func23, Try.ntmps23
  go_upto_region 1 with fail
  refine wp_named (fun W => Blk W w.heap.size 34 #[.int .i64 vid, .int .i64 vcls] ∧ Rqs W a l ∧ Row W xa (lgCells x) ∧ RowKit.Below w.heap.size w W ∧ W.heap.size = w.heap.size + 1) ⟨Blk.new _ _ _, h.alloc _, hx.alloc _, (by repeat (first | (with_reducible refine Below.setCell ?_ ?_ _) | (with_reducible refine Below.alloc ?_ ?_ _) | (with_reducible refine Below.drew ?_) | (with_reducible refine below_drewN ?_ _) | (with_reducible exact Below.refl _ _) | (focus (simp; done)) | (focus (simp; omega)) | (focus omega))), by simp⟩ ?_
  obtain ⟨V, hV⟩ : ∃ V, w.heap.size = V := ⟨_, rfl⟩
  rw [hV]
  clear h hx
  rintro W ⟨kv, h, hx, beW, hWs⟩
  have HWS := Lib.hid hWs
  clear hWs
  obtain ⟨v0, v1, vl⟩ : W.cell? ⟨V, 0, none⟩ = _ ∧ W.cell? ⟨V, 1, none⟩ = _ ∧ V < W.heap.size := ⟨kv.cell 0, kv.cell 1, kv.lt⟩
  by_cases hp : RqsOk (l.map Rq.key) q
  · have P0 := Lib.hid hp
    clear hp
    cases hb1 : (decide (0 ≤ vid) && decide (vid ≤ 4294967295)) with
    | false =>
      have B1 := Lib.hid hb1
      have HF : Hid (subM (l.map Rq.key) q id vid vcls life x now = (1, [])) := Lib.hid (subM_1 (fun qq => within_false hb1 qq.2.1))
      clear hb1
      go_wp2_with (first | (go_at_call 27; (with_reducible refine (Says.y (ref19_Valid a l l.length c q _ h rfl (by omega) (fun r hr => ⟨(hl r hr).1, by have := (hl r hr).2; omega⟩)) P0.out).mono ?_); rintro e w1 ⟨rfl, hb1⟩; ((have kv1 := kv.below hb1 vl); clear v0 v1; (obtain ⟨v0, v1, vl1⟩ : w1.cell? ⟨V, 0, none⟩ = _ ∧ w1.cell? ⟨V, 1, none⟩ = _ ∧ V < w1.heap.size := ⟨kv1.cell 0, kv1.cell 1, kv1.lt⟩))) | (go_at_call 52; (with_reducible refine (ref19_withinE B1 _).mono ?_); rintro e wz ⟨rfl, rfl⟩))
      refine bodyPost_ret (v := .tuple #[.slice none 0 0, .int .i64 _]) (by simp [results, Try.results23, go_sem]; rfl) rfl ?_
      exact SubR.err HF.out (by repeat (first | (with_reducible refine Below.setCell ?_ ?_ _) | (with_reducible refine Below.alloc ?_ ?_ _) | (with_reducible refine Below.drew ?_) | (with_reducible refine below_drewN ?_ _) | (with_reducible exact Below.refl _ _) | (with_reducible refine Below.trans ?_ (Below.mono hb1 ?_)) | (with_reducible refine Below.trans ?_ (Below.mono beW ?_)) | (focus (simp; done)) | (focus (simp; omega)) | (focus omega) | (focus (have q0 := Below.size hb1; (try simp at q0); have q1 := Below.size beW; (try simp at q1); (try simp); omega))))
    | true =>
      have B1 := Lib.hid hb1
      clear hb1
      cases hb2 : (decide (0 ≤ vcls) && decide (vcls ≤ 3)) with
      | false =>
        have B2 := Lib.hid hb2
        have HF : Hid (subM (l.map Rq.key) q id vid vcls life x now = (1, [])) := Lib.hid (subM_1 (fun qq => within_false hb2 qq.2.2.1))
        clear hb2
        go_wp2_with (first | (go_at_call 27; (with_reducible refine (Says.y (ref19_Valid a l l.length c q _ h rfl (by omega) (fun r hr => ⟨(hl r hr).1, by have := (hl r hr).2; omega⟩)) P0.out).mono ?_); rintro e w1 ⟨rfl, hb1⟩; ((have kv1 := kv.below hb1 vl); clear v0 v1; (obtain ⟨v0, v1, vl1⟩ : w1.cell? ⟨V, 0, none⟩ = _ ∧ w1.cell? ⟨V, 1, none⟩ = _ ∧ V < w1.heap.size := ⟨kv1.cell 0, kv1.cell 1, kv1.lt⟩))) | (go_at_call 52; (with_reducible refine (ref19_withinE B1 _).mono ?_); rintro e wz ⟨rfl, rfl⟩) | (go_at_call 52; (with_reducible refine (ref19_withinE B2 _).mono ?_); rintro e wz ⟨rfl, rfl⟩))
        refine bodyPost_ret (v := .tuple #[.slice none 0 0, .int .i64 _]) (by simp [results, Try.results23, go_sem]; rfl) rfl ?_
        exact SubR.err HF.out (by repeat (first | (with_reducible refine Below.setCell ?_ ?_ _) | (with_reducible refine Below.alloc ?_ ?_ _) | (with_reducible refine Below.drew ?_) | (with_reducible refine below_drewN ?_ _) | (with_reducible exact Below.refl _ _) | (with_reducible refine Below.trans ?_ (Below.mono hb1 ?_)) | (with_reducible refine Below.trans ?_ (Below.mono beW ?_)) | (focus (simp; done)) | (focus (simp; omega)) | (focus omega) | (focus (have q0 := Below.size hb1; (try simp at q0); have q1 := Below.size beW; (try simp at q1); (try simp); omega))))
      | true =>
        have B2 := Lib.hid hb2
        clear hb2
        cases hb3 : (decide (0 ≤ now) && decide (now ≤ 1073741824)) with
        | false =>
          have B3 := Lib.hid hb3
          have HF : Hid (subM (l.map Rq.key) q id vid vcls life x now = (1, [])) := Lib.hid (subM_1 (fun qq => within_false hb3 qq.2.2.2))
          clear hb3
          go_wp2_with (first | (go_at_call 27; (with_reducible refine (Says.y (ref19_Valid a l l.length c q _ h rfl (by omega) (fun r hr => ⟨(hl r hr).1, by have := (hl r hr).2; omega⟩)) P0.out).mono ?_); rintro e w1 ⟨rfl, hb1⟩; ((have kv1 := kv.below hb1 vl); clear v0 v1; (obtain ⟨v0, v1, vl1⟩ : w1.cell? ⟨V, 0, none⟩ = _ ∧ w1.cell? ⟨V, 1, none⟩ = _ ∧ V < w1.heap.size := ⟨kv1.cell 0, kv1.cell 1, kv1.lt⟩))) | (go_at_call 52; (with_reducible refine (ref19_withinE B1 _).mono ?_); rintro e wz ⟨rfl, rfl⟩) | (go_at_call 52; (with_reducible refine (ref19_withinE B2 _).mono ?_); rintro e wz ⟨rfl, rfl⟩) | (go_at_call 52; (with_reducible refine (ref19_withinE B3 _).mono ?_); rintro e wz ⟨rfl, rfl⟩))
          refine bodyPost_ret (v := .tuple #[.slice none 0 0, .int .i64 _]) (by simp [results, Try.results23, go_sem]; rfl) rfl ?_
          exact SubR.err HF.out (by repeat (first | (with_reducible refine Below.setCell ?_ ?_ _) | (with_reducible refine Below.alloc ?_ ?_ _) | (with_reducible refine Below.drew ?_) | (with_reducible refine below_drewN ?_ _) | (with_reducible exact Below.refl _ _) | (with_reducible refine Below.trans ?_ (Below.mono hb1 ?_)) | (with_reducible refine Below.trans ?_ (Below.mono beW ?_)) | (focus (simp; done)) | (focus (simp; omega)) | (focus omega) | (focus (have q0 := Below.size hb1; (try simp at q0); have q1 := Below.size beW; (try simp at q1); (try simp); omega))))
        | true =>
          have B3 := Lib.hid hb3
          clear hb3
          have H0 : Hid (RqsOk (l.map Rq.key) q ∧ (0 ≤ vid ∧ vid ≤ 4294967295) ∧ (0 ≤ vcls ∧ vcls ≤ 3) ∧ (0 ≤ now ∧ now ≤ 1073741824)) := Lib.hid ⟨P0.out, within_true B1.out, within_true B2.out, within_true B3.out⟩
          go_upto_region 3 with (first | (go_at_call 27; (with_reducible refine (Says.y (ref19_Valid a l l.length c q _ h rfl (by omega) (fun r hr => ⟨(hl r hr).1, by have := (hl r hr).2; omega⟩)) P0.out).mono ?_); rintro e w1 ⟨rfl, hb1⟩; ((have kv1 := kv.below hb1 vl); clear v0 v1; (obtain ⟨v0, v1, vl1⟩ : w1.cell? ⟨V, 0, none⟩ = _ ∧ w1.cell? ⟨V, 1, none⟩ = _ ∧ V < w1.heap.size := ⟨kv1.cell 0, kv1.cell 1, kv1.lt⟩))) | (go_at_call 52; (with_reducible refine (ref19_withinE B1 _).mono ?_); rintro e wz ⟨rfl, rfl⟩) | (go_at_call 52; (with_reducible refine (ref19_withinE B2 _).mono ?_); rintro e wz ⟨rfl, rfl⟩) | (go_at_call 52; (with_reducible refine (ref19_withinE B3 _).mono ?_); rintro e wz ⟨rfl, rfl⟩))
          have beq : RowKit.Below w.heap.size w w1 := (by repeat (first | (with_reducible refine Below.setCell ?_ ?_ _) | (with_reducible refine Below.alloc ?_ ?_ _) | (with_reducible refine Below.drew ?_) | (with_reducible refine below_drewN ?_ _) | (with_reducible exact Below.refl _ _) | (with_reducible refine Below.trans ?_ (Below.mono hb1 ?_)) | (with_reducible refine Below.trans ?_ (Below.mono beW ?_)) | (focus (simp; done)) | (focus (simp; omega)) | (focus omega) | (focus (have q0 := Below.size hb1; (try simp at q0); have q1 := Below.size beW; (try simp at q1); (try simp); omega))))
          have hrq := h.below hb1 (Nat.le_refl _)
          have hxq := hx.below hb1 (Nat.le_refl _)
          have kvq := kv.below hb1 vl
          clear v0 v1 h hx kv hb1 beW
          cases hb4 : (decide (0 ≤ id) && decide (id ≤ 4294967295)) with
          | false =>
            have B4 := Lib.hid hb4
            have HF : Hid (subM (l.map Rq.key) q id vid vcls life x now = (8, [])) := Lib.hid (subM_8 H0.out (fun qq => within_false hb4 qq.1))
            clear hb4
            go_wp2_with (first | (go_at_call 52; (with_reducible refine (ref19_withinE B4 _).mono ?_); rintro e wz ⟨rfl, rfl⟩))
            refine bodyPost_ret (v := .tuple #[.slice none 0 0, .int .i64 _]) (by simp [results, Try.results23, go_sem]; rfl) rfl ?_
            exact SubR.err HF.out (by repeat (first | (with_reducible refine Below.setCell ?_ ?_ _) | (with_reducible refine Below.alloc ?_ ?_ _) | (with_reducible refine Below.drew ?_) | (with_reducible refine below_drewN ?_ _) | (with_reducible exact Below.refl _ _) | (with_reducible refine Below.trans ?_ (Below.mono beq ?_)) | (focus (simp; done)) | (focus (simp; omega)) | (focus omega) | (focus (have q0 := Below.size beq; (try simp at q0); (try simp); omega))))
          | true =>
            have B4 := Lib.hid hb4
            clear hb4
            cases hb5 : (decide (1 ≤ life) && decide (life ≤ 600)) with
            | false =>
              have B5 := Lib.hid hb5
              have HF : Hid (subM (l.map Rq.key) q id vid vcls life x now = (8, [])) := Lib.hid (subM_8 H0.out (fun qq => within_false hb5 qq.2.1))
              clear hb5
              go_wp2_with (first | (go_at_call 52; (with_reducible refine (ref19_withinE B4 _).mono ?_); rintro e wz ⟨rfl, rfl⟩) | (go_at_call 52; (with_reducible refine (ref19_withinE B5 _).mono ?_); rintro e wz ⟨rfl, rfl⟩))
              refine bodyPost_ret (v := .tuple #[.slice none 0 0, .int .i64 _]) (by simp [results, Try.results23, go_sem]; rfl) rfl ?_
              exact SubR.err HF.out (by repeat (first | (with_reducible refine Below.setCell ?_ ?_ _) | (with_reducible refine Below.alloc ?_ ?_ _) | (with_reducible refine Below.drew ?_) | (with_reducible refine below_drewN ?_ _) | (with_reducible exact Below.refl _ _) | (with_reducible refine Below.trans ?_ (Below.mono beq ?_)) | (focus (simp; done)) | (focus (simp; omega)) | (focus omega) | (focus (have q0 := Below.size beq; (try simp at q0); (try simp); omega))))
            | true =>
              have B5 := Lib.hid hb5
              clear hb5
              by_cases hp6 : LegsOk x
              · have P6 := Lib.hid hp6
                have H1 := Lib.hid (subM_more (life := life) H0.out ⟨within_true B4.out, within_true B5.out, hp6⟩)
                have HLIFE := Lib.hid (⟨within_true B5.out, (within_true B3.out)⟩ : (1 ≤ life ∧ life ≤ 600) ∧ 0 ≤ now ∧ now ≤ 1073741824)
                clear hp6
                go_upto_region 6 with (first | (go_at_call 52; (with_reducible refine (ref19_withinE B4 _).mono ?_); rintro e wz ⟨rfl, rfl⟩) | (go_at_call 52; (with_reducible refine (ref19_withinE B5 _).mono ?_); rintro e wz ⟨rfl, rfl⟩) | (go_at_call 53; (with_reducible refine (Says.y (ref19_legs xa x x.length xc _ hxq rfl hxc (by omega)) P6.out).mono ?_); rintro e w2 ⟨rfl, hb2⟩) | (go_at_call 29; (with_reducible refine (ref19_Find a l l.length c id _ (hrq.below hb2 (Nat.le_refl _)) rfl (by omega) (fun r hr => by have := (hl r hr).2; omega)).mono ?_); rintro e w3 ⟨fi, fv, fk, ft, fl, fla, flc, fb, rfl, hfs, -, -, hb3⟩))
                have be3 : RowKit.Below w.heap.size w w3 := (by repeat (first | (with_reducible refine Below.setCell ?_ ?_ _) | (with_reducible refine Below.alloc ?_ ?_ _) | (with_reducible refine Below.drew ?_) | (with_reducible refine below_drewN ?_ _) | (with_reducible exact Below.refl _ _) | (with_reducible refine Below.trans ?_ (Below.mono hb3 ?_)) | (with_reducible refine Below.trans ?_ (Below.mono hb2 ?_)) | (with_reducible refine Below.trans ?_ (Below.mono beq ?_)) | (focus (simp; done)) | (focus (simp; omega)) | (focus omega) | (focus (have q0 := Below.size hb3; (try simp at q0); have q1 := Below.size hb2; (try simp at q1); have q2 := Below.size beq; (try simp at q2); (try simp); omega))))
                refine wp_named (fun Y => Blk Y V 34 #[.int .i64 vid, .int .i64 vcls] ∧ Rqs Y a l ∧ Row Y xa (lgCells x) ∧ RowKit.Below w.heap.size w Y ∧ w.heap.size + 1 ≤ Y.heap.size) ⟨?_, ?_, ?_, (by repeat (first | (with_reducible refine Below.setCell ?_ ?_ _) | (with_reducible refine Below.alloc ?_ ?_ _) | (with_reducible refine Below.drew ?_) | (with_reducible refine below_drewN ?_ _) | (with_reducible exact Below.refl _ _) | (with_reducible refine Below.trans ?_ (Below.mono be3 ?_)) | (focus (simp; done)) | (focus (simp; omega)) | (focus omega) | (focus (have q0 := Below.size be3; (try simp at q0); (try simp); omega)))), ?_⟩ ?_
                · exact ((kvq.below hb2 kvq.lt).below hb3 (kvq.below hb2 kvq.lt).lt).alloc _
                · exact ((hrq.below hb2 (Nat.le_refl _)).below hb3 (Nat.le_refl _)).alloc _
                · exact ((hxq.below hb2 (Nat.le_refl _)).below hb3 (Nat.le_refl _)).alloc _
                · have := kvq.lt; have := hb2.size; have := hb3.size; simp; omega
                clear be3 hb2 hb3 kvq hrq hxq beq
                rintro Y ⟨kv, hr, hx, be, hYs⟩
                cases fb with
                | true =>
                  have HF : Hid (subM (l.map Rq.key) q id vid vcls life x now = (11, [])) := Lib.hid (by rw [H1.out, if_pos hfs.out])
                  go_wp2_with fail
                  refine bodyPost_ret (v := .tuple #[.slice none 0 0, .int .i64 _]) (by simp [results, Try.results23, go_sem]; rfl) rfl ?_
                  exact SubR.err HF.out (by repeat (first | (with_reducible refine Below.setCell ?_ ?_ _) | (with_reducible refine Below.alloc ?_ ?_ _) | (with_reducible refine Below.drew ?_) | (with_reducible refine below_drewN ?_ _) | (with_reducible exact Below.refl _ _) | (with_reducible refine Below.trans ?_ (Below.mono be ?_)) | (focus (simp; done)) | (focus (simp; omega)) | (focus omega) | (focus (have q0 := Below.size be; (try simp at q0); (try simp); omega))))
                | false =>
                  by_cases hfull : q ≤ (l.length : Int) ∨ 4 ≤ l.length
                  · have HF : Hid (subM (l.map Rq.key) q id vid vcls life x now = (14, [])) := Lib.hid (by rw [H1.out, if_neg (by rw [hfs.out]; decide), hml, if_pos hfull])
                    by_cases hq1 : q ≤ (l.length : Int)
                    · clear hfull
                      go_wp2_with fail
                      refine bodyPost_ret (v := .tuple #[.slice none 0 0, .int .i64 _]) (by simp [results, Try.results23, go_sem]; rfl) rfl ?_
                      exact SubR.err HF.out (by repeat (first | (with_reducible refine Below.setCell ?_ ?_ _) | (with_reducible refine Below.alloc ?_ ?_ _) | (with_reducible refine Below.drew ?_) | (with_reducible refine below_drewN ?_ _) | (with_reducible exact Below.refl _ _) | (with_reducible refine Below.trans ?_ (Below.mono be ?_)) | (focus (simp; done)) | (focus (simp; omega)) | (focus omega) | (focus (have q0 := Below.size be; (try simp at q0); (try simp); omega))))
                    · have hq2 : 4 ≤ l.length := hfull.resolve_left hq1
                      have hq3 : decide (4 ≤ l.length) = true := decide_eq_true hq2
                      clear hfull
                      go_wp2_with fail
                      refine bodyPost_ret (v := .tuple #[.slice none 0 0, .int .i64 _]) (by simp [results, Try.results23, go_sem]; rfl) rfl ?_
                      exact SubR.err HF.out (by repeat (first | (with_reducible refine Below.setCell ?_ ?_ _) | (with_reducible refine Below.alloc ?_ ?_ _) | (with_reducible refine Below.drew ?_) | (with_reducible refine below_drewN ?_ _) | (with_reducible exact Below.refl _ _) | (with_reducible refine Below.trans ?_ (Below.mono be ?_)) | (focus (simp; done)) | (focus (simp; omega)) | (focus omega) | (focus (have q0 := Below.size be; (try simp at q0); (try simp); omega))))
                  · have hq1 : (l.length : Int) < q := by omega
                    have hq2 : l.length < 4 := by omega
                    have hq3 : decide (4 ≤ l.length) = false := decide_eq_false (by omega)
                    have HF : Hid (subM (l.map Rq.key) q id vid vcls life x now = (0, insM (l.map Rq.key) (id, vid, vcls, now + life, x))) := Lib.hid (by rw [H1.out, if_neg (by rw [hfs.out]; decide), hml, if_neg hfull])
                    clear hfull
                    have HA := Lib.hid (show 0 < l.length → ∃ b off, a = some ⟨b, off, none⟩ from fun h => hr.open h)
                    go_upto_block 0 with fail
                    go_cut [18] (fun s18 wx => ∃ i : Nat, s18 = .int .i64 i ∧ i ≤ l.length ∧ Hid (∀ k (hk : k < l.length), k < i → l[k].id < id) ∧ Hid (∀ h : i < l.length, ¬ l[i].id < id) ∧ Y = wx)
                    case first =>
                      go_wp2_with fail
                      go_loopw [18] (fun s18 wr => ∃ i : Nat, s18 = .int .i64 i ∧ i ≤ l.length ∧ Hid (∀ k (hk : k < l.length), k < i → l[k].id < id) ∧ Y = wr) (fun s _ => l.length - (intOf s).toNat)
                      case atStart => exact ⟨0, rfl, by omega, Lib.hid fun k _ h => by omega, rfl⟩
                      case round =>
                        obtain ⟨i, rfl, hi, hlo, rfl⟩ := hrel
                        by_cases hlt : i < l.length
                        · obtain ⟨ba, oa, rfl⟩ := HA.out (by omega)
                          obtain ⟨x0, -, -, -, -, xb⟩ := row_req hr.row i hlt
                          obtain ⟨y, hy⟩ : ∃ y, l[i].id = y := ⟨_, rfl⟩
                          rw [hy] at x0
                          have HY := Lib.hid hy
                          clear hy
                          have kx : (i : Int) < (l.length : Int) := by omega
                          by_cases hyi : y < id
                          · go_wp2_with fail
                            go_roundw
                            case rel => exact ⟨i + 1, by go_num, by omega, Lib.hid fun k hk h1 => by
                              by_cases e : k = i
                              · subst e; rw [HY.out]; exact hyi
                              · exact hlo.out k hk (by omega), (by first | rfl | trivial)⟩
                            case measure => simp [intOf]; omega
                          · go_wp2_with fail
                            go_meet
                            exact ⟨i, rfl, hi, hlo, Lib.hid fun h => by rw [HY.out]; exact hyi, rfl⟩
                        · obtain rfl : i = l.length := by omega
                          go_wp2_with fail
                          go_meet
                          exact ⟨l.length, rfl, Nat.le_refl _, hlo, Lib.hid fun h => by omega, rfl⟩
                    case rest =>
                      obtain ⟨i, rfl, hi, hlo, hat, rfl⟩ := hcut
                      have HIN := Lib.hid (insM_at (r := (id, vid, vcls, now + life, x)) hi hlo.out hat.out)
                      obtain ⟨v0, v1, vl⟩ : Y.cell? ⟨V, 0, none⟩ = _ ∧ Y.cell? ⟨V, 1, none⟩ = _ ∧ V < Y.heap.size := ⟨kv.cell 0, kv.cell 1, kv.lt⟩
                      have HT : Hid (IntKind.i64.wrap (now + life) = now + life) := Lib.hid (by have := HLIFE.out; rw [IntKind.wrap_i64]; omega)
                      have ht := HT.out
                      go_upto_region 14 with fail
                      refine wp_named (fun Z => Blk Z Y.heap.size 45 #[.int .i64 id, .int .i64 vid, .int .i64 vcls, .int .i64 (now + life), .slice xa x.length xc] ∧ Rqs Z a l ∧ Row Z xa (lgCells x) ∧ RowKit.Below w.heap.size w Z ∧ w.heap.size ≤ Z.heap.size) ⟨Blk.new _ _ _, hr.alloc _, hx.alloc _, (by repeat (first | (with_reducible refine Below.setCell ?_ ?_ _) | (with_reducible refine Below.alloc ?_ ?_ _) | (with_reducible refine Below.drew ?_) | (with_reducible refine below_drewN ?_ _) | (with_reducible exact Below.refl _ _) | (with_reducible refine Below.trans ?_ (Below.mono be ?_)) | (focus (simp; done)) | (focus (simp; omega)) | (focus omega) | (focus (have q0 := Below.size be; (try simp at q0); (try simp); omega)))), by have := be.size; simp; omega⟩ ?_
                      obtain ⟨T, hT⟩ : ∃ T, Y.heap.size = T := ⟨_, rfl⟩
                      rw [hT]
                      clear hT v0 v1 vl kv hr hx be hYs
                      rintro Z ⟨kT, hr, hxl, be, hwZ⟩
                      obtain ⟨ra, hra⟩ : ∃ ra, (if c = i then a else Option.map (fun x => x.add (i * 5)) a) = ra := ⟨_, rfl⟩
                      have HD : Hid (∀ Z', Rqs Z' a l → Row Z' ra (rqCells (l.drop i))) := Lib.hid (by
                        intro Z' h'
                        by_cases hlt : i < l.length
                        · obtain ⟨ba, oa, rfl⟩ := HA.out (by omega)
                          have hne : c ≠ i := by have := HC.out; omega
                          rw [if_neg hne] at hra
                          subst hra
                          have hd := h'.drop i
                          simp only [Option.map, Addr.add]
                          by_cases h0 : i * 5 = 0
                          · rw [h0] at hd
                            simpa [h0] using hd
                          · simpa [h0] using hd
                        · rw [List.drop_of_length_le (by omega)]
                          exact .inl rfl)
                      have hic : i ≤ c := Nat.le_trans hi HC.out
                      have hlc : l.length ≤ c := HC.out
                      have hicZ : (i : Int) ≤ (c : Int) := by omega
                      have hilZ : (i : Int) ≤ (l.length : Int) := by omega
                      apply wp_region_tab [] 14 107 [some 95, some 96, some 97, some 98, some 99, some 100, some 101, some 102, some 103, some 104, some 105, some 106, some 14, some 15] [⟨[], [], [], []⟩, ⟨[], [], [], []⟩, ⟨[0, 1], [0, 1], [0, 1], []⟩, ⟨[0, 1, 2], [2], [2], []⟩, ⟨[], [], [], []⟩, ⟨[4], [4], [4], []⟩, ⟨[0, 1, 2, 3, 4, 5], [3, 5], [3, 5], [3]⟩, ⟨[], [], [], []⟩, ⟨[], [], [], []⟩, ⟨[7, 8], [7, 8], [7, 8], []⟩, ⟨[0, 1, 2, 3, 4, 5, 6, 7, 8, 9], [3, 6, 9], [6, 9], [3, 6]⟩, ⟨[0, 1, 2, 3, 4, 5, 6, 7, 8, 9, 10], [3, 6, 10], [10], []⟩, ⟨[0, 1, 2, 3, 4, 5, 6, 7, 8, 9, 10, 11], [11], [11], []⟩, ⟨[0, 1, 2, 3, 4, 5, 6, 7, 8, 9, 10, 11, 12], [], [], []⟩] [0, 1, 2, 3, 4, 5, 6, 7, 8, 9, 10, 11, 12, 13] [11, 12] [psiTrue, psiTrue, psiTrue, (fun f lo hi v b0 b1 W => ∃ a c, v = .slice a i c ∧ Own W b0 45 5 a i c (rqCells (l.take i)) ∧ ∀ x, a.map (·.block) = some x → x < b1), psiTrue, (fun f lo hi v b0 b1 W => ∃ b, v = .slice (some ⟨b, 0, none⟩) 1 1 ∧ b0 ≤ b ∧ b < b1 ∧ Blk W b 45 #[.int .i64 id, .int .i64 vid, .int .i64 vcls, .int .i64 (now + life), .slice xa x.length xc]), (fun f lo hi v b0 b1 W => ∃ a c, v = .slice a (i + 1) c ∧ Own W 0 45 5 a (i + 1) c (rqCells (l.take i ++ [⟨id, vid, vcls, now + life, x, xa, xc⟩])) ∧ ∀ x, a.map (·.block) = some x → (lo (3) ≤ x ∧ x < hi (3)) ∨ (b0 ≤ x ∧ x < b1)), psiTrue, psiTrue, psiTrue, (fun f lo hi v b0 b1 W => ∃ a c, v = .slice a (l.length + 1) c ∧ Own W 0 45 5 a (l.length + 1) c (rqCells (l.take i ++ [⟨id, vid, vcls, now + life, x, xa, xc⟩] ++ l.drop i)) ∧ ∀ x, a.map (·.block) = some x → (lo (3) ≤ x ∧ x < hi (3)) ∨ (lo (6) ≤ x ∧ x < hi (6)) ∨ (b0 ≤ x ∧ x < b1)), (fun f lo hi v b0 b1 W => ∃ a c l2, v = .slice a (l.length + 1) c ∧ l2.map Rq.key = (l.take i ++ [(⟨id, vid, vcls, now + life, x, xa, xc⟩ : Rq)] ++ l.drop i).map Rq.key ∧ l.length + 1 = l2.length ∧ RqL W b0 l2 a c ∧ RqLt l2 a b1), (fun f lo hi v b0 b1 W => v = f 11), psiTrue] [kVal _, kVal _, kVal _, kTrue, kVal _, kTrue, kTrue, kVal _, kVal _, kVal _, kTrue, kTrue, kTrue, kVal _]
                      · kernel_rfl
                      · kernel_rfl
                      · rfl
                      · rfl
                      · exact trivial
                      · exact trivial
                      refine ⟨?oR1_0, ?oR1_1, ?oR1_2, ?oR1_3, ?oR1_4, ?oR1_5, ?oR1_6, ?oR1_7, ?oR1_8, ?oR1_9, ?oR1_10, ?oR1_11, ?oR1_12, ?oR1_13, trivial⟩
                      case oR1_0 => intro f lo hi w hb hx hf hk hrg R hR; (try replace hb := BelX.zero hb); (try simp (decide := true) only [go_sem] at hf); (try simp (decide := true) only [go_sem] at hk); go_simp; exact hR _ _ (rpost_val rfl rfl (Below.refl _ _) rfl)
                      case oR1_1 => intro f lo hi w hb hx hf hk hrg R hR; (try replace hb := BelX.zero hb); (try simp (decide := true) only [go_sem] at hf); (try simp (decide := true) only [go_sem] at hk); go_simp; exact hR _ _ (rpost_val rfl rfl (Below.refl _ _) rfl)
                      case oR1_2 => intro f lo hi w hb hx hf hk hrg R hR; (try replace hb := BelX.zero hb); (try simp (decide := true) only [go_sem] at hf); (try simp (decide := true) only [go_sem] at hk); go_simp; exact hR _ _ (rpost_val rfl rfl (Below.refl _ _) rfl)
                      case oR1_3 =>
                        intro f lo hi w hb hx hf hk hrg R hR; (try replace hb := BelX.zero hb); (try simp (decide := true) only [go_sem] at hf); (try simp (decide := true) only [go_sem] at hk)
                        have hrw := hr.below hb (Nat.le_refl _)
                        refine obl_appRq w.heap.size none 0 0 [] rfl a i c (rqCells (l.take i)) ?_ (Own.nil _ _ _ _) (hrw.take i) (rqCells_one _) (by rw [rqCells_len]; simp; omega) i (by omega) (by omega) (Nat.le_refl _) ?_
                        · go_simp
                        intro b2 c2 w2 own2 g2
                        refine hR _ _ (rpost_none rfl g2.below0 ?_)
                        (try simp (decide := true) only [go_sem])
                        exact ⟨_, _, rfl, own2, own2.lt'⟩
                      case oR1_4 =>
                        intro f lo hi w hb hx hf hk hrg R hR; (try replace hb := BelX.zero hb); (try simp (decide := true) only [go_sem] at hf); (try simp (decide := true) only [go_sem] at hk)
                        have kk := kT.below hb kT.lt
                        obtain ⟨c0, c1, c2, c3, c4, -, hl⟩ := kk.five
                        go_simp
                        exact hR _ _ (rpost_val rfl rfl (Below.refl _ _) rfl)
                      case oR1_5 =>
                        intro f lo hi w hb hx hf hk hrg R hR; (try replace hb := BelX.zero hb); (try simp (decide := true) only [go_sem] at hf); (try simp (decide := true) only [go_sem] at hk)
                        go_simp
                        refine hR _ _ (rpost_none rfl (by repeat (first | (with_reducible refine Below.setCell ?_ ?_ _) | (with_reducible refine Below.alloc ?_ ?_ _) | (with_reducible refine Below.drew ?_) | (with_reducible refine below_drewN ?_ _) | (with_reducible exact Below.refl _ _) | (focus (simp; done)) | (focus (simp; omega)) | (focus omega))) ?_)
                        (try simp (decide := true) only [go_sem])
                        exact ⟨_, rfl, Nat.le_refl _, by simp, Blk.new _ _ _⟩
                      case oR1_6 =>
                        intro f lo hi w hb hx hf hk hrg R hR; (try replace hb := BelX.zero hb); (try simp (decide := true) only [go_sem] at hf); (try simp (decide := true) only [go_sem] at hk)
                        obtain ⟨⟨a3, c3, h3, own3, lt3⟩, b6, h6, h6a, h6b, k6⟩ := hf
                        have r6 : Row w (some ⟨b6, 0, none⟩) (Rq.cells ⟨id, vid, vcls, now + life, x, xa, xc⟩) := .inr ⟨b6, 0, rfl, k6.lt, fun i hi => by
                          rw [Nat.zero_add, k6.cell]
                          have : i = 0 ∨ i = 1 ∨ i = 2 ∨ i = 3 ∨ i = 4 := by simp [Rq.cells] at hi; omega
                          rcases this with rfl | rfl | rfl | rfl | rfl <;> rfl⟩
                        refine obl_appRq (lo 3) a3 i c3 (rqCells (l.take i)) ?_ (some ⟨b6, 0, none⟩) 1 1 (Rq.cells ⟨id, vid, vcls, now + life, x, xa, xc⟩) ?_ own3 r6 (by simp [Rq.cells, Value.oneCell']) rfl (i + 1) rfl (by omega) (by have := hrg.out 3 (by simp); omega) ?_
                        · go_simp
                        · go_simp
                        intro b2 c2 w2 own2 g2
                        refine hR _ _ (rpost_some rfl rfl (g2.touch fun x hx => ⟨3, by simp, (own3.base_le x hx), lt3 x hx⟩) ?_)
                        (try simp (decide := true) only [go_sem])
                        refine ⟨_, _, rfl, by rw [rqCells_append]; simpa [rqCells] using own2.mono (Nat.zero_le _), fun x hx => ?_⟩
                        rcases g2.2.1 with e | e
                        · exact .inl ⟨own3.base_le x (e ▸ hx), lt3 x (e ▸ hx)⟩
                        · rw [e] at hx
                          exact .inr ⟨by injection hx with hx; omega, own2.lt' x (e ▸ hx)⟩
                      case oR1_7 => intro f lo hi w hb hx hf hk hrg R hR; (try replace hb := BelX.zero hb); (try simp (decide := true) only [go_sem] at hf); (try simp (decide := true) only [go_sem] at hk); go_simp; exact hR _ _ (rpost_val rfl rfl (Below.refl _ _) rfl)
                      case oR1_8 => intro f lo hi w hb hx hf hk hrg R hR; (try replace hb := BelX.zero hb); (try simp (decide := true) only [go_sem] at hf); (try simp (decide := true) only [go_sem] at hk); go_simp; exact hR _ _ (rpost_val rfl rfl (Below.refl _ _) rfl)
                      case oR1_9 => intro f lo hi w hb hx hf hk hrg R hR; (try replace hb := BelX.zero hb); (try simp (decide := true) only [go_sem] at hf); (try simp (decide := true) only [go_sem] at hk); go_simp; exact hR _ _ (rpost_val rfl rfl (Below.refl _ _) rfl)
                      case oR1_10 =>
                        intro f lo hi w hb hx hf hk hrg R hR; (try replace hb := BelX.zero hb); (try simp (decide := true) only [go_sem] at hf); (try simp (decide := true) only [go_sem] at hk)
                        obtain ⟨a7, c7, h7, own7, lt7⟩ := hf
                        have hrw := hr.below hb (Nat.le_refl _)
                        refine obl_appRq 0 a7 (i + 1) c7 (rqCells (l.take i ++ [⟨id, vid, vcls, now + life, x, xa, xc⟩])) ?_ ra (l.length - i) (c - i) (rqCells (l.drop i)) ?_ own7 (HD.out _ hrw) (rqCells_one _) (by rw [rqCells_len]; simp) (l.length + 1) (by omega) (by omega) (Nat.zero_le _) ?_
                        · go_simp
                        · go_simp
                        intro b2 c2 w2 own2 g2
                        refine hR _ _ (rpost_some rfl rfl (g2.touch fun x hx => (lt7 x hx).elim (fun h => ⟨3, by simp, h⟩) fun h => ⟨6, by simp, h⟩) ?_)
                        (try simp (decide := true) only [go_sem])
                        refine ⟨_, _, rfl, by rw [rqCells_append]; exact own2, fun x hx => ?_⟩
                        rcases g2.2.1 with e | e
                        · exact (lt7 x (e ▸ hx)).elim (fun h => .inl h) fun h => .inr (.inl h)
                        · rw [e] at hx
                          exact .inr (.inr ⟨by injection hx with hx; omega, own2.lt' x (e ▸ hx)⟩)
                      case oR1_11 =>
                        intro f lo hi w hb hx hf hk hrg R hR; (try replace hb := BelX.zero hb); (try simp (decide := true) only [go_sem] at hf); (try simp (decide := true) only [go_sem] at hk)
                        obtain ⟨a7, c7, h7, own7, lt7⟩ := hf
                        have hrw := hr.below hb (Nat.le_refl _)
                        have hxw := hxl.below hb (Nat.le_refl _)
                        have hq : Rqs w a7 (l.take i ++ [⟨id, vid, vcls, now + life, x, xa, xc⟩] ++ l.drop i) := ⟨own7.row, fun r hr => by
                          rcases List.mem_append.1 hr with hr | hr
                          · rcases List.mem_append.1 hr with hr | hr
                            · exact hrw.legs r (List.mem_of_mem_take hr)
                            · rw [List.mem_singleton.1 hr]; exact hxw
                          · exact hrw.legs r (List.mem_of_mem_drop hr)⟩
                        go_simp
                        (with_reducible refine (ref19_Copy a7 (l.take i ++ [⟨id, vid, vcls, now + life, x, xa, xc⟩] ++ l.drop i) (l.length + 1) c7 w hq (by simp; omega) (by omega) ?_).mono ?_)
                        · intro r hr
                          rcases List.mem_append.1 hr with hr | hr
                          · rcases List.mem_append.1 hr with hr | hr
                            · have := (hl r (List.mem_of_mem_take hr)).2; omega
                            · rw [List.mem_singleton.1 hr]; show x.length ≤ 100000; omega
                          · have := (hl r (List.mem_of_mem_drop hr)).2; omega
                        rintro e w' ⟨x5, c5, l5, rfl, hk5, hn5, il5, hb5⟩
                        refine ⟨_, rfl, hR _ _ (rpost_none rfl hb5 ?_)⟩
                        (try simp (decide := true) only [go_sem])
                        exact ⟨x5, c5, l5, rfl, hk5.out, hn5.out, il5, il5.rlt⟩
                      case oR1_12 =>
                        intro f lo hi w hb hx hf hk hrg R hR; (try replace hb := BelX.zero hb); (try simp (decide := true) only [go_sem] at hf); (try simp (decide := true) only [go_sem] at hk)
                        go_simp
                        refine hR _ _ (rpost_none rfl (Below.refl _ _) ?_)
                        (try simp (decide := true) only [go_sem])
                      case oR1_13 => intro f lo hi w hb hx hf hk hrg R hR; (try replace hb := BelX.zero hb); (try simp (decide := true) only [go_sem] at hf); (try simp (decide := true) only [go_sem] at hk); go_simp; exact hR _ _ (rpost_val rfl rfl (Below.refl _ _) rfl)
                      case hcl =>
                        refine ⟨Closed.true _ _ _ _, Closed.true _ _ _ _, Closed.true _ _ _ _, ?cR1_3, Closed.true _ _ _ _, ?cR1_5, ?cR1_6, Closed.true _ _ _ _, Closed.true _ _ _ _, Closed.true _ _ _ _, ?cR1_10, ?cR1_11, ?cR1_12, Closed.true _ _ _ _, trivial⟩
                        all_goals first | (intro f lo hi v b0 b1 w w' h hs hB hown hU hX; obtain ⟨b, h1, h2, h3, h4⟩ := h; exact ⟨b, h1, h2, h3, (hown b h2 h3).trans h4⟩) | (intro f lo hi v b0 b1 w w' h hs hB hown hU hX; obtain ⟨a, c, h1, own, lt⟩ := h; exact ⟨a, c, h1, own.keep fun b hb hl _ => hown b hl (lt b (by rw [hb]; rfl)), lt⟩) | (intro f lo hi v b0 b1 w w' h hs hB hown hU hX; obtain ⟨a, c, h1, own, lt⟩ := h; exact ⟨a, c, h1, own.keep fun b hb hl _ => (lt b (by rw [hb]; rfl)).elim (fun h => hU 3 (by simp) b h.1 h.2) (fun h => hown b h.1 h.2), lt⟩) | (intro f lo hi v b0 b1 w w' h hs hB hown hU hX; obtain ⟨a, c, h1, own, lt⟩ := h; exact ⟨a, c, h1, own.keep fun b hb hl _ => (lt b (by rw [hb]; rfl)).elim (fun h => hU 3 (by simp) b h.1 h.2) (fun h => h.elim (fun h => hU 6 (by simp) b h.1 h.2) (fun h => hown b h.1 h.2)), lt⟩) | (intro f lo hi v b0 b1 w w' h hs hB hown hU hX; obtain ⟨a, c, l2, h1, h2, h3, h4, h5⟩ := h; exact ⟨a, c, l2, h1, h2, h3, h4.keepIn h5 hown, h5⟩) | (exact fun _ _ _ _ _ _ _ _ h _ _ _ _ _ => h)
                      intro f lo hi W7 hbr hx hf hk hrg; (try replace hbr := BelX.zero hbr); clear hx; (try simp (decide := true) only [go_sem] at hf); (try simp (decide := true) only [go_sem] at hk)
                      obtain ⟨⟨a5, c5, l5, h5, hk5, hn5, il5, lt5⟩, e14⟩ := hf
                      have hr11 := hrg.out 11 (by simp)
                      rw [h5] at e14
                      have HN5 := Lib.hid hn5
                      have HK5 := Lib.hid hk5
                      clear h5 hn5 hk5
                      go_simp
                      clear hk
                      go_wp2_with fail
                      refine bodyPost_ret (v := .tuple #[.slice a5 (l.length + 1) c5, .int .i64 0]) (by simp [results, Try.results23, go_sem]) rfl ?_
                      exact ⟨a5, l.length + 1, c5, l5, 0, rfl, Lib.hid (by rw [HF.out, HIN.out, HK5.out]; simp [Rq.key]), HN5, il5.mono (by omega), (by repeat (first | (with_reducible refine Below.setCell ?_ ?_ _) | (with_reducible refine Below.alloc ?_ ?_ _) | (with_reducible refine Below.drew ?_) | (with_reducible refine below_drewN ?_ _) | (with_reducible exact Below.refl _ _) | (with_reducible refine Below.trans ?_ (Below.mono hbr ?_)) | (with_reducible refine Below.trans ?_ (Below.mono be ?_)) | (focus (simp; done)) | (focus (simp; omega)) | (focus omega) | (focus (have q0 := Below.size hbr; (try simp at q0); have q1 := Below.size be; (try simp at q1); (try simp); omega))))⟩
              · have P6 := Lib.hid hp6
                have HF : Hid (subM (l.map Rq.key) q id vid vcls life x now = (8, [])) := Lib.hid (subM_8 H0.out (fun qq => hp6 qq.2.2))
                clear hp6
                go_wp2_with (first | (go_at_call 52; (with_reducible refine (ref19_withinE B4 _).mono ?_); rintro e wz ⟨rfl, rfl⟩) | (go_at_call 52; (with_reducible refine (ref19_withinE B5 _).mono ?_); rintro e wz ⟨rfl, rfl⟩) | (go_at_call 53; (with_reducible refine (Says.n (ref19_legs xa x x.length xc _ hxq rfl hxc (by omega)) P6.out).mono ?_); rintro e w2 ⟨rfl, hb2⟩))
                refine bodyPost_ret (v := .tuple #[.slice none 0 0, .int .i64 _]) (by simp [results, Try.results23, go_sem]; rfl) rfl ?_
                exact SubR.err HF.out (by repeat (first | (with_reducible refine Below.setCell ?_ ?_ _) | (with_reducible refine Below.alloc ?_ ?_ _) | (with_reducible refine Below.drew ?_) | (with_reducible refine below_drewN ?_ _) | (with_reducible exact Below.refl _ _) | (with_reducible refine Below.trans ?_ (Below.mono hb2 ?_)) | (with_reducible refine Below.trans ?_ (Below.mono beq ?_)) | (focus (simp; done)) | (focus (simp; omega)) | (focus omega) | (focus (have q0 := Below.size hb2; (try simp at q0); have q1 := Below.size beq; (try simp at q1); (try simp); omega))))
  · have P0 := Lib.hid hp
    have HF : Hid (subM (l.map Rq.key) q id vid vcls life x now = (1, [])) := Lib.hid (subM_1 (fun qq => hp qq.1))
    clear hp
    go_wp2_with (first | (go_at_call 27; (with_reducible refine (Says.n (ref19_Valid a l l.length c q _ h rfl (by omega) (fun r hr => ⟨(hl r hr).1, by have := (hl r hr).2; omega⟩)) P0.out).mono ?_); rintro e w1 ⟨rfl, hb1⟩; ((have kv1 := kv.below hb1 vl); clear v0 v1; (obtain ⟨v0, v1, vl1⟩ : w1.cell? ⟨V, 0, none⟩ = _ ∧ w1.cell? ⟨V, 1, none⟩ = _ ∧ V < w1.heap.size := ⟨kv1.cell 0, kv1.cell 1, kv1.lt⟩))))
    refine bodyPost_ret (v := .tuple #[.slice none 0 0, .int .i64 _]) (by simp [results, Try.results23, go_sem]; rfl) rfl ?_
    exact SubR.err HF.out (by repeat (first | (with_reducible refine Below.setCell ?_ ?_ _) | (with_reducible refine Below.alloc ?_ ?_ _) | (with_reducible refine Below.drew ?_) | (with_reducible refine below_drewN ?_ _) | (with_reducible exact Below.refl _ _) | (with_reducible refine Below.trans ?_ (Below.mono hb1 ?_)) | (with_reducible refine Below.trans ?_ (Below.mono beW ?_)) | (focus (simp; done)) | (focus (simp; omega)) | (focus omega) | (focus (have q0 := Below.size hb1; (try simp at q0); have q1 := Below.size beW; (try simp at q1); (try simp); omega))))
end Go.Proofs.Ytbanejpihdhbdaa
