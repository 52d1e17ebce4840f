/- request.Without, Expire, cloneAll, Cancel, Find -/
import Derived.Test.YtbanejpihdhbdaaRqVal2
namespace Go.Proofs.Ytbanejpihdhbdaa
set_option linter.unusedVariables false
open Go.RowKit Go.Sort
set_option maxRecDepth 100000

theorem KeptR.mono {l : List Rk} {p : Rk → Bool} {w w1 w' : World} {e : Ending} (h : KeptR l p w1 e w') (hb : Below w.heap.size w w1) : KeptR l p w e w' := by
  obtain ⟨n, xa, xc, l2, h1, h2, h3, h4, h5⟩ := h
  exact ⟨n, xa, xc, l2, h1, h2, h3, h4.mono hb.size, hb.trans (h5.mono hb.size)⟩
theorem request_Without (a : Option Addr) (l : List Rq) (n c : Nat) (q : Int) (w : World) (h : Rqs w a l) (hn : n = l.length) (l9 : n ≤ 10000) (hl : ∀ r ∈ l, LgOk r) :
    Calls Try.prog 17 #[.slice a n c, .int .i64 q] w (KeptR (l.map Rq.key) (pWithout q) w) := by
  have HN := Lib.hid hn
  clear hn
  go_enter Try.func17, Try.ntmps17
  go_wp2_with ((go_at_call 44; (with_reducible refine (kept_Without a l n c w.heap.size q _ (h.alloc _) HN.out l9 hl (Blk.new _ _ _)).mono ?_); rintro e w2 ⟨m, xa, xc, l2, rfl, hk, hm, il, hb2⟩))
  go_ret
  exact KeptR.mono ⟨m, xa, xc, l2, rfl, hk, hm, il, hb2⟩ (by repeat (first | (with_reducible refine Below.setCell ?_ ?_ _) | (with_reducible refine Below.alloc ?_ ?_ _) | (with_reducible refine Below.drew ?_) | (with_reducible refine below_drewN ?_ _) | (with_reducible exact Below.refl _ _) | (focus (simp; done)) | (focus (simp; omega)) | (focus omega)))
theorem request_Expire (a : Option Addr) (l : List Rq) (n c : Nat) (q : Int) (w : World) (h : Rqs w a l) (hn : n = l.length) (l9 : n ≤ 10000) (hl : ∀ r ∈ l, LgOk r) :
    Calls Try.prog 18 #[.slice a n c, .int .i64 q] w (KeptR (l.map Rq.key) (pExpire q) w) := by
  have HN := Lib.hid hn
  clear hn
  go_enter Try.func18, Try.ntmps18
  go_wp2_with ((go_at_call 44; (with_reducible refine (kept_Expire a l n c w.heap.size q _ (h.alloc _) HN.out l9 hl (Blk.new _ _ _)).mono ?_); rintro e w2 ⟨m, xa, xc, l2, rfl, hk, hm, il, hb2⟩))
  go_ret
  exact KeptR.mono ⟨m, xa, xc, l2, rfl, hk, hm, il, hb2⟩ (by repeat (first | (with_reducible refine Below.setCell ?_ ?_ _) | (with_reducible refine Below.alloc ?_ ?_ _) | (with_reducible refine Below.drew ?_) | (with_reducible refine below_drewN ?_ _) | (with_reducible exact Below.refl _ _) | (focus (simp; done)) | (focus (simp; omega)) | (focus omega)))
theorem request_cloneAll (a : Option Addr) (l : List Rq) (n c : Nat) (w : World) (h : Rqs w a l) (hn : n = l.length) (l9 : n ≤ 10000) (hl : ∀ r ∈ l, LgOk r) :
    Calls Try.prog 43 #[.slice a n c] w (CopyR l n w) := by
  have HN := Lib.hid hn
  clear hn
  have K : Hid (∀ W, Rqs W a l → Calls Try.prog 44 #[.slice a n c, .func (.func 64) #[] #[]] W fun e w' => ∃ (xa : Option Addr) (xc : Nat) (l2 : List Rq), e = .returned (.slice xa n xc) ∧ Hid (l2.map Rq.key = l.map Rq.key) ∧ Hid (n = l2.length) ∧ RqL w' W.heap.size l2 xa xc ∧ Below W.heap.size W w') := Lib.hid fun W h => by
    refine (kept_All a l n c W h HN.out l9 hl).mono ?_
    rintro e w' ⟨m, xa, xc, l2, rfl, hk, hm, il, hb⟩
    have hk2 : l2.map Rq.key = l.map Rq.key := by rw [hk.out]; exact List.filter_eq_self.2 fun _ _ => rfl
    have hm2 : m = n := by
      have := congrArg List.length hk2
      simp at this
      rw [hm.out, this, HN.out]
    subst hm2
    exact ⟨xa, xc, l2, rfl, Lib.hid hk2, hm, il, hb⟩
  go_enter Try.func43, Try.ntmps43
  go_wp2_with ((go_at_call 44; (with_reducible refine (K.out _ h).mono ?_); rintro e w2 ⟨xa, xc, l2, rfl, hk, hm, il, hb2⟩))
  go_ret
  exact ⟨xa, xc, l2, rfl, hk, hm, il, hb2⟩
/-- a list and an error number, made by the call -/
def LE (M : Int × List Rk) (w : World) (e : Ending) (w' : World) : Prop :=
  ∃ (xa : Option Addr) (n xc : Nat) (l2 : List Rq) (er : Int), e = .returned (.tuple #[.slice xa n xc, .int .i64 er]) ∧ Hid (M = (er, l2.map Rq.key)) ∧ Hid (n = l2.length) ∧ RqL w' w.heap.size l2 xa xc ∧ Below w.heap.size w w'
theorem LE.err {M : Int × List Rk} {w w' : World} {er : Int} (h : M = (er, [])) (hb : Below w.heap.size w w') : LE M w (.returned (.tuple #[.slice none 0 0, .int .i64 er])) w' := ⟨none, 0, 0, [], er, rfl, Lib.hid h, Lib.hid rfl, RqL.nil _ _, hb⟩
open Classical in
noncomputable def cancM (l : List Rk) (id : Int) : Int × List Rk :=
  if ¬ RqsOk l 4 then (1, []) else if (findM l id).isSome = false then (12, []) else (0, l.filter (pCancel id))
theorem cancM_1 {l : List Rk} {id : Int} (h : ¬ RqsOk l 4) : cancM l id = (1, []) := by unfold cancM; rw [if_pos h]
theorem cancM_12 {l : List Rk} {id : Int} (h : RqsOk l 4) (h2 : (findM l id).isSome = false) : cancM l id = (12, []) := by unfold cancM; rw [if_neg (not_not_intro h), if_pos h2]
theorem cancM_0 {l : List Rk} {id : Int} (h : RqsOk l 4) (h2 : (findM l id).isSome = true) : cancM l id = (0, l.filter (pCancel id)) := by unfold cancM; rw [if_neg (not_not_intro h), if_neg (by rw [h2]; decide)]
theorem findM_no {l : List Rq} {q : Int} (h : ∀ k, k < l.length → ¬ ∃ h : k < l.length, l[k].id = q) : (findM (l.map Rq.key) q).isSome = false := findM_none.2 fun r hr e => by
  obtain ⟨x, hx, rfl⟩ := List.mem_map.1 hr
  obtain ⟨k, hk, rfl⟩ := List.mem_iff_getElem.1 hx
  exact h k hk ⟨hk, e⟩
theorem findM_at {l : List Rq} {q : Int} {i : Nat} (hP : ∃ h : i < l.length, l[i].id = q) (ho : ∀ k, k < i → ¬ ∃ h : k < l.length, l[k].id = q) : ∃ h : i < l.length, findM (l.map Rq.key) q = some l[i].key := by
  obtain ⟨h, e⟩ := hP
  exact ⟨h, findM_hit h (fun k hk hki ee => ho k hki ⟨hk, ee⟩) e⟩
set_option maxHeartbeats 4000000 in
theorem request_Cancel (a : Option Addr) (l : List Rq) (n c : Nat) (q : Int) (w : World) (h : Rqs w a l) (hn : n = l.length) (l9 : n ≤ 10000) (hl : ∀ r ∈ l, LgOk r ∧ r.legs.length ≤ r.c) :
    Calls Try.prog 13 #[.slice a n c, .int .i64 q] w (LE (cancM (l.map Rq.key) q) w) := by
  have HN := Lib.hid hn
  clear hn
  go_enter Try.func13, Try.ntmps13
  go_upto_region 1 with fail
  refine wp_named (fun W => Blk W w.heap.size 3 #[.int .i64 q] ∧ Rqs W a l ∧ RowKit.Below w.heap.size w W) ⟨Blk.new _ _ _, h.alloc _, (by repeat (first | (with_reducible refine Below.setCell ?_ ?_ _) | (with_reducible refine Below.alloc ?_ ?_ _) | (with_reducible refine Below.drew ?_) | (with_reducible refine below_drewN ?_ _) | (with_reducible exact Below.refl _ _) | (focus (simp; done)) | (focus (simp; omega)) | (focus omega)))⟩ ?_
  obtain ⟨V, hV⟩ : ∃ V, w.heap.size = V := ⟨_, rfl⟩
  rw [hV]
  clear h
  rintro W ⟨kV, h, be⟩
  have vl := kV.lt
  by_cases hp : RqsOk (l.map Rq.key) 4
  · have HP := Lib.hid hp
    clear hp
    go_upto_region 3 with ((go_at_call 12; (with_reducible refine (Says.y (request_Valid a l n c 4 _ h HN.out (by omega) (fun r hr => ⟨(hl r hr).2, by have := (hl r hr).1.1; omega⟩)) HP.out).mono ?_); rintro e w1 ⟨rfl, hb1⟩))
    have k1 := kV.below hb1 vl
    have h1 := h.below hb1 (Nat.le_refl _)
    have be1 : RowKit.Below w.heap.size w w1 := (by repeat (first | (with_reducible refine Below.setCell ?_ ?_ _) | (with_reducible refine Below.alloc ?_ ?_ _) | (with_reducible refine Below.drew ?_) | (with_reducible refine below_drewN ?_ _) | (with_reducible exact Below.refl _ _) | (with_reducible refine Below.trans ?_ (Below.mono hb1 ?_)) | (with_reducible refine Below.trans ?_ (Below.mono be ?_)) | (focus (simp; done)) | (focus (simp; omega)) | (focus omega) | (focus (have q0 := Below.size hb1; (try simp at q0); have q1 := Below.size be; (try simp at q1); (try simp); omega))))
    have v0 := k1.cell 0
    have vl1 := k1.lt
    clear kV h be hb1 vl
    go_upto_if 12 with ((go_at_call 40; (with_reducible refine (request_index a l n c q _ h1 HN.out l9).mono ?_); rintro e w2 ⟨r, rfl, hr, hb2⟩))
    have k2 := k1.below hb2 vl1
    have h2 := h1.below hb2 (Nat.le_refl _)
    have be2 : RowKit.Below w.heap.size w w2 := (by repeat (first | (with_reducible refine Below.setCell ?_ ?_ _) | (with_reducible refine Below.alloc ?_ ?_ _) | (with_reducible refine Below.drew ?_) | (with_reducible refine below_drewN ?_ _) | (with_reducible exact Below.refl _ _) | (with_reducible refine Below.trans ?_ (Below.mono hb2 ?_)) | (with_reducible refine Below.trans ?_ (Below.mono be1 ?_)) | (focus (simp; done)) | (focus (simp; omega)) | (focus omega) | (focus (have q0 := Below.size hb2; (try simp at q0); have q1 := Below.size be1; (try simp at q1); (try simp); omega))))
    rcases hr.out with ⟨rfl, hno⟩ | ⟨i, hi, rfl, hP, ho⟩
    · have HF := Lib.hid (cancM_12 HP.out (findM_no hno))
      clear hno
      go_wp2_with fail
      refine bodyPost_ret (v := .tuple #[.slice none 0 0, .int .i64 _]) (by simp [results, Try.results13, go_sem]; rfl) rfl ?_
      exact LE.err HF.out (by repeat (first | (with_reducible refine Below.setCell ?_ ?_ _) | (with_reducible refine Below.alloc ?_ ?_ _) | (with_reducible refine Below.drew ?_) | (with_reducible refine below_drewN ?_ _) | (with_reducible exact Below.refl _ _) | (with_reducible refine Below.trans ?_ (Below.mono be2 ?_)) | (focus (simp; done)) | (focus (simp; omega)) | (focus omega) | (focus (have q0 := Below.size be2; (try simp at q0); (try simp); omega))))
    · have HF := Lib.hid (cancM_0 HP.out (by obtain ⟨h, e⟩ := findM_at hP ho; rw [e]; rfl))
      clear hP ho v0
      go_wp2_with ((go_at_call 44; (with_reducible refine (kept_Cancel a l n c V q _ h2 HN.out l9 (fun r hr => (hl r hr).1) k2).mono ?_); rintro e w3 ⟨m, xa, xc, l2, rfl, hk, hm, il, hb3⟩))
      refine bodyPost_ret (v := .tuple #[.slice xa m xc, .int .i64 0]) (by simp [results, Try.results13, go_sem]) rfl ?_
      exact ⟨xa, m, xc, l2, 0, rfl, Lib.hid (by rw [HF.out, hk.out]), hm, il.mono be2.size, (by repeat (first | (with_reducible refine Below.setCell ?_ ?_ _) | (with_reducible refine Below.alloc ?_ ?_ _) | (with_reducible refine Below.drew ?_) | (with_reducible refine below_drewN ?_ _) | (with_reducible exact Below.refl _ _) | (with_reducible refine Below.trans ?_ (Below.mono hb3 ?_)) | (with_reducible refine Below.trans ?_ (Below.mono be2 ?_)) | (focus (simp; done)) | (focus (simp; omega)) | (focus omega) | (focus (have q0 := Below.size hb3; (try simp at q0); have q1 := Below.size be2; (try simp at q1); (try simp); omega))))⟩
  · have HP := Lib.hid hp
    clear hp
    go_wp2_with ((go_at_call 12; (with_reducible refine (Says.n (request_Valid a l n c 4 _ h HN.out (by omega) (fun r hr => ⟨(hl r hr).2, by have := (hl r hr).1.1; omega⟩)) HP.out).mono ?_); rintro e w1 ⟨rfl, hb1⟩))
    refine bodyPost_ret (v := .tuple #[.slice none 0 0, .int .i64 _]) (by simp [results, Try.results13, go_sem]; rfl) rfl ?_
    exact LE.err (cancM_1 HP.out) (by repeat (first | (with_reducible refine Below.setCell ?_ ?_ _) | (with_reducible refine Below.alloc ?_ ?_ _) | (with_reducible refine Below.drew ?_) | (with_reducible refine below_drewN ?_ _) | (with_reducible exact Below.refl _ _) | (with_reducible refine Below.trans ?_ (Below.mono hb1 ?_)) | (with_reducible refine Below.trans ?_ (Below.mono be ?_)) | (focus (simp; done)) | (focus (simp; omega)) | (focus omega) | (focus (have q0 := Below.size hb1; (try simp at q0); have q1 := Below.size be; (try simp at q1); (try simp); omega))))
set_option maxHeartbeats 4000000 in
theorem request_Find (a : Option Addr) (l : List Rq) (n c : Nat) (q : Int) (w : World) (h : Rqs w a l) (hn : n = l.length) (l9 : n ≤ 10000) (hl : ∀ r ∈ l, LgOk r) :
    Calls Try.prog 28 #[.slice a n c, .int .i64 q] w (FindR l q w) := by
  have HN := Lib.hid hn
  clear hn
  go_enter Try.func28, Try.ntmps28
  go_upto_region 1 with fail
  refine wp_named (fun W => Blk W w.heap.size 45 #[.int .i64 0, .int .i64 0, .int .i64 0, .int .i64 0, .slice none 0 0] ∧ Rqs W a l ∧ RowKit.Below w.heap.size w W ∧ w.heap.size + 1 ≤ W.heap.size) ⟨Blk.new _ _ _, h.alloc _, (by repeat (first | (with_reducible refine Below.setCell ?_ ?_ _) | (with_reducible refine Below.alloc ?_ ?_ _) | (with_reducible refine Below.drew ?_) | (with_reducible refine below_drewN ?_ _) | (with_reducible exact Below.refl _ _) | (focus (simp; done)) | (focus (simp; omega)) | (focus omega))), by simp⟩ ?_
  clear h
  rintro W ⟨kR, h, be, hWs⟩
  go_upto_region 2 with ((go_at_call 40; (with_reducible refine (request_index a l n c q _ h HN.out l9).mono ?_); rintro e w2 ⟨r, rfl, hr, hb2⟩))
  have k2 := kR.below hb2 kR.lt
  have h2 := h.below hb2 (Nat.le_refl _)
  have be2 : RowKit.Below w.heap.size w w2 := (by repeat (first | (with_reducible refine Below.setCell ?_ ?_ _) | (with_reducible refine Below.alloc ?_ ?_ _) | (with_reducible refine Below.drew ?_) | (with_reducible refine below_drewN ?_ _) | (with_reducible exact Below.refl _ _) | (with_reducible refine Below.trans ?_ (Below.mono hb2 ?_)) | (with_reducible refine Below.trans ?_ (Below.mono be ?_)) | (focus (simp; done)) | (focus (simp; omega)) | (focus omega) | (focus (have q0 := Below.size hb2; (try simp at q0); have q1 := Below.size be; (try simp at q1); (try simp); omega))))
  have hs2 := hb2.size
  rcases hr.out with ⟨rfl, hno⟩ | ⟨i, hi, rfl, hP, ho⟩
  · have HF := Lib.hid (findM_miss (l := l) (id := q) fun k hk _ e => hno k hk ⟨hk, e⟩)
    clear hno
    obtain ⟨r0, r1, r2, r3, r4, rf, rl⟩ := k2.five
    go_wp2_with fail
    refine bodyPost_ret (v := .tuple #[.agg #[.int .i64 0, .int .i64 0, .int .i64 0, .int .i64 0, .slice none 0 0], .bool false]) (by simp [results, Try.results28, go_sem, r0, r1, r2, r3, r4]) rfl ?_
    exact ⟨0, 0, 0, 0, [], none, 0, false, rfl, Lib.hid (by rw [HF.out]; rfl), Lib.hid (by rw [HF.out]; rfl), Own.nil _ _ _ _, (by repeat (first | (with_reducible refine Below.setCell ?_ ?_ _) | (with_reducible refine Below.alloc ?_ ?_ _) | (with_reducible refine Below.drew ?_) | (with_reducible refine below_drewN ?_ _) | (with_reducible exact Below.refl _ _) | (with_reducible refine Below.trans ?_ (Below.mono be2 ?_)) | (focus (simp; done)) | (focus (simp; omega)) | (focus omega) | (focus (have q0 := Below.size be2; (try simp at q0); (try simp); omega))))⟩
  · obtain ⟨hi', HF0⟩ := findM_at hP ho
    have HF := Lib.hid HF0
    clear hP ho HF0
    have kx : (i : Int) < (n : Int) := by have := HN.out; omega
    obtain ⟨ba, oa, rfl⟩ := h2.open (by omega)
    obtain ⟨x0, x1, x2, x3, x4, xb⟩ := row_req h2.row i hi'
    have hg := h2.legs _ (List.getElem_mem hi')
    have hgl := hl _ (List.getElem_mem hi')
    obtain ⟨x, hx⟩ : ∃ x, l[i] = x := ⟨_, rfl⟩
    rw [hx] at x0 x1 x2 x3 x4 hg hgl HF
    clear hx
    obtain ⟨id, veh, cls, til, lg, la, lc⟩ := x
    obtain ⟨hg9, hgn⟩ := hgl
    simp only at x0 x1 x2 x3 x4 hg hg9 hgn
    have HGN := Lib.hid hgn
    clear hgn
    go_wp2_with ((go_at_call 55; (with_reducible refine (request_clone id veh cls til la lg.length lc lg _ hg rfl (by omega) HGN.out).mono ?_); rintro e w3 ⟨ya, yn, yc, rfl, hyn, own, hb3⟩; ((have k3 := k2.below hb3 k2.lt); (obtain ⟨r0, r1, r2, r3, r4, rf, rl⟩ := k3.five))))
    refine bodyPost_ret (v := .tuple #[.agg #[.int .i64 id, .int .i64 veh, .int .i64 cls, .int .i64 til, .slice ya yn yc], .bool true]) (by simp [results, Try.results28, go_sem, r0, r1, r2, r3, r4]) rfl ?_
    obtain rfl := hyn.out
    exact ⟨id, veh, cls, til, lg, ya, yc, true, rfl, Lib.hid (by rw [HF.out]; rfl), Lib.hid (by rw [HF.out]; rfl), (own.past5 k3 (by decide) _ _ _ _ _).mono (by omega), (by repeat (first | (with_reducible refine Below.setCell ?_ ?_ _) | (with_reducible refine Below.alloc ?_ ?_ _) | (with_reducible refine Below.drew ?_) | (with_reducible refine below_drewN ?_ _) | (with_reducible exact Below.refl _ _) | (with_reducible refine Below.trans ?_ (Below.mono hb3 ?_)) | (with_reducible refine Below.trans ?_ (Below.mono be2 ?_)) | (focus (simp; done)) | (focus (simp; omega)) | (focus omega) | (focus (have q0 := Below.size hb3; (try simp at q0); have q1 := Below.size be2; (try simp at q1); (try simp); omega))))⟩
end Go.Proofs.Ytbanejpihdhbdaa
