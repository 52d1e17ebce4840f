/- slices.Insert of a request into a list of the call's own -/
import Derived.Test.YtbanejpihdhbdaaCopyRq
import Derived.StillTailTactics
namespace Go.Proofs.Ytbanejpihdhbdaa
set_option linter.unusedVariables false
open Go.RowKit Go.Sort
set_option maxRecDepth 100000

theorem Blk.shape {w : World} {g : Nat} {t : TypeId} {cs : Array Value} (h : Blk w g t cs) : w.shape? g = some (t, cs.size) := by
  unfold Blk at h
  simp [World.shape?, h]
theorem splice_at {α : Type} (A M c : List α) {o : Nat} (ho : o = A.length) : splice (A ++ M) o c = A ++ (c ++ M.drop c.length) := by
  subst ho
  unfold splice
  rw [List.take_left, List.drop_append]
  simp
theorem splice_grow {α : Type} {L A B C : List α} {a b N : Nat} (ha : A.length = a) (hb : a + B.length = b) (hA : L.take a = A) (hN : b + C.length = N) : (splice (splice L a B) b C).take N = A ++ B ++ C := by
  have e : L = A ++ L.drop a := by rw [← hA]; exact (List.take_append_drop a L).symm
  rw [e, splice_at A _ B ha.symm, ← List.append_assoc, splice_at (A ++ B) _ C (by simp [ha, hb]), ← List.append_assoc]
  rw [List.take_append_of_le_length (by simp; omega), List.take_of_length_le (by simp; omega)]
theorem splice_shift {α : Type} {L A B C : List α} {a b N M : Nat} (ha : A.length = a) (hb : a + B.length = b) (hA : L.take M = A ++ C) (hM : a + C.length = M) (hl : N ≤ L.length) (hN : b + C.length = N) : (splice (splice L b C) a B).take N = A ++ B ++ C := by
  have e : L = A ++ (C ++ L.drop M) := by rw [← List.append_assoc, ← hA]; exact (List.take_append_drop M L).symm
  obtain ⟨R, hR⟩ : ∃ R, C ++ L.drop M = R := ⟨_, rfl⟩
  have hRl : B.length + C.length ≤ R.length := by
    have := congrArg List.length e
    rw [hR, List.length_append] at this
    omega
  rw [hR] at e
  have e2 : L = (A ++ R.take B.length) ++ R.drop B.length := by rw [List.append_assoc, List.take_append_drop]; exact e
  rw [e2, splice_at _ _ C (by simp; omega), List.append_assoc, splice_at A _ B ha.symm]
  rw [List.drop_append_of_le_length (by simp; omega), List.drop_of_length_le (by simp; omega)]
  rw [List.nil_append, ← List.append_assoc, ← List.append_assoc]
  rw [List.take_append_of_le_length (by simp; omega), List.take_of_length_le (by simp; omega)]
theorem req_size : (Try.prog.info? 45).map (·.size) = some 5 := by
  obtain ⟨i0, hi, hz0, hz1, hz2⟩ := info_parts info_req
  rw [hi]
  simp [hz1]
theorem RqL.pw {W : World} {B : Nat} {l : List Rq} {xa : Option Addr} {xc : Nat} (h : RqL W B l xa xc) : l.Pairwise fun x y => Apart x.a y.a :=
  List.pairwise_iff_getElem.2 fun i j hi hj hij => h.ap i j hj hij
theorem RqL.ofPw {W : World} {B : Nat} {l : List Rq} {xa : Option Addr} {xc : Nat} (own : Own W B 45 5 xa l.length xc (rqCells l)) (legs : ∀ r ∈ l, Own W B 25 5 r.a r.legs.length r.c (lgCells r.legs)) (pw : l.Pairwise fun x y => Apart x.a y.a) : RqL W B l xa xc :=
  ⟨own, legs, fun i j hj hi => List.pairwise_iff_getElem.1 pw i j (by omega) hj hi⟩
theorem RqL.ins {W W' : World} {B : Nat} {l : List Rq} {xa : Option Addr} {xc : Nat} (h : RqL W B l xa xc) (i : Nat) (x : Rq) {xb : Option Addr} {xd N : Nat} (hN : N = l.length + 1) (own : Own W' B 45 5 xb N xd (rqCells (l.take i ++ [x] ++ l.drop i))) (hk : ∀ r ∈ l, Own W' B 25 5 r.a r.legs.length r.c (lgCells r.legs)) (hx : Own W' B 25 5 x.a x.legs.length x.c (lgCells x.legs)) (hap : ∀ r ∈ l, Apart r.a x.a) : RqL W' B (l.take i ++ [x] ++ l.drop i) xb xd := by
  have hl : (l.take i ++ [x] ++ l.drop i).length = N := by
    rw [hN]
    simp
    omega
  have pw := h.pw
  rw [← List.take_append_drop i l, List.pairwise_append] at pw
  refine RqL.ofPw (by rw [hl]; exact own) (fun r hr => ?_) ?_
  · rcases List.mem_append.1 hr with hr | hr
    · rcases List.mem_append.1 hr with hr | hr
      · exact hk r (List.mem_of_mem_take hr)
      · rw [List.mem_singleton.1 hr]; exact hx
    · exact hk r (List.mem_of_mem_drop hr)
  · refine List.pairwise_append.2 ⟨List.pairwise_append.2 ⟨pw.1, by simp, fun a ha b hb => ?_⟩, pw.2.1, fun a ha b hb => ?_⟩
    · rw [List.mem_singleton.1 hb]
      exact hap a (List.mem_of_mem_take ha)
    · rcases List.mem_append.1 ha with ha | ha
      · exact pw.2.2 a ha b hb
      · rw [List.mem_singleton.1 ha]
        exact (hap b (List.mem_of_mem_drop hb)).symm
def InsR (l : List Rq) (xa : Option Addr) (i n : Nat) (r : Rq) (B : Nat) (w : World) (e : Ending) (w' : World) : Prop :=
  ∃ (xb : Option Addr) (xd : Nat), e = .returned (.slice xb (n + 1) xd) ∧ RqL w' B (l.take i ++ [r] ++ l.drop i) xb xd ∧ Below B w w' ∧ w.grownBy w' (xa.map (·.block)) ∧ ∀ z, xb.map (·.block) = some z → xa.map (·.block) = some z ∨ w.heap.size ≤ z
set_option maxHeartbeats 8000000 in
theorem insert_Rq (l : List Rq) (xa : Option Addr) (n xc i : Nat) (id veh cls til : Int) (lg : List Lg) (la : Option Addr) (ln lc X B : Nat) (w : World) (il : RqL w B l xa xc) (hn : Hid (n = l.length)) (hi : i ≤ n) (hX : Blk w X 45 #[.int .i64 id, .int .i64 veh, .int .i64 cls, .int .i64 til, .slice la ln lc]) (hln : Hid (ln = lg.length)) (hp : Own w B 25 5 la ln lc (lgCells lg)) (hap : Hid (∀ r ∈ l, Apart r.a la)) (hXn : Hid (xa.map (·.block) ≠ some X)) (hB : B ≤ w.heap.size) (l9 : n ≤ 1000) :
    Calls Try.prog 42 #[.slice xa n xc, .int .i64 i, .slice (some ⟨X, 0, none⟩) 1 1] w (InsR l xa i n ⟨id, veh, cls, til, lg, la, lc⟩ B w) := by
  have IL := Lib.hid il
  have hcl := il.own.cap_le
  rw [← hn.out] at hcl
  have HLEN : Hid (l.length = n) := Lib.hid hn.out.symm
  by_cases hin : i = n
  · subst hin
    go_enter Try.func42, Try.ntmps42
    have zc : (i : Int) ≤ (xc : Int) := by omega
    obtain ⟨ra, hra⟩ : ∃ ra, (if xc = i then xa else Option.map (fun x => x.add (i * 5)) xa) = ra := ⟨_, rfl⟩
    go_wp2_with ((at_builtin; refine app1Rq rfl _ _ rfl B xa i xc l rfl hn.out id veh cls til lg la ln lc hln.out X rfl hX il hB hp hap.out (by omega) ?_; intro xb xd w5 il5 g5 bl5))
    go_ret
    refine ⟨xb, xd, rfl, ?_, bl5 w ⟨rfl, rfl, rfl, Nat.le_refl _, fun _ _ => rfl⟩, g5.1, fun z hz => g5.2.1.elim (fun e => .inl (by rw [← e]; exact hz)) fun e => .inr (by rw [e] at hz; injection hz with hz; omega)⟩
    rw [List.take_of_length_le (by rw [HLEN.out]; exact Nat.le_refl _), List.drop_of_length_le (by rw [HLEN.out]; exact Nat.le_refl _), List.append_nil]
    exact il5
  · have hlt : i < n := by omega
    have hne : ((i : Int) == (n : Int)) = false := by rw [beq_eq_false_iff_ne]; omega
    have hne2 : ¬ ((i : Int) = (n : Int)) := by omega
    have hne3 : ¬ (i = n) := hin
    have zc : (i : Int) ≤ (xc : Int) := by omega
    have zn : (i : Int) ≤ (n : Int) := by omega
    obtain ⟨K, hK⟩ : ∃ K, K = n + 1 - i := ⟨_, rfl⟩
    obtain ⟨I1, hI1⟩ : ∃ I1, I1 = i + 1 := ⟨_, rfl⟩
    have w1 : IntKind.i64.wrap ((n : Int) + 1) = (n : Int) + 1 := by rw [IntKind.wrap_i64]; omega
    have w2 : IntKind.i64.wrap ((n : Int) + 1 - (i : Int)) = (K : Int) := by rw [IntKind.wrap_i64]; omega
    have w3 : IntKind.i64.wrap ((i : Int) + 1) = (I1 : Int) := by rw [IntKind.wrap_i64]; omega
    have HK := Lib.hid hK
    have HI1 := Lib.hid hI1
    have hK1 : 0 < K := by omega
    have hKn : i + K = n + 1 := by omega
    clear hK hI1
    have hl0 : 0 < l.length := by have := hn.out; omega
    obtain ⟨g, hg0, hBg, hgl⟩ := il.own.open_ hl0
    subst hg0
    have hcr : xc ≠ i := by omega
    have hown : Own w B 45 5 (some ⟨g, 0, none⟩) n xc (rqCells l) := by have := il.own; rwa [← hn.out] at this
    obtain ⟨cur, kG, -, -, hcm, hcl5, htk⟩ := hown.raw
    by_cases hroom : xc < n + 1
    · have hxc : xc = n := by omega
      subst hxc
      go_enter Try.func42, Try.ntmps42
      go_upto_region 10 with ((at_builtin; refine wp_growZ rfl _ _ rfl (some ⟨g, 0, none⟩) i xc K (rqCells (l.take i)) rfl rfl (il.rqs.take i) (by rw [rqCells_len]; simp; have := HLEN.out; omega) hK1 (by omega) (by omega) ?_; intro wz cuz cp kZ hzl hzc hzm hzt beZ))
      have kX := hX.below beZ hX.lt
      have hgZ := hown.below beZ (Nat.le_refl _)
      have hsrcX : ∀ j v, (Rq.cells ⟨id, veh, cls, til, lg, la, lc⟩)[j]? = some v → wz.cell? ((⟨X, 0, none⟩ : Addr).add j) = some v := fun j v hj => by
        have hr : Row wz (some ⟨X, 0, none⟩) (Rq.cells ⟨id, veh, cls, til, lg, la, lc⟩) := .inr ⟨X, 0, rfl, kX.lt, fun i hi => by
          rw [Nat.zero_add, kX.cell]
          have : i = 0 ∨ i = 1 ∨ i = 2 ∨ i = 3 ∨ i = 4 := by simp [Rq.cells] at hi; omega
          obtain rfl := hln.out
          rcases this with rfl | rfl | rfl | rfl | rfl <;> rfl⟩
        exact Row.cells wz hr j v hj
      have hcpi : cp ≠ i := by omega
      have zi : (i : Int) ≤ (xc : Int) + 1 := by omega
      have HSX := Lib.hid hsrcX
      clear hsrcX
      go_upto_region 11 with ((with_reducible refine at_copy ?_); refine wp_copyS rfl _ _ _ _ 45 rfl 5 Try.underlying27 req_size w.heap.size (i * 5) _ _ ⟨X, 0, none⟩ 1 1 1 rfl rfl cuz _ kZ (Rq.cells ⟨id, veh, cls, til, lg, la, lc⟩) (by simp only [Nat.min_def]; split <;> omega) rfl HSX.out (by simp [Rq.cells]; omega) (by simp [Rq.cells, Value.oneCell']) ?_; intro w4 k4 g4)
      go_simp
      have hdr : Row w4 (some ⟨g, i * 5, none⟩) (rqCells (l.drop i)) := by
        have h1 := (il.rqs.below beZ (Nat.le_refl _)).drop i
        rw [Nat.zero_add] at h1
        exact h1.grown g4 fun b hb => by simp at hb; omega
      have HDR := Lib.hid hdr
      have HDL : Hid ((rqCells (l.drop i)).length = (xc - i) * 5) := Lib.hid (by rw [rqCells_len]; simp; have := HLEN.out; omega)
      have zI : (I1 : Int) ≤ (xc : Int) + 1 := by have := HI1.out; omega
      have hcpI : cp ≠ I1 := by have := HI1.out; omega
      clear hdr
      go_still_tail 8, (by kernel_rfl)
      go_wp2_with ((with_reducible refine at_copy ?_); refine wp_copyS rfl _ _ _ _ 45 rfl 5 Try.underlying27 req_size w.heap.size (I1 * 5) _ _ ⟨g, i * 5, none⟩ (xc - i) _ (xc - i) rfl rfl (splice cuz (i * 5) (Rq.cells ⟨id, veh, cls, til, lg, la, lc⟩)) _ k4 (rqCells (l.drop i)) (by have := HI1.out; simp only [Nat.min_def]; split <;> omega) HDL.out (fun j v hj => Row.cells w4 HDR.out j v hj) (by rw [HDL.out]; have := HI1.out; rw [length_splice _ _ _ (by simp [Rq.cells]; omega)]; omega) (rqCells_one _) ?_; intro w5 k5 g5)
      go_ret
      have hkeep : ∀ b, b < w.heap.size → w5.heap[b]? = w.heap[b]? := fun b hb => (g5.block b (by have := g4.size; have := beZ.size; show b < w4.heap.size; omega) (fun e => by injection e with e; omega)).trans ((g4.block b (by have := beZ.size; omega) (fun e => by injection e with e; omega)).trans (beZ.block b hb))
      refine ⟨_, _, rfl, il.ins i ⟨id, veh, cls, til, lg, la, lc⟩ (N := xc + 1) (by rw [HLEN.out]) (Own.ofRaw k5 hB (by omega) hzm ?_ ?_) (fun r hr => (il.legs r hr).keep fun b _ _ hl => hkeep b hl) ?_ hap.out, ?_, ⟨g5.os.trans (g4.os.trans beZ.os), g5.tape.trans (g4.tape.trans beZ.tape), g5.output.trans (g4.output.trans beZ.output), Nat.le_trans beZ.size (Nat.le_trans g4.size g5.size), fun k hk _ => hkeep k hk⟩, fun z hz => .inr (by simp at hz; have := beZ.size; omega)⟩
      · rw [length_splice, length_splice, hzl]
        · simp [Rq.cells]; omega
        · rw [length_splice _ _ _ (by simp [Rq.cells]; omega), HDL.out]; have := HI1.out; omega
      · rw [rqCells_append, rqCells_append]
        have e1 : rqCells [(⟨id, veh, cls, til, lg, la, lc⟩ : Rq)] = Rq.cells ⟨id, veh, cls, til, lg, la, lc⟩ := by simp [rqCells]
        rw [e1]
        exact splice_grow (by rw [rqCells_len]; simp; have := HLEN.out; omega) (by have := HI1.out; simp [Rq.cells]; omega) hzt (by rw [HDL.out]; have := HI1.out; omega)
      · obtain rfl := hln.out
        exact hp.keep fun b _ _ hl => hkeep b hl
      · exact ⟨g5.os.trans (g4.os.trans beZ.os), g5.tape.trans (g4.tape.trans beZ.tape), g5.output.trans (g4.output.trans beZ.output), Nat.le_trans beZ.size (Nat.le_trans g4.size g5.size), fun k hk => hkeep k (by omega)⟩
    · have hroom2 : n + 1 ≤ xc := by omega
      have hgX : X ≠ g := fun e => hXn.out (by rw [e]; rfl)
      have hsz5 : ∀ w : World, (Go.sizeOf 45).run Try.prog w = .ok 5 w := fun w => by
        obtain ⟨i0, hi, hz0, hz1, hz2⟩ := info_parts info_req
        simp [sizeOf, typeInfo, hi, hz1]
      have hov : ∀ lb cb, (callFunc 62 #[.slice (some ⟨X, 0, none⟩) 1 1, .slice (some ⟨g, I1 * 5, none⟩) lb cb]).run Try.prog w = .ok (.value (.bool false)) w := fun lb cb => by
        rw [run_callFunc_extern Try.func62 (by kernel_rfl) (by kernel_rfl) (by kernel_rfl) (e := Extern.SlicesOverlaps.overlaps #[27, 27] #[4]) (by kernel_rfl),
          Lib.run_overlaps_apart w 27 4 45 Try.underlying27 5 hsz5 ⟨X, 0, none⟩ ⟨g, I1 * 5, none⟩ 1 1 lb cb hgX _ _ _ _ hX.shape kG.shape (by rw [List.size_toArray, hcl5]; omega) (hX.frozen 0) (hX.frozen _)]
        rfl
      have hcpI : xc ≠ I1 := by have := HI1.out; omega
      have zI : (I1 : Int) ≤ (n : Int) + 1 := by have := HI1.out; omega
      have zi2 : (i : Int) ≤ (n : Int) + 1 := by omega
      have hroomZ : ¬ ((xc : Int) < (n : Int) + 1) := by omega
      have hroomZ2 : (n : Int) + 1 ≤ (xc : Int) := by omega
      have HXX := Lib.hid hX
      have HKG := Lib.hid kG
      go_enter Try.func42, Try.ntmps42
      go_upto_region 15 with (simp only [hov])
      have hdr : Row w (some ⟨g, i * 5, none⟩) (rqCells (l.drop i)) := by
        have h1 := il.rqs.drop i
        rwa [Nat.zero_add] at h1
      have HDR := Lib.hid hdr
      have HDL : Hid ((rqCells (l.drop i)).length = (n - i) * 5) := Lib.hid (by rw [rqCells_len]; simp; have := HLEN.out; omega)
      clear hdr hov
      go_still_tail 8, (by kernel_rfl)
      go_upto_region 16 with ((with_reducible refine at_copy ?_); refine wp_copyS rfl _ _ _ _ 45 rfl 5 Try.underlying27 req_size g (I1 * 5) _ _ ⟨g, i * 5, none⟩ _ _ (n - i) rfl rfl cur _ HKG.out (rqCells (l.drop i)) (by have := HI1.out; simp only [Nat.min_def]; split <;> omega) HDL.out (fun j v hj => Row.cells w HDR.out j v hj) (by rw [HDL.out, hcl5]; have := HI1.out; omega) (rqCells_one _) ?_; intro w4 k4 g4)
      have g4 : w.grownBy w4 (some g) := ⟨g4.os, g4.tape, g4.output, g4.size, g4.block⟩
      have kX4 := HXX.out.grown g4 hgX
      have hsrcX : ∀ j v, (Rq.cells ⟨id, veh, cls, til, lg, la, lc⟩)[j]? = some v → w4.cell? ((⟨X, 0, none⟩ : Addr).add j) = some v := fun j v hj => by
        have hr : Row w4 (some ⟨X, 0, none⟩) (Rq.cells ⟨id, veh, cls, til, lg, la, lc⟩) := .inr ⟨X, 0, rfl, kX4.lt, fun i hi => by
          rw [Nat.zero_add, kX4.cell]
          have : i = 0 ∨ i = 1 ∨ i = 2 ∨ i = 3 ∨ i = 4 := by simp [Rq.cells] at hi; omega
          obtain rfl := hln.out
          rcases this with rfl | rfl | rfl | rfl | rfl <;> rfl⟩
        exact Row.cells w4 hr j v hj
      have HSX := Lib.hid hsrcX
      have HL4 : Hid ((splice cur (I1 * 5) (rqCells (l.drop i))).length = xc * 5) := Lib.hid (by rw [length_splice _ _ _ (by rw [HDL.out, hcl5]; have := HI1.out; omega), hcl5])
      clear hsrcX
      go_simp
      go_wp2_with ((with_reducible refine at_copy ?_); refine wp_copyS rfl _ _ _ _ 45 rfl 5 Try.underlying27 req_size g (i * 5) _ _ ⟨X, 0, none⟩ 1 1 1 rfl rfl (splice cur (I1 * 5) (rqCells (l.drop i))) _ k4 (Rq.cells ⟨id, veh, cls, til, lg, la, lc⟩) (by simp only [Nat.min_def]; split <;> omega) rfl HSX.out (by rw [HL4.out]; simp [Rq.cells]; omega) (by simp [Rq.cells, Value.oneCell']) ?_; intro w5 k5 g5)
      go_ret
      have hkeep : ∀ b, b < w.heap.size → b ≠ g → w5.heap[b]? = w.heap[b]? := fun b hb hne => (g5.block b (by have := g4.size; show b < w4.heap.size; exact Nat.lt_of_lt_of_le hb g4.size) (fun e => by injection e with e; exact hne e)).trans (g4.block b hb (fun e => by injection e with e; exact hne e))
      have hapg : ∀ {a : Option Addr} {m c : Nat} {xs : List Value} {B2 : Nat}, Own w B2 25 5 a m c xs → Own w5 B2 25 5 a m c xs := fun o => o.keep fun b hb _ hl => hkeep b hl fun e => o.past HKG.out (by decide) (by rw [hb, ← e]; rfl)
      refine ⟨_, _, rfl, il.ins i ⟨id, veh, cls, til, lg, la, lc⟩ (N := n + 1) (by rw [HLEN.out]) (Own.ofRaw k5 hBg hroom2 hcm ?_ ?_) (fun r hr => hapg (il.legs r hr)) ?_ hap.out, ?_, ⟨g5.os.trans g4.os, g5.tape.trans g4.tape, g5.output.trans g4.output, Nat.le_trans g4.size g5.size, fun k hk hne => hkeep k hk (fun e => hne (by rw [e]; rfl))⟩, fun z hz => .inl hz⟩
      · rw [length_splice, HL4.out]
        rw [HL4.out]; simp [Rq.cells]; omega
      · rw [rqCells_append, rqCells_append]
        have e1 : rqCells [(⟨id, veh, cls, til, lg, la, lc⟩ : Rq)] = Rq.cells ⟨id, veh, cls, til, lg, la, lc⟩ := by simp [rqCells]
        rw [e1]
        refine splice_shift (M := n * 5) (by rw [rqCells_len]; simp; have := HLEN.out; omega) (by have := HI1.out; simp [Rq.cells]; omega) ?_ (by rw [HDL.out]; omega) (by rw [hcl5]; exact Nat.mul_le_mul_right _ hroom2) (by rw [HDL.out]; have := HI1.out; omega)
        rw [htk, ← rqCells_append, List.take_append_drop]
      · obtain rfl := hln.out
        exact hapg hp
      · exact ⟨g5.os.trans g4.os, g5.tape.trans g4.tape, g5.output.trans g4.output, Nat.le_trans g4.size g5.size, fun k hk => hkeep k (by omega) (by omega)⟩
end Go.Proofs.Ytbanejpihdhbdaa
