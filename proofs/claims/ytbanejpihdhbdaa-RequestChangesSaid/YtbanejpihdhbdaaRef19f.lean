/- signalbrokerref19.Find -/
import Derived.Test.YtbanejpihdhbdaaRef19v
namespace Go.Proofs.Ytbanejpihdhbdaa
set_option linter.unusedVariables false
open Go.RowKit Go.Sort
set_option maxRecDepth 100000

def findM (l : List Rk) (id : Int) : Option Rk := l.find? (fun r => r.1 == id)
theorem findM_hit {l : List Rq} {id : Int} {i : Nat} (h : i < l.length) (ho : ∀ k (hk : k < l.length), k < i → l[k].id ≠ id) (he : l[i].id = id) : findM (l.map Rq.key) id = some l[i].key := by
  unfold findM
  rw [List.find?_eq_some_iff_getElem]
  refine ⟨by simp [Rq.key, he], i, by simpa using h, by simp, fun j hj => ?_⟩
  have := ho j (by omega) hj
  simpa [Rq.key] using this
theorem findM_miss {l : List Rq} {id : Int} (ho : ∀ k (hk : k < l.length), k < l.length → l[k].id ≠ id) : findM (l.map Rq.key) id = none := by
  unfold findM
  rw [List.find?_eq_none]
  intro x hx
  simp only [List.mem_map] at hx
  obtain ⟨r, hr, rfl⟩ := hx
  obtain ⟨k, hk, rfl⟩ := List.mem_iff_getElem.1 hr
  have := ho k hk hk
  simpa [Rq.key] using this
theorem findM_none {l : List Rk} {id : Int} : (findM l id).isSome = false ↔ ∀ r ∈ l, r.1 ≠ id := by
  unfold findM
  rw [Option.isSome_eq_false_iff, Option.isNone_iff_eq_none, List.find?_eq_none]
  simp
theorem Own.past {w : World} {base : Nat} {e : TypeId} {size n cap g : Nat} {a : Option Addr} {xs : List Value} {t : TypeId} {cs : Array Value} (h : Own w base e size a n cap xs) (k : Blk w g t cs) (hne : e ≠ t) : a.map (·.block) ≠ some g := by
  intro q
  rcases h.2 with ⟨hv, _⟩ | ⟨g', c', cur, hv, _, hh, _⟩
  · injection hv with ha _ _
    rw [ha] at q
    cases q
  · injection hv with ha _ _
    rw [ha] at q
    injection q with q
    simp only at q
    subst q
    unfold Blk at k
    rw [hh] at k
    injection k with k
    injection k with _ ht
    exact hne ht
theorem Own.past5 {w : World} {base : Nat} {e : TypeId} {size n cap g : Nat} {a : Option Addr} {xs : List Value} {t : TypeId} {cs : Array Value} (h : Own w base e size a n cap xs) (k : Blk w g t cs) (hne : e ≠ t) (v0 v1 v2 v3 v4 : Value) : Own (((((w.setCell ⟨g, 0, none⟩ v0).setCell ⟨g, 1, none⟩ v1).setCell ⟨g, 2, none⟩ v2).setCell ⟨g, 3, none⟩ v3).setCell ⟨g, 4, none⟩ v4) base e size a n cap xs := by
  have q := h.past k hne
  exact ((((h.far (p := ⟨g, 0, none⟩) q _).far (p := ⟨g, 1, none⟩) q _).far (p := ⟨g, 2, none⟩) q _).far (p := ⟨g, 3, none⟩) q _).far (p := ⟨g, 4, none⟩) q _
def FindR (l : List Rq) (id : Int) (w : World) (e : Ending) (w' : World) : Prop :=
  ∃ (i v k t : Int) (lg : List Lg) (la : Option Addr) (lc : Nat) (b : Bool), e = .returned (.tuple #[.agg #[.int .i64 i, .int .i64 v, .int .i64 k, .int .i64 t, .slice la lg.length lc], .bool b]) ∧ Hid ((findM (l.map Rq.key) id).isSome = b) ∧ Hid ((findM (l.map Rq.key) id).getD (0, 0, 0, 0, []) = (i, v, k, t, lg)) ∧ Own w' w.heap.size 25 5 la lg.length lc (lgCells lg) ∧ Below w.heap.size w w'
set_option maxHeartbeats 4000000 in
theorem ref19_Find (a : Option Addr) (l : List Rq) (n c : Nat) (q : Int) (w : World) (h : Rqs w a l) (hn : n = l.length) (l9 : n ≤ 100000) (hl : ∀ r ∈ l, r.legs.length ≤ 100000) :
    Calls Try.prog 29 #[.slice a n c, .int .i64 q] w (FindR l q w) := by
  subst hn
  go_enter Try.func29, Try.ntmps29
  go_upto_region 1 with fail
  refine wp_named (fun W => W.heap.size = w.heap.size + 1 ∧ Blk W w.heap.size 45 #[.int .i64 0, .int .i64 0, .int .i64 0, .int .i64 0, .slice none 0 0] ∧ Rqs W a l ∧ RowKit.Below w.heap.size w W) ⟨by simp, Blk.new _ _ _, h.alloc _, (by repeat (first | (with_reducible refine Below.setCell ?_ ?_ _) | (with_reducible refine Below.alloc ?_ ?_ _) | (with_reducible refine Below.drew ?_) | (with_reducible refine below_drewN ?_ _) | (with_reducible exact Below.refl _ _) | (focus (simp; done)) | (focus (simp; omega)) | (focus omega)))⟩ ?_
  rintro W ⟨hWs, kr, h, beW⟩
  have HWS := Lib.hid hWs
  clear hWs
  go_wp2_with fail
  go_loopw [10] (fun s10 wr => ∃ i : Nat, s10 = .int .i64 i ∧ i ≤ l.length ∧ Hid (∀ k (hk : k < l.length), k < i → l[k].id ≠ q) ∧ RowKit.Below W.heap.size W wr) (fun s _ => l.length - (intOf s).toNat)
  case atStart => exact ⟨0, rfl, by omega, Lib.hid fun k _ h => by omega, (by repeat (first | (with_reducible refine Below.setCell ?_ ?_ _) | (with_reducible refine Below.alloc ?_ ?_ _) | (with_reducible refine Below.drew ?_) | (with_reducible refine below_drewN ?_ _) | (with_reducible exact Below.refl _ _) | (focus (simp; done)) | (focus (simp; omega)) | (focus omega)))⟩
  case round =>
    obtain ⟨i, rfl, hi, ho, be⟩ := hrel
    have be2 : RowKit.Below w.heap.size w wr := (by repeat (first | (with_reducible refine Below.setCell ?_ ?_ _) | (with_reducible refine Below.alloc ?_ ?_ _) | (with_reducible refine Below.drew ?_) | (with_reducible refine below_drewN ?_ _) | (with_reducible exact Below.refl _ _) | (with_reducible refine Below.trans ?_ (Below.mono be ?_)) | (with_reducible refine Below.trans ?_ (Below.mono beW ?_)) | (focus (simp; done)) | (focus (simp; omega)) | (focus omega) | (focus (have q0 := Below.size be; (try simp at q0); have q1 := Below.size beW; (try simp at q1); (try simp); omega))))
    have krr := kr.below be kr.lt
    obtain ⟨r0, r1, r2, r3, r4, rf, rl⟩ := krr.five
    by_cases hlt : i < l.length
    · obtain ⟨ba, oa, rfl⟩ := h.open (by omega)
      have hr := h.below be (Nat.le_refl _)
      obtain ⟨x0, x1, x2, x3, x4, xb⟩ := row_req hr.row i hlt
      have hg := hr.legs _ (List.getElem_mem hlt)
      have hgl := hl _ (List.getElem_mem hlt)
      have HIT := Lib.hid (show l[i].id = q → findM (l.map Rq.key) q = some l[i].key from findM_hit hlt ho.out)
      obtain ⟨x, hx⟩ : ∃ x, l[i] = x := ⟨_, rfl⟩
      have HX := Lib.hid hx
      rw [hx] at x0 x1 x2 x3 x4 hg hgl HIT
      clear hx hr
      obtain ⟨id, veh, cls, til, lg, la, lc⟩ := x
      simp only at x0 x1 x2 x3 x4 hg hgl
      have kx : (i : Int) < (l.length : Int) := by omega
      have hbw := be.size
      go_upto_region 4 with fail
      obtain ⟨V, hV⟩ : ∃ V, wr.heap.size = V := ⟨_, rfl⟩
      refine wp_named (fun Y => Blk Y V 45 #[.int .i64 id, .int .i64 veh, .int .i64 cls, .int .i64 til, .slice la lg.length lc] ∧ Row Y la (lgCells lg) ∧ RowKit.Below w.heap.size w Y ∧ RowKit.Below W.heap.size W Y) ⟨by rw [← hV]; exact Blk.new _ _ _, hg.alloc _, (by repeat (first | (with_reducible refine Below.setCell ?_ ?_ _) | (with_reducible refine Below.alloc ?_ ?_ _) | (with_reducible refine Below.drew ?_) | (with_reducible refine below_drewN ?_ _) | (with_reducible exact Below.refl _ _) | (with_reducible refine Below.trans ?_ (Below.mono be2 ?_)) | (focus (simp; done)) | (focus (simp; omega)) | (focus omega) | (focus (have q0 := Below.size be2; (try simp at q0); (try simp); omega)))), (by repeat (first | (with_reducible refine Below.setCell ?_ ?_ _) | (with_reducible refine Below.alloc ?_ ?_ _) | (with_reducible refine Below.drew ?_) | (with_reducible refine below_drewN ?_ _) | (with_reducible exact Below.refl _ _) | (with_reducible refine Below.trans ?_ (Below.mono be ?_)) | (focus (simp; done)) | (focus (simp; omega)) | (focus omega) | (focus (have q0 := Below.size be; (try simp at q0); (try simp); omega))))⟩ ?_
      rw [hV]
      clear r0 r1 r2 r3 r4 rf rl krr hV x0 x1 x2 x3 x4 xb hg hbw be be2
      rintro Y ⟨kV, hg, be, beY⟩
      obtain ⟨v0, v1, v2, v3, v4, vf, vl⟩ := kV.five
      by_cases hq : id = q
      · subst hq
        have hrq : Rqs (Y.alloc (.cells #[.int .i64 id, .int .i64 veh, .int .i64 cls, .int .i64 til, .slice la lg.length lc] 45)) (some ⟨Y.heap.size, 0, none⟩) [⟨id, veh, cls, til, lg, la, lc⟩] := ⟨row_new _ _ _ _, fun r hr => by rw [List.mem_singleton.1 hr]; exact hg.alloc _⟩
        go_wp2_with ((go_at_call 51; (with_reducible refine (ref19_Copy _ [⟨id, veh, cls, til, lg, la, lc⟩] 1 1 _ hrq rfl (by decide) (by intro r hr; rw [List.mem_singleton.1 hr]; exact hgl)).mono ?_); rintro e w5 ⟨xa, xc, l2, rfl, hk2, hn2, il, hb5⟩; ((have be5 : RowKit.Below W.heap.size W w5 := (by repeat (first | (with_reducible refine Below.setCell ?_ ?_ _) | (with_reducible refine Below.alloc ?_ ?_ _) | (with_reducible refine Below.drew ?_) | (with_reducible refine below_drewN ?_ _) | (with_reducible exact Below.refl _ _) | (with_reducible refine Below.trans ?_ (Below.mono hb5 ?_)) | (with_reducible refine Below.trans ?_ (Below.mono beY ?_)) | (focus (simp; done)) | (focus (simp; omega)) | (focus omega) | (focus (have q0 := Below.size hb5; (try simp at q0); have q1 := Below.size beY; (try simp at q1); (try simp); omega))))); (have kr5 := kr.below be5 kr.lt); (obtain ⟨r0, r1, r2, r3, r4, rf, rl⟩ := kr5.five); (have i0 : 0 < l2.length := by rw [← hn2.out]; exact Nat.zero_lt_one); (obtain ⟨xb, rfl, -, -⟩ := il.own.open_ i0); (obtain ⟨y0, y1, y2, y3, y4, yl⟩ := row_req il.rqs.row 0 i0); (have hl0 := il.legs _ (List.getElem_mem i0)); (have HK2 := Lib.hid (show l2[0].key = (id, veh, cls, til, lg) from by have := congrArg (fun z => z[0]?) hk2.out; simpa [i0, Rq.key] using this)); (obtain ⟨x, hx⟩ : ∃ x, l2[0] = x := ⟨_, rfl⟩); (rw [hx] at y0 y1 y2 y3 y4 hl0 HK2); (clear hx); (simp only [Nat.zero_mul, Nat.add_zero, Nat.zero_add] at y0 y1 y2 y3 y4))))
        refine bodyPost_ret (v := .tuple #[.agg #[.int .i64 x.id, .int .i64 x.veh, .int .i64 x.cls, .int .i64 x.til, .slice x.a x.legs.length x.c], .bool true]) (by simp [results, Try.results29, go_sem, r0, r1, r2, r3, r4]) rfl ?_
        exact ⟨x.id, x.veh, x.cls, x.til, x.legs, x.a, x.c, true, rfl, Lib.hid (by rw [HIT.out trivial]; rfl), Lib.hid (by rw [HIT.out trivial]; exact HK2.out.symm), (hl0.past5 kr5 (by decide) _ _ _ _ _).mono (by have := be.size; simp; omega), (by repeat (first | (with_reducible refine Below.setCell ?_ ?_ _) | (with_reducible refine Below.alloc ?_ ?_ _) | (with_reducible refine Below.drew ?_) | (with_reducible refine below_drewN ?_ _) | (with_reducible exact Below.refl _ _) | (with_reducible refine Below.trans ?_ (Below.mono hb5 ?_)) | (with_reducible refine Below.trans ?_ (Below.mono be ?_)) | (focus (simp; done)) | (focus (simp; omega)) | (focus omega) | (focus (have q0 := Below.size hb5; (try simp at q0); have q1 := Below.size be; (try simp at q1); (try simp); omega))))⟩
      · have zq : (id == q) = false := by rw [beq_eq_false_iff_ne]; exact hq
        have HQ := Lib.hid hq
        clear hq
        go_wp2_with fail
        go_roundw
        case rel => exact ⟨i + 1, by go_num, by omega, Lib.hid fun k hk h1 => by
          by_cases e : k = i
          · subst e; rw [HX.out]; exact HQ.out
          · exact ho.out k hk (by omega), (by repeat (first | (with_reducible refine Below.setCell ?_ ?_ _) | (with_reducible refine Below.alloc ?_ ?_ _) | (with_reducible refine Below.drew ?_) | (with_reducible refine below_drewN ?_ _) | (with_reducible exact Below.refl _ _) | (with_reducible refine Below.trans ?_ (Below.mono beY ?_)) | (focus (simp; done)) | (focus (simp; omega)) | (focus omega) | (focus (have q0 := Below.size beY; (try simp at q0); (try simp); omega))))⟩
        case measure => simp [intOf]; omega
    · obtain rfl : i = l.length := by omega
      go_wp2_with fail
      have km := krr.set5 (.int .i64 0) (.int .i64 0) (.int .i64 0) (.int .i64 0) (.slice none 0 0)
      refine bodyPost_ret (v := .tuple #[.agg #[.int .i64 0, .int .i64 0, .int .i64 0, .int .i64 0, .slice none 0 0], .bool false]) (by simp [results, Try.results29, go_sem, r0, r1, r2, r3, r4]) rfl ?_
      exact ⟨0, 0, 0, 0, [], none, 0, false, rfl, Lib.hid (by rw [findM_miss ho.out]; rfl), Lib.hid (by rw [findM_miss ho.out]; rfl), Own.nil _ _ _ _, (by repeat (first | (with_reducible refine Below.setCell ?_ ?_ _) | (with_reducible refine Below.alloc ?_ ?_ _) | (with_reducible refine Below.drew ?_) | (with_reducible refine below_drewN ?_ _) | (with_reducible exact Below.refl _ _) | (with_reducible refine Below.trans ?_ (Below.mono be2 ?_)) | (focus (simp; done)) | (focus (simp; omega)) | (focus omega) | (focus (have q0 := Below.size be2; (try simp at q0); (try simp); omega))))⟩
end Go.Proofs.Ytbanejpihdhbdaa
