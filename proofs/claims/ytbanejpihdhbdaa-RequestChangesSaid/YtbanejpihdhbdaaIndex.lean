/- slices.IndexFunc of requests and of legs; request.index, Find, Without, Expire -/
import Derived.Test.YtbanejpihdhbdaaKept
namespace Go.Proofs.Ytbanejpihdhbdaa
set_option linter.unusedVariables false
open Go.RowKit Go.Sort
set_option maxRecDepth 100000

def IdxR (n : Nat) (P : Nat → Prop) (w : World) (e : Ending) (w' : World) : Prop :=
  ∃ r : Int, e = .returned (.int .i64 r) ∧ Hid ((r = -1 ∧ ∀ k, k < n → ¬ P k) ∨ ∃ i : Nat, i < n ∧ r = i ∧ P i ∧ ∀ k, k < i → ¬ P k) ∧ Below w.heap.size w w'
set_option maxHeartbeats 4000000 in
theorem indexFunc_Req (a : Option Addr) (l : List Rq) (n c nb : Nat) (q : Int) (w : World) (h : Rqs w a l) (hn : n = l.length) (l9 : n ≤ 10000) (hc : Blk w nb 3 #[.int .i64 q]) :
    Calls Try.prog 60 #[.slice a n c, .func (.func 61) #[] #[.pointer (some ⟨nb, 0, none⟩)]] w (IdxR l.length (fun i => ∃ h : i < l.length, l[i].id = q) w) := by
  subst hn
  go_enter Try.func60, Try.ntmps60
  go_wp2
  go_loopw [8] (fun s8 wr => ∃ i : Nat, s8 = .int .i64 i ∧ i ≤ l.length ∧ Hid (∀ k, k < i → ¬ ∃ h : k < l.length, l[k].id = q) ∧ RowKit.Below w.heap.size w wr) (fun s _ => l.length - (intOf s).toNat)
  case atStart => exact ⟨0, rfl, by omega, Lib.hid fun k h => by omega, (by repeat (first | (with_reducible refine Below.setCell ?_ ?_ _) | (with_reducible refine Below.alloc ?_ ?_ _) | (with_reducible refine Below.drew ?_) | (with_reducible refine below_drewN ?_ _) | (with_reducible exact Below.refl _ _) | (focus (simp; done)) | (focus (simp; omega)) | (focus omega)))⟩
  case round =>
    obtain ⟨i, rfl, hi, ho, be⟩ := hrel
    by_cases hlt : i < l.length
    · have kx : (i : Int) < (l.length : Int) := by omega
      obtain ⟨ba, oa, rfl⟩ := h.open (by omega)
      obtain ⟨x0, x1, x2, x3, x4, xb⟩ := row_req (h.below be (Nat.le_refl _)).row i hlt
      obtain ⟨x, hx⟩ : ∃ x, l[i] = x := ⟨_, rfl⟩
      rw [hx] at x0 x1 x2 x3 x4
      have HX := Lib.hid hx
      clear hx
      obtain ⟨id, veh, cls, til, lg, la, lc⟩ := x
      simp only at x0 x1 x2 x3 x4
      have kc := hc.below be hc.lt
      have cc := kc.cell 0
      have cl := kc.lt
      go_upto_if 16 with ((go_at_call 61; (with_reducible refine (index_Req id veh cls til la lg.length lc nb q _ cc cl).mono ?_); rintro e w2 ⟨rfl, hb2⟩))
      by_cases hq : id = q
      · subst hq
        go_wp2_with fail
        go_ret
        exact ⟨i, rfl, Lib.hid (.inr ⟨i, hlt, rfl, ⟨hlt, by rw [HX.out]⟩, ho.out⟩), (by repeat (first | (with_reducible refine Below.setCell ?_ ?_ _) | (with_reducible refine Below.alloc ?_ ?_ _) | (with_reducible refine Below.drew ?_) | (with_reducible refine below_drewN ?_ _) | (with_reducible exact Below.refl _ _) | (with_reducible refine Below.trans ?_ (Below.mono hb2 ?_)) | (with_reducible refine Below.trans ?_ (Below.mono be ?_)) | (focus (simp; done)) | (focus (simp; omega)) | (focus omega) | (focus (have q0 := Below.size hb2; (try simp at q0); have q1 := Below.size be; (try simp at q1); (try simp); omega))))⟩
      · have zq : (id == q) = false := by rw [beq_eq_false_iff_ne]; exact hq
        have HQ := Lib.hid hq
        clear hq
        go_wp2_with fail
        go_roundw
        case rel => exact ⟨i + 1, by go_num, by omega, Lib.hid fun k hk => by
          by_cases e : k = i
          · subst e
            rintro ⟨h1, h2⟩
            rw [HX.out] at h2
            exact HQ.out h2
          · exact ho.out k (by omega), (by repeat (first | (with_reducible refine Below.setCell ?_ ?_ _) | (with_reducible refine Below.alloc ?_ ?_ _) | (with_reducible refine Below.drew ?_) | (with_reducible refine below_drewN ?_ _) | (with_reducible exact Below.refl _ _) | (with_reducible refine Below.trans ?_ (Below.mono hb2 ?_)) | (with_reducible refine Below.trans ?_ (Below.mono be ?_)) | (focus (simp; done)) | (focus (simp; omega)) | (focus omega) | (focus (have q0 := Below.size hb2; (try simp at q0); have q1 := Below.size be; (try simp at q1); (try simp); omega))))⟩
        case measure => simp [intOf]; omega
    · obtain rfl : i = l.length := by omega
      go_wp2_with fail
      go_ret
      exact ⟨-1, rfl, Lib.hid (.inl ⟨rfl, ho.out⟩), be⟩
set_option maxHeartbeats 4000000 in
theorem indexFunc_Leg (a : Option Addr) (l : List Lg) (n c nb : Nat) (q : Int) (w : World) (h : Row w a (lgCells l)) (hn : n = l.length) (l9 : n ≤ 10000) (hc : Blk w nb 3 #[.int .i64 q]) :
    Calls Try.prog 47 #[.slice a n c, .func (.func 48) #[] #[.pointer (some ⟨nb, 0, none⟩)]] w (IdxR l.length (fun i => ∃ h : i < l.length, l[i].ju = q) w) := by
  subst hn
  go_enter Try.func47, Try.ntmps47
  go_wp2
  go_loopw [8] (fun s8 wr => ∃ i : Nat, s8 = .int .i64 i ∧ i ≤ l.length ∧ Hid (∀ k, k < i → ¬ ∃ h : k < l.length, l[k].ju = q) ∧ RowKit.Below w.heap.size w wr) (fun s _ => l.length - (intOf s).toNat)
  case atStart => exact ⟨0, rfl, by omega, Lib.hid fun k h => by omega, (by repeat (first | (with_reducible refine Below.setCell ?_ ?_ _) | (with_reducible refine Below.alloc ?_ ?_ _) | (with_reducible refine Below.drew ?_) | (with_reducible refine below_drewN ?_ _) | (with_reducible exact Below.refl _ _) | (focus (simp; done)) | (focus (simp; omega)) | (focus omega)))⟩
  case round =>
    obtain ⟨i, rfl, hi, ho, be⟩ := hrel
    by_cases hlt : i < l.length
    · have kx : (i : Int) < (l.length : Int) := by omega
      obtain ⟨ba, oa, rfl⟩ := h.open_lg (by omega)
      obtain ⟨x0, x1, x2, x3, x4, xb⟩ := row_leg (h.below be (Nat.le_refl _)) i hlt
      obtain ⟨x, hx⟩ : ∃ x, l[i] = x := ⟨_, rfl⟩
      rw [hx] at x0 x1 x2 x3 x4
      have HX := Lib.hid hx
      clear hx
      obtain ⟨ju, ph, fr, to_, si⟩ := x
      simp only at x0 x1 x2 x3 x4
      have kc := hc.below be hc.lt
      have cc := kc.cell 0
      have cl := kc.lt
      go_upto_if 16 with ((go_at_call 48; (with_reducible refine (index_Leg ju ph fr to_ si nb q _ cc cl).mono ?_); rintro e w2 ⟨rfl, hb2⟩))
      by_cases hq : ju = q
      · subst hq
        go_wp2_with fail
        go_ret
        exact ⟨i, rfl, Lib.hid (.inr ⟨i, hlt, rfl, ⟨hlt, by rw [HX.out]⟩, ho.out⟩), (by repeat (first | (with_reducible refine Below.setCell ?_ ?_ _) | (with_reducible refine Below.alloc ?_ ?_ _) | (with_reducible refine Below.drew ?_) | (with_reducible refine below_drewN ?_ _) | (with_reducible exact Below.refl _ _) | (with_reducible refine Below.trans ?_ (Below.mono hb2 ?_)) | (with_reducible refine Below.trans ?_ (Below.mono be ?_)) | (focus (simp; done)) | (focus (simp; omega)) | (focus omega) | (focus (have q0 := Below.size hb2; (try simp at q0); have q1 := Below.size be; (try simp at q1); (try simp); omega))))⟩
      · have zq : (ju == q) = false := by rw [beq_eq_false_iff_ne]; exact hq
        have HQ := Lib.hid hq
        clear hq
        go_wp2_with fail
        go_roundw
        case rel => exact ⟨i + 1, by go_num, by omega, Lib.hid fun k hk => by
          by_cases e : k = i
          · subst e
            rintro ⟨h1, h2⟩
            rw [HX.out] at h2
            exact HQ.out h2
          · exact ho.out k (by omega), (by repeat (first | (with_reducible refine Below.setCell ?_ ?_ _) | (with_reducible refine Below.alloc ?_ ?_ _) | (with_reducible refine Below.drew ?_) | (with_reducible refine below_drewN ?_ _) | (with_reducible exact Below.refl _ _) | (with_reducible refine Below.trans ?_ (Below.mono hb2 ?_)) | (with_reducible refine Below.trans ?_ (Below.mono be ?_)) | (focus (simp; done)) | (focus (simp; omega)) | (focus omega) | (focus (have q0 := Below.size hb2; (try simp at q0); have q1 := Below.size be; (try simp at q1); (try simp); omega))))⟩
        case measure => simp [intOf]; omega
    · obtain rfl : i = l.length := by omega
      go_wp2_with fail
      go_ret
      exact ⟨-1, rfl, Lib.hid (.inl ⟨rfl, ho.out⟩), be⟩
theorem request_index (a : Option Addr) (l : List Rq) (n c : Nat) (q : Int) (w : World) (h : Rqs w a l) (hn : n = l.length) (l9 : n ≤ 10000) :
    Calls Try.prog 40 #[.slice a n c, .int .i64 q] w (IdxR l.length (fun i => ∃ h : i < l.length, l[i].id = q) w) := by
  have HN := Lib.hid hn
  clear hn
  go_enter Try.func40, Try.ntmps40
  go_wp2_with ((go_at_call 60; (with_reducible refine (indexFunc_Req a l n c w.heap.size q _ (h.alloc _) HN.out l9 (Blk.new _ _ _)).mono ?_); rintro e w2 ⟨r, rfl, hr, hb2⟩))
  go_ret
  exact ⟨r, rfl, hr, (by repeat (first | (with_reducible refine Below.setCell ?_ ?_ _) | (with_reducible refine Below.alloc ?_ ?_ _) | (with_reducible refine Below.drew ?_) | (with_reducible refine below_drewN ?_ _) | (with_reducible exact Below.refl _ _) | (with_reducible refine Below.trans ?_ (Below.mono hb2 ?_)) | (focus (simp; done)) | (focus (simp; omega)) | (focus omega) | (focus (have q0 := Below.size hb2; (try simp at q0); (try simp); omega))))⟩
end Go.Proofs.Ytbanejpihdhbdaa
