/- law 04: the sanity check -/
import Derived.Test.YtjnajccobieamaaStream
import Derived.Test.YtjnajccobieamaaLine
namespace Go.Proofs.Ytjnajccobieamaa
open Go.RowKit Go.Sort
set_option linter.unusedVariables false
set_option maxRecDepth 20000

theorem all_awake : allK ([0, 0] ++ frm 9 []) = [(2, 0, []), (0, 9, [])] := by
  have hl : ([0, 0] ++ frm 9 ([] : List UInt8)).length = 12 := by simp [frm_len]
  obtain ⟨l, hd⟩ : ∃ l, [0, 0] ++ frm 9 ([] : List UInt8) = l := ⟨_, rfl⟩
  have d0 : l.drop 0 = 0 :: (0 :: frm 9 []) := by rw [← hd]; rfl
  have d1 : l.drop 1 = 0 :: frm 9 [] := by rw [← hd]; rfl
  have d2 : l.drop 2 = frm 9 [] ++ [] := by rw [← hd, List.append_nil]; rfl
  have p0 : fParse (l.drop 0) = .fault 2 1 := by rw [d0]; exact fp_magic0 (by simp) (by simp [at_])
  have p1 : fParse (l.drop 1) = .fault 2 1 := by rw [d1]; exact fp_magic0 (by simp) (by simp [at_])
  have p2 : fParse (l.drop 2) = ⟨0, 9, [], 10, true⟩ := by rw [d2]; exact fParse_frm [] (by omega) (by omega) (by simp)
  have p3 : fParse (l.drop 12) = .more := by rw [List.drop_eq_nil_of_le (by rw [← hd, hl]; omega)]; exact fp_more0 rfl
  rw [hd] at hl ⊢
  unfold allK
  rw [tRun_go (st := ⟨0, false, []⟩) ⟨by simp, by simp only; rw [p0]; rfl⟩]
  simp only [p0]
  rw [show tStep ⟨0, false, []⟩ (.fault 2 1) = ⟨1, true, [(2, 0, [])]⟩ from rfl, tRun_go (st := ⟨1, true, [(2, 0, [])]⟩) ⟨by simp; omega, by simp only; rw [p1]; rfl⟩]
  simp only [p1]
  rw [show tStep ⟨1, true, [(2, 0, [])]⟩ (.fault 2 1) = ⟨2, true, [(2, 0, [])]⟩ from rfl, tRun_go (st := ⟨2, true, [(2, 0, [])]⟩) ⟨by simp; omega, by simp only; rw [p2]⟩]
  simp only [p2]
  rw [show tStep ⟨2, true, [(2, 0, [])]⟩ ⟨0, 9, [], 10, true⟩ = ⟨12, false, [(2, 0, []), (0, 9, [])]⟩ from rfl, tRun_stop (fun h => by have := h.2; simp only at this; rw [p3] at this; cases this)]
theorem all_awakeE (a : Option Addr) (c : Nat) (w : World) (hb : Byt w a ([0, 0] ++ frm 9 [])) (hc : 12 ≤ c) (ha : a ≠ none) :
    Calls Try.prog 15 #[.slice a 12 c] w fun e w' => ∃ b off c, e = .returned (.slice (some ⟨b, off, none⟩) 2 c) ∧ w'.cell? ⟨b, off, none⟩ = some (.int .i64 2) ∧ w'.cell? ⟨b, off + 3 + 1, none⟩ = some (.int .i64 9) ∧ b < w'.heap.size ∧ Below w.heap.size w w' := by
  have hl : ([0, 0] ++ frm 9 ([] : List UInt8)).length = 12 := by simp [frm_len]
  refine (stream_All a _ 12 c w hb hl.symm (by omega) (by omega) (fun h => absurd h ha)).mono fun e w' h => ?_
  obtain ⟨its, xa, xc, rfl, hk, hi, hbl⟩ := h
  rw [all_awake] at hk
  have hlen : its.length = 2 := by have := congrArg List.length hk; simpa using this
  obtain ⟨b, off, rfl⟩ := hi.open (by omega)
  obtain ⟨x, y, rfl⟩ : ∃ x y, its = [x, y] := match its, hlen with | [x, y], _ => ⟨x, y, rfl⟩
  simp only [List.map_cons, List.map_nil, List.cons.injEq, It.key, Prod.mk.injEq, and_true] at hk
  obtain ⟨x0, -, -, -⟩ := row_item hi.1 0 (by simp)
  obtain ⟨-, y1, -, yl⟩ := row_item hi.1 1 (by simp)
  simp only [Nat.zero_mul, Nat.add_zero, List.getElem_cons_zero, List.getElem_cons_succ, Nat.one_mul] at x0 y1
  rw [hk.1.1] at x0
  rw [hk.2.2.1] at y1
  exact ⟨b, off, xc, rfl, x0, y1, yl, hbl⟩
set_option maxHeartbeats 1000000 in
theorem awake_yes (w : World) : Calls Try.prog 16 #[] w fun e w' => e = .returned (.bool true) ∧ Below w.heap.size w w' := by
  go_enter Try.func16, Try.ntmps16
  go_wp2_with (first | (go_at_call 13; (with_reducible refine (refencode_E 9 none 0 [] 0 _ (by omega) (by omega) (Byt.nil _ _) rfl (by simp)).mono ?_); rintro e w1 ⟨fa, fc, rfl, own1, hb1⟩) | (at_builtin; refine appB rfl _ _ rfl w1.heap.size (some ⟨w1.heap.size, 0, none⟩) 2 2 [0, 0] rfl fa 10 fc (frm 9 []) rfl (own_lit (by rfl)) (own1.byt.alloc _) (by simp [frm_len]) 12 rfl (by omega) (by simp) ?_; intro b2 c2 w2 own2 gr2 bl2; (have be2 := bl2 w1 (by repeat (first | (with_reducible refine Below.setCell ?_ ?_ _) | (with_reducible refine Below.alloc ?_ ?_ _) | (with_reducible refine Below.drew ?_) | (with_reducible refine below_drewN ?_ _) | (with_reducible exact Below.refl _ _) | (focus (simp; done)) | (focus (simp; omega)) | (focus omega)))); (have cp2 := own2.cap_le); (have na2 : b2 ≠ none := by obtain ⟨gg, e, -⟩ := own2.open_ (by omega); rw [e]; simp)) | (go_at_call 15; (with_reducible refine (all_awakeE b2 c2 _ own2.byt cp2 na2).mono ?_); rintro e w3 ⟨b, off, c3, rfl, x0, y1, yl, hb3⟩))
  go_ret
  exact ⟨rfl, (by repeat (first | (with_reducible refine Below.setCell ?_ ?_ _) | (with_reducible refine Below.alloc ?_ ?_ _) | (with_reducible refine Below.drew ?_) | (with_reducible refine below_drewN ?_ _) | (with_reducible exact Below.refl _ _) | (with_reducible refine Below.trans ?_ (Below.mono hb3 ?_)) | (with_reducible refine Below.trans ?_ (Below.mono be2 ?_)) | (with_reducible refine Below.trans ?_ (Below.mono hb1 ?_)) | (focus (simp; done)) | (focus (simp; omega)) | (focus omega) | (focus (have q0 := Below.size hb3; (try simp at q0); have q1 := Below.size be2; (try simp at q1); have q2 := Below.size hb1; (try simp at q2); (try simp); omega))))⟩
end Go.Proofs.Ytjnajccobieamaa
