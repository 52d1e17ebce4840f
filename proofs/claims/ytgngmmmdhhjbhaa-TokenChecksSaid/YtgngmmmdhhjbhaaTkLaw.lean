/- tokens: what the functions compute; used, ancestors, descends -/
import Derived.Test.YtgngmmmdhhjbhaaTok
import Derived.Test.YtgngmmmdhhjbhaaRange
import Derived.Test.YtgngmmmdhhjbhaaRights
import Derived.Shelf.RegionOpen
import Derived.OwnWalkIn
import Derived.TacticsInMore
import Derived.LoopNIn
import Derived.LoopIn
namespace Go.Proofs.Ytgngmmmdhhjbhaa
set_option linter.unusedVariables false
open Go.RowKit Go.Sort Go.Shelf
set_option maxRecDepth 100000
attribute [local go_sem] Oper.semAt_some

def tU (k : List TkK) (s : Int) : Bool := decide (0 ≤ s) && match k[s.toNat]? with
  | some t => t.us
  | none => false
def tP (k : List TkK) (s : Int) : Int := match k[s.toNat]? with
  | some t => t.par
  | none => -1
/-- the used slots that following the parents leads to: so many steps -/
def ancK (k : List TkK) : Nat → Int → List Int
  | 0, _ => []
  | n + 1, s => if tU k s = true then s :: ancK k n (tP k s) else []
def dscK (k : List TkK) (n : Nat) (s top : Int) : Bool := (ancK k n s).contains top
section
variable {l : List Tk} {s : Int} {i : Nat}
theorem tU_at (h : i < l.length) : tU (l.map Tk.key) (i : Int) = l[i].us := by simp [tU, h, Tk.key]
theorem tP_at (h : i < l.length) : tP (l.map Tk.key) (i : Int) = l[i].par := by simp [tP, h, Tk.key]
theorem tU_neg (h : s < 0) : tU (l.map Tk.key) s = false := by simp [tU]; omega
theorem tU_out (h : (l.length : Int) ≤ s) : tU (l.map Tk.key) s = false := by
  have : (l.map Tk.key)[s.toNat]? = none := by rw [List.getElem?_eq_none]; simp; omega
  simp [tU, this]
theorem tU_in (h : tU (l.map Tk.key) s = true) : ∃ i : Nat, s = i ∧ i < l.length := by
  rcases Int.lt_or_le s 0 with q | q
  · rw [tU_neg q] at h; cases h
  · rcases Int.lt_or_le s l.length with q2 | q2
    · exact ⟨s.toNat, by omega, by omega⟩
    · rw [tU_out q2] at h; cases h
end
theorem token_used (a : Option Addr) (l : List Tk) (n c : Nat) (s : Int) (w : World) (h : Tks w a l) (hn : n = l.length) :
    Calls Try.prog 42 #[.slice a n c, .int .i64 s] w fun e w' => e = .returned (.bool (tU (l.map Tk.key) s)) ∧ w = w' := by
  subst hn
  rcases Int.lt_or_le s 0 with h0 | h0
  · rw [tU_neg h0]
    go_enter Try.func42, Try.ntmps42
    go_wp2_with fail
    go_ret
    exact ⟨rfl, rfl⟩
  · rcases Int.lt_or_le s l.length with h1 | h1
    · obtain ⟨i, rfl⟩ : ∃ i : Nat, s = i := ⟨s.toNat, by omega⟩
      have hi : i < l.length := by omega
      obtain ⟨ba, oa, rfl⟩ := h.open (by omega)
      obtain ⟨x0, -, -, -, -, -, xl⟩ := row_tok h.row i hi
      rw [tU_at hi]
      go_enter Try.func42, Try.ntmps42
      go_wp2_with fail
      go_ret
      exact ⟨rfl, rfl⟩
    · rw [tU_out h1]
      have h1' : ¬ s < (l.length : Int) := by omega
      go_enter Try.func42, Try.ntmps42
      go_wp2_with fail
      go_ret
      exact ⟨rfl, rfl⟩
theorem ancK_yes {k : List TkK} {n : Nat} {s : Int} (h : tU k s = true) : ancK k (n + 1) s = s :: ancK k n (tP k s) := by simp [ancK, h]
theorem ancK_no {k : List TkK} {n : Nat} {s : Int} (h : tU k s = false) : ancK k (n + 1) s = [] := by simp [ancK, h]
theorem ancK_used {k : List TkK} : ∀ {n : Nat} {s x : Int}, x ∈ ancK k n s → tU k x = true
  | 0, s, x, h => by simp [ancK] at h
  | n + 1, s, x, h => by
    unfold ancK at h
    split at h
    · rcases List.mem_cons.1 h with rfl | h
      · assumption
      · exact ancK_used h
    · simp at h
set_option maxHeartbeats 2000000 in
theorem ancestors_seq (n : Nat) (hn : 1 ≤ n) (a : Option Addr) (l : List Tk) (c : Nat) (s : Int) (Bs Bl : Nat) (w : World) (hs : Blk w Bs 3 #[.int .i64 s]) (hl : Blk w Bl 22 #[.slice a l.length c]) (h : Tks w a l) :
    SeqV Fence.wide n Try.prog 64 #[.pointer (some ⟨Bs, 0, none⟩), .pointer (some ⟨Bl, 0, none⟩)] (fun x : Int => #[.int .i64 x]) (fun pre x _ => ∃ t, ancK (l.map Tk.key) 8 s = pre ++ x :: t) (Below w.heap.size) (fun xs => xs = ancK (l.map Tk.key) 8 s) (fun pre => ∃ t, ancK (l.map Tk.key) 8 s = pre ++ t) w := fun L J Jx W hW hJ hJx hY h0 => by
  refine callsIn_of_wp Try.func64 rfl trivial ?_ rfl
  simp only [Try.ntmps64, List.size_toArray, List.length_cons, List.length_nil, Nat.reduceAdd, Nat.reduceSub, Array.replicate_succ, Array.replicate_zero, List.push_toArray, List.append_toArray, List.nil_append, List.cons_append]
  have kS := hs.below hW hs.lt
  have e0 := kS.cell 0
  have el := kS.lt
  gi_wp2
  gi_loopw [4, 6] (fun s4 s6 wr => ∃ (i : Nat) (at_ : Int) (pre : List Int), s4 = .int .i64 at_ ∧ s6 = .int .i64 i ∧ i ≤ 8 ∧ Hid (ancK (l.map Tk.key) 8 s = pre ++ ancK (l.map Tk.key) (8 - i) at_) ∧ J pre wr ∧ RowKit.Below w.heap.size w wr) (fun _ s6 _ => 8 - (intOf s6).toNat)
  case atStart => exact ⟨0, s, [], rfl, rfl, by omega, Lib.hid rfl, h0, hW⟩
  case round =>
    obtain ⟨i, at_, pre, rfl, rfl, hi, hp, hJ0, hb⟩ := hrel
    have kL := hl.below hb hl.lt
    have l0 := kL.cell 0
    have ll := kL.lt
    have ht := h.below hb (Nat.le_refl _)
    by_cases hi8 : i < 8
    · have ki : (i : Int) < 8 := by omega
      cases hu : tU (l.map Tk.key) at_ with
      | false =>
        have HU := Lib.hid hu
        have HP : Hid (pre = ancK (l.map Tk.key) 8 s) := Lib.hid (by rw [hp.out, show 8 - i = (7 - i) + 1 by omega, ancK_no hu, List.append_nil])
        have hus := token_used a l l.length c at_ wr ht rfl
        rw [hu] at hus
        gi_wp2_with (refine ⟨trivial, ?_⟩; gi_at_call 42; refine (callsIn_wide.2 hus).mono ?_; rintro e w2 ⟨rfl, rfl⟩)
        refine ⟨fun _ h => (by cases h), ?_⟩
        gi_wp2
        refine bodyPost_ret (results_none rfl _ _ _) rfl ?_
        exact ⟨⟨_, rfl⟩, .inl ⟨pre, HP.out, hJ0⟩⟩
      | true =>
        obtain ⟨j, rfl, hj⟩ := tU_in hu
        have HN : Hid (ancK (l.map Tk.key) 8 s = pre ++ (j : Int) :: ancK (l.map Tk.key) (7 - i) (tP (l.map Tk.key) j)) := Lib.hid (by rw [hp.out, show 8 - i = (7 - i) + 1 by omega, ancK_yes hu])
        have hus := token_used a l l.length c j wr ht rfl
        rw [hu] at hus
        have HPJ := Lib.hid (tP_at hj)
        have jx : (j : Int) < (l.length : Int) := by omega
        obtain ⟨fn, tmps, assign, body, hy, hR⟩ := hY pre (j : Int) wr hJ0 ⟨_, HN.out⟩
        gi_wp2_with (refine ⟨trivial, ?_⟩; gi_at_call 42; refine (callsIn_wide.2 hus).mono ?_; rintro e w2 ⟨rfl, rfl⟩)
        refine hR.mono ?_
        rintro e W3 (⟨rfl, hJ3, hk3⟩ | ⟨rfl, hJx3⟩)
        · have hb3 : RowKit.Below w.heap.size w W3 := hb.trans hk3
          have ht3 := h.below hb3 (Nat.le_refl _)
          have kL3 := hl.below hb3 hl.lt
          have l3 := kL3.cell 0
          have ll3 := kL3.lt
          obtain ⟨ba, oa, rfl⟩ := ht3.open (by omega)
          obtain ⟨-, -, x2, -, -, -, xl⟩ := row_tok ht3.row j hj
          gi_wp2
          go_roundw
          case rel => exact ⟨i + 1, l[j].par, pre ++ [(j : Int)], rfl, by go_num, by omega, Lib.hid (by rw [HN.out, HPJ.out, List.append_assoc, show 8 - (i + 1) = 7 - i by omega]; rfl), hJ3, hb3⟩
          case measure => simp [intOf]; omega
        · gi_wp2
          refine bodyPost_ret (results_none rfl _ _ _) rfl ?_
          exact ⟨⟨_, rfl⟩, .inr ⟨pre ++ [(j : Int)], ⟨_, by rw [HN.out, List.append_assoc]; rfl⟩, hJx3⟩⟩
    · obtain rfl : i = 8 := by omega
      have HP : Hid (pre = ancK (l.map Tk.key) 8 s) := Lib.hid (by rw [hp.out]; simp [ancK])
      gi_wp2
      go_end0
      exact ⟨⟨_, rfl⟩, .inl ⟨pre, HP.out, hJ0⟩⟩
end Go.Proofs.Ytgngmmmdhhjbhaa
