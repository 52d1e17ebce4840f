/- Revoke, of the program and of the reference -/
import Derived.Test.YtgngmmmdhhjbhaaTkFree
import Derived.Test.YtgngmmmdhhjbhaaTkClone
namespace Go.Proofs.Ytgngmmmdhhjbhaa
set_option linter.unusedVariables false
open Go.RowKit Go.Sort
set_option maxRecDepth 100000

/-- slots that may be handed to the functions -/
structure TkG (w : World) (a : Option Addr) (l : List Tk) (c : Nat) : Prop where
  tks : Tks w a l
  nil : a = none → c = 0
  sec : ∀ t ∈ l, SecOk t
  n : l.length ≤ 20
theorem TkG.below {w w' : World} {a : Option Addr} {l : List Tk} {c : Nat} (h : TkG w a l c) (hb : Below w.heap.size w w') : TkG w' a l c := ⟨h.tks.below hb (Nat.le_refl _), h.nil, h.sec, h.n⟩
theorem TkG.alloc {w : World} {a : Option Addr} {l : List Tk} {c : Nat} (h : TkG w a l c) (o : Obj) : TkG (w.alloc o) a l c := ⟨h.tks.alloc o, h.nil, h.sec, h.n⟩
def TkE (M : Int × List TkK) (w : World) (e : Ending) (w' : World) : Prop :=
  ∃ (xa : Option Addr) (n xc : Nat) (l2 : List Tk) (er : Int), e = .returned (.tuple #[.slice xa n xc, .int .i64 er]) ∧ Hid (M = (er, l2.map Tk.key)) ∧ Hid (n = l2.length) ∧ TkL w' w.heap.size l2 xa xc ∧ Below w.heap.size w w'
theorem TkE.err {M : Int × List TkK} {w w' : World} {er : Int} (h : M = (er, [])) (hb : Below w.heap.size w w') : TkE M w (.returned (.tuple #[.slice none 0 0, .int .i64 er])) w' := ⟨none, 0, 0, [], er, rfl, Lib.hid h, Lib.hid rfl, TkL.nil _ _, hb⟩
def revM (k : List TkK) (slot : Int) : Int × List TkK :=
  if valK k = false then (1, []) else if slot < 1 ∨ 8 ≤ slot then (8, []) else if tU k slot = false then (12, []) else (0, freeM k fun s => dscK k 8 s slot)
section
variable {k : List TkK} {slot : Int}
theorem revM_1 (h : valK k = false) : revM k slot = (1, []) := by unfold revM; rw [if_pos h]
theorem revM_8 (h : valK k = true) (h2 : slot < 1 ∨ 8 ≤ slot) : revM k slot = (8, []) := by unfold revM; rw [if_neg (by rw [h]; decide), if_pos h2]
theorem revM_12 (h : valK k = true) (h2 : ¬ (slot < 1 ∨ 8 ≤ slot)) (h3 : tU k slot = false) : revM k slot = (12, []) := by unfold revM; rw [if_neg (by rw [h]; decide), if_neg h2, if_pos h3]
theorem revM_0 (h : valK k = true) (h2 : ¬ (slot < 1 ∨ 8 ≤ slot)) (h3 : tU k slot = true) : revM k slot = (0, freeM k fun s => dscK k 8 s slot) := by unfold revM; rw [if_neg (by rw [h]; decide), if_neg h2, if_neg (by rw [h3]; decide)]
end
theorem token_ValidE {l : List Tk} {b : Bool} (hv : Hid (valK (l.map Tk.key) = b)) (a : Option Addr) (n c : Nat) (w : World) (h : Tks w a l) (hn : n = l.length) :
    Calls Try.prog 29 #[.slice a n c] w fun e w' => e = .returned (.bool b) ∧ Below w.heap.size w w' := by
  have := token_Valid a l n c w h hn
  rw [hv.out] at this
  exact this
theorem ref14_ValidE {l : List Tk} {b : Bool} (hv : Hid (valK (l.map Tk.key) = b)) (a : Option Addr) (n c : Nat) (w : World) (h : Tks w a l) (hn : n = l.length) :
    Calls Try.prog 35 #[.slice a n c] w fun e w' => e = .returned (.bool b) ∧ Below w.heap.size w w' := by
  have := ref14_Valid a l n c w h hn
  rw [hv.out] at this
  exact this
theorem ref14_BelowE (a : Option Addr) (l : List Tk) (n c : Nat) (slot : Int) (w : World) (h : Tks w a l) (hn : n = l.length) (h8 : l.length = 8) :
    Calls Try.prog 36 #[.slice a n c, .int .i64 slot] w fun e w' => ∃ S : Nat, e = .returned (.int .i64 S) ∧ Hid (S = bsum (fun s => dscK (l.map Tk.key) 8 s slot) l.length) ∧ Below w.heap.size w w' := by
  refine (ref14_Below a l n c slot w h hn (by omega)).mono fun e w' ⟨he, hb⟩ => ⟨_, he, Lib.hid ?_, hb⟩
  refine bsum_ext (fun s => ?_) _
  have e := dsc_more (l.map Tk.key) s slot
  rw [List.length_map, h8] at e
  rw [h8, e]
set_option maxHeartbeats 4000000 in
theorem ref14_Revoke (a : Option Addr) (l : List Tk) (n c : Nat) (slot : Int) (w : World) (h : TkG w a l c) (hn : n = l.length) :
    Calls Try.prog 22 #[.slice a n c, .int .i64 slot] w (TkE (revM (l.map Tk.key) slot) w) := by
  have ht := h.tks
  have HS := Lib.hid (fun t (q : t ∈ l) => (h.sec t q).2)
  have HN := Lib.hid hn
  clear hn h
  cases hv : valK (l.map Tk.key) with
  | false =>
    have HV := Lib.hid hv
    have HF := Lib.hid (revM_1 (slot := slot) hv)
    clear hv
    go_enter Try.func22, Try.ntmps22
    go_wp2_with ((go_at_call 35; (with_reducible refine (ref14_ValidE HV a n c _ ht HN.out).mono ?_); rintro e w1 ⟨rfl, hb⟩))
    refine bodyPost_ret (v := .tuple #[.slice none 0 0, .int .i64 _]) (by simp [results, Try.results22, go_sem]; rfl) rfl ?_
    exact TkE.err HF.out hb
  | true =>
    have h8 : l.length = 8 := by have := (valK_iff.1 hv).1; simpa using this
    have HV := Lib.hid hv
    by_cases hr : slot < 1 ∨ 8 ≤ slot
    · have HF := Lib.hid (revM_8 hv hr)
      clear hv h8
      rcases hr with hr | hr
      · go_enter Try.func22, Try.ntmps22
        go_wp2_with ((go_at_call 35; (with_reducible refine (ref14_ValidE HV a n c _ ht HN.out).mono ?_); rintro e w1 ⟨rfl, hb⟩))
        refine bodyPost_ret (v := .tuple #[.slice none 0 0, .int .i64 _]) (by simp [results, Try.results22, go_sem]; rfl) rfl ?_
        exact TkE.err HF.out hb
      · have hr1 : ¬ slot < 1 := by omega
        go_enter Try.func22, Try.ntmps22
        go_wp2_with ((go_at_call 35; (with_reducible refine (ref14_ValidE HV a n c _ ht HN.out).mono ?_); rintro e w1 ⟨rfl, hb⟩))
        refine bodyPost_ret (v := .tuple #[.slice none 0 0, .int .i64 _]) (by simp [results, Try.results22, go_sem]; rfl) rfl ?_
        exact TkE.err HF.out hb
    · obtain ⟨i, rfl⟩ : ∃ i : Nat, slot = i := ⟨slot.toNat, by omega⟩
      have hi : i < l.length := by omega
      have hr1 : ¬ (i : Int) < 1 := by omega
      have hr2 : ¬ (8 : Int) ≤ (i : Int) := by omega
      have hiN : (i : Int) < (n : Int) := by have := HN.out; omega
      have H8 := Lib.hid h8
      cases hu : tU (l.map Tk.key) i with
      | false =>
        have HF := Lib.hid (revM_12 hv hr hu)
        have hus : l[i].us = false := by rw [← tU_at hi]; exact hu
        clear hv hr hu h8
        go_enter Try.func22, Try.ntmps22
        go_upto_region 3 with ((go_at_call 35; (with_reducible refine (ref14_ValidE HV a n c _ ht HN.out).mono ?_); rintro e w1 ⟨rfl, hb⟩))
        have ht1 := ht.below hb (Nat.le_refl _)
        obtain ⟨ba, oa, rfl⟩ := ht1.open (by omega)
        obtain ⟨x0, -, -, -, -, -, xl⟩ := row_tok ht1.row i hi
        rw [hus] at x0
        clear hus
        go_wp2_with fail
        refine bodyPost_ret (v := .tuple #[.slice none 0 0, .int .i64 _]) (by simp [results, Try.results22, go_sem]; rfl) rfl ?_
        exact TkE.err HF.out hb
      | true =>
        have HF := Lib.hid (revM_0 hv hr hu)
        have hus : l[i].us = true := by rw [← tU_at hi]; exact hu
        clear hv hr hu h8
        go_enter Try.func22, Try.ntmps22
        go_upto_region 3 with ((go_at_call 35; (with_reducible refine (ref14_ValidE HV a n c _ ht HN.out).mono ?_); rintro e w1 ⟨rfl, hb⟩))
        have ht1 := ht.below hb (Nat.le_refl _)
        obtain ⟨ba, oa, rfl⟩ := ht1.open (by omega)
        obtain ⟨x0, -, -, -, -, -, xl⟩ := row_tok ht1.row i hi
        rw [hus] at x0
        clear hus
        go_wp2_with (first | (go_at_call 36; (with_reducible refine (ref14_BelowE _ l n c i _ ht1 HN.out H8.out).mono ?_); rintro e w2 ⟨S, rfl, hS, hb2⟩; (have ht2 := ht1.below hb2 (Nat.le_refl _))) | (go_at_call 52; (with_reducible refine (ref14_free _ l n c (fun s => dscK (l.map Tk.key) 8 s i) S _ ht2 HN.out (by have := HN.out; have := H8.out; omega) HS.out hS).mono ?_); rintro e w3 ⟨xa, xc, l2, rfl, hk, hn2, il, hb3⟩))
        refine bodyPost_ret (v := .tuple #[.slice xa n xc, .int .i64 0]) (by simp [results, Try.results22, go_sem]) rfl ?_
        have be2 : RowKit.Below w.heap.size w w2 := (by repeat (first | (with_reducible refine Below.setCell ?_ ?_ _) | (with_reducible refine Below.alloc ?_ ?_ _) | (with_reducible refine Below.drew ?_) | (with_reducible refine below_drewN ?_ _) | (with_reducible exact Below.refl _ _) | (with_reducible refine Below.trans ?_ (Below.mono hb2 ?_)) | (with_reducible refine Below.trans ?_ (Below.mono hb ?_)) | (focus (simp; done)) | (focus (simp; omega)) | (focus omega) | (focus (have q0 := Below.size hb2; (try simp at q0); have q1 := Below.size hb; (try simp at q1); (try simp); omega))))
        exact ⟨xa, n, xc, l2, 0, rfl, Lib.hid (by rw [HF.out, hk.out]), hn2, il.mono be2.size, (by repeat (first | (with_reducible refine Below.setCell ?_ ?_ _) | (with_reducible refine Below.alloc ?_ ?_ _) | (with_reducible refine Below.drew ?_) | (with_reducible refine below_drewN ?_ _) | (with_reducible exact Below.refl _ _) | (with_reducible refine Below.trans ?_ (Below.mono hb3 ?_)) | (with_reducible refine Below.trans ?_ (Below.mono be2 ?_)) | (focus (simp; done)) | (focus (simp; omega)) | (focus omega) | (focus (have q0 := Below.size hb3; (try simp at q0); have q1 := Below.size be2; (try simp at q1); (try simp); omega))))⟩
end Go.Proofs.Ytgngmmmdhhjbhaa
