/- signalbrokerlaw14.awake -/
import Derived.Test.YtgngmmmdhhjbhaaTkMk
namespace Go.Proofs.Ytgngmmmdhhjbhaa
set_option linter.unusedVariables false
open Go.RowKit Go.Sort
set_option maxRecDepth 100000

theorem Own.none_len {w : World} {base : Nat} {e : TypeId} {size n cap : Nat} {a : Option Addr} {xs : List Value} (h : Own w base e size a n cap xs) (ha : a = none) : n = 0 ∧ cap = 0 := by
  subst ha
  rcases h.2 with ⟨hv, h0⟩ | ⟨g, c, cur, hv, _⟩
  · injection hv with _ _ h3
    exact ⟨h0, h3⟩
  · injection hv with h1 _ _; cases h1
theorem val_sec {k : List TkK} (h : valK k = true) : ∀ t ∈ k, t.sec.length ≤ 8 := by
  intro t ht
  obtain ⟨i, hi, rfl⟩ := List.mem_iff_getElem.1 ht
  cases hu : k[i].us with
  | true =>
    have := (val_used h hi hu).1
    simp only [sndB, sndN, Bool.and_eq_true, decide_eq_true_eq] at this
    omega
  | false =>
    have := val_free h hi hu
    simp only [freB, freN, Bool.and_eq_true, decide_eq_true_eq] at this
    omega
theorem TkL.g {W : World} {B : Nat} {l : List Tk} {xa : Option Addr} {xc : Nat} (h : TkL W B l xa xc) (hv : Hid (valK (l.map Tk.key) = true)) : TkG W xa l xc := by
  refine ⟨h.tks, fun e => (h.own.none_len e).2, fun t ht => ⟨fun e => (h.sec t ht).none_len e, ?_⟩, ?_⟩
  · have := val_sec hv.out t.key (List.mem_map_of_mem ht)
    have e : t.key.sec = t.sec := rfl
    rw [e] at this
    omega
  · have := (valK_iff.1 hv.out).1
    rw [List.length_map] at this
    omega
def awA : List TkK := (derM (newK (secX 1) 63 3) 0 63 3 0 (secX 2) 0).2.2
def awB : List TkK := (derM awA 1 1 0 0 (secX 3) 0).2.2
def awC : List TkK := (revM awB 1).2
theorem aw_1 : valK (newK (secX 1) 63 3) = true := by decide +kernel
theorem aw_2 : derM (newK (secX 1) 63 3) 0 63 3 0 (secX 2) 0 = (0, 1, awA) := by decide +kernel
theorem aw_3 : derM awA 1 1 0 0 (secX 3) 0 = (0, 2, awB) := by decide +kernel
theorem aw_4 : revM awB 1 = (0, awC) := by decide +kernel
theorem aw_5 : bsum (fun s => dscK awB 8 s 1) 8 = 6 := by decide +kernel
theorem aw_6 : tU awC ((2 : Nat) : Int) = false ∧ awC.length = 8 := by decide +kernel
theorem TkE3.open {M : Int × Int × List TkK} {w w' : World} {e : Ending} (h : TkE3 M w e w') {er s : Int} {k : List TkK} (hM : M = (er, s, k)) : ∃ (xa : Option Addr) (n xc : Nat) (l2 : List Tk), e = .returned (.tuple #[.slice xa n xc, .int .i64 s, .int .i64 er]) ∧ Hid (l2.map Tk.key = k) ∧ Hid (n = l2.length) ∧ Hid (n = k.length) ∧ TkL w' w.heap.size l2 xa xc ∧ Below w.heap.size w w' := by
  obtain ⟨xa, n, xc, l2, s', er', he, hm, hn, il, hb⟩ := h
  have := hm.out
  rw [hM] at this
  injection this with e1 e2
  injection e2 with e2 e3
  subst e1 e2 e3
  exact ⟨xa, n, xc, l2, he, Lib.hid rfl, hn, Lib.hid (by rw [hn.out, List.length_map]), il, hb⟩
theorem TkE.open {M : Int × List TkK} {w w' : World} {e : Ending} (h : TkE M w e w') {er : Int} {k : List TkK} (hM : M = (er, k)) : ∃ (xa : Option Addr) (n xc : Nat) (l2 : List Tk), e = .returned (.tuple #[.slice xa n xc, .int .i64 er]) ∧ Hid (l2.map Tk.key = k) ∧ Hid (n = l2.length) ∧ Hid (n = k.length) ∧ TkL w' w.heap.size l2 xa xc ∧ Below w.heap.size w w' := by
  obtain ⟨xa, n, xc, l2, er', he, hm, hn, il, hb⟩ := h
  have := hm.out
  rw [hM] at this
  injection this with e1 e2
  subst e1 e2
  exact ⟨xa, n, xc, l2, he, Lib.hid rfl, hn, Lib.hid (by rw [hn.out, List.length_map]), il, hb⟩
theorem derM_len {k : List TkK} {p r c f : Int} {sec : List UInt8} {now er s : Int} {y : List TkK} (h : derM k p r c f sec now = (er, s, y)) (he : er = 0) : y.length = 8 := (valK_iff.1 (der_val h he).2.1).1
set_option maxHeartbeats 4000000 in
theorem law_awake (w : World) : Calls Try.prog 11 #[] w fun e w' => e = .returned (.bool true) ∧ RowKit.Below w.heap.size w w' := by
  have S1 : Hid (8 = (secX 1).length) := Lib.hid rfl
  have S2 : Hid (8 = (secX 2).length) := Lib.hid rfl
  have S3 : Hid (8 = (secX 3).length) := Lib.hid rfl
  go_enter Try.func11, Try.ntmps11
  go_upto_region 2 with (first | (go_at_call 16; (with_reducible refine (mk_Secret _ _).mono ?_); rintro e w1 ⟨sa, sc, rfl, own1, hb1⟩; ((have n1 := Lib.hid own1.none_len))) | (go_at_call 26; (with_reducible refine (token_New sa (secX 1) 8 sc 63 3 none 0 0 0 0 0 0 _ own1.byt S1.out (by decide) n1.out).mono ?_); rintro e w2 ⟨xa, xc, l2, rfl, hk2, hn2, il2, hb2⟩))
  have be2 : RowKit.Below w.heap.size w w2 := (by repeat (first | (with_reducible refine Below.setCell ?_ ?_ _) | (with_reducible refine Below.alloc ?_ ?_ _) | (with_reducible refine Below.drew ?_) | (with_reducible refine below_drewN ?_ _) | (with_reducible exact Below.refl _ _) | (with_reducible refine Below.trans ?_ (Below.mono hb2 ?_)) | (with_reducible refine Below.trans ?_ (Below.mono hb1 ?_)) | (focus (simp; done)) | (focus (simp; omega)) | (focus omega) | (focus (have q0 := Below.size hb2; (try simp at q0); have q1 := Below.size hb1; (try simp at q1); (try simp); omega))))
  have V2 : Hid (valK (l2.map Tk.key) = true) := Lib.hid (by rw [hk2.out]; exact aw_1)
  clear hb1 hb2 own1 n1
  go_upto_region 3 with (first | (go_at_call 16; (with_reducible refine (mk_Secret _ _).mono ?_); rintro e w3 ⟨sb, sd, rfl, own3, hb3⟩; ((have n3 := Lib.hid own3.none_len); (have g3 := (il2.g V2).below hb3))) | (go_at_call 18; (with_reducible refine (token_Derive xa l2 8 xc 0 63 3 0 sb (secX 2) 8 sd 0 _ g3 hn2.out own3.byt S2.out (by decide) n3.out).mono ?_); intro e w4 h4; obtain ⟨xb, n4, xd, l4, rfl, hk4, hn4, hm4, il4, hb4⟩ := h4.open (er := 0) (s := 1) (k := awA) (by rw [hk2.out]; exact aw_2)))
  have be4 : RowKit.Below w.heap.size w w4 := (by repeat (first | (with_reducible refine Below.setCell ?_ ?_ _) | (with_reducible refine Below.alloc ?_ ?_ _) | (with_reducible refine Below.drew ?_) | (with_reducible refine below_drewN ?_ _) | (with_reducible exact Below.refl _ _) | (with_reducible refine Below.trans ?_ (Below.mono hb4 ?_)) | (with_reducible refine Below.trans ?_ (Below.mono hb3 ?_)) | (with_reducible refine Below.trans ?_ (Below.mono be2 ?_)) | (focus (simp; done)) | (focus (simp; omega)) | (focus omega) | (focus (have q0 := Below.size hb4; (try simp at q0); have q1 := Below.size hb3; (try simp at q1); have q2 := Below.size be2; (try simp at q2); (try simp); omega))))
  obtain rfl : n4 = 8 := by rw [hm4.out]; exact derM_len aw_2 rfl
  have V4 : Hid (valK (l4.map Tk.key) = true) := Lib.hid (by rw [hk4.out]; exact (der_val aw_2 rfl).2.1)
  clear hb3 hb4 own3 n3 g3 il2 hk2 hn2 V2 be2 hm4
  go_upto_region 4 with (first | (go_at_call 16; (with_reducible refine (mk_Secret _ _).mono ?_); rintro e w5 ⟨sb, sd, rfl, own3, hb5⟩; ((have n3 := Lib.hid own3.none_len); (have g3 := (il4.g V4).below hb5))) | (go_at_call 18; (with_reducible refine (token_Derive xb l4 8 xd 1 1 0 0 sb (secX 3) 8 sd 0 _ g3 hn4.out own3.byt S3.out (by decide) n3.out).mono ?_); intro e w6 h6; obtain ⟨xb, n6, xd, l6, rfl, hk6, hn6, hm6, il6, hb6⟩ := h6.open (er := 0) (s := 2) (k := awB) (by rw [hk4.out]; exact aw_3)))
  have be6 : RowKit.Below w.heap.size w w6 := (by repeat (first | (with_reducible refine Below.setCell ?_ ?_ _) | (with_reducible refine Below.alloc ?_ ?_ _) | (with_reducible refine Below.drew ?_) | (with_reducible refine below_drewN ?_ _) | (with_reducible exact Below.refl _ _) | (with_reducible refine Below.trans ?_ (Below.mono hb6 ?_)) | (with_reducible refine Below.trans ?_ (Below.mono hb5 ?_)) | (with_reducible refine Below.trans ?_ (Below.mono be4 ?_)) | (focus (simp; done)) | (focus (simp; omega)) | (focus omega) | (focus (have q0 := Below.size hb6; (try simp at q0); have q1 := Below.size hb5; (try simp at q1); have q2 := Below.size be4; (try simp at q2); (try simp); omega))))
  obtain rfl : n6 = 8 := by rw [hm6.out]; exact derM_len aw_3 rfl
  have V6 : Hid (valK (l6.map Tk.key) = true) := Lib.hid (by rw [hk6.out]; exact (der_val aw_3 rfl).2.1)
  clear hb5 hb6 own3 n3 g3 il4 hk4 hn4 V4 be4 hm6
  have g6 := il6.g V6
  go_upto_region 5 with ((go_at_call 21; (with_reducible refine (token_Revoke xb l6 8 xd 1 _ g6 hn6.out).mono ?_); intro e w7 h7; obtain ⟨xe, n7, xf, l7, rfl, hk7, hn7, hm7, il7, hb7⟩ := h7.open (er := 0) (k := awC) (by rw [hk6.out]; exact aw_4)))
  obtain rfl : n7 = 8 := by rw [hm7.out]; exact aw_6.2
  have be7 : RowKit.Below w.heap.size w w7 := (by repeat (first | (with_reducible refine Below.setCell ?_ ?_ _) | (with_reducible refine Below.alloc ?_ ?_ _) | (with_reducible refine Below.drew ?_) | (with_reducible refine below_drewN ?_ _) | (with_reducible exact Below.refl _ _) | (with_reducible refine Below.trans ?_ (Below.mono hb7 ?_)) | (with_reducible refine Below.trans ?_ (Below.mono be6 ?_)) | (focus (simp; done)) | (focus (simp; omega)) | (focus omega) | (focus (have q0 := Below.size hb7; (try simp at q0); have q1 := Below.size be6; (try simp at q1); (try simp); omega))))
  have t7 := (g6.below hb7).tks
  have L6 : Hid (l6.length ≤ 8) := Lib.hid (by rw [← hn6.out]; exact Nat.le_refl _)
  have B6 : Hid (bsum (fun s => dscK (l6.map Tk.key) 8 s 1) l6.length = 6) := Lib.hid (by rw [hk6.out, ← hn6.out]; exact aw_5)
  have hl7 : 2 < l7.length := by rw [← hn7.out]; decide
  have u7 : l7[2].us = false := by
    rw [← tU_at hl7, hk7.out]
    exact aw_6.1
  go_wp2_with ((go_at_call 31; (with_reducible refine (token_Below xb l6 8 xd 1 _ t7 hn6.out L6.out).mono ?_); rintro e w8 ⟨rfl, hb8⟩; rw [B6.out]; (have t8 := il7.tks.below hb8 (Nat.le_refl _)); obtain ⟨ba, oa, rfl⟩ := t8.open (by omega); obtain ⟨x0, -, -, -, -, -, xl⟩ := row_tok t8.row 2 hl7; rw [u7] at x0))
  go_ret
  exact ⟨rfl, (by repeat (first | (with_reducible refine Below.setCell ?_ ?_ _) | (with_reducible refine Below.alloc ?_ ?_ _) | (with_reducible refine Below.drew ?_) | (with_reducible refine below_drewN ?_ _) | (with_reducible exact Below.refl _ _) | (with_reducible refine Below.trans ?_ (Below.mono hb8 ?_)) | (with_reducible refine Below.trans ?_ (Below.mono be7 ?_)) | (focus (simp; done)) | (focus (simp; omega)) | (focus omega) | (focus (have q0 := Below.size hb8; (try simp at q0); have q1 := Below.size be7; (try simp at q1); (try simp); omega))))⟩
end Go.Proofs.Ytgngmmmdhhjbhaa
