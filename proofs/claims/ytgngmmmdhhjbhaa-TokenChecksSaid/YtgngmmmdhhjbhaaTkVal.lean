/- valid slots; token.Valid -/
import Derived.Test.YtgngmmmdhhjbhaaTkFns
namespace Go.Proofs.Ytgngmmmdhhjbhaa
set_option linter.unusedVariables false
open Go.RowKit Go.Sort
set_option maxRecDepth 100000

def sndB (t : TkK) : Bool := sndN t.sec.length t.rt t.cl t.un
def freB (t : TkK) : Bool := freN t.us t.sec.length t.par t.rt t.cl t.un
def gK (k : List TkK) (i : Int) : TkK := k.getD i.toNat ⟨false, [], -1, 0, 0, 0⟩
def upK (t p : TkK) : Bool := rWithin t.rt p.rt && (decide (t.cl ≤ p.cl) && !latB t.un p.un)
def slotK (k : List TkK) (i : Nat) : Bool := if (gK k i).us = true then sndB (gK k i) && (dscK k 8 i 0 && (decide (i = 0) || upK (gK k i) (gK k (gK k i).par))) else freB (gK k i)
def rootK (t : TkK) : Bool := t.us && (decide (t.par = -1) && decide (t.un = 0))
def valK (k : List TkK) : Bool := decide (k.length = 8) && (rootK (gK k 0) && (List.range 8).all (slotK k))
section
variable {k : List TkK}
theorem valK_len (h : k.length ≠ 8) : valK k = false := by simp [valK, h]
theorem valK_root (h : rootK (gK k 0) = false) : valK k = false := by simp [valK, h]
theorem valK_slot {i : Nat} (hi : i < 8) (h : slotK k i = false) : valK k = false := by
  have : (List.range 8).all (slotK k) = false := by
    rw [List.all_eq_false]
    exact ⟨i, by simpa using hi, by rw [h]; decide⟩
  simp [valK, this]
theorem valK_yes (h8 : k.length = 8) (hr : rootK (gK k 0) = true) (h : ∀ i, i < 8 → slotK k i = true) : valK k = true := by
  have : (List.range 8).all (slotK k) = true := by
    rw [List.all_eq_true]
    exact fun i hi => h i (by simpa using hi)
  simp [valK, h8, hr, this]
theorem valK_iff : valK k = true ↔ k.length = 8 ∧ rootK (gK k 0) = true ∧ ∀ i, i < 8 → slotK k i = true := by
  constructor
  · intro h
    simp only [valK, Bool.and_eq_true, decide_eq_true_eq] at h
    refine ⟨h.1, h.2.1, fun i hi => ?_⟩
    exact List.all_eq_true.1 h.2.2 i (by simpa using hi)
  · exact fun h => valK_yes h.1 h.2.1 h.2.2
theorem dsc_self {n : Nat} {s : Int} (h : tU k s = true) : dscK k (n + 1) s s = true := by
  unfold dscK
  rw [ancK_yes h]
  simp
/-- the parent of a slot that leads elsewhere is used -/
theorem dsc_par {n : Nat} {s t : Int} (h : dscK k (n + 1) s t = true) (hne : s ≠ t) : tU k s = true ∧ tU k (tP k s) = true ∧ dscK k n (tP k s) t = true := by
  unfold dscK at h
  rw [List.contains_iff_mem] at h
  have hu : tU k s = true := by
    cases hu : tU k s with
    | true => rfl
    | false => rw [ancK_no hu] at h; simp at h
  rw [ancK_yes hu] at h
  rcases List.mem_cons.1 h with e | h
  · exact absurd e.symm hne
  · refine ⟨hu, ?_, by unfold dscK; rw [List.contains_iff_mem]; exact h⟩
    cases n with
    | zero => simp [ancK] at h
    | succ n =>
      cases hp : tU k (tP k s) with
      | true => rfl
      | false => rw [ancK_no hp] at h; simp at h
end
theorem gK_at {l : List Tk} {i : Nat} (h : i < l.length) : gK (l.map Tk.key) (i : Int) = l[i].key := by simp [gK, h]
theorem slot_free {l : List Tk} {i : Nat} (h : i < l.length) (hu : l[i].us = false) : slotK (l.map Tk.key) i = freN false l[i].sec.length l[i].par l[i].rt l[i].cl l[i].un := by
  unfold slotK
  rw [gK_at h]
  simp only [Tk.key, hu]
  rfl
theorem slot_used {l : List Tk} {i : Nat} (h : i < l.length) (hu : l[i].us = true) : slotK (l.map Tk.key) i = (sndN l[i].sec.length l[i].rt l[i].cl l[i].un && (dscK (l.map Tk.key) 8 i 0 && (decide (i = 0) || upK l[i].key (gK (l.map Tk.key) l[i].par)))) := by
  unfold slotK
  rw [gK_at h]
  simp only [Tk.key, hu]
  rfl
theorem token_soundE {us : Bool} {a : Option Addr} {n c : Nat} {par rt cl un : Int} {b : Bool} (h : Hid (sndN n rt cl un = b)) (w : World) : Calls Try.prog 55 #[tkAgg us a n c par rt cl un] w fun e w' => e = .returned (.bool b) ∧ Below w.heap.size w w' := by
  have := token_sound us a n c par rt cl un w
  rw [h.out] at this
  exact this
theorem token_isFreeE {us : Bool} {a : Option Addr} {n c : Nat} {par rt cl un : Int} {b : Bool} (h : Hid (freN us n par rt cl un = b)) (w : World) : Calls Try.prog 56 #[tkAgg us a n c par rt cl un] w fun e w' => e = .returned (.bool b) ∧ Below w.heap.size w w' := by
  have := token_isFree us a n c par rt cl un w
  rw [h.out] at this
  exact this
theorem token_descendsE {b : Bool} {l : List Tk} {s top : Int} (hd : Hid (dscK (l.map Tk.key) 8 s top = b)) (a : Option Addr) (n c : Nat) (w : World) (h : Tks w a l) (hn : n = l.length) :
    Calls Try.prog 50 #[.slice a n c, .int .i64 s, .int .i64 top] w fun e w' => e = .returned (.bool b) ∧ Below w.heap.size w w' := by
  have := token_descends a l n c s top w h hn
  rw [hd.out] at this
  exact this
theorem rights_WithinE {a b : Int} {r : Bool} (h : Hid (rWithin a b = r)) (w : World) : Calls Try.prog 43 #[.int .i64 a, .int .i64 b] w fun e w' => e = .returned (.bool r) ∧ w = w' := by
  have := rights_Within a b w
  rw [h.out] at this
  exact this
theorem token_laterE {a b : Int} {r : Bool} (h : Hid (latB a b = r)) (w : World) : Calls Try.prog 44 #[.int .i64 a, .int .i64 b] w fun e w' => e = .returned (.bool r) ∧ w = w' := by
  have := token_later a b w
  rw [h.out] at this
  exact this
set_option maxHeartbeats 4000000 in
theorem token_Valid (a : Option Addr) (l : List Tk) (n c : Nat) (w : World) (h : Tks w a l) (hn : n = l.length) :
    Calls Try.prog 29 #[.slice a n c] w fun e w' => e = .returned (.bool (valK (l.map Tk.key))) ∧ Below w.heap.size w w' := by
  by_cases h8 : l.length = 8
  · obtain rfl : n = 8 := by omega
    have hj0 : 0 < l.length := by omega
    have HN := Lib.hid h8
    clear hn h8
    obtain ⟨ba, oa, rfl⟩ := h.open (by omega)
    obtain ⟨x0, x1, x2, x3, x4, x5, xl⟩ := row_tok h.row 0 hj0
    have hR : ∀ b, rootK l[0].key = b → rootK (gK (l.map Tk.key) 0) = b := fun b e => by rw [show (0 : Int) = ((0 : Nat) : Int) from rfl, gK_at hj0]; exact e
    have hS0 : l[0].us = true → slotK (l.map Tk.key) 0 = sndN l[0].sec.length l[0].rt l[0].cl l[0].un := fun hu => by
      have hd : dscK (l.map Tk.key) 8 ((0 : Nat) : Int) 0 = true := dsc_self (n := 7) (s := ((0 : Nat) : Int)) (by rw [tU_at hj0]; exact hu)
      rw [slot_used hj0 hu, hd]
      simp
    obtain ⟨x, hx⟩ : ∃ x, l[0] = x := ⟨_, rfl⟩
    rw [hx] at x0 x1 x2 x3 x4 x5 hR hS0
    clear hx
    obtain ⟨us, sec, par, rt, cl, un, la, lc⟩ := x
    simp only [Nat.zero_mul, Nat.add_zero] at x0 x1 x2 x3 x4 x5 hS0
    have HR := Lib.hid hR
    have HS0 := Lib.hid hS0
    clear hR hS0
    go_enter Try.func29, Try.ntmps29
    go_upto_region 4 with fail
    obtain ⟨X, hX⟩ : ∃ X, w.heap.size = X := ⟨_, rfl⟩
    refine wp_named (fun Z => Blk Z X 52 #[.bool us, .slice la sec.length lc, .int .i64 par, .int .i64 rt, .int .i64 cl, .int .i64 un] ∧ RowKit.Below w.heap.size w Z) ⟨by rw [← hX]; exact Blk.new _ _ _, (by repeat (first | (with_reducible refine Below.setCell ?_ ?_ _) | (with_reducible refine Below.alloc ?_ ?_ _) | (with_reducible refine Below.drew ?_) | (with_reducible refine below_drewN ?_ _) | (with_reducible exact Below.refl _ _) | (focus (simp; done)) | (focus (simp; omega)) | (focus omega)))⟩ ?_
    have HX := Lib.hid hX
    rw [hX]
    clear hX x0 x1 x2 x3 x4 x5 xl
    rintro Z ⟨kX, be⟩
    rw [← HX.out] at be
    obtain ⟨v0, v1, v2, v3, v4, v5, vf, vl⟩ := kX.six
    cases hroot : rootK ⟨us, sec, par, rt, cl, un⟩ with
    | false =>
      have HF := Lib.hid (valK_root (HR.out _ hroot))
      cases us with
      | false =>
        clear hroot
        go_wp2_with fail
        go_ret
        rw [HF.out]
        exact ⟨rfl, be⟩
      | true =>
        by_cases hp : par = -1
        · by_cases hu : un = 0
          · subst hp hu
            simp [rootK] at hroot
          · have hu2 : (un == 0) = false := by rw [beq_eq_false_iff_ne]; exact hu
            subst hp
            clear hroot
            go_wp2_with fail
            go_ret
            rw [HF.out]
            exact ⟨rfl, be⟩
        · have hp2 : (par == -1) = false := by rw [beq_eq_false_iff_ne]; exact hp
          clear hroot
          go_wp2_with fail
          go_ret
          rw [HF.out]
          exact ⟨rfl, be⟩
    | true =>
      have HRT := Lib.hid (HR.out _ hroot)
      simp only [rootK, Bool.and_eq_true, decide_eq_true_eq] at hroot
      obtain ⟨rfl, rfl, rfl⟩ := hroot
      cases hs : sndN sec.length rt cl 0 with
      | false =>
        have HF := Lib.hid (valK_slot (k := l.map Tk.key) (i := 0) (by omega) (by rw [HS0.out rfl, hs]))
        have HS := Lib.hid hs
        clear hs
        go_wp2_with ((go_at_call 55; (with_reducible refine (token_soundE HS _).mono ?_); rintro e w2 ⟨rfl, hb⟩))
        go_ret
        rw [HF.out]
        exact ⟨rfl, (by repeat (first | (with_reducible refine Below.setCell ?_ ?_ _) | (with_reducible refine Below.alloc ?_ ?_ _) | (with_reducible refine Below.drew ?_) | (with_reducible refine below_drewN ?_ _) | (with_reducible exact Below.refl _ _) | (with_reducible refine Below.trans ?_ (Below.mono hb ?_)) | (with_reducible refine Below.trans ?_ (Below.mono be ?_)) | (focus (simp; done)) | (focus (simp; omega)) | (focus omega) | (focus (have q0 := Below.size hb; (try simp at q0); have q1 := Below.size be; (try simp at q1); (try simp); omega))))⟩
      | true =>
        have HZ := Lib.hid (show slotK (l.map Tk.key) 0 = true by rw [HS0.out rfl, hs])
        have HS := Lib.hid hs
        clear hs
        go_wp2_with ((go_at_call 55; (with_reducible refine (token_soundE HS _).mono ?_); rintro e w2 ⟨rfl, hb⟩))
        have be2 : RowKit.Below w.heap.size w w2 := (by repeat (first | (with_reducible refine Below.setCell ?_ ?_ _) | (with_reducible refine Below.alloc ?_ ?_ _) | (with_reducible refine Below.drew ?_) | (with_reducible refine below_drewN ?_ _) | (with_reducible exact Below.refl _ _) | (with_reducible refine Below.trans ?_ (Below.mono hb ?_)) | (with_reducible refine Below.trans ?_ (Below.mono be ?_)) | (focus (simp; done)) | (focus (simp; omega)) | (focus omega) | (focus (have q0 := Below.size hb; (try simp at q0); have q1 := Below.size be; (try simp at q1); (try simp); omega))))
        clear hb be v0 v1 v2 v3 v4 v5 vf vl kX
        go_loopw [4] (fun s4 wr => ∃ i : Nat, s4 = .int .i64 i ∧ 1 ≤ i ∧ i ≤ 8 ∧ Hid (∀ k, k < i → slotK (l.map Tk.key) k = true) ∧ RowKit.Below w.heap.size w wr) (fun s _ => 8 - (intOf s).toNat)
        case atStart => exact ⟨1, rfl, by omega, by omega, Lib.hid (fun k hk => by obtain rfl : k = 0 := (by omega); exact HZ.out), be2⟩
        case round =>
          clear be2
          obtain ⟨i, rfl, hi1, hi, hall, be⟩ := hrel
          by_cases hi8 : i < 8
          · have kx : (i : Int) < 8 := by omega
            have hil : i < l.length := by rw [HN.out]; exact hi8
            have hr := h.below be (Nat.le_refl _)
            obtain ⟨x0, x1, x2, x3, x4, x5, xl⟩ := row_tok hr.row i hil
            have HFREE := Lib.hid (slot_free hil)
            have HUSED := Lib.hid (slot_used hil)
            have HUI := Lib.hid (tU_at hil)
            have HPI := Lib.hid (tP_at hil)
            have HNX := Lib.hid (show slotK (l.map Tk.key) i = true → ∀ k, k < i + 1 → slotK (l.map Tk.key) k = true from fun q k hk => by
              by_cases e : k = i
              · subst e; exact q
              · exact hall.out k (by omega))
            obtain ⟨x, hx⟩ : ∃ x, l[i] = x := ⟨_, rfl⟩
            rw [hx] at x0 x1 x2 x3 x4 x5 HFREE HUSED HUI HPI
            clear hx hr
            obtain ⟨us, sec, par, rt, cl, un, la, lc⟩ := x
            simp only at x0 x1 x2 x3 x4 x5 HFREE HUSED HUI HPI
            go_upto_region 10 with fail
            obtain ⟨X, hX⟩ : ∃ X, wr.heap.size = X := ⟨_, rfl⟩
            refine wp_named (fun Z => Blk Z X 52 #[.bool us, .slice la sec.length lc, .int .i64 par, .int .i64 rt, .int .i64 cl, .int .i64 un] ∧ RowKit.Below w.heap.size w Z) ⟨by rw [← hX]; exact Blk.new _ _ _, (by repeat (first | (with_reducible refine Below.setCell ?_ ?_ _) | (with_reducible refine Below.alloc ?_ ?_ _) | (with_reducible refine Below.drew ?_) | (with_reducible refine below_drewN ?_ _) | (with_reducible exact Below.refl _ _) | (with_reducible refine Below.trans ?_ (Below.mono be ?_)) | (focus (simp; done)) | (focus (simp; omega)) | (focus omega) | (focus (have q0 := Below.size be; (try simp at q0); (try simp); omega))))⟩ ?_
            rw [hX]
            clear hX x0 x1 x2 x3 x4 x5 xl be
            rintro Z ⟨kX, be⟩
            obtain ⟨v0, v1, v2, v3, v4, v5, vf, vl⟩ := kX.six
            cases us with
            | false =>
              cases hf : freN false sec.length par rt cl un with
              | false =>
                have HF := Lib.hid (valK_slot (k := l.map Tk.key) hi8 (by rw [HFREE.out rfl, hf]))
                have HE := Lib.hid hf
                clear hf
                go_wp2_with ((go_at_call 56; (with_reducible refine (token_isFreeE HE _).mono ?_); rintro e w2 ⟨rfl, hb⟩))
                go_ret
                rw [HF.out]
                exact ⟨rfl, (by repeat (first | (with_reducible refine Below.setCell ?_ ?_ _) | (with_reducible refine Below.alloc ?_ ?_ _) | (with_reducible refine Below.drew ?_) | (with_reducible refine below_drewN ?_ _) | (with_reducible exact Below.refl _ _) | (with_reducible refine Below.trans ?_ (Below.mono hb ?_)) | (with_reducible refine Below.trans ?_ (Below.mono be ?_)) | (focus (simp; done)) | (focus (simp; omega)) | (focus omega) | (focus (have q0 := Below.size hb; (try simp at q0); have q1 := Below.size be; (try simp at q1); (try simp); omega))))⟩
              | true =>
                have HG := Lib.hid (HNX.out (by rw [HFREE.out rfl, hf]))
                have HE := Lib.hid hf
                clear hf
                go_wp2_with ((go_at_call 56; (with_reducible refine (token_isFreeE HE _).mono ?_); rintro e w2 ⟨rfl, hb⟩))
                go_roundw
                case rel => exact ⟨i + 1, by go_num, by omega, by omega, HG, (by repeat (first | (with_reducible refine Below.setCell ?_ ?_ _) | (with_reducible refine Below.alloc ?_ ?_ _) | (with_reducible refine Below.drew ?_) | (with_reducible refine below_drewN ?_ _) | (with_reducible exact Below.refl _ _) | (with_reducible refine Below.trans ?_ (Below.mono hb ?_)) | (with_reducible refine Below.trans ?_ (Below.mono be ?_)) | (focus (simp; done)) | (focus (simp; omega)) | (focus omega) | (focus (have q0 := Below.size hb; (try simp at q0); have q1 := Below.size be; (try simp at q1); (try simp); omega))))⟩
                case measure => simp [intOf]; omega
            | true =>
              have hS := HUSED.out rfl
              cases hs : sndN sec.length rt cl un with
              | false =>
                have HF := Lib.hid (valK_slot (k := l.map Tk.key) hi8 (by rw [hS, hs]; rfl))
                have HE := Lib.hid hs
                clear hs hS
                go_wp2_with ((go_at_call 55; (with_reducible refine (token_soundE HE _).mono ?_); rintro e w2 ⟨rfl, hb⟩))
                go_ret
                rw [HF.out]
                exact ⟨rfl, (by repeat (first | (with_reducible refine Below.setCell ?_ ?_ _) | (with_reducible refine Below.alloc ?_ ?_ _) | (with_reducible refine Below.drew ?_) | (with_reducible refine below_drewN ?_ _) | (with_reducible exact Below.refl _ _) | (with_reducible refine Below.trans ?_ (Below.mono hb ?_)) | (with_reducible refine Below.trans ?_ (Below.mono be ?_)) | (focus (simp; done)) | (focus (simp; omega)) | (focus omega) | (focus (have q0 := Below.size hb; (try simp at q0); have q1 := Below.size be; (try simp at q1); (try simp); omega))))⟩
              | true =>
                rw [hs] at hS
                have HE := Lib.hid hs
                clear hs
                cases hd : dscK (l.map Tk.key) 8 i 0 with
                | false =>
                  have HF := Lib.hid (valK_slot (k := l.map Tk.key) hi8 (by rw [hS, hd]; rfl))
                  have HD := Lib.hid hd
                  clear hd hS
                  go_wp2_with (first | (go_at_call 55; (with_reducible refine (token_soundE HE _).mono ?_); rintro e w2 ⟨rfl, hb⟩; (have ht := h.below (be.trans (hb.mono be.size)) (Nat.le_refl _))) | (go_at_call 50; (with_reducible refine (token_descendsE HD _ 8 c _ ht HN.out.symm).mono ?_); rintro e w3 ⟨rfl, hb3⟩))
                  go_ret
                  rw [HF.out]
                  exact ⟨rfl, (by repeat (first | (with_reducible refine Below.setCell ?_ ?_ _) | (with_reducible refine Below.alloc ?_ ?_ _) | (with_reducible refine Below.drew ?_) | (with_reducible refine below_drewN ?_ _) | (with_reducible exact Below.refl _ _) | (with_reducible refine Below.trans ?_ (Below.mono hb3 ?_)) | (with_reducible refine Below.trans ?_ (Below.mono hb ?_)) | (with_reducible refine Below.trans ?_ (Below.mono be ?_)) | (focus (simp; done)) | (focus (simp; omega)) | (focus omega) | (focus (have q0 := Below.size hb3; (try simp at q0); have q1 := Below.size hb; (try simp at q1); have q2 := Below.size be; (try simp at q2); (try simp); omega))))⟩
                | true =>
                  obtain ⟨-, hup, -⟩ := dsc_par (n := 7) hd (by omega)
                  rw [HPI.out] at hup
                  obtain ⟨j, rfl, hj⟩ := tU_in hup
                  have HSL : Hid (∀ b, upK ⟨true, sec, j, rt, cl, un⟩ (gK (l.map Tk.key) (j : Int)) = b → slotK (l.map Tk.key) i = b) := Lib.hid (fun b e => by
                    rw [hS, hd]
                    have h0 : decide (i = 0) = false := decide_eq_false (by omega)
                    rw [h0]
                    simp only [Bool.true_and, Bool.false_or]
                    exact e)
                  have HD := Lib.hid hd
                  clear hd hS hup
                  go_upto_region 15 with (first | (go_at_call 55; (with_reducible refine (token_soundE HE _).mono ?_); rintro e w2 ⟨rfl, hb⟩; (have ht := h.below (be.trans (hb.mono be.size)) (Nat.le_refl _))) | (go_at_call 50; (with_reducible refine (token_descendsE HD _ 8 c _ ht HN.out.symm).mono ?_); rintro e w3 ⟨rfl, hb3⟩))
                  have be3 : RowKit.Below w.heap.size w w3 := (by repeat (first | (with_reducible refine Below.setCell ?_ ?_ _) | (with_reducible refine Below.alloc ?_ ?_ _) | (with_reducible refine Below.drew ?_) | (with_reducible refine below_drewN ?_ _) | (with_reducible exact Below.refl _ _) | (with_reducible refine Below.trans ?_ (Below.mono hb3 ?_)) | (with_reducible refine Below.trans ?_ (Below.mono hb ?_)) | (with_reducible refine Below.trans ?_ (Below.mono be ?_)) | (focus (simp; done)) | (focus (simp; omega)) | (focus omega) | (focus (have q0 := Below.size hb3; (try simp at q0); have q1 := Below.size hb; (try simp at q1); have q2 := Below.size be; (try simp at q2); (try simp); omega))))
                  have kX3 := (kX.below hb kX.lt).below hb3 (kX.below hb kX.lt).lt
                  have ht3 := h.below be3 (Nat.le_refl _)
                  have jx : (j : Int) < 8 := by have := HN.out; omega
                  obtain ⟨y0, y1, y2, y3, y4, y5, yl⟩ := row_tok ht3.row j hj
                  rw [gK_at hj] at HSL
                  obtain ⟨y, hy⟩ : ∃ y, l[j] = y := ⟨_, rfl⟩
                  rw [hy] at y0 y1 y2 y3 y4 y5 HSL
                  clear hy ht3 ht hb3 hb be v0 v1 v2 v3 v4 v5 vf vl kX
                  obtain ⟨us2, sec2, par2, rt2, cl2, un2, la2, lc2⟩ := y
                  simp only [Tk.key] at y0 y1 y2 y3 y4 y5 HSL
                  obtain ⟨u0, u1, u2, u3, u4, u5, uf, ul⟩ := kX3.six
                  go_upto_region 16 with fail
                  obtain ⟨X2, hX2⟩ : ∃ X, w3.heap.size = X := ⟨_, rfl⟩
                  refine wp_named (fun Z => Blk Z X 52 #[.bool true, .slice la sec.length lc, .int .i64 j, .int .i64 rt, .int .i64 cl, .int .i64 un] ∧ Blk Z X2 52 #[.bool us2, .slice la2 sec2.length lc2, .int .i64 par2, .int .i64 rt2, .int .i64 cl2, .int .i64 un2] ∧ RowKit.Below w.heap.size w Z) ⟨kX3.alloc _, by rw [← hX2]; exact Blk.new _ _ _, (by repeat (first | (with_reducible refine Below.setCell ?_ ?_ _) | (with_reducible refine Below.alloc ?_ ?_ _) | (with_reducible refine Below.drew ?_) | (with_reducible refine below_drewN ?_ _) | (with_reducible exact Below.refl _ _) | (with_reducible refine Below.trans ?_ (Below.mono be3 ?_)) | (focus (simp; done)) | (focus (simp; omega)) | (focus omega) | (focus (have q0 := Below.size be3; (try simp at q0); (try simp); omega))))⟩ ?_
                  rw [hX2]
                  clear hX2 y0 y1 y2 y3 y4 y5 yl u0 u1 u2 u3 u4 u5 uf ul kX3 be3
                  rintro U ⟨kX, kX2, be⟩
                  obtain ⟨v0, v1, v2, v3, v4, v5, vf, vl⟩ := kX.six
                  obtain ⟨u0, u1, u2, u3, u4, u5, uf, ul⟩ := kX2.six
                  cases hw : rWithin rt rt2 with
                  | false =>
                    have HF := Lib.hid (valK_slot (k := l.map Tk.key) hi8 (HSL.out false (by simp only [upK, hw]; rfl)))
                    have HW := Lib.hid hw
                    clear hw
                    go_wp2_with ((go_at_call 43; (with_reducible refine (rights_WithinE HW _).mono ?_); rintro e wz ⟨rfl, rfl⟩))
                    go_ret
                    rw [HF.out]
                    exact ⟨rfl, be⟩
                  | true =>
                    by_cases hc : cl ≤ cl2
                    · have hc2 : ¬ cl2 < cl := by omega
                      cases hl : latB un un2 with
                      | true =>
                        have HF := Lib.hid (valK_slot (k := l.map Tk.key) hi8 (HSL.out false (by simp only [upK, hw, hl]; simp)))
                        have HW := Lib.hid hw
                        have HL := Lib.hid hl
                        clear hw hl
                        go_wp2_with (first | (go_at_call 43; (with_reducible refine (rights_WithinE HW _).mono ?_); rintro e wz ⟨rfl, rfl⟩) | (go_at_call 44; (with_reducible refine (token_laterE HL _).mono ?_); rintro e wz ⟨rfl, rfl⟩))
                        go_ret
                        rw [HF.out]
                        exact ⟨rfl, be⟩
                      | false =>
                        have HG := Lib.hid (HNX.out (HSL.out true (by simp only [upK, hw, hl, decide_eq_true hc]; rfl)))
                        have HW := Lib.hid hw
                        have HL := Lib.hid hl
                        clear hw hl
                        go_wp2_with (first | (go_at_call 43; (with_reducible refine (rights_WithinE HW _).mono ?_); rintro e wz ⟨rfl, rfl⟩) | (go_at_call 44; (with_reducible refine (token_laterE HL _).mono ?_); rintro e wz ⟨rfl, rfl⟩))
                        go_roundw
                        case rel => exact ⟨i + 1, by go_num, by omega, by omega, HG, be⟩
                        case measure => simp [intOf]; omega
                    · have hc2 : cl2 < cl := by omega
                      have HF := Lib.hid (valK_slot (k := l.map Tk.key) hi8 (HSL.out false (by simp only [upK, hw, decide_eq_false hc]; rfl)))
                      have HW := Lib.hid hw
                      clear hw
                      go_wp2_with ((go_at_call 43; (with_reducible refine (rights_WithinE HW _).mono ?_); rintro e wz ⟨rfl, rfl⟩))
                      go_ret
                      rw [HF.out]
                      exact ⟨rfl, be⟩
          · obtain rfl : i = 8 := by omega
            have HF := Lib.hid (valK_yes (k := l.map Tk.key) (by rw [List.length_map]; exact HN.out) HRT.out hall.out)
            go_wp2_with fail
            go_ret
            rw [HF.out]
            exact ⟨rfl, be⟩
  · have hF := valK_len (k := l.map Tk.key) (by simpa using h8)
    have hn8 : ¬ (n : Int) = 8 := by omega
    go_enter Try.func29, Try.ntmps29
    go_wp2_with fail
    go_ret
    rw [hF]
    exact ⟨rfl, (by repeat (first | (with_reducible refine Below.setCell ?_ ?_ _) | (with_reducible refine Below.alloc ?_ ?_ _) | (with_reducible refine Below.drew ?_) | (with_reducible refine below_drewN ?_ _) | (with_reducible exact Below.refl _ _) | (focus (simp; done)) | (focus (simp; omega)) | (focus omega)))⟩
end Go.Proofs.Ytgngmmmdhhjbhaa
