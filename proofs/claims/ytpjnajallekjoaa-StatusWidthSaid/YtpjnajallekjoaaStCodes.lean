/- status.Codes, signalbrokerref24.Codes -/
import Derived.Test.YtpjnajallekjoaaStCode
import Derived.Test.YtpjnajallekjoaaBuf
import Derived.Test.YtpjnajallekjoaaApp
namespace Go.Proofs.Ytpjnajallekjoaa
set_option linter.unusedVariables false
open Go.RowKit Go.Sort
set_option maxRecDepth 100000

def codeAt (l : List Rk) (vs : List Vk) (now : Int) (i k : Nat) : Int :=
  match l[i]? with
  | none => 0
  | some r => match r.2.2.2.2[k]? with
    | none => 0
    | some x => codeM x.ju x.ph x.fr x.to_ vs now
def codesM (l : List Rk) (q : Nat) (vs : List Vk) (now : Int) : List UInt8 := (List.range (q * 3)).map fun j => toB (codeAt l vs now (j / 3) (j % 3))
theorem codesM_len (l : List Rk) (q : Nat) (vs : List Vk) (now : Int) : (codesM l q vs now).length = q * 3 := by simp [codesM]
theorem codesM_get {l : List Rk} {q : Nat} {vs : List Vk} {now : Int} {j : Nat} (h : j < q * 3) : (codesM l q vs now)[j]'(by rw [codesM_len]; exact h) = toB (codeAt l vs now (j / 3) (j % 3)) := by simp [codesM]
theorem codeAt_in {l : List Rq} {vs : List Vk} {now : Int} {i k : Nat} (hi : i < l.length) {r : Rq} (hr : l[i] = r) (hk : k < r.legs.length) {x : Lg} (hx : r.legs[k] = x) : codeAt (l.map Rq.key) vs now i k = codeM x.ju x.ph x.fr x.to_ vs now := by
  subst hr hx
  simp [codeAt, hi, hk, Rq.key]
theorem codeAt_no {l : List Rq} {vs : List Vk} {now : Int} {i k : Nat} (h : l.length ≤ i) : codeAt (l.map Rq.key) vs now i k = 0 := by
  simp [codeAt, h]
theorem codeAt_noK {l : List Rq} {vs : List Vk} {now : Int} {i k : Nat} (hi : i < l.length) {r : Rq} (hr : l[i] = r) (hk : r.legs.length ≤ k) : codeAt (l.map Rq.key) vs now i k = 0 := by
  subst hr
  simp [codeAt, hi, hk, Rq.key]
def fillB (l : List UInt8) (n i : Nat) : List UInt8 := l.take i ++ List.replicate (n - i) 0
theorem fillB_zero (l : List UInt8) (n : Nat) : fillB l n 0 = List.replicate n 0 := by simp [fillB]
theorem fillB_all {l : List UInt8} {n : Nat} (h : l.length = n) : fillB l n n = l := by simp [fillB, ← h]
theorem fillB_len {l : List UInt8} {n i : Nat} (h : l.length = n) (hi : i ≤ n) : (fillB l n i).length = n := by simp [fillB]; omega
theorem fillB_set {l : List UInt8} {n i : Nat} (h : l.length = n) (hi : i < n) (x : UInt8) (hx : l[i]'(by omega) = x) : (fillB l n i).set i x = fillB l n (i + 1) := by
  subst hx
  unfold fillB
  have h1 : (l.take i).length = i := by simp; omega
  rw [List.set_append_right _ _ (by omega), h1, Nat.sub_self, show n - i = (n - (i + 1)) + 1 by omega, List.replicate_succ, List.set_cons_zero, ← List.take_append_getElem (by omega), List.append_assoc]
  rfl
theorem encB_toB {C : Int} (h : 0 ≤ C ∧ C ≤ 255) : encB (toB C) = .int .u8 C := by
  simp only [encB, toB_val]
  congr 1
  omega
def CodesR (bs : List UInt8) (w : World) (e : Ending) (w' : World) : Prop :=
  ∃ (a : Option Addr) (c n : Nat), e = .returned (.slice a n c) ∧ Hid (n = bs.length) ∧ Own w' w.heap.size 5 1 a n c (bs.map encB) ∧ Below w.heap.size w w'
set_option maxHeartbeats 8000000 in
theorem status_Codes (a : Option Addr) (l : List Rq) (n c q : Nat) (va : Option Addr) (its : List Vx) (vn vc : Nat) (now : Int) (w : World) (h : Rqs w a l) (hn : n = l.length) (hv : Vws w va its) (hvn : vn = its.length) (hq : q ≤ 1000) (hl : ∀ r ∈ l, r.legs.length ≤ 1000) (hl9 : l.length ≤ 100000) :
    Calls Try.prog 12 #[.slice a n c, .int .i64 q, .slice va vn vc, .int .i64 now] w (CodesR (codesM (l.map Rq.key) q (its.map Vx.key) now) w) := by
  subst hn hvn
  obtain ⟨N, hN⟩ : ∃ N, N = q * 3 := ⟨_, rfl⟩
  have HN := Lib.hid hN
  have HLN : Hid ((codesM (l.map Rq.key) q (its.map Vx.key) now).length = N) := Lib.hid (by rw [codesM_len, hN])
  have hN9 : N ≤ 3000 := by omega
  have hqN : (q : Int) * 3 = (N : Int) := by omega
  obtain ⟨CM, hCM⟩ : ∃ CM, codesM (l.map Rq.key) q (its.map Vx.key) now = CM := ⟨_, rfl⟩
  have HCM := Lib.hid (show ∀ j (hj : j < N), CM[j]? = some (toB (codeAt (l.map Rq.key) (its.map Vx.key) now (j / 3) (j % 3))) from fun j hj => by
    subst hCM
    rw [List.getElem?_eq_getElem (by rw [HLN.out]; exact hj), codesM_get (by have := HN.out; omega)])
  rw [hCM] at HLN ⊢
  clear hCM
  go_enter Try.func12, Try.ntmps12
  by_cases hq0 : q = 0
  · subst hq0
    clear hN
    go_wp2_with fail
    go_ret
    have hCM0 : CM = [] := List.eq_nil_of_length_eq_zero (by rw [HLN.out]; have := HN.out; omega)
    subst hCM0
    exact ⟨none, 0, 0, rfl, Lib.hid rfl, Own.nil _ _ _ _, (by repeat (first | (with_reducible refine Below.setCell ?_ ?_ _) | (with_reducible refine Below.alloc ?_ ?_ _) | (with_reducible refine Below.drew ?_) | (with_reducible refine below_drewN ?_ _) | (with_reducible exact Below.refl _ _) | (focus (simp; done)) | (focus (simp; omega)) | (focus omega)))⟩
  · have z1 : ¬ ((q : Int) ≤ 0) := by omega
    have z2 : ¬ (715827882 < (q : Int)) := by omega
    have z1b : decide ((q : Int) ≤ 0) = false := decide_eq_false z1
    have z2b : decide ((715827882 : Int) < (q : Int)) = false := decide_eq_false z2
    have hN1 : 1 ≤ N := by omega
    clear hN hq0
    go_upto_region 4 with ((with_reducible refine wp_makeB N N ?_ ?_ ?_ ?_ ?_); (focus rfl); (focus rfl); (focus omega); (focus omega); intro W B0 be0 z0)
    obtain ⟨B, hB⟩ : ∃ B, w.heap.size = B := ⟨_, rfl⟩
    rw [hB] at B0 ⊢
    have hBW := B0.lt
    have hr0 := h.below be0 (Nat.le_refl _)
    have hv0 := hv.below be0 (Nat.le_refl _)
    clear z0
    go_wp2_with fail
    go_loopw [24] (fun s24 wr => ∃ i : Nat, s24 = .int .i64 i ∧ i ≤ N ∧ Blk wr B 5 ((fillB CM N i).map encB).toArray ∧ RowKit.Below B w wr) (fun s _ => N - (intOf s).toNat)
    case atStart => exact ⟨0, rfl, by omega, by rw [fillB_zero]; exact B0, by rw [← hB]; exact be0⟩
    case round =>
      clear B0 hr0 hv0 be0
      obtain ⟨i, rfl, hi, kB, be⟩ := hrel
      by_cases hlt : i < N
      · have kx : (i : Int) < (N : Int) := by omega
        have kd : (i : Int).tdiv 3 = ((i / 3 : Nat) : Int) := rfl
        have km : (i : Int).tmod 3 = ((i % 3 : Nat) : Int) := rfl
        have hRq : i / 3 < q := by have := HN.out; omega
        have hK3 : i % 3 < 3 := Nat.mod_lt _ (by decide)
        have hC := Lib.hid (HCM.out i hlt)
        have kc := kB.cellL i (by rw [fillB_len HLN.out (by omega)]; exact hlt)
        have kf := kB.frozen i
        have kl := kB.lt
        have hrr := h.below be (by omega)
        have hvv := hv.below be (by omega)
        obtain ⟨R, hR⟩ : ∃ R, i / 3 = R := ⟨_, rfl⟩
        obtain ⟨K, hK⟩ : ∃ K, i % 3 = K := ⟨_, rfl⟩
        rw [hR] at kd hRq hC
        rw [hK] at km hK3 hC
        clear hR hK
        obtain ⟨cv, hcv⟩ : ∃ cv, encB ((fillB CM N i)[i]'(by rw [fillB_len HLN.out (by omega)]; exact hlt)) = cv := ⟨_, rfl⟩
        rw [hcv] at kc
        clear hcv
        by_cases hRl : R < l.length
        · have kR : (R : Int) < (l.length : Int) := by omega
          obtain ⟨ba, oa, rfl⟩ := h.open (by omega)
          obtain ⟨x0, x1, x2, x3, x4, xb⟩ := row_req hrr.row R hRl
          have xb0 : ba < w.heap.size := (row_req h.row R hRl).2.2.2.2.2
          have hg0 := h.legs _ (List.getElem_mem hRl)
          have hg := hrr.legs _ (List.getElem_mem hRl)
          have hgl := hl _ (List.getElem_mem hRl)
          obtain ⟨x, hx⟩ : ∃ x, l[R] = x := ⟨_, rfl⟩
          rw [hx] at x4 hg hgl hg0
          clear x0 x1 x2 x3
          have HX := Lib.hid hx
          clear hx
          by_cases hKl : K < x.legs.length
          · have kK : (K : Int) < (x.legs.length : Int) := by omega
            obtain ⟨bg, og, hga⟩ := hg.open_lg (by omega)
            rw [hga] at hg x4 hg0
            have yb0 : bg < w.heap.size := (row_leg hg0 K hKl).2.2.2.2.2
            obtain ⟨y0, y1, y2, y3, y4, yb⟩ := row_leg hg K hKl
            have HC1 := Lib.hid (codeAt_in (vs := its.map Vx.key) (now := now) hRl HX.out hKl rfl)
            obtain ⟨g, hgv⟩ : ∃ g, x.legs[K] = g := ⟨_, rfl⟩
            rw [hgv] at y0 y1 y2 y3 y4 HC1
            clear hgv
            obtain ⟨ju, ph, fr, to_, si⟩ := g
            simp only at y0 y1 y2 y3 y4 HC1
            obtain ⟨C, hCC⟩ : ∃ C, codeM ju ph fr to_ (its.map Vx.key) now = C := ⟨_, rfl⟩
            have hCb := codeM_bd ju ph fr to_ (its.map Vx.key) now
            rw [hCC] at hCb HC1
            have HCC := Lib.hid hCC
            have HC2 : Hid (CM[i]'(by rw [HLN.out]; exact hlt) = toB C) := Lib.hid (by rw [(List.getElem?_eq_some_iff.1 hC.out).2, HC1.out])
            clear hCC
            have kw : IntKind.u8.wrap C = C := by rw [IntKind.wrap_u8]; omega
            have kN0 := kB.setL i 0 (u := .int .u8 0) rfl
            have beN := be.setCell (p := ⟨B, i, none⟩) (Nat.le_refl _) (.int .u8 0)
            have hne1 : bg ≠ B := by omega
            have hne2 : ba ≠ B := by omega
            have hvvN : Vws (wr.setCell ⟨B, i, none⟩ (.int .u8 0)) va its := hv.below beN (by omega)
            go_wp2_with ((go_at_call 10; (with_reducible refine (status_Code ju ph fr to_ si va its its.length vc now _ hvvN rfl).mono ?_); rintro e w2 ⟨rfl, hb2⟩; (rw [HCC.out]); (have kN2 := kN0.below hb2 kN0.lt); (obtain ⟨cv2, d0⟩ : ∃ cv2, w2.cell? ⟨B, i, none⟩ = some cv2 := ⟨_, kN2.cellL i (by rw [List.length_set, fillB_len HLN.out (by omega)]; exact hlt)⟩); (have d1 := kN2.frozen i); (have d2 := kN2.lt)))
            have kN3 := kN2.setL i (toB C) (u := .int .u8 C) (encB_toB (by omega)).symm
            rw [List.set_set, fillB_set HLN.out hlt _ HC2.out] at kN3
            have be3 : RowKit.Below B w (w2.setCell ⟨B, i, none⟩ (.int .u8 C)) := (beN.trans (hb2.mono (by have := beN.size; omega))).setCell (p := ⟨B, i, none⟩) (Nat.le_refl _) _
            go_roundw
            case rel => exact ⟨i + 1, by go_num, by omega, kN3, be3⟩
            case measure => simp [intOf]; omega
          · have kK : ¬ ((K : Int) < (x.legs.length : Int)) := by omega
            have kKn : decide (K < x.legs.length) = false := decide_eq_false hKl
            have HC0 : Hid (CM[i]'(by rw [HLN.out]; exact hlt) = 0) := Lib.hid (by rw [(List.getElem?_eq_some_iff.1 hC.out).2, codeAt_noK hRl HX.out (by omega)]; rfl)
            have kN := kB.setL i 0 (u := .int .u8 0) rfl
            rw [fillB_set HLN.out hlt 0 HC0.out] at kN
            have beN := be.setCell (p := ⟨B, i, none⟩) (Nat.le_refl _) (.int .u8 0)
            have hne2 : ba ≠ B := by omega
            go_wp2_with fail
            go_roundw
            case rel => exact ⟨i + 1, by go_num, by omega, kN, beN⟩
            case measure => simp [intOf]; omega
        · have kR : ¬ ((R : Int) < (l.length : Int)) := by omega
          have kRn : decide (R < l.length) = false := decide_eq_false hRl
          have HC0 : Hid (CM[i]'(by rw [HLN.out]; exact hlt) = 0) := Lib.hid (by rw [(List.getElem?_eq_some_iff.1 hC.out).2, codeAt_no (by omega)]; rfl)
          have kN := kB.setL i 0 (u := .int .u8 0) rfl
          rw [fillB_set HLN.out hlt 0 HC0.out] at kN
          have beN := be.setCell (p := ⟨B, i, none⟩) (Nat.le_refl _) (.int .u8 0)
          go_wp2_with fail
          go_roundw
          case rel => exact ⟨i + 1, by go_num, by omega, kN, beN⟩
          case measure => simp [intOf]; omega
      · obtain rfl : i = N := by omega
        rw [fillB_all HLN.out] at kB
        go_wp2_with fail
        go_ret
        exact ⟨_, _, _, rfl, Lib.hid HLN.out.symm, by rw [hB]; exact kB.ownL (Nat.le_refl _) HLN.out.symm (by simp only [maxLen]; omega), by rw [hB]; exact be⟩
theorem toB_nat {C : Int} (h : 0 ≤ C ∧ C ≤ 255) : C = ((toB C).toNat : Int) := by rw [toB_val]; omega
theorem take_snoc {α : Type} {l : List α} {i : Nat} {x : α} (h : l[i]? = some x) : l.take i ++ [x] = l.take (i + 1) := by
  obtain ⟨hi, rfl⟩ := List.getElem?_eq_some_iff.1 h
  exact List.take_append_getElem hi
set_option maxHeartbeats 8000000 in
theorem ref24_Codes (a : Option Addr) (l : List Rq) (n c q : Nat) (va : Option Addr) (its : List Vx) (vn vc : Nat) (now : Int) (w : World) (h : Rqs w a l) (hn : n = l.length) (hv : Vws w va its) (hvn : vn = its.length) (hq : q ≤ 1000) (hl : ∀ r ∈ l, r.legs.length ≤ 1000) (hl9 : l.length ≤ 100000) :
    Calls Try.prog 13 #[.slice a n c, .int .i64 q, .slice va vn vc, .int .i64 now] w (CodesR (codesM (l.map Rq.key) q (its.map Vx.key) now) w) := by
  subst hn hvn
  have HLN : Hid ((codesM (l.map Rq.key) q (its.map Vx.key) now).length = q * 3) := Lib.hid (codesM_len _ _ _ _)
  obtain ⟨CM, hCM⟩ : ∃ CM, codesM (l.map Rq.key) q (its.map Vx.key) now = CM := ⟨_, rfl⟩
  have HCM := Lib.hid (show ∀ i k, i < q → k < 3 → CM[i * 3 + k]? = some (toB (codeAt (l.map Rq.key) (its.map Vx.key) now i k)) from fun i k hi hk => by
    subst hCM
    rw [List.getElem?_eq_getElem (by rw [HLN.out]; omega), codesM_get (by omega), show (i * 3 + k) / 3 = i by omega, show (i * 3 + k) % 3 = k by omega])
  rw [hCM] at HLN ⊢
  clear hCM
  go_enter Try.func13, Try.ntmps13
  go_wp2_with fail
  go_loopw [9, 14] (fun s9 s14 wr => ∃ (i : Nat) (ra : Option Addr) (rc m : Nat), s9 = .slice ra m rc ∧ s14 = .int .i64 i ∧ i ≤ q ∧ Hid (m = i * 3) ∧ m ≤ 3000 ∧ Own wr w.heap.size 5 1 ra m rc ((CM.take (i * 3)).map encB) ∧ RowKit.Below w.heap.size w wr) (fun _ s _ => q - (intOf s).toNat)
  case atStart => exact ⟨0, none, 0, 0, rfl, rfl, by omega, Lib.hid rfl, by omega, by rw [Nat.zero_mul]; exact Own.nil _ _ _ _, (by repeat (first | (with_reducible refine Below.setCell ?_ ?_ _) | (with_reducible refine Below.alloc ?_ ?_ _) | (with_reducible refine Below.drew ?_) | (with_reducible refine below_drewN ?_ _) | (with_reducible exact Below.refl _ _) | (focus (simp; done)) | (focus (simp; omega)) | (focus omega)))⟩
  case round =>
    obtain ⟨i, ra, rc, m, rfl, rfl, hi, hm, hm9, own, be⟩ := hrel
    by_cases hlt : i < q
    · have kx : (i : Int) < (q : Int) := by omega
      go_wp2_with fail
      go_loopw [9, 17] (fun s9 s17 wz => ∃ (k : Nat) (ra : Option Addr) (rc m : Nat), s9 = .slice ra m rc ∧ s17 = .int .i64 k ∧ k ≤ 3 ∧ Hid (m = i * 3 + k) ∧ m ≤ 3000 ∧ Own wz w.heap.size 5 1 ra m rc ((CM.take (i * 3 + k)).map encB) ∧ RowKit.Below w.heap.size w wz) (fun _ s _ => 3 - (intOf s).toNat)
      case atStart => exact ⟨0, ra, rc, m, rfl, rfl, by omega, hm, hm9, own, be⟩
      case round =>
        clear own be hm hm9
        obtain ⟨k, ra, rc, m, rfl, rfl, hk, hm, hm9, own, be⟩ := hrel
        by_cases hk3 : k < 3
        · have kx3 : (k : Int) < 3 := by omega
          have hC := Lib.hid (HCM.out i k hlt hk3)
          have hm10 : m + 1 ≤ 3000 := by have := hm.out; omega
          have hs := be.size
          have hrr := h.below be (Nat.le_refl _)
          have hvv := hv.below be (Nat.le_refl _)
          by_cases hRl : i < l.length
          · have kR : (i : Int) < (l.length : Int) := by omega
            obtain ⟨ba, oa, rfl⟩ := h.open (by omega)
            obtain ⟨-, -, -, -, x4, xb⟩ := row_req hrr.row i hRl
            have hg := hrr.legs _ (List.getElem_mem hRl)
            have hgl := hl _ (List.getElem_mem hRl)
            obtain ⟨x, hx⟩ : ∃ x, l[i] = x := ⟨_, rfl⟩
            rw [hx] at x4 hg hgl
            have HX := Lib.hid hx
            clear hx
            by_cases hKl : k < x.legs.length
            · have kK : (k : Int) < (x.legs.length : Int) := by omega
              obtain ⟨bg, og, hga⟩ := hg.open_lg (by omega)
              rw [hga] at hg x4
              obtain ⟨y0, y1, y2, y3, y4, yb⟩ := row_leg hg k hKl
              have HC1 := Lib.hid (codeAt_in (vs := its.map Vx.key) (now := now) hRl HX.out hKl rfl)
              obtain ⟨g, hgv⟩ : ∃ g, x.legs[k] = g := ⟨_, rfl⟩
              rw [hgv] at y0 y1 y2 y3 y4 HC1
              clear hgv
              obtain ⟨ju, ph, fr, to_, si⟩ := g
              simp only at y0 y1 y2 y3 y4 HC1
              obtain ⟨C, hCC⟩ : ∃ C, codeM ju ph fr to_ (its.map Vx.key) now = C := ⟨_, rfl⟩
              have hCb := codeM_bd ju ph fr to_ (its.map Vx.key) now
              rw [hCC] at hCb HC1
              have HCC := Lib.hid hCC
              have HC2 : Hid (CM[i * 3 + k]? = some (toB C)) := Lib.hid (by rw [hC.out, HC1.out])
              clear hCC
              have kw : IntKind.u8.wrap C = C := by rw [IntKind.wrap_u8]; omega
              go_wp2_with (first | (go_at_call 17; (with_reducible refine (ref24_Code ju ph fr to_ si va its its.length vc now _ hvv rfl).mono ?_); rintro e w2 ⟨rfl, hb2⟩; (rw [HCC.out])) | (at_builtin; refine app1B rfl _ _ rfl w.heap.size ra m rc (CM.take (i * 3 + k)) rfl (toB C) C rfl (own.below hb2 (Nat.le_refl _)) (toB_nat (by omega)) (m + 1) rfl (by omega) (by have := hb2.size; omega) ?_; intro rb rd w3 own3 g3 bl3))
              have be3 := bl3 w (by repeat (first | (with_reducible refine Below.setCell ?_ ?_ _) | (with_reducible refine Below.alloc ?_ ?_ _) | (with_reducible refine Below.drew ?_) | (with_reducible refine below_drewN ?_ _) | (with_reducible exact Below.refl _ _) | (with_reducible refine Below.trans ?_ (Below.mono hb2 ?_)) | (with_reducible refine Below.trans ?_ (Below.mono be ?_)) | (focus (simp; done)) | (focus (simp; omega)) | (focus omega) | (focus (have q0 := Below.size hb2; (try simp at q0); have q1 := Below.size be; (try simp at q1); (try simp); omega))))
              rw [take_snoc HC2.out] at own3
              go_roundw
              case rel => exact ⟨k + 1, rb, rd, m + 1, rfl, by go_num, by omega, Lib.hid (by have := hm.out; omega), by omega, own3, be3⟩
              case measure => simp [intOf]; omega
            · have kK : ¬ ((k : Int) < (x.legs.length : Int)) := by omega
              have kKn : decide (k < x.legs.length) = false := decide_eq_false hKl
              have HC2 : Hid (CM[i * 3 + k]? = some 0) := Lib.hid (by rw [hC.out, codeAt_noK hRl HX.out (by omega)]; rfl)
              go_wp2_with (at_builtin; refine app1B rfl _ _ rfl w.heap.size ra m rc (CM.take (i * 3 + k)) rfl 0 0 rfl own rfl (m + 1) rfl (by omega) (by omega) ?_; intro rb rd w3 own3 g3 bl3)
              have be3 := bl3 w be
              rw [take_snoc HC2.out] at own3
              go_roundw
              case rel => exact ⟨k + 1, rb, rd, m + 1, rfl, by go_num, by omega, Lib.hid (by have := hm.out; omega), by omega, own3, be3⟩
              case measure => simp [intOf]; omega
          · have kR : ¬ ((i : Int) < (l.length : Int)) := by omega
            have kRn : decide (i < l.length) = false := decide_eq_false hRl
            have HC2 : Hid (CM[i * 3 + k]? = some 0) := Lib.hid (by rw [hC.out, codeAt_no (by omega)]; rfl)
            go_wp2_with (at_builtin; refine app1B rfl _ _ rfl w.heap.size ra m rc (CM.take (i * 3 + k)) rfl 0 0 rfl own rfl (m + 1) rfl (by omega) (by omega) ?_; intro rb rd w3 own3 g3 bl3)
            have be3 := bl3 w be
            rw [take_snoc HC2.out] at own3
            go_roundw
            case rel => exact ⟨k + 1, rb, rd, m + 1, rfl, by go_num, by omega, Lib.hid (by have := hm.out; omega), by omega, own3, be3⟩
            case measure => simp [intOf]; omega
        · obtain rfl : k = 3 := by omega
          have e3 : i * 3 + 3 = (i + 1) * 3 := by omega
          rw [e3] at own
          go_wp2_with fail
          go_roundw
          case rel => exact ⟨i + 1, ra, rc, m, rfl, by go_num, by omega, Lib.hid (by rw [hm.out, e3]), by omega, own, be⟩
          case measure => simp [intOf]; omega
    · obtain rfl : i = q := by omega
      rw [← HLN.out, List.take_length] at own
      go_wp2_with fail
      go_ret
      exact ⟨ra, rc, m, rfl, Lib.hid (by rw [hm.out, HLN.out]), own, be⟩
end Go.Proofs.Ytpjnajallekjoaa
