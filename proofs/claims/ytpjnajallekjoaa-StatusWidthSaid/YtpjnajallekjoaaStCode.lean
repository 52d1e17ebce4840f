/- status.Code, signalbrokerref24.Code -/
import Derived.Test.YtpjnajallekjoaaLawV
import Derived.Test.YtpjnajallekjoaaDkReqs
namespace Go.Proofs.Ytpjnajallekjoaa
set_option linter.unusedVariables false
open Go.RowKit Go.Sort
set_option maxRecDepth 100000

def codeM (ju ph fr to_ : Int) (vs : List Vk) (now : Int) : Int :=
  if fr ≤ now ∧ now ≤ to_ then
    if 0 ≤ ju ∧ ju < vs.length then
      if 0 ≤ ph ∧ ph < ((vs.getD ju.toNat (false, false, [], [])).2.2.1).length then
        if (vs.getD ju.toNat (false, false, [], [])).2.1 = true ∧ (vs.getD ju.toNat (false, false, [], [])).1 = false ∧ ((vs.getD ju.toNat (false, false, [], [])).2.2.1).getD ph.toNat 0 = 1 then 3 else 2
      else 1
    else 1
  else 1
theorem codeM_bd (ju ph fr to_ : Int) (vs : List Vk) (now : Int) : 1 ≤ codeM ju ph fr to_ vs now ∧ codeM ju ph fr to_ vs now ≤ 3 := by
  unfold codeM
  repeat' split
  all_goals omega
theorem vs_at {its : List Vx} {J : Nat} (h : J < its.length) : (its.map Vx.key).getD J (false, false, [], []) = its[J].key := by
  simp [List.getD, h]
theorem codeM_off {ju ph fr to_ : Int} {vs : List Vk} {now : Int} (h : (decide (fr ≤ now) && decide (now ≤ to_)) = false) : codeM ju ph fr to_ vs now = 1 := by
  unfold codeM
  rw [if_neg fun q => by simp [q.1, q.2] at h]
theorem codeM_out {ju ph fr to_ : Int} {vs : List Vk} {now : Int} (h : ¬ (0 ≤ ju ∧ ju < vs.length)) : codeM ju ph fr to_ vs now = 1 := by
  unfold codeM
  rw [if_neg h]
  split <;> rfl
theorem codeM_outP {J : Nat} {ph fr to_ : Int} {its : List Vx} {now : Int} (hJ : J < its.length) {x : Vx} (hx : its[J] = x) (h : ¬ (0 ≤ ph ∧ ph < x.cs.length)) : codeM J ph fr to_ (its.map Vx.key) now = 1 := by
  subst hx
  unfold codeM
  rw [Int.toNat_natCast, vs_at hJ, if_neg (show ¬ (0 ≤ ph ∧ ph < (its[J].key.2.2.1.length : Int)) from h)]
  split
  · split <;> rfl
  · rfl
theorem codeM_in {J P : Nat} {fr to_ : Int} {its : List Vx} {now : Int} (hl : (decide (fr ≤ now) && decide (now ≤ to_)) = true) (hJ : J < its.length) {x : Vx} (hx : its[J] = x) (hP : P < x.cs.length) : codeM J P fr to_ (its.map Vx.key) now = if x.ov = true ∧ x.fl = false ∧ x.cs[P] = 1 then 3 else 2 := by
  subst hx
  unfold codeM
  have h1 : fr ≤ now ∧ now ≤ to_ := by simpa using hl
  rw [if_pos h1, Int.toNat_natCast, vs_at hJ, if_pos ⟨by omega, by simp; omega⟩, if_pos (show 0 ≤ (P : Int) ∧ (P : Int) < (its[J].key.2.2.1.length : Int) from ⟨by omega, by simp only [Vx.key]; omega⟩), Int.toNat_natCast]
  rw [show (its[J].key.2.2.1).getD P 0 = its[J].cs[P] by simp [Vx.key, List.getD, hP]]
  rfl
def CodeR (ju ph fr to_ : Int) (vs : List Vk) (now : Int) (w : World) (e : Ending) (w' : World) : Prop := e = .returned (.int .i64 (codeM ju ph fr to_ vs now)) ∧ Below w.heap.size w w'
theorem CodeR.mk {ju ph fr to_ : Int} {vs : List Vk} {now : Int} {w w' : World} {C : Int} (h : codeM ju ph fr to_ vs now = C) (hb : Below w.heap.size w w') : CodeR ju ph fr to_ vs now w (.returned (.int .i64 C)) w' := ⟨by rw [h], hb⟩
theorem window_LiveE {j p f t s now : Int} {b : Bool} (h : Hid ((decide (f ≤ now) && decide (now ≤ t)) = b)) (w : World) : Calls Try.prog 30 #[lgAgg j p f t s, .int .i64 now] w fun e w' => e = .returned (.bool b) ∧ Below w.heap.size w w' := by
  have := window_Live j p f t s now w
  rw [h.out] at this
  exact this
theorem ref18_LiveE {j p f t s now : Int} {b : Bool} (h : Hid ((decide (f ≤ now) && decide (now ≤ t)) = b)) (w : World) : Calls Try.prog 33 #[lgAgg j p f t s, .int .i64 now] w fun e w' => e = .returned (.bool b) ∧ Below w.heap.size w w' := by
  have := ref18_Live j p f t s now w
  rw [h.out] at this
  exact this
theorem Ints.get {w : World} {a : Option Addr} {l : List Int} (h : Ints w a l) (i : Nat) (hi : i < l.length) : ∃ b off, a = some ⟨b, off, none⟩ ∧ b < w.heap.size ∧ w.cell? ⟨b, off + i, none⟩ = some (.int .i64 l[i]) := by
  rcases h.open with h0 | ⟨b, off, e, hl, hc⟩
  · rw [h0] at hi; simp at hi
  · exact ⟨b, off, e, hl, hc i hi⟩
set_option maxHeartbeats 8000000 in
theorem status_Code (ju ph fr to_ si : Int) (a : Option Addr) (its : List Vx) (n c : Nat) (now : Int) (w : World) (h : Vws w a its) (hn : n = its.length) :
    Calls Try.prog 10 #[lgAgg ju ph fr to_ si, .slice a n c, .int .i64 now] w (CodeR ju ph fr to_ (its.map Vx.key) now w) := by
  subst hn
  have HML : Hid ((its.map Vx.key).length = its.length) := Lib.hid (by simp)
  go_enter Try.func10, Try.ntmps10
  go_upto_region 1 with fail
  obtain ⟨V, hV⟩ : ∃ V, w.heap.size = V := ⟨_, rfl⟩
  refine wp_named (fun W => Blk W V 34 #[.int .i64 ju, .int .i64 ph, .int .i64 fr, .int .i64 to_, .int .i64 si] ∧ Vws W a its ∧ RowKit.Below w.heap.size w W) ⟨by rw [← hV]; exact Blk.new _ _ _, h.alloc _, (by repeat (first | (with_reducible refine Below.setCell ?_ ?_ _) | (with_reducible refine Below.alloc ?_ ?_ _) | (with_reducible refine Below.drew ?_) | (with_reducible refine below_drewN ?_ _) | (with_reducible exact Below.refl _ _) | (focus (simp; done)) | (focus (simp; omega)) | (focus omega)))⟩ ?_
  rw [hV]
  clear h
  rintro W ⟨kV, h, be⟩
  obtain ⟨v0, v1, v2, v3, v4, vf, vl⟩ := kV.five
  cases hl : (decide (fr ≤ now) && decide (now ≤ to_)) with
  | false =>
    have HL := Lib.hid hl
    clear hl
    go_wp2_with ((go_at_call 30; (with_reducible refine (window_LiveE HL _).mono ?_); rintro e w2 ⟨rfl, hb2⟩))
    go_ret
    exact CodeR.mk (codeM_off HL.out) (by repeat (first | (with_reducible refine Below.setCell ?_ ?_ _) | (with_reducible refine Below.alloc ?_ ?_ _) | (with_reducible refine Below.drew ?_) | (with_reducible refine below_drewN ?_ _) | (with_reducible exact Below.refl _ _) | (with_reducible refine Below.trans ?_ (Below.mono hb2 ?_)) | (with_reducible refine Below.trans ?_ (Below.mono be ?_)) | (focus (simp; done)) | (focus (simp; omega)) | (focus omega) | (focus (have q0 := Below.size hb2; (try simp at q0); have q1 := Below.size be; (try simp at q1); (try simp); omega))))
  | true =>
    have HL := Lib.hid hl
    clear hl
    by_cases hj0 : ju < 0
    · have HF : Hid (codeM ju ph fr to_ (its.map Vx.key) now = 1) := Lib.hid (codeM_out (by omega))
      go_wp2_with ((go_at_call 30; (with_reducible refine (window_LiveE HL _).mono ?_); rintro e w2 ⟨rfl, hb2⟩; (have k2 := kV.below hb2 vl); clear v0 v1 v2 v3 v4 vf; (obtain ⟨v0, v1, v2, v3, v4, vf, vl2⟩ := k2.five)))
      go_ret
      exact CodeR.mk HF.out (by repeat (first | (with_reducible refine Below.setCell ?_ ?_ _) | (with_reducible refine Below.alloc ?_ ?_ _) | (with_reducible refine Below.drew ?_) | (with_reducible refine below_drewN ?_ _) | (with_reducible exact Below.refl _ _) | (with_reducible refine Below.trans ?_ (Below.mono hb2 ?_)) | (with_reducible refine Below.trans ?_ (Below.mono be ?_)) | (focus (simp; done)) | (focus (simp; omega)) | (focus omega) | (focus (have q0 := Below.size hb2; (try simp at q0); have q1 := Below.size be; (try simp at q1); (try simp); omega))))
    · obtain ⟨J, rfl⟩ := Int.eq_ofNat_of_zero_le (Int.not_lt.1 hj0)
      by_cases hJ : J < its.length
      · obtain ⟨ba, oa, rfl⟩ := h.open (by omega)
        have kJ : (J : Int) < (its.length : Int) := by omega
        have hic := h.cs _ (List.getElem_mem hJ)
        obtain ⟨x, hx⟩ : ∃ x, its[J] = x := ⟨_, rfl⟩
        rw [hx] at hic
        by_cases hp0 : ph < 0
        · have HF : Hid (codeM J ph fr to_ (its.map Vx.key) now = 1) := Lib.hid (codeM_outP hJ hx (by omega))
          have HX := Lib.hid hx
          clear hx
          obtain ⟨xf, xo, xcs, xns, xca, xcc, xna, xnc⟩ := x
          go_wp2_with ((go_at_call 30; (with_reducible refine (window_LiveE HL _).mono ?_); rintro e w2 ⟨rfl, hb2⟩; (have k2 := kV.below hb2 vl); clear v0 v1 v2 v3 v4 vf; (obtain ⟨v0, v1, v2, v3, v4, vf, vl2⟩ := k2.five); (obtain ⟨y0, y1, y2, y3, yb⟩ := row_view (h.below hb2 (Nat.le_refl _)).row J hJ); (rw [HX.out] at y0 y1 y2 y3); (simp only at y0 y1 y2 y3)))
          go_ret
          exact CodeR.mk HF.out (by repeat (first | (with_reducible refine Below.setCell ?_ ?_ _) | (with_reducible refine Below.alloc ?_ ?_ _) | (with_reducible refine Below.drew ?_) | (with_reducible refine below_drewN ?_ _) | (with_reducible exact Below.refl _ _) | (with_reducible refine Below.trans ?_ (Below.mono hb2 ?_)) | (with_reducible refine Below.trans ?_ (Below.mono be ?_)) | (focus (simp; done)) | (focus (simp; omega)) | (focus omega) | (focus (have q0 := Below.size hb2; (try simp at q0); have q1 := Below.size be; (try simp at q1); (try simp); omega))))
        · obtain ⟨P, rfl⟩ := Int.eq_ofNat_of_zero_le (Int.not_lt.1 hp0)
          by_cases hP : P < x.cs.length
          · have HF := Lib.hid (codeM_in HL.out hJ hx hP)
            have HX := Lib.hid hx
            clear hx
            obtain ⟨xf, xo, xcs, xns, xca, xcc, xna, xnc⟩ := x
            simp only at hP hic HF
            have kP : (P : Int) < (xcs.length : Int) := by omega
            obtain ⟨cb, co, rfl, cl, hc⟩ := hic.get P hP
            obtain ⟨z, hz⟩ : ∃ z, xcs[P] = z := ⟨_, rfl⟩
            rw [hz] at hc HF
            clear hz hic
            cases xo with
            | false =>
              have HG : Hid (codeM J P fr to_ (its.map Vx.key) now = 2) := Lib.hid (by rw [HF.out, if_neg (by simp)])
              go_wp2_with ((go_at_call 30; (with_reducible refine (window_LiveE HL _).mono ?_); rintro e w2 ⟨rfl, hb2⟩; (have k2 := kV.below hb2 vl); clear v0 v1 v2 v3 v4 vf; (obtain ⟨v0, v1, v2, v3, v4, vf, vl2⟩ := k2.five); (obtain ⟨y0, y1, y2, y3, yb⟩ := row_view (h.below hb2 (Nat.le_refl _)).row J hJ); (rw [HX.out] at y0 y1 y2 y3); (simp only at y0 y1 y2 y3); (have c0 := ((bcell hb2).1 _ _ cl).trans hc); (have cl2 := Nat.lt_of_lt_of_le cl hb2.size)))
              go_ret
              exact CodeR.mk HG.out (by repeat (first | (with_reducible refine Below.setCell ?_ ?_ _) | (with_reducible refine Below.alloc ?_ ?_ _) | (with_reducible refine Below.drew ?_) | (with_reducible refine below_drewN ?_ _) | (with_reducible exact Below.refl _ _) | (with_reducible refine Below.trans ?_ (Below.mono hb2 ?_)) | (with_reducible refine Below.trans ?_ (Below.mono be ?_)) | (focus (simp; done)) | (focus (simp; omega)) | (focus omega) | (focus (have q0 := Below.size hb2; (try simp at q0); have q1 := Below.size be; (try simp at q1); (try simp); omega))))
            | true =>
              cases xf with
              | true =>
                have HG : Hid (codeM J P fr to_ (its.map Vx.key) now = 2) := Lib.hid (by rw [HF.out, if_neg (by simp)])
                go_wp2_with ((go_at_call 30; (with_reducible refine (window_LiveE HL _).mono ?_); rintro e w2 ⟨rfl, hb2⟩; (have k2 := kV.below hb2 vl); clear v0 v1 v2 v3 v4 vf; (obtain ⟨v0, v1, v2, v3, v4, vf, vl2⟩ := k2.five); (obtain ⟨y0, y1, y2, y3, yb⟩ := row_view (h.below hb2 (Nat.le_refl _)).row J hJ); (rw [HX.out] at y0 y1 y2 y3); (simp only at y0 y1 y2 y3); (have c0 := ((bcell hb2).1 _ _ cl).trans hc); (have cl2 := Nat.lt_of_lt_of_le cl hb2.size)))
                go_ret
                exact CodeR.mk HG.out (by repeat (first | (with_reducible refine Below.setCell ?_ ?_ _) | (with_reducible refine Below.alloc ?_ ?_ _) | (with_reducible refine Below.drew ?_) | (with_reducible refine below_drewN ?_ _) | (with_reducible exact Below.refl _ _) | (with_reducible refine Below.trans ?_ (Below.mono hb2 ?_)) | (with_reducible refine Below.trans ?_ (Below.mono be ?_)) | (focus (simp; done)) | (focus (simp; omega)) | (focus omega) | (focus (have q0 := Below.size hb2; (try simp at q0); have q1 := Below.size be; (try simp at q1); (try simp); omega))))
              | false =>
                by_cases hz1 : z = 1
                · subst hz1
                  have HG : Hid (codeM J P fr to_ (its.map Vx.key) now = 3) := Lib.hid (by rw [HF.out, if_pos (by simp)])
                  go_wp2_with ((go_at_call 30; (with_reducible refine (window_LiveE HL _).mono ?_); rintro e w2 ⟨rfl, hb2⟩; (have k2 := kV.below hb2 vl); clear v0 v1 v2 v3 v4 vf; (obtain ⟨v0, v1, v2, v3, v4, vf, vl2⟩ := k2.five); (obtain ⟨y0, y1, y2, y3, yb⟩ := row_view (h.below hb2 (Nat.le_refl _)).row J hJ); (rw [HX.out] at y0 y1 y2 y3); (simp only at y0 y1 y2 y3); (have c0 := ((bcell hb2).1 _ _ cl).trans hc); (have cl2 := Nat.lt_of_lt_of_le cl hb2.size)))
                  go_ret
                  exact CodeR.mk HG.out (by repeat (first | (with_reducible refine Below.setCell ?_ ?_ _) | (with_reducible refine Below.alloc ?_ ?_ _) | (with_reducible refine Below.drew ?_) | (with_reducible refine below_drewN ?_ _) | (with_reducible exact Below.refl _ _) | (with_reducible refine Below.trans ?_ (Below.mono hb2 ?_)) | (with_reducible refine Below.trans ?_ (Below.mono be ?_)) | (focus (simp; done)) | (focus (simp; omega)) | (focus omega) | (focus (have q0 := Below.size hb2; (try simp at q0); have q1 := Below.size be; (try simp at q1); (try simp); omega))))
                · have HG : Hid (codeM J P fr to_ (its.map Vx.key) now = 2) := Lib.hid (by rw [HF.out, if_neg (by simp [hz1])])
                  have z1 : (z == 1) = false := by rw [beq_eq_false_iff_ne]; exact hz1
                  clear hz1
                  go_wp2_with ((go_at_call 30; (with_reducible refine (window_LiveE HL _).mono ?_); rintro e w2 ⟨rfl, hb2⟩; (have k2 := kV.below hb2 vl); clear v0 v1 v2 v3 v4 vf; (obtain ⟨v0, v1, v2, v3, v4, vf, vl2⟩ := k2.five); (obtain ⟨y0, y1, y2, y3, yb⟩ := row_view (h.below hb2 (Nat.le_refl _)).row J hJ); (rw [HX.out] at y0 y1 y2 y3); (simp only at y0 y1 y2 y3); (have c0 := ((bcell hb2).1 _ _ cl).trans hc); (have cl2 := Nat.lt_of_lt_of_le cl hb2.size)))
                  go_ret
                  exact CodeR.mk HG.out (by repeat (first | (with_reducible refine Below.setCell ?_ ?_ _) | (with_reducible refine Below.alloc ?_ ?_ _) | (with_reducible refine Below.drew ?_) | (with_reducible refine below_drewN ?_ _) | (with_reducible exact Below.refl _ _) | (with_reducible refine Below.trans ?_ (Below.mono hb2 ?_)) | (with_reducible refine Below.trans ?_ (Below.mono be ?_)) | (focus (simp; done)) | (focus (simp; omega)) | (focus omega) | (focus (have q0 := Below.size hb2; (try simp at q0); have q1 := Below.size be; (try simp at q1); (try simp); omega))))
          · have HF : Hid (codeM J P fr to_ (its.map Vx.key) now = 1) := Lib.hid (codeM_outP hJ hx (by omega))
            have HX := Lib.hid hx
            clear hx
            obtain ⟨xf, xo, xcs, xns, xca, xcc, xna, xnc⟩ := x
            simp only at hP
            have kP : (xcs.length : Int) ≤ (P : Int) := by omega
            clear hP
            go_wp2_with ((go_at_call 30; (with_reducible refine (window_LiveE HL _).mono ?_); rintro e w2 ⟨rfl, hb2⟩; (have k2 := kV.below hb2 vl); clear v0 v1 v2 v3 v4 vf; (obtain ⟨v0, v1, v2, v3, v4, vf, vl2⟩ := k2.five); (obtain ⟨y0, y1, y2, y3, yb⟩ := row_view (h.below hb2 (Nat.le_refl _)).row J hJ); (rw [HX.out] at y0 y1 y2 y3); (simp only at y0 y1 y2 y3)))
            go_ret
            exact CodeR.mk HF.out (by repeat (first | (with_reducible refine Below.setCell ?_ ?_ _) | (with_reducible refine Below.alloc ?_ ?_ _) | (with_reducible refine Below.drew ?_) | (with_reducible refine below_drewN ?_ _) | (with_reducible exact Below.refl _ _) | (with_reducible refine Below.trans ?_ (Below.mono hb2 ?_)) | (with_reducible refine Below.trans ?_ (Below.mono be ?_)) | (focus (simp; done)) | (focus (simp; omega)) | (focus omega) | (focus (have q0 := Below.size hb2; (try simp at q0); have q1 := Below.size be; (try simp at q1); (try simp); omega))))
      · have kJ : (its.length : Int) ≤ (J : Int) := by omega
        have HF : Hid (codeM J ph fr to_ (its.map Vx.key) now = 1) := Lib.hid (codeM_out (by rw [HML.out]; omega))
        go_wp2_with ((go_at_call 30; (with_reducible refine (window_LiveE HL _).mono ?_); rintro e w2 ⟨rfl, hb2⟩; (have k2 := kV.below hb2 vl); clear v0 v1 v2 v3 v4 vf; (obtain ⟨v0, v1, v2, v3, v4, vf, vl2⟩ := k2.five)))
        go_ret
        exact CodeR.mk HF.out (by repeat (first | (with_reducible refine Below.setCell ?_ ?_ _) | (with_reducible refine Below.alloc ?_ ?_ _) | (with_reducible refine Below.drew ?_) | (with_reducible refine below_drewN ?_ _) | (with_reducible exact Below.refl _ _) | (with_reducible refine Below.trans ?_ (Below.mono hb2 ?_)) | (with_reducible refine Below.trans ?_ (Below.mono be ?_)) | (focus (simp; done)) | (focus (simp; omega)) | (focus omega) | (focus (have q0 := Below.size hb2; (try simp at q0); have q1 := Below.size be; (try simp at q1); (try simp); omega))))
set_option maxHeartbeats 8000000 in
theorem ref24_Code (ju ph fr to_ si : Int) (a : Option Addr) (its : List Vx) (n c : Nat) (now : Int) (w : World) (h : Vws w a its) (hn : n = its.length) :
    Calls Try.prog 17 #[lgAgg ju ph fr to_ si, .slice a n c, .int .i64 now] w (CodeR ju ph fr to_ (its.map Vx.key) now w) := by
  subst hn
  have HML : Hid ((its.map Vx.key).length = its.length) := Lib.hid (by simp)
  go_enter Try.func17, Try.ntmps17
  go_upto_region 1 with fail
  obtain ⟨V, hV⟩ : ∃ V, w.heap.size = V := ⟨_, rfl⟩
  refine wp_named (fun W => Blk W V 34 #[.int .i64 ju, .int .i64 ph, .int .i64 fr, .int .i64 to_, .int .i64 si] ∧ Vws W a its ∧ RowKit.Below w.heap.size w W) ⟨by rw [← hV]; exact Blk.new _ _ _, h.alloc _, (by repeat (first | (with_reducible refine Below.setCell ?_ ?_ _) | (with_reducible refine Below.alloc ?_ ?_ _) | (with_reducible refine Below.drew ?_) | (with_reducible refine below_drewN ?_ _) | (with_reducible exact Below.refl _ _) | (focus (simp; done)) | (focus (simp; omega)) | (focus omega)))⟩ ?_
  rw [hV]
  clear h
  rintro W ⟨kV, h, be⟩
  obtain ⟨v0, v1, v2, v3, v4, vf, vl⟩ := kV.five
  have r1 : ∀ (d : Nat) (os : Array Obj) (o : Nat), (grow (redrawn W d) os).cell? ⟨V, o, none⟩ = W.cell? ⟨V, o, none⟩ := fun d os o => cells_regrown _ _ _ _ _ vl
  cases hl : (decide (fr ≤ now) && decide (now ≤ to_)) with
  | false =>
    have HL := Lib.hid hl
    clear hl
    (refine wp_region_quiet_below (by kernel_rfl) (by kernel_rfl) ?_; (repeat (go_big_quiet_step (first | (go_at_call 33; with_reducible exact qb (ref18_LiveE HL _))))); refine wpQuiet_nil ?_; intro wq hwq; have hbq := below_of_regrown hwq; clear hwq)
    go_wp2_with fail
    go_ret
    exact CodeR.mk (codeM_off HL.out) (by repeat (first | (with_reducible refine Below.setCell ?_ ?_ _) | (with_reducible refine Below.alloc ?_ ?_ _) | (with_reducible refine Below.drew ?_) | (with_reducible refine below_drewN ?_ _) | (with_reducible exact Below.refl _ _) | (with_reducible refine Below.trans ?_ (Below.mono hbq ?_)) | (with_reducible refine Below.trans ?_ (Below.mono be ?_)) | (focus (simp; done)) | (focus (simp; omega)) | (focus omega) | (focus (have q0 := Below.size hbq; (try simp at q0); have q1 := Below.size be; (try simp at q1); (try simp); omega))))
  | true =>
    have HL := Lib.hid hl
    clear hl
    by_cases hj0 : ju < 0
    · have HF : Hid (codeM ju ph fr to_ (its.map Vx.key) now = 1) := Lib.hid (codeM_out (by omega))
      have z1 : decide (ju < 0) = true := decide_eq_true hj0
      (refine wp_region_quiet_below (by kernel_rfl) (by kernel_rfl) ?_; (repeat (go_big_quiet_step (first | (go_at_call 33; with_reducible exact qb (ref18_LiveE HL _))))); refine wpQuiet_nil ?_; intro wq hwq; have hbq := below_of_regrown hwq; clear hwq)
      go_wp2_with fail
      go_ret
      exact CodeR.mk HF.out (by repeat (first | (with_reducible refine Below.setCell ?_ ?_ _) | (with_reducible refine Below.alloc ?_ ?_ _) | (with_reducible refine Below.drew ?_) | (with_reducible refine below_drewN ?_ _) | (with_reducible exact Below.refl _ _) | (with_reducible refine Below.trans ?_ (Below.mono hbq ?_)) | (with_reducible refine Below.trans ?_ (Below.mono be ?_)) | (focus (simp; done)) | (focus (simp; omega)) | (focus omega) | (focus (have q0 := Below.size hbq; (try simp at q0); have q1 := Below.size be; (try simp at q1); (try simp); omega))))
    · obtain ⟨J, rfl⟩ := Int.eq_ofNat_of_zero_le (Int.not_lt.1 hj0)
      have z1 : decide ((J : Int) < 0) = false := decide_eq_false hj0
      clear hj0
      by_cases hJ : J < its.length
      · obtain ⟨ba, oa, rfl⟩ := h.open (by omega)
        have kJ : (J : Int) < (its.length : Int) := by omega
        have z2 : decide (its.length ≤ J) = false := decide_eq_false (by omega)
        have z2' : decide ((its.length : Int) ≤ (J : Int)) = false := decide_eq_false (by omega)
        have hic := h.cs _ (List.getElem_mem hJ)
        obtain ⟨x, hx⟩ : ∃ x, its[J] = x := ⟨_, rfl⟩
        rw [hx] at hic
        by_cases hp0 : ph < 0
        · have z3 : decide (ph < 0) = true := decide_eq_true hp0
          have HF : Hid (codeM J ph fr to_ (its.map Vx.key) now = 1) := Lib.hid (codeM_outP hJ hx (by omega))
          have HX := Lib.hid hx
          clear hx
          obtain ⟨xf, xo, xcs, xns, xca, xcc, xna, xnc⟩ := x
          (obtain ⟨y0, y1, y2, y3, yb⟩ := row_view h.row J hJ)
          rw [HX.out] at y0 y1 y2 y3
          simp only at y0 y1 y2 y3
          have r2 : ∀ (d : Nat) (os : Array Obj) (o : Nat), (grow (redrawn W d) os).cell? ⟨ba, o, none⟩ = W.cell? ⟨ba, o, none⟩ := fun d os o => cells_regrown _ _ _ _ _ yb
          (refine wp_region_quiet_below (by kernel_rfl) (by kernel_rfl) ?_; (repeat (go_big_quiet_step (first | (go_at_call 33; with_reducible exact qb (ref18_LiveE HL _))))); refine wpQuiet_nil ?_; intro wq hwq; have hbq := below_of_regrown hwq; clear hwq)
          go_wp2_with fail
          go_ret
          exact CodeR.mk HF.out (by repeat (first | (with_reducible refine Below.setCell ?_ ?_ _) | (with_reducible refine Below.alloc ?_ ?_ _) | (with_reducible refine Below.drew ?_) | (with_reducible refine below_drewN ?_ _) | (with_reducible exact Below.refl _ _) | (with_reducible refine Below.trans ?_ (Below.mono hbq ?_)) | (with_reducible refine Below.trans ?_ (Below.mono be ?_)) | (focus (simp; done)) | (focus (simp; omega)) | (focus omega) | (focus (have q0 := Below.size hbq; (try simp at q0); have q1 := Below.size be; (try simp at q1); (try simp); omega))))
        · obtain ⟨P, rfl⟩ := Int.eq_ofNat_of_zero_le (Int.not_lt.1 hp0)
          have z3 : decide ((P : Int) < 0) = false := decide_eq_false hp0
          clear hp0
          by_cases hP : P < x.cs.length
          · have HF := Lib.hid (codeM_in HL.out hJ hx hP)
            have HX := Lib.hid hx
            clear hx
            obtain ⟨xf, xo, xcs, xns, xca, xcc, xna, xnc⟩ := x
            simp only at hP hic HF
            have kP : (P : Int) < (xcs.length : Int) := by omega
            have z4 : decide (xcs.length ≤ P) = false := decide_eq_false (by omega)
            have z4' : decide ((xcs.length : Int) ≤ (P : Int)) = false := decide_eq_false (by omega)
            obtain ⟨cb, co, rfl, cl, hc⟩ := hic.get P hP
            obtain ⟨z, hz⟩ : ∃ z, xcs[P] = z := ⟨_, rfl⟩
            rw [hz] at hc HF
            clear hz hic
            cases xo with
            | false =>
              have HG : Hid (codeM J P fr to_ (its.map Vx.key) now = 2) := Lib.hid (by rw [HF.out, if_neg (by simp)])
              (obtain ⟨y0, y1, y2, y3, yb⟩ := row_view h.row J hJ)
              rw [HX.out] at y0 y1 y2 y3
              simp only at y0 y1 y2 y3
              have r2 : ∀ (d : Nat) (os : Array Obj) (o : Nat), (grow (redrawn W d) os).cell? ⟨ba, o, none⟩ = W.cell? ⟨ba, o, none⟩ := fun d os o => cells_regrown _ _ _ _ _ yb
              (refine wp_region_quiet_below (by kernel_rfl) (by kernel_rfl) ?_; (repeat (go_big_quiet_step (first | (go_at_call 33; with_reducible exact qb (ref18_LiveE HL _))))); refine wpQuiet_nil ?_; intro wq hwq; have hbq := below_of_regrown hwq; clear hwq)
              have k2 := kV.below hbq vl
              clear v0 v1 v2 v3 v4 vf y0 y1 y2 y3 r1 r2
              obtain ⟨v0, v1, v2, v3, v4, vf, vl2⟩ := k2.five
              obtain ⟨y0, y1, y2, y3, yb2⟩ := row_view (h.below hbq (Nat.le_refl _)).row J hJ
              rw [HX.out] at y0 y1 y2 y3
              simp only at y0 y1 y2 y3
              have c0 := ((bcell hbq).1 _ _ cl).trans hc
              have cl2 := Nat.lt_of_lt_of_le cl hbq.size
              go_wp2_with fail
              go_ret
              exact CodeR.mk HG.out (by repeat (first | (with_reducible refine Below.setCell ?_ ?_ _) | (with_reducible refine Below.alloc ?_ ?_ _) | (with_reducible refine Below.drew ?_) | (with_reducible refine below_drewN ?_ _) | (with_reducible exact Below.refl _ _) | (with_reducible refine Below.trans ?_ (Below.mono hbq ?_)) | (with_reducible refine Below.trans ?_ (Below.mono be ?_)) | (focus (simp; done)) | (focus (simp; omega)) | (focus omega) | (focus (have q0 := Below.size hbq; (try simp at q0); have q1 := Below.size be; (try simp at q1); (try simp); omega))))
            | true =>
              cases xf with
              | true =>
                have HG : Hid (codeM J P fr to_ (its.map Vx.key) now = 2) := Lib.hid (by rw [HF.out, if_neg (by simp)])
                (obtain ⟨y0, y1, y2, y3, yb⟩ := row_view h.row J hJ)
                rw [HX.out] at y0 y1 y2 y3
                simp only at y0 y1 y2 y3
                have r2 : ∀ (d : Nat) (os : Array Obj) (o : Nat), (grow (redrawn W d) os).cell? ⟨ba, o, none⟩ = W.cell? ⟨ba, o, none⟩ := fun d os o => cells_regrown _ _ _ _ _ yb
                (refine wp_region_quiet_below (by kernel_rfl) (by kernel_rfl) ?_; (repeat (go_big_quiet_step (first | (go_at_call 33; with_reducible exact qb (ref18_LiveE HL _))))); refine wpQuiet_nil ?_; intro wq hwq; have hbq := below_of_regrown hwq; clear hwq)
                have k2 := kV.below hbq vl
                clear v0 v1 v2 v3 v4 vf y0 y1 y2 y3 r1 r2
                obtain ⟨v0, v1, v2, v3, v4, vf, vl2⟩ := k2.five
                obtain ⟨y0, y1, y2, y3, yb2⟩ := row_view (h.below hbq (Nat.le_refl _)).row J hJ
                rw [HX.out] at y0 y1 y2 y3
                simp only at y0 y1 y2 y3
                have c0 := ((bcell hbq).1 _ _ cl).trans hc
                have cl2 := Nat.lt_of_lt_of_le cl hbq.size
                go_wp2_with fail
                go_ret
                exact CodeR.mk HG.out (by repeat (first | (with_reducible refine Below.setCell ?_ ?_ _) | (with_reducible refine Below.alloc ?_ ?_ _) | (with_reducible refine Below.drew ?_) | (with_reducible refine below_drewN ?_ _) | (with_reducible exact Below.refl _ _) | (with_reducible refine Below.trans ?_ (Below.mono hbq ?_)) | (with_reducible refine Below.trans ?_ (Below.mono be ?_)) | (focus (simp; done)) | (focus (simp; omega)) | (focus omega) | (focus (have q0 := Below.size hbq; (try simp at q0); have q1 := Below.size be; (try simp at q1); (try simp); omega))))
              | false =>
                by_cases hz1 : z = 1
                · subst hz1
                  have HG : Hid (codeM J P fr to_ (its.map Vx.key) now = 3) := Lib.hid (by rw [HF.out, if_pos (by simp)])
                  (obtain ⟨y0, y1, y2, y3, yb⟩ := row_view h.row J hJ)
                  rw [HX.out] at y0 y1 y2 y3
                  simp only at y0 y1 y2 y3
                  have r2 : ∀ (d : Nat) (os : Array Obj) (o : Nat), (grow (redrawn W d) os).cell? ⟨ba, o, none⟩ = W.cell? ⟨ba, o, none⟩ := fun d os o => cells_regrown _ _ _ _ _ yb
                  (refine wp_region_quiet_below (by kernel_rfl) (by kernel_rfl) ?_; (repeat (go_big_quiet_step (first | (go_at_call 33; with_reducible exact qb (ref18_LiveE HL _))))); refine wpQuiet_nil ?_; intro wq hwq; have hbq := below_of_regrown hwq; clear hwq)
                  have k2 := kV.below hbq vl
                  clear v0 v1 v2 v3 v4 vf y0 y1 y2 y3 r1 r2
                  obtain ⟨v0, v1, v2, v3, v4, vf, vl2⟩ := k2.five
                  obtain ⟨y0, y1, y2, y3, yb2⟩ := row_view (h.below hbq (Nat.le_refl _)).row J hJ
                  rw [HX.out] at y0 y1 y2 y3
                  simp only at y0 y1 y2 y3
                  have c0 := ((bcell hbq).1 _ _ cl).trans hc
                  have cl2 := Nat.lt_of_lt_of_le cl hbq.size
                  go_wp2_with fail
                  go_ret
                  exact CodeR.mk HG.out (by repeat (first | (with_reducible refine Below.setCell ?_ ?_ _) | (with_reducible refine Below.alloc ?_ ?_ _) | (with_reducible refine Below.drew ?_) | (with_reducible refine below_drewN ?_ _) | (with_reducible exact Below.refl _ _) | (with_reducible refine Below.trans ?_ (Below.mono hbq ?_)) | (with_reducible refine Below.trans ?_ (Below.mono be ?_)) | (focus (simp; done)) | (focus (simp; omega)) | (focus omega) | (focus (have q0 := Below.size hbq; (try simp at q0); have q1 := Below.size be; (try simp at q1); (try simp); omega))))
                · have HG : Hid (codeM J P fr to_ (its.map Vx.key) now = 2) := Lib.hid (by rw [HF.out, if_neg (by simp [hz1])])
                  have z1 : (z == 1) = false := by rw [beq_eq_false_iff_ne]; exact hz1
                  clear hz1
                  (obtain ⟨y0, y1, y2, y3, yb⟩ := row_view h.row J hJ)
                  rw [HX.out] at y0 y1 y2 y3
                  simp only at y0 y1 y2 y3
                  have r2 : ∀ (d : Nat) (os : Array Obj) (o : Nat), (grow (redrawn W d) os).cell? ⟨ba, o, none⟩ = W.cell? ⟨ba, o, none⟩ := fun d os o => cells_regrown _ _ _ _ _ yb
                  (refine wp_region_quiet_below (by kernel_rfl) (by kernel_rfl) ?_; (repeat (go_big_quiet_step (first | (go_at_call 33; with_reducible exact qb (ref18_LiveE HL _))))); refine wpQuiet_nil ?_; intro wq hwq; have hbq := below_of_regrown hwq; clear hwq)
                  have k2 := kV.below hbq vl
                  clear v0 v1 v2 v3 v4 vf y0 y1 y2 y3 r1 r2
                  obtain ⟨v0, v1, v2, v3, v4, vf, vl2⟩ := k2.five
                  obtain ⟨y0, y1, y2, y3, yb2⟩ := row_view (h.below hbq (Nat.le_refl _)).row J hJ
                  rw [HX.out] at y0 y1 y2 y3
                  simp only at y0 y1 y2 y3
                  have c0 := ((bcell hbq).1 _ _ cl).trans hc
                  have cl2 := Nat.lt_of_lt_of_le cl hbq.size
                  go_wp2_with fail
                  go_ret
                  exact CodeR.mk HG.out (by repeat (first | (with_reducible refine Below.setCell ?_ ?_ _) | (with_reducible refine Below.alloc ?_ ?_ _) | (with_reducible refine Below.drew ?_) | (with_reducible refine below_drewN ?_ _) | (with_reducible exact Below.refl _ _) | (with_reducible refine Below.trans ?_ (Below.mono hbq ?_)) | (with_reducible refine Below.trans ?_ (Below.mono be ?_)) | (focus (simp; done)) | (focus (simp; omega)) | (focus omega) | (focus (have q0 := Below.size hbq; (try simp at q0); have q1 := Below.size be; (try simp at q1); (try simp); omega))))
          · have HF : Hid (codeM J P fr to_ (its.map Vx.key) now = 1) := Lib.hid (codeM_outP hJ hx (by omega))
            have HX := Lib.hid hx
            clear hx
            obtain ⟨xf, xo, xcs, xns, xca, xcc, xna, xnc⟩ := x
            simp only at hP
            have kP : (xcs.length : Int) ≤ (P : Int) := by omega
            have z4 : decide (xcs.length ≤ P) = true := decide_eq_true (by omega)
            have z4' : decide ((xcs.length : Int) ≤ (P : Int)) = true := decide_eq_true kP
            clear hP
            (obtain ⟨y0, y1, y2, y3, yb⟩ := row_view h.row J hJ)
            rw [HX.out] at y0 y1 y2 y3
            simp only at y0 y1 y2 y3
            have r2 : ∀ (d : Nat) (os : Array Obj) (o : Nat), (grow (redrawn W d) os).cell? ⟨ba, o, none⟩ = W.cell? ⟨ba, o, none⟩ := fun d os o => cells_regrown _ _ _ _ _ yb
            (refine wp_region_quiet_below (by kernel_rfl) (by kernel_rfl) ?_; (repeat (go_big_quiet_step (first | (go_at_call 33; with_reducible exact qb (ref18_LiveE HL _))))); refine wpQuiet_nil ?_; intro wq hwq; have hbq := below_of_regrown hwq; clear hwq)
            go_wp2_with fail
            go_ret
            exact CodeR.mk HF.out (by repeat (first | (with_reducible refine Below.setCell ?_ ?_ _) | (with_reducible refine Below.alloc ?_ ?_ _) | (with_reducible refine Below.drew ?_) | (with_reducible refine below_drewN ?_ _) | (with_reducible exact Below.refl _ _) | (with_reducible refine Below.trans ?_ (Below.mono hbq ?_)) | (with_reducible refine Below.trans ?_ (Below.mono be ?_)) | (focus (simp; done)) | (focus (simp; omega)) | (focus omega) | (focus (have q0 := Below.size hbq; (try simp at q0); have q1 := Below.size be; (try simp at q1); (try simp); omega))))
      · have kJ : (its.length : Int) ≤ (J : Int) := by omega
        have z2 : decide (its.length ≤ J) = true := decide_eq_true (by omega)
        have z2' : decide ((its.length : Int) ≤ (J : Int)) = true := decide_eq_true kJ
        clear hJ
        have HF : Hid (codeM J ph fr to_ (its.map Vx.key) now = 1) := Lib.hid (codeM_out (by rw [HML.out]; omega))
        (refine wp_region_quiet_below (by kernel_rfl) (by kernel_rfl) ?_; (repeat (go_big_quiet_step (first | (go_at_call 33; with_reducible exact qb (ref18_LiveE HL _))))); refine wpQuiet_nil ?_; intro wq hwq; have hbq := below_of_regrown hwq; clear hwq)
        go_wp2_with fail
        go_ret
        exact CodeR.mk HF.out (by repeat (first | (with_reducible refine Below.setCell ?_ ?_ _) | (with_reducible refine Below.alloc ?_ ?_ _) | (with_reducible refine Below.drew ?_) | (with_reducible refine below_drewN ?_ _) | (with_reducible exact Below.refl _ _) | (with_reducible refine Below.trans ?_ (Below.mono hbq ?_)) | (with_reducible refine Below.trans ?_ (Below.mono be ?_)) | (focus (simp; done)) | (focus (simp; omega)) | (focus omega) | (focus (have q0 := Below.size hbq; (try simp at q0); have q1 := Below.size be; (try simp at q1); (try simp); omega))))
end Go.Proofs.Ytpjnajallekjoaa
