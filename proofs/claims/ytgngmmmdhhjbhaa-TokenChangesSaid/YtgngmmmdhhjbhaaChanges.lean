/- signalbrokerlaw14.TokenChanges -/
import Derived.Test.YtgngmmmdhhjbhaaTkExp
import Derived.Test.YtgngmmmdhhjbhaaTkRExp
import Derived.Test.YtgngmmmdhhjbhaaTkSame
import Derived.Test.YtgngmmmdhhjbhaaTkBent
import Derived.Test.YtgngmmmdhhjbhaaKills
import Derived.Test.YtgngmmmdhhjbhaaOpenT
import Derived.Deep.CutBlock
namespace Go.Proofs.Ytgngmmmdhhjbhaa
set_option linter.unusedVariables false
open Go.RowKit Go.Sort
set_option maxRecDepth 100000

theorem derM_le {k : List TkK} {p r c f : Int} {sec : List UInt8} {now er s : Int} {y : List TkK} (h : derM k p r c f sec now = (er, s, y)) : y.length ≤ k.length := by
  unfold derM at h
  repeat' split at h
  all_goals (injection h with _ h; injection h with _ h; subst h; simp)
theorem revM_le {k : List TkK} {s er : Int} {y : List TkK} (h : revM k s = (er, y)) : y.length ≤ k.length := by
  unfold revM at h
  repeat' split at h
  all_goals (injection h with _ h; subst h; simp [free_len])
/-- slots under a literal's cell -/
def TokAt (W : World) (B i : Nat) : Prop := ∃ (a : Option Addr) (l : List Tk) (n c : Nat), W.cell? ⟨B, i, none⟩ = some (.slice a n c) ∧ Hid (n = l.length) ∧ TkG W a l c
/-- bytes under a literal's cell -/
def BytAt (W : World) (B i : Nat) : Prop := ∃ (a : Option Addr) (l : List UInt8) (n c : Nat), W.cell? ⟨B, i, none⟩ = some (.slice a n c) ∧ Hid (n = l.length) ∧ Byt W a l ∧ n ≤ 100000 ∧ Hid (a = none → n = 0 ∧ c = 0)
theorem cell_below {W W' : World} {B o : Nat} {v : Value} (h : W.cell? ⟨B, o, none⟩ = some v) (hb : Below W.heap.size W W') : W'.cell? ⟨B, o, none⟩ = some v := by
  have hl := World.block_lt_of_cell? W _ h
  rw [(bcell hb).1 B o hl]
  exact h
theorem TokAt.below {W W' : World} {B i : Nat} (h : TokAt W B i) (hb : Below W.heap.size W W') : TokAt W' B i := by
  obtain ⟨a, l, n, c, h1, h2, h3⟩ := h
  exact ⟨a, l, n, c, cell_below h1 hb, h2, h3.below hb⟩
theorem BytAt.below {W W' : World} {B i : Nat} (h : BytAt W B i) (hb : Below W.heap.size W W') : BytAt W' B i := by
  obtain ⟨a, l, n, c, h1, h2, h3, h4, h5⟩ := h
  exact ⟨a, l, n, c, cell_below h1 hb, h2, h3.below hb (Nat.le_refl _), h4, h5⟩
def IntAt (W : World) (B o : Nat) : Prop := ∃ v : Int, W.cell? ⟨B, o, none⟩ = some (.int .i64 v)
theorem IntAt.below {W W' : World} {B i : Nat} (h : IntAt W B i) (hb : Below W.heap.size W W') : IntAt W' B i := by
  obtain ⟨v, h1⟩ := h
  exact ⟨v, cell_below h1 hb⟩
set_option maxHeartbeats 8000000 in
theorem tokenChanges_walk (xR : Option Addr) (cR : Nat) (lR : List Tk) (a0 : Option Addr) (c0 : Nat) (l0 : List Int) (aS : Option Addr) (cS : Nat) (lS : List UInt8) (which by_ rights class_ life now : Int) (w : World)
    (hR : RawT w xR lR cR) (h0 : Ints w a0 l0) (n0 : l0.length ≤ 9223372036854775807) (hS : Byt w aS lS) (nS : lS.length ≤ 9223372036854775807) (kS : aS = none → lS.length = 0 ∧ cS = 0) :
    Calls Try.prog 3 #[.slice xR lR.length cR, .slice a0 l0.length c0, .slice aS lS.length cS, .int .i64 which, .int .i64 by_, .int .i64 rights, .int .i64 class_, .int .i64 life, .int .i64 now] w fun e w' => e = .returned (.bool true) ∧ RowKit.Below w.heap.size w w' := by
  have HKS := Lib.hid kS
  clear kS
  by_cases h600 : lS.length ≤ 600
  case neg =>
    have d600 : decide (lS.length ≤ 600) = false := decide_eq_false h600
    go_enter Try.func3, Try.ntmps3
    go_upto_region 1 with fail
    go_wp2_with (first | (go_at_call 9; (with_reducible refine (law_light xR lR lR.length cR _ hR.tks rfl hR.n).mono ?_); rintro e w1 ⟨b, rfl, hb, hb1⟩; (cases b)) | (go_at_call 10; (with_reducible refine (mk_Short _ _ _ _ nS).mono ?_); rintro e w' ⟨rfl, rfl⟩) | (go_at_call 11; (with_reducible refine (law_awake _).mono ?_); rintro e w2 ⟨rfl, hb2⟩))
    all_goals
      go_ret
      exact ⟨rfl, (by repeat (first | (with_reducible refine Below.setCell ?_ ?_ _) | (with_reducible refine Below.alloc ?_ ?_ _) | (with_reducible refine Below.drew ?_) | (with_reducible refine below_drewN ?_ _) | (with_reducible exact Below.refl _ _) | (with_reducible refine Below.trans ?_ (Below.mono hb2 ?_)) | (with_reducible refine Below.trans ?_ (Below.mono hb1 ?_)) | (focus (simp; done)) | (focus (simp; omega)) | (focus omega) | (focus (have q0 := Below.size hb2; (try simp at q0); have q1 := Below.size hb1; (try simp at q1); (try simp); omega))))⟩
  have d600 : decide (lS.length ≤ 600) = true := decide_eq_true h600
  have HR63 : ∀ r : Int, r = 63 ∨ r = 47 ∨ r = 7 → rV r = true := fun r h => by rcases h with rfl | rfl | rfl <;> decide
  have HRV := Lib.hid HR63
  have HS8 : Hid (8 = (secX 1000).length) := Lib.hid rfl
  clear HR63
  have HRX := Lib.hid hR
  clear hR
  go_enter Try.func3, Try.ntmps3
  go_upto_region 1 with fail
  go_upto_if 45 with (first | (go_at_call 9; (with_reducible refine (law_light xR lR lR.length cR _ HRX.out.tks rfl HRX.out.n).mono ?_); rintro e w1 ⟨b, rfl, hbL, hb1⟩; (cases b)) | (go_at_call 10; (with_reducible refine (mk_Short _ _ _ _ nS).mono ?_); rintro e w' ⟨rfl, rfl⟩))
  · go_wp2_with ((go_at_call 11; (with_reducible refine (law_awake _).mono ?_); rintro e w2 ⟨rfl, hb2⟩))
    go_ret
    exact ⟨rfl, (by repeat (first | (with_reducible refine Below.setCell ?_ ?_ _) | (with_reducible refine Below.alloc ?_ ?_ _) | (with_reducible refine Below.drew ?_) | (with_reducible refine below_drewN ?_ _) | (with_reducible exact Below.refl _ _) | (with_reducible refine Below.trans ?_ (Below.mono hb2 ?_)) | (with_reducible refine Below.trans ?_ (Below.mono hb1 ?_)) | (focus (simp; done)) | (focus (simp; omega)) | (focus omega) | (focus (have q0 := Below.size hb2; (try simp at q0); have q1 := Below.size hb1; (try simp at q1); (try simp); omega))))⟩
  · have GR : TkG w xR lR cR := ⟨HRX.out.tks, HRX.out.nil, fun t ht => ⟨HRX.out.sec t ht, by have := (hbL.out (by first | rfl | trivial)).2 t ht; omega⟩, (hbL.out (by first | rfl | trivial)).1⟩
    go_upto_region 4 with (first | (go_at_call 12; (with_reducible refine (mk_New a0 c0 l0 _ (h0.below hb1 (Nat.le_refl _)) n0).mono ?_); rintro e w2 ⟨rfl, hd2, hb2⟩) | (go_at_call 14; (with_reducible refine (law_agency _ _).mono ?_); rintro e w3 ⟨sa, sc, rt, cl, rfl, hrt, cl0, cl1, own3, hb3⟩; ((have hd3 := hd2.below hb3); (have hrv := HRV.out rt hrt))) | (go_at_call 13; (with_reducible refine (deck_Tokens _ ⟨a0, c0, l0⟩ 0 sa (secX 1000) 8 sc rt cl none 0 0 0 0 0 0 _ hd3 own3.byt HS8.out rfl hrv cl0 cl1).mono ?_); rintro e w4 ⟨kd, l, xa, xc, rfl, hn, hV, il, -, g4⟩))
    have b14 : RowKit.Below w1.heap.size w1 w4 := deck_open (w := w1) (by repeat (first | (with_reducible refine Below.setCell ?_ ?_ _) | (with_reducible refine Below.alloc ?_ ?_ _) | (with_reducible refine Below.drew ?_) | (with_reducible refine below_drewN ?_ _) | (with_reducible exact Below.refl _ _) | (with_reducible refine Below.trans ?_ (Below.mono hb3 ?_)) | (with_reducible refine Below.trans ?_ (Below.mono hb2 ?_)) | (focus (simp; done)) | (focus (simp; omega)) | (focus omega) | (focus (have q0 := Below.size hb3; (try simp at q0); have q1 := Below.size hb2; (try simp at q1); (try simp); omega)))) g4
    have be4 : RowKit.Below w.heap.size w w4 := (by repeat (first | (with_reducible refine Below.setCell ?_ ?_ _) | (with_reducible refine Below.alloc ?_ ?_ _) | (with_reducible refine Below.drew ?_) | (with_reducible refine below_drewN ?_ _) | (with_reducible exact Below.refl _ _) | (with_reducible refine Below.trans ?_ (Below.mono b14 ?_)) | (with_reducible refine Below.trans ?_ (Below.mono hb1 ?_)) | (focus (simp; done)) | (focus (simp; omega)) | (focus omega) | (focus (have q0 := Below.size b14; (try simp at q0); have q1 := Below.size hb1; (try simp at q1); (try simp); omega))))
    have G := il.g hV
    have HL8 : Hid (l.length = 8) := Lib.hid hn.out.symm
    have HVS : Hid (∀ t ∈ l, t.sec.length ≤ 8) := Lib.hid (fun t ht => val_sec hV.out t.key (List.mem_map_of_mem ht))
    have GR4 := (GR.below hb1).below b14
    have hS4 := hS.below be4 (Nat.le_refl _)
    clear hb1 hb2 hb3 g4 il own3 hd2 hd3 hrt hrv cl0 cl1 h0 HRV HS8 b14 GR hS hbL HRX d600
    go_upto_region 5 with ((go_at_call 15; (with_reducible refine (law_bent xa l 8 xc which by_ _ G.tks hn.out HL8.out HVS.out).mono ?_); rintro e w5 ⟨ba, lb, bn, bc, rfl, hbn, GB, hb5⟩))
    obtain ⟨B, hB⟩ : ∃ B, w5.heap.size = B := ⟨_, rfl⟩
    refine wp_named (fun Z => (∀ i, i < 3 → TokAt Z B i) ∧ TkG Z xa l xc ∧ Byt Z aS lS ∧ RowKit.Below w.heap.size w Z ∧ B < Z.heap.size) ⟨fun i hi => ?_, (G.below hb5).alloc _, (hS4.below hb5 (Nat.le_refl _)).alloc _, (by repeat (first | (with_reducible refine Below.setCell ?_ ?_ _) | (with_reducible refine Below.alloc ?_ ?_ _) | (with_reducible refine Below.drew ?_) | (with_reducible refine below_drewN ?_ _) | (with_reducible exact Below.refl _ _) | (with_reducible refine Below.trans ?_ (Below.mono hb5 ?_)) | (with_reducible refine Below.trans ?_ (Below.mono be4 ?_)) | (focus (simp; done)) | (focus (simp; omega)) | (focus omega) | (focus (have q0 := Below.size hb5; (try simp at q0); have q1 := Below.size be4; (try simp at q1); (try simp); omega)))), by rw [← hB]; simp⟩ ?_
    · have k := Blk.new w5 22 #[.slice xR lR.length cR, .slice xa 8 xc, .slice ba bn bc]
      rw [hB] at k
      have hi3 : i = 0 ∨ i = 1 ∨ i = 2 := by omega
      rcases hi3 with rfl | rfl | rfl
      · exact ⟨xR, lR, lR.length, cR, k.cell 0, Lib.hid rfl, (GR4.below hb5).alloc _⟩
      · exact ⟨xa, l, 8, xc, k.cell 1, hn, (G.below hb5).alloc _⟩
      · exact ⟨ba, lb, bn, bc, k.cell 2, hbn, GB.alloc _⟩
    rw [hB]
    clear hB GR4 G hS4 be4 GB hb5
    rintro Z ⟨hT, G, hS, beZ, hBZ⟩
    have HT := Lib.hid hT
    clear hT
    go_wp2_with fail
    go_loopw [60] (fun s60 wr => ∃ i : Nat, s60 = .int .i64 i ∧ i ≤ 3 ∧ RowKit.Below Z.heap.size Z wr) (fun s _ => 3 - (intOf s).toNat)
    case atStart => exact ⟨0, rfl, by omega, (by repeat (first | (with_reducible refine Below.setCell ?_ ?_ _) | (with_reducible refine Below.alloc ?_ ?_ _) | (with_reducible refine Below.drew ?_) | (with_reducible refine below_drewN ?_ _) | (with_reducible exact Below.refl _ _) | (focus (simp; done)) | (focus (simp; omega)) | (focus omega)))⟩
    case round =>
      obtain ⟨i, rfl, hi, be⟩ := hrel
      by_cases hlt : i < 3
      · have i3 : (i : Int) < 3 := by omega
        obtain ⟨xa, x, xn, xc, hx, hxn, GX⟩ := (HT.out i hlt).below be
        have hBw := Nat.lt_of_lt_of_le hBZ be.size
        have hSr := hS.below be (Nat.le_refl _)
        go_upto_region 8 with ((go_at_call 16; (with_reducible refine (mk_Secret _ _).mono ?_); rintro e w6 ⟨sb, sd, rfl, own6, hb6⟩))
        obtain ⟨C, hC⟩ : ∃ C, w6.heap.size = C := ⟨_, rfl⟩
        have n6 := Lib.hid own6.none_len
        refine wp_named (fun U => (∀ i, i < 2 → BytAt U C i) ∧ TkG U xa x xc ∧ RowKit.Below Z.heap.size Z U ∧ C < U.heap.size) ⟨fun i hi => ?_, (GX.below hb6).alloc _, (by repeat (first | (with_reducible refine Below.setCell ?_ ?_ _) | (with_reducible refine Below.alloc ?_ ?_ _) | (with_reducible refine Below.drew ?_) | (with_reducible refine below_drewN ?_ _) | (with_reducible exact Below.refl _ _) | (with_reducible refine Below.trans ?_ (Below.mono hb6 ?_)) | (with_reducible refine Below.trans ?_ (Below.mono be ?_)) | (focus (simp; done)) | (focus (simp; omega)) | (focus omega) | (focus (have q0 := Below.size hb6; (try simp at q0); have q1 := Below.size be; (try simp at q1); (try simp); omega)))), by rw [← hC]; simp⟩ ?_
        · have k := Blk.new w6 24 #[.slice aS lS.length cS, .slice sb 8 sd]
          rw [hC] at k
          have hi3 : i = 0 ∨ i = 1 := by omega
          rcases hi3 with rfl | rfl
          · exact ⟨aS, lS, lS.length, cS, k.cell 0, Lib.hid rfl, (hSr.below hb6 (Nat.le_refl _)).alloc _, by omega, HKS⟩
          · exact ⟨sb, secX by_, 8, sd, k.cell 1, Lib.hid (secX_len _).symm, own6.byt.alloc _, by decide, n6⟩
        rw [hC]
        clear hC hx GX hBw hSr own6 hb6 be n6
        rintro U ⟨hY, GX, be, hCU⟩
        have HY := Lib.hid hY
        clear hY
        go_wp2_with fail
        go_loopw [69] (fun s69 wr => ∃ k : Nat, s69 = .int .i64 k ∧ k ≤ 2 ∧ RowKit.Below U.heap.size U wr) (fun s _ => 2 - (intOf s).toNat)
        case atStart => exact ⟨0, rfl, by omega, (by repeat (first | (with_reducible refine Below.setCell ?_ ?_ _) | (with_reducible refine Below.alloc ?_ ?_ _) | (with_reducible refine Below.drew ?_) | (with_reducible refine below_drewN ?_ _) | (with_reducible exact Below.refl _ _) | (focus (simp; done)) | (focus (simp; omega)) | (focus omega)))⟩
        case round =>
          obtain ⟨k, rfl, hk, be2⟩ := hrel
          by_cases hlt2 : k < 2
          · have k2 : (k : Int) < 2 := by omega
            obtain ⟨ya, y, yn, yc, hy, hyn, BY, yn9, hynil⟩ := (HY.out k hlt2).below be2
            have hCw := Nat.lt_of_lt_of_le hCU be2.size
            have GXr := GX.below be2
            obtain ⟨m1, E1, p1, q1⟩ := modName by_ 9 (by decide)
            obtain ⟨m2, E2, p2, q2⟩ := modName rights 64 (by decide)
            obtain ⟨m3, E3, p3, q3⟩ := modName class_ 4 (by decide)
            obtain ⟨m4, E4, p4, q4⟩ := modName life 40 (by decide)
            obtain ⟨m5, E5, p5, q5⟩ := modName now 20 (by decide)
            obtain ⟨m6, E6, p6, q6⟩ := modName rights 8 (by decide)
            obtain ⟨m7, E7, p7, q7⟩ := modName life 3 (by decide)
            obtain ⟨m8, E8, p8, q8⟩ := modName now 3 (by decide)
            go_upto_region 11 with (first | (go_at_call 17; (with_reducible refine (mk_ModE E1.out _ (by decide) (by decide)).mono ?_); rintro e wz ⟨rfl, rfl⟩) | (go_at_call 17; (with_reducible refine (mk_ModE E2.out _ (by decide) (by decide)).mono ?_); rintro e wz ⟨rfl, rfl⟩) | (go_at_call 17; (with_reducible refine (mk_ModE E3.out _ (by decide) (by decide)).mono ?_); rintro e wz ⟨rfl, rfl⟩) | (go_at_call 17; (with_reducible refine (mk_ModE E4.out _ (by decide) (by decide)).mono ?_); rintro e wz ⟨rfl, rfl⟩) | (go_at_call 17; (with_reducible refine (mk_ModE E5.out _ (by decide) (by decide)).mono ?_); rintro e wz ⟨rfl, rfl⟩) | (go_at_call 17; (with_reducible refine (mk_ModE E6.out _ (by decide) (by decide)).mono ?_); rintro e wz ⟨rfl, rfl⟩) | (go_at_call 17; (with_reducible refine (mk_ModE E7.out _ (by decide) (by decide)).mono ?_); rintro e wz ⟨rfl, rfl⟩) | (go_at_call 17; (with_reducible refine (mk_ModE E8.out _ (by decide) (by decide)).mono ?_); rintro e wz ⟨rfl, rfl⟩))
            obtain ⟨D, hD⟩ : ∃ D, wr.heap.size = D := ⟨_, rfl⟩
            have kD := Blk.new wr 38 #[.int .i64 by_, .int .i64 rights, .int .i64 class_, .int .i64 life, .int .i64 now, .int .i64 m1, .int .i64 m2, .int .i64 m3, .int .i64 m4, .int .i64 m5, .int .i64 0, .int .i64 m6, .int .i64 0, .int .i64 (599 + m7), .int .i64 (1073741823 + m8)]
            rw [hD] at kD
            refine wp_named (fun V => (∀ i, i < 15 → IntAt V D i) ∧ TkG V xa x xc ∧ Byt V ya y ∧ RowKit.Below U.heap.size U V ∧ D < V.heap.size) ⟨fun i hi => ?_, GXr.alloc _, BY.alloc _, (by repeat (first | (with_reducible refine Below.setCell ?_ ?_ _) | (with_reducible refine Below.alloc ?_ ?_ _) | (with_reducible refine Below.drew ?_) | (with_reducible refine below_drewN ?_ _) | (with_reducible exact Below.refl _ _) | (with_reducible refine Below.trans ?_ (Below.mono be2 ?_)) | (focus (simp; done)) | (focus (simp; omega)) | (focus omega) | (focus (have q0 := Below.size be2; (try simp at q0); (try simp); omega)))), by rw [← hD]; simp⟩ ?_
            · have hi15 : i = 0 ∨ i = 1 ∨ i = 2 ∨ i = 3 ∨ i = 4 ∨ i = 5 ∨ i = 6 ∨ i = 7 ∨ i = 8 ∨ i = 9 ∨ i = 10 ∨ i = 11 ∨ i = 12 ∨ i = 13 ∨ i = 14 := by omega
              rcases hi15 with rfl | rfl | rfl | rfl | rfl | rfl | rfl | rfl | rfl | rfl | rfl | rfl | rfl | rfl | rfl <;> exact ⟨_, kD.cell _⟩
            rw [hD]
            clear kD hD GXr BY be2 hy hCw p1 q1 p2 q2 p3 q3 p4 q4 p5 q5 p6 q6 p7 q7 p8 q8
            rintro V ⟨hI, GX, BY, be2, hDV⟩
            have HI := Lib.hid hI
            clear hI
            go_wp2_with fail
            go_loopw [101] (fun s101 wr => ∃ j : Nat, s101 = .int .i64 j ∧ j ≤ 3 ∧ RowKit.Below V.heap.size V wr) (fun s _ => 3 - (intOf s).toNat)
            case atStart => exact ⟨0, rfl, by omega, (by repeat (first | (with_reducible refine Below.setCell ?_ ?_ _) | (with_reducible refine Below.alloc ?_ ?_ _) | (with_reducible refine Below.drew ?_) | (with_reducible refine below_drewN ?_ _) | (with_reducible exact Below.refl _ _) | (focus (simp; done)) | (focus (simp; omega)) | (focus omega)))⟩
            case round =>
              obtain ⟨j, rfl, hj, be3⟩ := hrel
              by_cases hlt3 : j < 3
              · have j3 : (j : Int) < 3 := by omega
                obtain ⟨v0, c0'⟩ := (HI.out (j * 5) (by omega)).below be3
                obtain ⟨v1, c1'⟩ := (HI.out (j * 5 + 1) (by omega)).below be3
                obtain ⟨v2, c2'⟩ := (HI.out (j * 5 + 2) (by omega)).below be3
                obtain ⟨v3, c3'⟩ := (HI.out (j * 5 + 3) (by omega)).below be3
                obtain ⟨v4, c4'⟩ := (HI.out (j * 5 + 4) (by omega)).below be3
                have hDw := Nat.lt_of_lt_of_le hDV be3.size
                have GXr := GX.below be3
                have BYr := BY.below be3 (Nat.le_refl _)
                go_upto_region 13 with fail
                obtain ⟨E, hE⟩ : ∃ E, wr.heap.size = E := ⟨_, rfl⟩
                refine wp_named (fun Y => Blk Y E 38 #[.int .i64 v0, .int .i64 v1, .int .i64 v2, .int .i64 v3, .int .i64 v4] ∧ TkG Y xa x xc ∧ Byt Y ya y ∧ RowKit.Below V.heap.size V Y) ⟨by rw [← hE]; exact Blk.new _ _ _, GXr.alloc _, BYr.alloc _, (by repeat (first | (with_reducible refine Below.setCell ?_ ?_ _) | (with_reducible refine Below.alloc ?_ ?_ _) | (with_reducible refine Below.drew ?_) | (with_reducible refine below_drewN ?_ _) | (with_reducible exact Below.refl _ _) | (with_reducible refine Below.trans ?_ (Below.mono be3 ?_)) | (focus (simp; done)) | (focus (simp; omega)) | (focus omega) | (focus (have q0 := Below.size be3; (try simp at q0); (try simp); omega))))⟩ ?_
                rw [hE]
                clear hE GXr BYr be3 c0' c1' c2' c3' c4' hDw
                rintro Y ⟨kE, GXr, BYr, be3⟩
                obtain ⟨e0, e1, e2, e3, e4, -, el⟩ := kE.five
                go_upto_region 14 with ((go_at_call 18; (with_reducible refine (token_Derive xa x xn xc v0 v1 v2 v3 ya y yn yc v4 _ GXr hxn.out BYr hyn.out yn9 hynil.out).mono ?_); rintro e w8 ⟨za, zn, zc, z, s1, er1, rfl, hm1, hz1, il1, hb8⟩))
                have kE8 := kE.below hb8 el
                have GX8 := GXr.below hb8
                have BY8 := BYr.below hb8 (Nat.le_refl _)
                have be8 : RowKit.Below V.heap.size V w8 := (by repeat (first | (with_reducible refine Below.setCell ?_ ?_ _) | (with_reducible refine Below.alloc ?_ ?_ _) | (with_reducible refine Below.drew ?_) | (with_reducible refine below_drewN ?_ _) | (with_reducible exact Below.refl _ _) | (with_reducible refine Below.trans ?_ (Below.mono hb8 ?_)) | (with_reducible refine Below.trans ?_ (Below.mono be3 ?_)) | (focus (simp; done)) | (focus (simp; omega)) | (focus omega) | (focus (have q0 := Below.size hb8; (try simp at q0); have q1 := Below.size be3; (try simp at q1); (try simp); omega))))
                have t1 := il1.tks
                clear kE GXr BYr be3 e0 e1 e2 e3 e4 el il1 hb8
                obtain ⟨e0, e1, e2, e3, e4, -, el⟩ := kE8.five
                go_upto_region 15 with ((go_at_call 19; (with_reducible refine (ref14_Derive xa x xn xc v0 v1 v2 v3 ya y yn yc v4 _ GX8 hxn.out BY8 hyn.out yn9 hynil.out).mono ?_); rintro e w9 ⟨za2, zn2, zc2, z2, s2, er2, rfl, hm2, hz2, il2, hb9⟩))
                obtain ⟨rfl, rfl, hkeys⟩ : er2 = er1 ∧ s2 = s1 ∧ z.map Tk.key = z2.map Tk.key := by
                  have := hm2.out
                  rw [hm1.out] at this
                  injection this with h1 h2
                  injection h2 with h2 h3
                  exact ⟨h1.symm, h2.symm, h3⟩
                have hzn9 : zn ≤ 100000 := by
                  have h1 := derM_le hm1.out
                  have h2 := GX8.n
                  rw [List.length_map, List.length_map, ← hz1.out] at h1
                  omega
                have t1' := t1.below hb9 (Nat.le_refl _)
                have t2' := il2.tks
                have be9 : RowKit.Below V.heap.size V w9 := (by repeat (first | (with_reducible refine Below.setCell ?_ ?_ _) | (with_reducible refine Below.alloc ?_ ?_ _) | (with_reducible refine Below.drew ?_) | (with_reducible refine below_drewN ?_ _) | (with_reducible exact Below.refl _ _) | (with_reducible refine Below.trans ?_ (Below.mono hb9 ?_)) | (with_reducible refine Below.trans ?_ (Below.mono be8 ?_)) | (focus (simp; done)) | (focus (simp; omega)) | (focus omega) | (focus (have q0 := Below.size hb9; (try simp at q0); have q1 := Below.size be8; (try simp at q1); (try simp); omega))))
                have HKEYS := Lib.hid hkeys
                clear kE8 GX8 BY8 be8 t1 il2 hb9 e0 e1 e2 e3 e4 el hkeys
                go_wp2_with ((go_at_call 20; (with_reducible refine (ref14_Same za za2 z z2 zn zc zn2 zc2 _ t1' t2' hz1.out hz2.out HKEYS.out hzn9).mono ?_); rintro e w10 ⟨rfl, hb10⟩))
                go_roundw
                case rel => exact ⟨j + 1, by go_num, by omega, (by repeat (first | (with_reducible refine Below.setCell ?_ ?_ _) | (with_reducible refine Below.alloc ?_ ?_ _) | (with_reducible refine Below.drew ?_) | (with_reducible refine below_drewN ?_ _) | (with_reducible exact Below.refl _ _) | (with_reducible refine Below.trans ?_ (Below.mono hb10 ?_)) | (with_reducible refine Below.trans ?_ (Below.mono be9 ?_)) | (focus (simp; done)) | (focus (simp; omega)) | (focus omega) | (focus (have q0 := Below.size hb10; (try simp at q0); have q1 := Below.size be9; (try simp at q1); (try simp); omega))))⟩
                case measure => simp [intOf]; omega
              · obtain rfl : j = 3 := by omega
                go_wp2_with fail
                go_roundw
                case rel => exact ⟨k + 1, by go_num, by omega, (by repeat (first | (with_reducible refine Below.setCell ?_ ?_ _) | (with_reducible refine Below.alloc ?_ ?_ _) | (with_reducible refine Below.drew ?_) | (with_reducible refine below_drewN ?_ _) | (with_reducible exact Below.refl _ _) | (with_reducible refine Below.trans ?_ (Below.mono be3 ?_)) | (with_reducible refine Below.trans ?_ (Below.mono be2 ?_)) | (focus (simp; done)) | (focus (simp; omega)) | (focus omega) | (focus (have q0 := Below.size be3; (try simp at q0); have q1 := Below.size be2; (try simp at q1); (try simp); omega))))⟩
                case measure => simp [intOf]; omega
          · obtain rfl : k = 2 := by omega
            simp only [show ((2 : Nat) : Int) = 2 from rfl]
            obtain ⟨m, Em, m0, m1⟩ := modName by_ 10 (by decide)
            go_upto_region 20 with ((go_at_call 17; (with_reducible refine (mk_ModE Em.out _ (by decide) (by decide)).mono ?_); rintro e wz ⟨rfl, rfl⟩))
            obtain ⟨D, hD⟩ : ∃ D, wr.heap.size = D := ⟨_, rfl⟩
            have kD := Blk.new wr 3 #[.int .i64 by_, .int .i64 (m - 1)]
            rw [hD] at kD
            refine wp_named (fun V => (∀ i, i < 2 → IntAt V D i) ∧ TkG V xa x xc ∧ RowKit.Below U.heap.size U V ∧ D < V.heap.size) ⟨fun i hi => ?_, (GX.below be2).alloc _, (by repeat (first | (with_reducible refine Below.setCell ?_ ?_ _) | (with_reducible refine Below.alloc ?_ ?_ _) | (with_reducible refine Below.drew ?_) | (with_reducible refine below_drewN ?_ _) | (with_reducible exact Below.refl _ _) | (with_reducible refine Below.trans ?_ (Below.mono be2 ?_)) | (focus (simp; done)) | (focus (simp; omega)) | (focus omega) | (focus (have q0 := Below.size be2; (try simp at q0); (try simp); omega)))), by rw [← hD]; simp⟩ ?_
            · have hi2 : i = 0 ∨ i = 1 := by omega
              rcases hi2 with rfl | rfl <;> exact ⟨_, kD.cell _⟩
            rw [hD]
            clear kD hD be2 hCU HY GX m0 m1
            rintro V ⟨hI, GX, be2, hDV⟩
            have HI := Lib.hid hI
            clear hI
            go_wp2_with fail
            go_loopw [161] (fun s161 wr => ∃ j : Nat, s161 = .int .i64 j ∧ j ≤ 2 ∧ RowKit.Below V.heap.size V wr) (fun s _ => 2 - (intOf s).toNat)
            case atStart => exact ⟨0, rfl, by omega, (by repeat (first | (with_reducible refine Below.setCell ?_ ?_ _) | (with_reducible refine Below.alloc ?_ ?_ _) | (with_reducible refine Below.drew ?_) | (with_reducible refine below_drewN ?_ _) | (with_reducible exact Below.refl _ _) | (focus (simp; done)) | (focus (simp; omega)) | (focus omega)))⟩
            case round =>
              obtain ⟨j, rfl, hj, be3⟩ := hrel
              by_cases hlt3 : j < 2
              · have j3 : (j : Int) < 2 := by omega
                obtain ⟨v0, c0'⟩ := (HI.out j hlt3).below be3
                have hDw := Nat.lt_of_lt_of_le hDV be3.size
                have GXr := GX.below be3
                go_upto_region 23 with ((go_at_call 21; (with_reducible refine (token_Revoke xa x xn xc v0 _ GXr hxn.out).mono ?_); rintro e w8 ⟨za, zn, zc, z, er1, rfl, hm1, hz1, il1, hb8⟩))
                have GX8 := GXr.below hb8
                have be8 : RowKit.Below V.heap.size V w8 := (by repeat (first | (with_reducible refine Below.setCell ?_ ?_ _) | (with_reducible refine Below.alloc ?_ ?_ _) | (with_reducible refine Below.drew ?_) | (with_reducible refine below_drewN ?_ _) | (with_reducible exact Below.refl _ _) | (with_reducible refine Below.trans ?_ (Below.mono hb8 ?_)) | (with_reducible refine Below.trans ?_ (Below.mono be3 ?_)) | (focus (simp; done)) | (focus (simp; omega)) | (focus omega) | (focus (have q0 := Below.size hb8; (try simp at q0); have q1 := Below.size be3; (try simp at q1); (try simp); omega))))
                have t1 := il1.tks
                clear GXr be3 il1 hb8 c0' hDw
                go_upto_region 24 with ((go_at_call 22; (with_reducible refine (ref14_Revoke xa x xn xc v0 _ GX8 hxn.out).mono ?_); rintro e w9 ⟨za2, zn2, zc2, z2, er2, rfl, hm2, hz2, il2, hb9⟩))
                obtain ⟨rfl, hkeys⟩ : er2 = er1 ∧ z.map Tk.key = z2.map Tk.key := by
                  have := hm2.out
                  rw [hm1.out] at this
                  injection this with h1 h2
                  exact ⟨h1.symm, h2⟩
                have hzn9 : zn ≤ 100000 := by
                  have h1 := revM_le hm1.out
                  have h2 := GX8.n
                  rw [List.length_map, List.length_map, ← hz1.out] at h1
                  omega
                have t1' := t1.below hb9 (Nat.le_refl _)
                have t2' := il2.tks
                have be9 : RowKit.Below V.heap.size V w9 := (by repeat (first | (with_reducible refine Below.setCell ?_ ?_ _) | (with_reducible refine Below.alloc ?_ ?_ _) | (with_reducible refine Below.drew ?_) | (with_reducible refine below_drewN ?_ _) | (with_reducible exact Below.refl _ _) | (with_reducible refine Below.trans ?_ (Below.mono hb9 ?_)) | (with_reducible refine Below.trans ?_ (Below.mono be8 ?_)) | (focus (simp; done)) | (focus (simp; omega)) | (focus omega) | (focus (have q0 := Below.size hb9; (try simp at q0); have q1 := Below.size be8; (try simp at q1); (try simp); omega))))
                have HKEYS := Lib.hid hkeys
                clear GX8 be8 t1 il2 hb9 hkeys
                go_wp2_with ((go_at_call 20; (with_reducible refine (ref14_Same za za2 z z2 zn zc zn2 zc2 _ t1' t2' hz1.out hz2.out HKEYS.out hzn9).mono ?_); rintro e w10 ⟨rfl, hb10⟩))
                go_roundw
                case rel => exact ⟨j + 1, by go_num, by omega, (by repeat (first | (with_reducible refine Below.setCell ?_ ?_ _) | (with_reducible refine Below.alloc ?_ ?_ _) | (with_reducible refine Below.drew ?_) | (with_reducible refine below_drewN ?_ _) | (with_reducible exact Below.refl _ _) | (with_reducible refine Below.trans ?_ (Below.mono hb10 ?_)) | (with_reducible refine Below.trans ?_ (Below.mono be9 ?_)) | (focus (simp; done)) | (focus (simp; omega)) | (focus omega) | (focus (have q0 := Below.size hb10; (try simp at q0); have q1 := Below.size be9; (try simp at q1); (try simp); omega))))⟩
                case measure => simp [intOf]; omega
              · obtain rfl : j = 2 := by omega
                go_wp2_with fail
                go_roundw
                case rel => exact ⟨i + 1, by go_num, by omega, (by repeat (first | (with_reducible refine Below.setCell ?_ ?_ _) | (with_reducible refine Below.alloc ?_ ?_ _) | (with_reducible refine Below.drew ?_) | (with_reducible refine below_drewN ?_ _) | (with_reducible exact Below.refl _ _) | (with_reducible refine Below.trans ?_ (Below.mono be3 ?_)) | (with_reducible refine Below.trans ?_ (Below.mono be2 ?_)) | (with_reducible refine Below.trans ?_ (Below.mono be ?_)) | (focus (simp; done)) | (focus (simp; omega)) | (focus omega) | (focus (have q0 := Below.size be3; (try simp at q0); have q1 := Below.size be2; (try simp at q1); have q2 := Below.size be; (try simp at q2); (try simp); omega))))⟩
                case measure => simp [intOf]; omega
      · obtain rfl : i = 3 := by omega
        obtain ⟨m, Em, m0, m1⟩ := modName now 30 (by decide)
        have Gr := G.below be
        go_wp2_with (first | (go_at_call 17; (with_reducible refine (mk_ModE Em.out _ (by decide) (by decide)).mono ?_); rintro e wz ⟨rfl, rfl⟩) | (go_at_call 23; (with_reducible refine (token_Expire xa l 8 xc m _ Gr hn.out HL8.out).mono ?_); rintro e w6 ⟨ya, yc, l6, rfl, hk6, hn6, il6, hb6⟩; ((have Gr6 := Gr.below hb6); (have t6 := il6.tks))) | (go_at_call 24; (with_reducible refine (ref14_Expire xa l 8 xc m _ Gr6 hn.out HL8.out).mono ?_); rintro e w7 ⟨za, zc, l7, rfl, hk7, hn7, il7, hb7⟩; ((have t67 := t6.below hb7 (Nat.le_refl _)); (have t7 := il7.tks); (have HKK : Hid (l6.map Tk.key = l7.map Tk.key) := Lib.hid (hk6.out.trans hk7.out.symm)))) | (go_at_call 20; (with_reducible refine (ref14_Same ya za l6 l7 8 yc 8 zc _ t67 t7 hn6.out hn7.out HKK.out (by decide)).mono ?_); rintro e w8 ⟨rfl, hb8⟩) | (go_at_call 11; (with_reducible refine (law_awake _).mono ?_); rintro e w9 ⟨rfl, hb9⟩))
        go_ret
        exact ⟨rfl, (by repeat (first | (with_reducible refine Below.setCell ?_ ?_ _) | (with_reducible refine Below.alloc ?_ ?_ _) | (with_reducible refine Below.drew ?_) | (with_reducible refine below_drewN ?_ _) | (with_reducible exact Below.refl _ _) | (with_reducible refine Below.trans ?_ (Below.mono hb9 ?_)) | (with_reducible refine Below.trans ?_ (Below.mono hb8 ?_)) | (with_reducible refine Below.trans ?_ (Below.mono hb7 ?_)) | (with_reducible refine Below.trans ?_ (Below.mono hb6 ?_)) | (with_reducible refine Below.trans ?_ (Below.mono be ?_)) | (with_reducible refine Below.trans ?_ (Below.mono beZ ?_)) | (focus (simp; done)) | (focus (simp; omega)) | (focus omega) | (focus (have q0 := Below.size hb9; (try simp at q0); have q1 := Below.size hb8; (try simp at q1); have q2 := Below.size hb7; (try simp at q2); have q3 := Below.size hb6; (try simp at q3); have q4 := Below.size be; (try simp at q4); have q5 := Below.size beZ; (try simp at q5); (try simp); omega))))⟩
end Go.Proofs.Ytgngmmmdhhjbhaa
