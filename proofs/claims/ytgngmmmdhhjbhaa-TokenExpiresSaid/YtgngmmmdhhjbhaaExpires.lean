/- signalbrokerlaw14.TokenExpires -/
import Derived.Test.YtgngmmmdhhjbhaaTkExp
import Derived.Test.YtgngmmmdhhjbhaaKills
import Derived.Test.YtgngmmmdhhjbhaaTkSame
import Derived.Deep.CutBlock
namespace Go.Proofs.Ytgngmmmdhhjbhaa
set_option linter.unusedVariables false
open Go.RowKit Go.Sort
set_option maxRecDepth 100000

theorem any_more {k : List TkK} (h8 : k.length = 8) (s now : Int) : ((ancK k 9 s).any fun a => expB (gK k a).un now) = expF k now s := by
  unfold expF
  rw [Bool.eq_iff_iff, List.any_eq_true, List.any_eq_true]
  constructor
  · rintro ⟨y, hy, h⟩
    have := anc_len hy
    rw [h8] at this
    exact ⟨y, this, h⟩
  · rintro ⟨y, hy, h⟩
    refine ⟨y, ?_, h⟩
    rw [anc_mem] at hy ⊢
    obtain ⟨i, hi, e, q⟩ := hy
    exact ⟨i, by omega, e, q⟩
theorem anc_neg {k : List TkK} (n : Nat) {s : Int} (h : s < 0) : ancK k n s = [] := by
  cases n with
  | zero => rfl
  | succ n => exact ancK_no (by simp [tU]; omega)
theorem tks_one {w : World} {g : Nat} {t : Tk} (k : Blk w g 52 t.cells.toArray) (h : Byt w t.a t.sec) : Tks w (some ⟨g, 0, none⟩) [t] :=
  ⟨.inr ⟨g, 0, rfl, k.lt, fun i hi => by
    rw [Nat.zero_add, k.cell]
    simp [tkCells]⟩, by simpa using h⟩
structure DeadI (k : List TkK) (now : Int) (i : Nat) (us : Bool) (n : Nat) (kk : Int) (dead : Bool) (pre : List Int) : Prop where
  anc : us = true → ancK k 9 i = pre ++ ancK k (9 - n) kk
  dead : dead = pre.any fun a => expB (gK k a).un now
  no : us = false → pre = [] ∧ n = 0 ∧ kk = i
  par : us = true → kk < 0 ∨ tU k kk = true
set_option maxHeartbeats 8000000 in
theorem tokenExpires_walk (a0 : Option Addr) (c0 : Nat) (l0 : List Int) (w1v : Int) (w : World) (h0 : Ints w a0 l0) (n0 : l0.length ≤ 9223372036854775807) :
    Calls Try.prog 5 #[.slice a0 l0.length c0, .int .i64 w1v] w fun e w' => e = .returned (.bool true) ∧ RowKit.Below w.heap.size w w' := by
  obtain ⟨now, En, now0, now1⟩ := modName w1v 40 (by decide)
  have HR63 : ∀ r : Int, r = 63 ∨ r = 47 ∨ r = 7 → rV r = true := fun r h => by rcases h with rfl | rfl | rfl <;> decide
  have HRV := Lib.hid HR63
  have HS8 : Hid (8 = (secX 1000).length) := Lib.hid rfl
  clear HR63
  go_enter Try.func5, Try.ntmps5
  go_upto_region 2 with (first | (go_at_call 12; (with_reducible refine (mk_New a0 c0 l0 _ h0 n0).mono ?_); rintro e w1 ⟨rfl, hd1, hb1⟩) | (go_at_call 14; (with_reducible refine (law_agency 0 _).mono ?_); rintro e w2 ⟨sa, sc, rt, cl, rfl, hrt, cl0, cl1, own2, hb2⟩; ((have hd2 := hd1.below hb2); (have hrv := HRV.out rt hrt))) | (go_at_call 13; (with_reducible refine (deck_Tokens _ ⟨a0, c0, l0⟩ 0 sa (secX 1000) 8 sc rt cl none 0 0 0 0 0 0 _ hd2 own2.byt HS8.out rfl hrv cl0 cl1).mono ?_); rintro e w3 ⟨kd, l, xa, xc, rfl, hn, hV, il, -, g3⟩))
  have be3 : RowKit.Below w.heap.size w w3 := deck_open (by repeat (first | (with_reducible refine Below.setCell ?_ ?_ _) | (with_reducible refine Below.alloc ?_ ?_ _) | (with_reducible refine Below.drew ?_) | (with_reducible refine below_drewN ?_ _) | (with_reducible exact Below.refl _ _) | (with_reducible refine Below.trans ?_ (Below.mono hb2 ?_)) | (with_reducible refine Below.trans ?_ (Below.mono hb1 ?_)) | (focus (simp; done)) | (focus (simp; omega)) | (focus omega) | (focus (have q0 := Below.size hb2; (try simp at q0); have q1 := Below.size hb1; (try simp at q1); (try simp); omega)))) g3
  have G := il.g hV
  have HL8 : Hid (l.length = 8) := Lib.hid hn.out.symm
  clear hb1 hb2 g3 il own2 hd1 hd2 hrt hrv cl0 cl1 h0 HRV HS8
  go_upto_region 3 with ((go_at_call 17; (with_reducible refine (mk_ModE En.out _ (by decide) (by decide)).mono ?_); rintro e wz ⟨rfl, rfl⟩))
  go_upto_region 4 with ((go_at_call 23; (with_reducible refine (token_Expire xa l 8 xc now _ G hn.out HL8.out).mono ?_); rintro e w4 ⟨ya, yc, l2, rfl, hk2, hn2, il2, hb4⟩))
  have be4 : RowKit.Below w.heap.size w w4 := (by repeat (first | (with_reducible refine Below.setCell ?_ ?_ _) | (with_reducible refine Below.alloc ?_ ?_ _) | (with_reducible refine Below.drew ?_) | (with_reducible refine below_drewN ?_ _) | (with_reducible exact Below.refl _ _) | (with_reducible refine Below.trans ?_ (Below.mono hb4 ?_)) | (with_reducible refine Below.trans ?_ (Below.mono be3 ?_)) | (focus (simp; done)) | (focus (simp; omega)) | (focus omega) | (focus (have q0 := Below.size hb4; (try simp at q0); have q1 := Below.size be3; (try simp at q1); (try simp); omega))))
  have V2 : Hid (valK (l2.map Tk.key) = true) := Lib.hid (by rw [hk2.out]; exact exp_val now hV.out)
  have G4 := G.below hb4
  have T2 := il2.tks
  have HL2 : Hid (l2.length = 8) := Lib.hid hn2.out.symm
  have HSL2 : Hid (∀ t ∈ l2, t.sec.length ≤ 8) := Lib.hid (fun t ht => val_sec V2.out t.key (List.mem_map_of_mem ht))
  clear hb4 be3 G il2
  go_upto_region 7 with ((go_at_call 29; (with_reducible refine (token_ValidE V2 ya 8 yc _ T2 hn2.out).mono ?_); rintro e w5 ⟨rfl, hb5⟩))
  have be5 : RowKit.Below w.heap.size w w5 := (by repeat (first | (with_reducible refine Below.setCell ?_ ?_ _) | (with_reducible refine Below.alloc ?_ ?_ _) | (with_reducible refine Below.drew ?_) | (with_reducible refine below_drewN ?_ _) | (with_reducible exact Below.refl _ _) | (with_reducible refine Below.trans ?_ (Below.mono hb5 ?_)) | (with_reducible refine Below.trans ?_ (Below.mono be4 ?_)) | (focus (simp; done)) | (focus (simp; omega)) | (focus omega) | (focus (have q0 := Below.size hb5; (try simp at q0); have q1 := Below.size be4; (try simp at q1); (try simp); omega))))
  have G5 := G4.below hb5
  have T25 := T2.below hb5 (Nat.le_refl _)
  clear hb5 be4 G4 T2
  go_wp2_with fail
  go_loopw [33] (fun s33 wr => ∃ i : Nat, s33 = .int .i64 i ∧ i ≤ 8 ∧ RowKit.Below w5.heap.size w5 wr) (fun s _ => 8 - (intOf s).toNat)
  case atStart => exact ⟨0, rfl, by omega, (by repeat (first | (with_reducible refine Below.setCell ?_ ?_ _) | (with_reducible refine Below.alloc ?_ ?_ _) | (with_reducible refine Below.drew ?_) | (with_reducible refine below_drewN ?_ _) | (with_reducible exact Below.refl _ _) | (focus (simp; done)) | (focus (simp; omega)) | (focus omega)))⟩
  case round =>
    obtain ⟨i, rfl, hi, be⟩ := hrel
    by_cases hlt : i < 8
    · have hil : i < l.length := by rw [HL8.out]; exact hlt
      have hil2 : i < l2.length := by rw [HL2.out]; exact hlt
      have i8 : (i : Int) < 8 := by omega
      have Gr := G5.below be
      have T2r := T25.below be (Nat.le_refl _)
      have ht := Gr.tks
      obtain ⟨ba, oa, rfl⟩ := ht.open (by omega)
      obtain ⟨bb, ob, rfl⟩ := T2r.open (by omega)
      obtain ⟨x0, x1, x2, x3, x4, x5, xl⟩ := row_tok ht.row i hil
      have hg := ht.sec _ (List.getElem_mem hil)
      have hsl := (Gr.sec _ (List.getElem_mem hil)).2
      have HK1 : Hid (tU (l.map Tk.key) i = l[i].us) := Lib.hid (tU_at hil)
      have HK2 : Hid (l2[i].key = if expF (l.map Tk.key) now i = true then freeK else l[i].key) := Lib.hid (by
        have h1 : (l2.map Tk.key)[i]'(by simpa using hil2) = l2[i].key := by simp
        have h2 := free_get (k := l.map Tk.key) (f := expF (l.map Tk.key) now) (i := i) (by rw [free_len]; simpa using hil)
        rw [← h1]
        have h3 : (l2.map Tk.key)[i]'(by simpa using hil2) = (freeM (l.map Tk.key) (expF (l.map Tk.key) now))[i]'(by rw [free_len]; simpa using hil) := by
          simp only [hk2.out]
        rw [h3, h2]
        simp only [List.getElem_map])
      obtain ⟨x, hx⟩ : ∃ x, l[i] = x := ⟨_, rfl⟩
      have HX := Lib.hid hx
      rw [hx] at x0 x1 x2 x3 x4 x5 hg hsl HK1 HK2
      clear hx
      obtain ⟨us, sec, par, rt, cl, un, la, lc⟩ := x
      simp only at x0 x1 x2 x3 x4 x5 hg hsl HK1
      go_upto_region 9 with fail
      obtain ⟨X, hX⟩ : ∃ X, wr.heap.size = X := ⟨_, rfl⟩
      refine wp_named (fun Y => Blk Y X 52 #[.bool us, .slice la sec.length lc, .int .i64 par, .int .i64 rt, .int .i64 cl, .int .i64 un] ∧ Byt Y la sec ∧ Tks Y (some ⟨ba, oa, none⟩) l ∧ Tks Y (some ⟨bb, ob, none⟩) l2 ∧ RowKit.Below w5.heap.size w5 Y) ⟨by rw [← hX]; exact Blk.new _ _ _, Row.alloc hg _, ht.alloc _, T2r.alloc _, (by repeat (first | (with_reducible refine Below.setCell ?_ ?_ _) | (with_reducible refine Below.alloc ?_ ?_ _) | (with_reducible refine Below.drew ?_) | (with_reducible refine below_drewN ?_ _) | (with_reducible exact Below.refl _ _) | (with_reducible refine Below.trans ?_ (Below.mono be ?_)) | (focus (simp; done)) | (focus (simp; omega)) | (focus omega) | (focus (have q0 := Below.size be; (try simp at q0); (try simp); omega))))⟩ ?_
      rw [hX]
      clear hX x0 x1 x2 x3 x4 x5 xl be hg ht T2r Gr
      rintro Y ⟨kX, hg, ht, T2r, be⟩
      obtain ⟨v0, v1, v2, v3, v4, v5, vf, vl⟩ := kX.six
      obtain ⟨D, hD⟩ : ∃ D, (us && expF (l.map Tk.key) now i) = D := ⟨_, rfl⟩
      have HD := Lib.hid hD
      clear hD
      go_upto_block 2 with fail
      go_cut [9] (fun s9 wx => s9 = .bool D ∧ Y = wx)
      case first =>
        go_wp2_with fail
        go_loopw [9, 10, 11] (fun s9 s10 s11 wr => ∃ (n : Nat) (kk : Int) (dead : Bool) (pre : List Int), s9 = .bool dead ∧ s10 = .int .i64 kk ∧ s11 = .int .i64 n ∧ n ≤ 9 ∧ DeadI (l.map Tk.key) now i us n kk dead pre ∧ Y = wr) (fun _ _ s _ => 9 - (intOf s).toNat)
        case atStart => exact ⟨0, i, false, [], rfl, rfl, rfl, by omega, ⟨fun _ => by simp, rfl, fun _ => ⟨rfl, rfl, rfl⟩, fun h => .inr (by rw [HK1.out, h])⟩, rfl⟩
        case round =>
          obtain ⟨n, kk, dead, pre, rfl, rfl, rfl, hn9, hDI, rfl⟩ := hrel
          have HI := Lib.hid hDI
          clear hDI
          cases us with
          | false =>
            obtain ⟨rfl, rfl, rfl⟩ := HI.out.no rfl
            obtain rfl : dead = false := HI.out.dead
            obtain rfl : D = false := by rw [← HD.out]; rfl
            go_wp2_with fail
            go_meet
            exact ⟨rfl, rfl⟩
          | true =>
            have HDX : Hid (ancK (l.map Tk.key) (9 - n) kk = [] → dead = D) := Lib.hid (fun h => by
              rw [HI.out.dead, ← HD.out, Bool.true_and, ← any_more (by rw [List.length_map]; exact HL8.out), HI.out.anc rfl, h, List.append_nil])
            by_cases hn : n < 9
            · by_cases hk0 : kk < 0
              · obtain rfl : dead = D := HDX.out (anc_neg _ hk0)
                have hn9' : (n : Int) < 9 := by omega
                go_wp2_with fail
                go_meet
                exact ⟨rfl, rfl⟩
              · have hu : tU (l.map Tk.key) kk = true := (HI.out.par rfl).resolve_left hk0
                obtain ⟨j, rfl, hj⟩ := tU_in hu
                have j8 : (j : Int) < 8 := by rw [HL8.out] at hj; omega
                have hn9' : (n : Int) < 9 := by omega
                have HANC : Hid (ancK (l.map Tk.key) 9 i = (pre ++ [(j : Int)]) ++ ancK (l.map Tk.key) (9 - (n + 1)) l[j].par) := Lib.hid (by
                  rw [HI.out.anc rfl, show 9 - n = (9 - (n + 1)) + 1 by omega, ancK_yes hu, tP_at hj]
                  simp)
                have HPAR : Hid (l[j].par < 0 ∨ tU (l.map Tk.key) l[j].par = true) := Lib.hid (by
                  have := val_par hV.out hu
                  rw [tP_at hj] at this
                  rcases this with ⟨-, h⟩ | ⟨-, h⟩
                  · exact .inl (by omega)
                  · exact .inr h)
                have HDE : Hid ((pre ++ [(j : Int)]).any (fun a => expB (gK (l.map Tk.key) a).un now) = (dead || expB l[j].un now)) := Lib.hid (by
                  rw [List.any_append, ← HI.out.dead]
                  simp [gK_at hj, Tk.key])
                obtain ⟨y0, y1, y2, y3, y4, y5, yl⟩ := row_tok ht.row j hj
                obtain ⟨pj, hpj⟩ : ∃ p, l[j].par = p := ⟨_, rfl⟩
                obtain ⟨uj, huj⟩ : ∃ u, l[j].un = u := ⟨_, rfl⟩
                rw [hpj] at HANC HPAR y2
                rw [huj] at HDE y5
                clear hpj huj hu y0 y1 y3 y4
                have FIN : ∀ d : Bool, (dead || expB uj now) = d → DeadI (l.map Tk.key) now i true (n + 1) pj d (pre ++ [(j : Int)]) := fun d hd =>
                  ⟨fun _ => HANC.out, by rw [HDE.out, hd], fun h => (by cases h), fun _ => HPAR.out⟩
                have HFIN := Lib.hid FIN
                clear FIN HDX
                cases dead with
                | true =>
                  go_wp2_with fail
                  go_roundw
                  case rel => exact ⟨n + 1, pj, true, _, rfl, rfl, by go_num, by omega, HFIN.out true rfl, (by first | rfl | trivial)⟩
                  case measure => simp [intOf]; omega
                | false =>
                  by_cases hz : uj = 0
                  · subst hz
                    go_wp2_with fail
                    go_roundw
                    case rel => exact ⟨n + 1, pj, false, _, rfl, rfl, by go_num, by omega, HFIN.out false (by simp [expB]), (by first | rfl | trivial)⟩
                    case measure => simp [intOf]; omega
                  · have hz2 : (uj == 0) = false := by rw [beq_eq_false_iff_ne]; exact hz
                    have hz3 : (uj != 0) = true := by rw [bne, hz2]; rfl
                    by_cases hun : uj < now
                    · have hd : decide (uj < now) = true := decide_eq_true hun
                      go_wp2_with fail
                      go_roundw
                      case rel => exact ⟨n + 1, pj, true, _, rfl, rfl, by go_num, by omega, HFIN.out true (by simp [expB, hz, hun]), (by first | rfl | trivial)⟩
                      case measure => simp [intOf]; omega
                    · have hd : decide (uj < now) = false := decide_eq_false hun
                      go_wp2_with fail
                      go_roundw
                      case rel => exact ⟨n + 1, pj, false, _, rfl, rfl, by go_num, by omega, HFIN.out false (by simp [expB, hun]), (by first | rfl | trivial)⟩
                      case measure => simp [intOf]; omega
            · obtain rfl : n = 9 := by omega
              obtain rfl : dead = D := HDX.out rfl
              go_wp2_with fail
              go_meet
              exact ⟨rfl, rfl⟩
      case rest =>
        obtain ⟨rfl, rfl⟩ := hcut
        obtain ⟨z0, z1, z2, z3, z4, z5, zl⟩ := row_tok T2r.row i hil2
        have hg2 := T2r.sec _ (List.getElem_mem hil2)
        obtain ⟨y, hy⟩ : ∃ y, l2[i] = y := ⟨_, rfl⟩
        rw [hy] at z0 z1 z2 z3 z4 z5 hg2 HK2
        clear hy
        obtain ⟨us2, sec2, par2, rt2, cl2, un2, la2, lc2⟩ := y
        simp only at z0 z1 z2 z3 z4 z5 hg2
        have rX : ∀ d os o, (grow (redrawn Y d) os).cell? ⟨X, o, none⟩ = Y.cell? ⟨X, o, none⟩ := fun d os o => cells_regrown Y d os X o vl
        have rB : ∀ d os o, (grow (redrawn Y d) os).cell? ⟨bb, o, none⟩ = Y.cell? ⟨bb, o, none⟩ := fun d os o => cells_regrown Y d os bb o zl
        go_upto_region 16 with fail
        cases D with
        | true =>
          have hus : us = true ∧ expF (l.map Tk.key) now i = true := by simpa using HD.out
          obtain ⟨rfl, he⟩ := hus
          obtain rfl : us2 = false := by
            have := HK2.out
            rw [if_pos he] at this
            exact congrArg TkK.us this
          (refine wp_region_quiet_below (by kernel_rfl) (by kernel_rfl) ?_; (repeat (go_big_quiet_step (fail))); refine wpQuiet_nil ?_; intro wq hwq; have hbq := below_of_regrown hwq; clear hwq)
          go_wp2_with fail
          go_roundw
          case rel => exact ⟨i + 1, by go_num, by omega, (by repeat (first | (with_reducible refine Below.setCell ?_ ?_ _) | (with_reducible refine Below.alloc ?_ ?_ _) | (with_reducible refine Below.drew ?_) | (with_reducible refine below_drewN ?_ _) | (with_reducible exact Below.refl _ _) | (with_reducible refine Below.trans ?_ (Below.mono hbq ?_)) | (with_reducible refine Below.trans ?_ (Below.mono be ?_)) | (focus (simp; done)) | (focus (simp; omega)) | (focus omega) | (focus (have q0 := Below.size hbq; (try simp at q0); have q1 := Below.size be; (try simp at q1); (try simp); omega))))⟩
          case measure => simp [intOf]; omega
        | false =>
          cases us with
          | false =>
            obtain rfl : us2 = false := by
              have := HK2.out
              split at this
              · exact congrArg TkK.us this
              · exact congrArg TkK.us this
            (refine wp_region_quiet_below (by kernel_rfl) (by kernel_rfl) ?_; (repeat (go_big_quiet_step (fail))); refine wpQuiet_nil ?_; intro wq hwq; have hbq := below_of_regrown hwq; clear hwq)
            go_wp2_with fail
            go_roundw
            case rel => exact ⟨i + 1, by go_num, by omega, (by repeat (first | (with_reducible refine Below.setCell ?_ ?_ _) | (with_reducible refine Below.alloc ?_ ?_ _) | (with_reducible refine Below.drew ?_) | (with_reducible refine below_drewN ?_ _) | (with_reducible exact Below.refl _ _) | (with_reducible refine Below.trans ?_ (Below.mono hbq ?_)) | (with_reducible refine Below.trans ?_ (Below.mono be ?_)) | (focus (simp; done)) | (focus (simp; omega)) | (focus omega) | (focus (have q0 := Below.size hbq; (try simp at q0); have q1 := Below.size be; (try simp at q1); (try simp); omega))))⟩
            case measure => simp [intOf]; omega
          | true =>
            have he : expF (l.map Tk.key) now i = false := by simpa using HD.out
            have hkey := HK2.out
            rw [if_neg (by rw [he]; decide)] at hkey
            simp only [Tk.key] at hkey
            injection hkey with e1 e2 e3 e4 e5 e6
            subst e1 e2 e3 e4 e5 e6
            clear he rX rB HK2 HD
            apply wp_region_tab [] 30 106 [some 74, some 75, some 76, some 77, some 78, some 79, some 80, some 81, some 82, some 83, some 84, some 85, some 86, some 87, some 88, some 89, some 90, some 91, some 92, some 93, some 94, some 95, some 96, some 97, some 98, some 99, some 100, some 101, some 102, some 103] [⟨[], [], [], []⟩, ⟨[], [], [], []⟩, ⟨[0, 1], [0, 1], [0, 1], []⟩, ⟨[0, 1, 2], [2], [2], []⟩, ⟨[0, 1, 2, 3], [3], [3], []⟩, ⟨[], [], [], []⟩, ⟨[5], [5], [5], []⟩, ⟨[5, 6], [6], [6], []⟩, ⟨[5, 6, 7], [7], [7], []⟩, ⟨[5, 6, 7, 8], [7, 8], [7, 8], []⟩, ⟨[5, 6, 7, 8, 9], [7, 9], [7, 9], []⟩, ⟨[0, 1, 2, 3, 4, 5, 6, 7, 8, 9, 10], [4, 10], [4, 10], []⟩, ⟨[0, 1, 2, 3, 4, 5, 6, 7, 8, 9, 10, 11], [11], [11], []⟩, ⟨[0, 1, 2, 3, 4, 5, 6, 7, 8, 9, 10, 11, 12], [12], [12], []⟩, ⟨[0, 1, 2, 3, 4, 5, 6, 7, 8, 9, 10, 11, 12], [12], [12], []⟩, ⟨[0, 1, 2, 3, 4, 5, 6, 7, 8, 9, 10, 11, 12, 13, 14], [12, 13, 14], [12, 13, 14], []⟩, ⟨[0, 1, 2, 3, 4, 5, 6, 7, 8, 9, 10, 11, 12, 13, 14, 15], [12, 15], [12, 15], []⟩, ⟨[0, 1, 2, 3, 4, 5, 6, 7, 8, 9, 10, 11, 12, 13, 14, 15, 16], [12, 16], [12, 16], []⟩, ⟨[0, 1, 2, 3, 4, 5, 6, 7, 8, 9, 10, 11, 12, 13, 14, 15, 16, 17], [12, 17], [12, 17], []⟩, ⟨[0, 1, 2, 3, 4, 5, 6, 7, 8, 9, 10, 11, 12, 13, 14, 15, 16, 17, 18], [18], [18], []⟩, ⟨[0, 1, 2, 3, 4, 5, 6, 7, 8, 9, 10, 11, 12, 13, 14, 15, 16, 17, 18], [18], [18], []⟩, ⟨[0, 1, 2, 3, 4, 5, 6, 7, 8, 9, 10, 11, 12, 13, 14, 15, 16, 17, 18, 19, 20], [18, 19, 20], [18, 19, 20], []⟩, ⟨[0, 1, 2, 3, 4, 5, 6, 7, 8, 9, 10, 11, 12, 13, 14, 15, 16, 17, 18, 19, 20, 21], [18, 21], [18, 21], []⟩, ⟨[0, 1, 2, 3, 4, 5, 6, 7, 8, 9, 10, 11, 12, 13, 14, 15, 16, 17, 18, 19, 20, 21, 22], [18, 22], [18, 22], []⟩, ⟨[0, 1, 2, 3, 4, 5, 6, 7, 8, 9, 10, 11, 12, 13, 14, 15, 16, 17, 18], [18], [18], []⟩, ⟨[0, 1, 2, 3, 4, 5, 6, 7, 8, 9, 10, 11, 12, 13, 14, 15, 16, 17, 18, 24], [18, 24], [18, 24], []⟩, ⟨[0, 1, 2, 3, 4, 5, 6, 7, 8, 9, 10, 11, 12, 13, 14, 15, 16, 17, 18, 19, 20, 21, 22, 23, 24, 25], [18, 23, 25], [18, 23, 25], []⟩, ⟨[0, 1, 2, 3, 4, 5, 6, 7, 8, 9, 10, 11, 12, 13, 14, 15, 16, 17, 18, 19, 20, 21, 22, 23, 24, 25, 26], [18, 26], [18, 26], []⟩, ⟨[0, 1, 2, 3, 4, 5, 6, 7, 8, 9, 10, 11, 12, 13, 14, 15, 16, 17, 18, 19, 20, 21, 22, 23, 24, 25, 26, 27], [12, 18, 27], [12, 18, 27], []⟩, ⟨[0, 1, 2, 3, 4, 5, 6, 7, 8, 9, 10, 11, 12, 13, 14, 15, 16, 17, 18, 19, 20, 21, 22, 23, 24, 25, 26, 27, 28], [12, 28], [12, 28], []⟩] [0, 1, 2, 3, 4, 5, 6, 7, 8, 9, 10, 11, 12, 13, 14, 15, 16, 17, 18, 19, 20, 21, 22, 23, 24, 25, 26, 27, 28, 29] [29] [psiTrue, psiTrue, psiTrue, psiTrue, psiTrue, psiTrue, psiTrue, psiTrue, psiTrue, psiTrue, psiTrue, psiTrue, psiTrue, psiTrue, psiTrue, psiTrue, psiTrue, psiTrue, psiTrue, psiTrue, psiTrue, psiTrue, psiTrue, (fun f lo hi v b0 b1 W => ∃ g : Nat, v = .slice (some ⟨g, 0, none⟩) 1 1 ∧ b0 ≤ g ∧ g < b1 ∧ Blk W g 52 #[.bool true, .slice la2 sec2.length lc2, .int .i64 par2, .int .i64 rt2, .int .i64 cl2, .int .i64 un2]), psiTrue, (fun f lo hi v b0 b1 W => ∃ g : Nat, v = .slice (some ⟨g, 0, none⟩) 1 1 ∧ b0 ≤ g ∧ g < b1 ∧ Blk W g 52 #[.bool true, .slice la sec2.length lc, .int .i64 par2, .int .i64 rt2, .int .i64 cl2, .int .i64 un2]), psiTrue, psiTrue, psiTrue, psiTrue] [kVal _, kVal _, kVal _, kVal _, kVal _, kVal _, kVal _, kVal _, kVal _, kVal _, kVal _, kVal _, kVal _, kVal _, kVal _, kVal _, kVal _, kVal _, kVal _, kVal _, kVal _, kVal _, kVal _, kTrue, kVal _, kTrue, (fun v => v = .bool true), (fun v => v = .bool false), (fun v => v = .bool false), (fun v => v = .bool false)]
            · kernel_rfl
            · kernel_rfl
            · rfl
            · rfl
            · exact trivial
            · exact trivial
            refine ⟨?oR1_0, ?oR1_1, ?oR1_2, ?oR1_3, ?oR1_4, ?oR1_5, ?oR1_6, ?oR1_7, ?oR1_8, ?oR1_9, ?oR1_10, ?oR1_11, ?oR1_12, ?oR1_13, ?oR1_14, ?oR1_15, ?oR1_16, ?oR1_17, ?oR1_18, ?oR1_19, ?oR1_20, ?oR1_21, ?oR1_22, ?oR1_23, ?oR1_24, ?oR1_25, ?oR1_26, ?oR1_27, ?oR1_28, ?oR1_29, trivial⟩
            case oR1_0 => intro f lo hi w hb hx hf hk hrg R hR; (try replace hb := BelX.zero hb); (try simp (decide := true) only [go_sem] at hf); (try simp (decide := true) only [go_sem] at hk); go_simp; exact hR _ _ (rpost_val rfl rfl (Below.refl _ _) rfl)
            case oR1_1 => intro f lo hi w hb hx hf hk hrg R hR; (try replace hb := BelX.zero hb); (try simp (decide := true) only [go_sem] at hf); (try simp (decide := true) only [go_sem] at hk); go_simp; exact hR _ _ (rpost_val rfl rfl (Below.refl _ _) rfl)
            case oR1_2 => intro f lo hi w hb hx hf hk hrg R hR; (try replace hb := BelX.zero hb); (try simp (decide := true) only [go_sem] at hf); (try simp (decide := true) only [go_sem] at hk); go_simp; exact hR _ _ (rpost_val rfl rfl (Below.refl _ _) rfl)
            case oR1_3 => intro f lo hi w hb hx hf hk hrg R hR; (try replace hb := BelX.zero hb); (try simp (decide := true) only [go_sem] at hf); (try simp (decide := true) only [go_sem] at hk); go_simp; exact hR _ _ (rpost_val rfl rfl (Below.refl _ _) rfl)
            case oR1_4 => intro f lo hi w hb hx hf hk hrg R hR; (try replace hb := BelX.zero hb); (try simp (decide := true) only [go_sem] at hf); (try simp (decide := true) only [go_sem] at hk); obtain ⟨bc, bf, bs⟩ := bcell hb; have zl' := Nat.lt_of_lt_of_le zl bs; have vl' := Nat.lt_of_lt_of_le vl bs; go_simp; exact hR _ _ (rpost_val rfl rfl (Below.refl _ _) rfl)
            case oR1_5 => intro f lo hi w hb hx hf hk hrg R hR; (try replace hb := BelX.zero hb); (try simp (decide := true) only [go_sem] at hf); (try simp (decide := true) only [go_sem] at hk); go_simp; exact hR _ _ (rpost_val rfl rfl (Below.refl _ _) rfl)
            case oR1_6 => intro f lo hi w hb hx hf hk hrg R hR; (try replace hb := BelX.zero hb); (try simp (decide := true) only [go_sem] at hf); (try simp (decide := true) only [go_sem] at hk); obtain ⟨bc, bf, bs⟩ := bcell hb; have zl' := Nat.lt_of_lt_of_le zl bs; have vl' := Nat.lt_of_lt_of_le vl bs; go_simp; exact hR _ _ (rpost_val rfl rfl (Below.refl _ _) rfl)
            case oR1_7 => intro f lo hi w hb hx hf hk hrg R hR; (try replace hb := BelX.zero hb); (try simp (decide := true) only [go_sem] at hf); (try simp (decide := true) only [go_sem] at hk); go_simp; exact hR _ _ (rpost_val rfl rfl (Below.refl _ _) rfl)
            case oR1_8 => intro f lo hi w hb hx hf hk hrg R hR; (try replace hb := BelX.zero hb); (try simp (decide := true) only [go_sem] at hf); (try simp (decide := true) only [go_sem] at hk); go_simp; exact hR _ _ (rpost_val rfl rfl (Below.refl _ _) rfl)
            case oR1_9 => intro f lo hi w hb hx hf hk hrg R hR; (try replace hb := BelX.zero hb); (try simp (decide := true) only [go_sem] at hf); (try simp (decide := true) only [go_sem] at hk); go_simp; exact hR _ _ (rpost_val rfl rfl (Below.refl _ _) rfl)
            case oR1_10 => intro f lo hi w hb hx hf hk hrg R hR; (try replace hb := BelX.zero hb); (try simp (decide := true) only [go_sem] at hf); (try simp (decide := true) only [go_sem] at hk); go_simp; exact hR _ _ (rpost_val rfl rfl (Below.refl _ _) rfl)
            case oR1_11 => intro f lo hi w hb hx hf hk hrg R hR; (try replace hb := BelX.zero hb); (try simp (decide := true) only [go_sem] at hf); (try simp (decide := true) only [go_sem] at hk); go_simp; exact hR _ _ (rpost_val rfl rfl (Below.refl _ _) rfl)
            case oR1_12 => intro f lo hi w hb hx hf hk hrg R hR; (try replace hb := BelX.zero hb); (try simp (decide := true) only [go_sem] at hf); (try simp (decide := true) only [go_sem] at hk); go_simp; exact hR _ _ (rpost_val rfl rfl (Below.refl _ _) rfl)
            case oR1_13 => intro f lo hi w hb hx hf hk hrg R hR; (try replace hb := BelX.zero hb); (try simp (decide := true) only [go_sem] at hf); (try simp (decide := true) only [go_sem] at hk); go_simp; exact hR _ _ (rpost_val rfl rfl (Below.refl _ _) rfl)
            case oR1_14 => intro f lo hi w hb hx hf hk hrg R hR; (try replace hb := BelX.zero hb); (try simp (decide := true) only [go_sem] at hf); (try simp (decide := true) only [go_sem] at hk); go_simp; exact hR _ _ (rpost_val rfl rfl (Below.refl _ _) rfl)
            case oR1_15 => intro f lo hi w hb hx hf hk hrg R hR; (try replace hb := BelX.zero hb); (try simp (decide := true) only [go_sem] at hf); (try simp (decide := true) only [go_sem] at hk); go_simp; exact hR _ _ (rpost_val rfl rfl (Below.refl _ _) rfl)
            case oR1_16 => intro f lo hi w hb hx hf hk hrg R hR; (try replace hb := BelX.zero hb); (try simp (decide := true) only [go_sem] at hf); (try simp (decide := true) only [go_sem] at hk); go_simp; exact hR _ _ (rpost_val rfl rfl (Below.refl _ _) rfl)
            case oR1_17 => intro f lo hi w hb hx hf hk hrg R hR; (try replace hb := BelX.zero hb); (try simp (decide := true) only [go_sem] at hf); (try simp (decide := true) only [go_sem] at hk); obtain ⟨bc, bf, bs⟩ := bcell hb; have zl' := Nat.lt_of_lt_of_le zl bs; have vl' := Nat.lt_of_lt_of_le vl bs; go_simp; exact hR _ _ (rpost_val rfl rfl (Below.refl _ _) rfl)
            case oR1_18 => intro f lo hi w hb hx hf hk hrg R hR; (try replace hb := BelX.zero hb); (try simp (decide := true) only [go_sem] at hf); (try simp (decide := true) only [go_sem] at hk); go_simp; exact hR _ _ (rpost_val rfl rfl (Below.refl _ _) rfl)
            case oR1_19 => intro f lo hi w hb hx hf hk hrg R hR; (try replace hb := BelX.zero hb); (try simp (decide := true) only [go_sem] at hf); (try simp (decide := true) only [go_sem] at hk); go_simp; exact hR _ _ (rpost_val rfl rfl (Below.refl _ _) rfl)
            case oR1_20 => intro f lo hi w hb hx hf hk hrg R hR; (try replace hb := BelX.zero hb); (try simp (decide := true) only [go_sem] at hf); (try simp (decide := true) only [go_sem] at hk); go_simp; exact hR _ _ (rpost_val rfl rfl (Below.refl _ _) rfl)
            case oR1_21 => intro f lo hi w hb hx hf hk hrg R hR; (try replace hb := BelX.zero hb); (try simp (decide := true) only [go_sem] at hf); (try simp (decide := true) only [go_sem] at hk); go_simp; exact hR _ _ (rpost_val rfl rfl (Below.refl _ _) rfl)
            case oR1_22 => intro f lo hi w hb hx hf hk hrg R hR; (try replace hb := BelX.zero hb); (try simp (decide := true) only [go_sem] at hf); (try simp (decide := true) only [go_sem] at hk); obtain ⟨bc, bf, bs⟩ := bcell hb; have zl' := Nat.lt_of_lt_of_le zl bs; have vl' := Nat.lt_of_lt_of_le vl bs; go_simp; exact hR _ _ (rpost_val rfl rfl (Below.refl _ _) rfl)
            case oR1_23 =>
              intro f lo hi w hb hx hf hk hrg R hR; (try replace hb := BelX.zero hb); (try simp (decide := true) only [go_sem] at hf); (try simp (decide := true) only [go_sem] at hk)
              go_simp
              refine hR _ _ (rpost_none rfl (by repeat (first | (with_reducible refine Below.setCell ?_ ?_ _) | (with_reducible refine Below.alloc ?_ ?_ _) | (with_reducible refine Below.drew ?_) | (with_reducible refine below_drewN ?_ _) | (with_reducible exact Below.refl _ _) | (focus (simp; done)) | (focus (simp; omega)) | (focus omega))) ?_)
              (try simp (decide := true) only [go_sem])
              exact ⟨_, rfl, Nat.le_refl _, by simp, Blk.new _ _ _⟩
            case oR1_24 => intro f lo hi w hb hx hf hk hrg R hR; (try replace hb := BelX.zero hb); (try simp (decide := true) only [go_sem] at hf); (try simp (decide := true) only [go_sem] at hk); obtain ⟨bc, bf, bs⟩ := bcell hb; have zl' := Nat.lt_of_lt_of_le zl bs; have vl' := Nat.lt_of_lt_of_le vl bs; go_simp; exact hR _ _ (rpost_val rfl rfl (Below.refl _ _) rfl)
            case oR1_25 =>
              intro f lo hi w hb hx hf hk hrg R hR; (try replace hb := BelX.zero hb); (try simp (decide := true) only [go_sem] at hf); (try simp (decide := true) only [go_sem] at hk)
              go_simp
              refine hR _ _ (rpost_none rfl (by repeat (first | (with_reducible refine Below.setCell ?_ ?_ _) | (with_reducible refine Below.alloc ?_ ?_ _) | (with_reducible refine Below.drew ?_) | (with_reducible refine below_drewN ?_ _) | (with_reducible exact Below.refl _ _) | (focus (simp; done)) | (focus (simp; omega)) | (focus omega))) ?_)
              (try simp (decide := true) only [go_sem])
              exact ⟨_, rfl, Nat.le_refl _, by simp, Blk.new _ _ _⟩
            case oR1_26 =>
              intro f lo hi w hb hx hf hk hrg R hR; (try replace hb := BelX.zero hb); (try simp (decide := true) only [go_sem] at hf); (try simp (decide := true) only [go_sem] at hk)
              obtain ⟨⟨ga, ha, -, -, ka⟩, gb, hb9, -, -, kb⟩ := hf
              have ta : Tks w (some ⟨ga, 0, none⟩) [⟨true, sec2, par2, rt2, cl2, un2, la2, lc2⟩] := tks_one ka (hg2.below hb (Nat.le_refl _))
              have tb : Tks w (some ⟨gb, 0, none⟩) [⟨true, sec2, par2, rt2, cl2, un2, la, lc⟩] := tks_one kb (hg.below hb (Nat.le_refl _))
              go_simp
              (with_reducible refine (ref14_Same _ _ _ _ 1 1 1 1 _ ta tb rfl rfl rfl (by decide)).mono ?_)
              rintro e w' ⟨rfl, hb5⟩
              exact ⟨_, rfl, hR _ _ (rpost_vh rfl rfl hb5)⟩
            case oR1_27 =>
              intro f lo hi w hb hx hf hk hrg R hR; (try replace hb := BelX.zero hb); (try simp (decide := true) only [go_sem] at hf); (try simp (decide := true) only [go_sem] at hk)
              go_simp
              exact hR _ _ (rpost_vh rfl rfl (Below.refl _ _))
            case oR1_28 =>
              intro f lo hi w hb hx hf hk hrg R hR; (try replace hb := BelX.zero hb); (try simp (decide := true) only [go_sem] at hf); (try simp (decide := true) only [go_sem] at hk)
              go_simp
              exact hR _ _ (rpost_vh rfl rfl (Below.refl _ _))
            case oR1_29 =>
              intro f lo hi w hb hx hf hk hrg R hR; (try replace hb := BelX.zero hb); (try simp (decide := true) only [go_sem] at hf); (try simp (decide := true) only [go_sem] at hk)
              go_simp
              exact hR _ _ (rpost_vh rfl rfl (Below.refl _ _))
            case hcl =>
              refine ⟨Closed.true _ _ _ _, Closed.true _ _ _ _, Closed.true _ _ _ _, Closed.true _ _ _ _, Closed.true _ _ _ _, Closed.true _ _ _ _, Closed.true _ _ _ _, Closed.true _ _ _ _, Closed.true _ _ _ _, Closed.true _ _ _ _, Closed.true _ _ _ _, Closed.true _ _ _ _, Closed.true _ _ _ _, Closed.true _ _ _ _, Closed.true _ _ _ _, Closed.true _ _ _ _, Closed.true _ _ _ _, Closed.true _ _ _ _, Closed.true _ _ _ _, Closed.true _ _ _ _, Closed.true _ _ _ _, Closed.true _ _ _ _, Closed.true _ _ _ _, ?cR1_23, Closed.true _ _ _ _, ?cR1_25, Closed.true _ _ _ _, Closed.true _ _ _ _, Closed.true _ _ _ _, Closed.true _ _ _ _, trivial⟩
              all_goals first | (intro f lo hi v b0 b1 w w' h hs hB hown hU hX; obtain ⟨g, h1, h2, h3, h4⟩ := h; exact ⟨g, h1, h2, h3, (hown g h2 h3).trans h4⟩) | (exact fun _ _ _ _ _ _ _ _ h _ _ _ _ _ => h)
            intro f lo hi W7 hbr hx hf hk hrg; (try replace hbr := BelX.zero hbr); clear hx; (try simp (decide := true) only [go_sem] at hf); (try simp (decide := true) only [go_sem] at hk)
            have e29 := hk
            repeat (replace e29 := e29.2)
            replace e29 : f 29 = .bool false := e29
            have be7 : RowKit.Below w5.heap.size w5 W7 := (by repeat (first | (with_reducible refine Below.setCell ?_ ?_ _) | (with_reducible refine Below.alloc ?_ ?_ _) | (with_reducible refine Below.drew ?_) | (with_reducible refine below_drewN ?_ _) | (with_reducible exact Below.refl _ _) | (with_reducible refine Below.trans ?_ (Below.mono hbr ?_)) | (with_reducible refine Below.trans ?_ (Below.mono be ?_)) | (focus (simp; done)) | (focus (simp; omega)) | (focus omega) | (focus (have q0 := Below.size hbr; (try simp at q0); have q1 := Below.size be; (try simp at q1); (try simp); omega))))
            clear hbr hrg hk hf
            go_simp
            clear e29
            go_wp2_with fail
            go_roundw
            case rel => exact ⟨i + 1, by go_num, by omega, be7⟩
            case measure => simp [intOf]; omega
    · obtain rfl : i = 8 := by omega
      go_wp2_with ((go_at_call 11; (with_reducible refine (law_awake _).mono ?_); rintro e w6 ⟨rfl, hb6⟩))
      go_ret
      exact ⟨rfl, (by repeat (first | (with_reducible refine Below.setCell ?_ ?_ _) | (with_reducible refine Below.alloc ?_ ?_ _) | (with_reducible refine Below.drew ?_) | (with_reducible refine below_drewN ?_ _) | (with_reducible exact Below.refl _ _) | (with_reducible refine Below.trans ?_ (Below.mono hb6 ?_)) | (with_reducible refine Below.trans ?_ (Below.mono be ?_)) | (with_reducible refine Below.trans ?_ (Below.mono be5 ?_)) | (focus (simp; done)) | (focus (simp; omega)) | (focus omega) | (focus (have q0 := Below.size hb6; (try simp at q0); have q1 := Below.size be; (try simp at q1); have q2 := Below.size be5; (try simp at q2); (try simp); omega))))⟩
end Go.Proofs.Ytgngmmmdhhjbhaa
