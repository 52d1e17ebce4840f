/- signalbrokerref14.Check -/
import Derived.Test.YtgngmmmdhhjbhaaTkChk
namespace Go.Proofs.Ytgngmmmdhhjbhaa
set_option linter.unusedVariables false
open Go.RowKit Go.Sort
set_option maxRecDepth 100000

theorem boolOf_bool (b : Bool) : boolOf (.bool b) = some b := rfl
attribute [go_sem] boolOf_bool
set_option maxHeartbeats 4000000 in
theorem ref14_Check (a : Option Addr) (l : List Tk) (n c : Nat) (ag : Int) (ba : Option Addr) (b : List UInt8) (N bc : Nat) (kind now : Int) (w : World) (h : Tks w a l) (hn : n = l.length) (hb : Byt w ba b) (hN : N = b.length) (hc : N ≤ bc) (hN9 : N ≤ 1000000) :
    Calls Try.prog 38 #[.slice a n c, .int .i64 ag, .slice ba N bc, .int .i64 kind, .int .i64 now] w (ChkR (chkM (l.map Tk.key) ag b kind now) w) := by
  have HN := Lib.hid hn
  clear hn
  by_cases h10 : b.length = 10
  · obtain rfl : N = 10 := by omega
    clear hN
    obtain ⟨x, y, sec, rfl, h8⟩ := list10 h10
    have H8 := Lib.hid h8
    have H8' : Hid (8 = sec.length) := Lib.hid h8.symm
    clear h10 h8
    have c2 : ¬ bc = 2 := by omega
    obtain ⟨gb, ob, rfl⟩ : ∃ gb ob, ba = some ⟨gb, ob, none⟩ := by
      rcases hb with h0 | ⟨g, o, e, _⟩
      · simp at h0
      · exact ⟨g, o, e⟩
    obtain ⟨b0, b1, hs, bl⟩ := byt_cells2 hb
    clear hb
    have hx := x.toNat_lt
    have hy := y.toNat_lt
    by_cases hag : (x.toNat : Int) = ag
    · subst hag
      by_cases hyn : y.toNat < n
      · have hi : y.toNat < l.length := by rw [← HN.out]; exact hyn
        obtain ⟨aa, oa, rfl⟩ := h.open (by omega)
        obtain ⟨x0, x1, x2, x3, x4, x5, xl⟩ := row_tok h.row y.toNat hi
        have hg := h.sec _ (List.getElem_mem hi)
        have HK : Hid (gK (l.map Tk.key) (y.toNat : Int) = l[y.toNat].key) := Lib.hid (gK_at hi)
        have HU : Hid (tU (l.map Tk.key) (y.toNat : Int) = l[y.toNat].us) := Lib.hid (tU_at hi)
        obtain ⟨t, ht⟩ : ∃ t, l[y.toNat] = t := ⟨_, rfl⟩
        rw [ht] at x0 x1 x2 x3 x4 x5 HK HU hg
        clear ht
        obtain ⟨us, ts, par, rt, cl, un, la, lc⟩ := t
        simp only at x0 x1 x2 x3 x4 x5 hg
        have jx : ((y.toNat : Nat) : Int) < (n : Int) := by omega
        obtain ⟨q1, hq1⟩ : ∃ q, decide (sec = ts) = q := ⟨_, rfl⟩
        obtain ⟨q2, hq2⟩ : ∃ q, expB un now = q := ⟨_, rfl⟩
        obtain ⟨q3, hq3⟩ : ∃ q, rPermits rt kind = q := ⟨_, rfl⟩
        have Q1 := Lib.hid hq1
        have Q2 := Lib.hid hq2
        have Q3 := Lib.hid hq3
        have HF : Hid (chkM (l.map Tk.key) (x.toNat : Int) (x :: y :: sec) kind now = if us = true ∧ q1 = true ∧ q2 = false ∧ q3 = true then ((y.toNat : Int), 0) else (0, 9)) := Lib.hid (by
          have e0 : tU (l.map Tk.key) (y.toNat : Int) = us := HU.out
          have e1 : decide (sec = (gK (l.map Tk.key) (y.toNat : Int)).sec) = q1 := by rw [HK.out]; exact hq1
          have e2 : expB (gK (l.map Tk.key) (y.toNat : Int)).un now = q2 := by rw [HK.out]; exact hq2
          have e3 : rPermits (gK (l.map Tk.key) (y.toNat : Int)).rt kind = q3 := by rw [HK.out]; exact hq3
          cases us with
          | false => rw [chk_us e0]; rfl
          | true =>
            cases q1 with
            | false => rw [chk_sec e1]; rfl
            | true =>
              cases q2 with
              | true => rw [chk_exp e2]; rfl
              | false =>
                cases q3 with
                | false => rw [chk_per e3]; rfl
                | true => rw [chk_ok H8.out rfl e0 e1 e2 e3]; rfl)
        clear hq1 hq2 hq3
        clear HK HU
        obtain ⟨X, hX⟩ : ∃ X, x.toNat = X := ⟨_, rfl⟩
        rw [hX] at b0 hx HF ⊢
        clear hX
        obtain ⟨Y, hY⟩ : ∃ Y, y.toNat = Y := ⟨_, rfl⟩
        rw [hY] at b1 hy HF x0 x1 x2 x3 x4 x5 jx
        clear hY hyn hi
        go_enter Try.func38, Try.ntmps38
        go_upto_region 4 with fail
        obtain ⟨X2, hX2⟩ : ∃ X, w.heap.size = X := ⟨_, rfl⟩
        have be1 : RowKit.Below w.heap.size w (w.alloc (.cells #[.bool us, .slice la ts.length lc, .int .i64 par, .int .i64 rt, .int .i64 cl, .int .i64 un] 52)) := (RowKit.Below.refl _ _).alloc (Nat.le_refl _) _
        refine wp_named (fun U => Blk U X2 52 #[.bool us, .slice la ts.length lc, .int .i64 par, .int .i64 rt, .int .i64 cl, .int .i64 un] ∧ Byt U la ts ∧ Byt U (some ⟨gb, ob + 2, none⟩) sec ∧ U.cell? ⟨gb, ob + 1, none⟩ = some (.int .u8 Y) ∧ gb < U.heap.size ∧ RowKit.Below w.heap.size w U) ⟨by rw [← hX2]; exact Blk.new _ _ _, Row.alloc hg _, Row.alloc hs _, (Below.cell (p := ⟨gb, _, none⟩) be1 bl).trans b1, Nat.lt_of_lt_of_le bl be1.size, be1⟩ ?_
        have HX2 := Lib.hid hX2
        rw [hX2]
        clear hX2 be1 x0 x1 x2 x3 x4 x5 xl hg hs h b0 b1 bl
        rintro U ⟨kX, hg, hs, b1, bl, bu⟩
        obtain ⟨v0, v1, v2, v3, v4, v5, vf, vl⟩ := kX.six
        have rr : ∀ d os o, (grow (redrawn U d) os).cell? ⟨X2, o, none⟩ = U.cell? ⟨X2, o, none⟩ := fun d os o => cells_regrown U d os X2 o vl
        have rb : ∀ d os o, (grow (redrawn U d) os).cell? ⟨gb, o, none⟩ = U.cell? ⟨gb, o, none⟩ := fun d os o => cells_regrown U d os gb o bl
        obtain ⟨S1, hS1⟩ : ∃ S, (⟨ts.toArray⟩ : ByteArray) = S := ⟨_, rfl⟩
        obtain ⟨S2, hS2⟩ : ∃ S, (⟨sec.toArray⟩ : ByteArray) = S := ⟨_, rfl⟩
        have kA : ∀ d os, (convert 24 9 (.slice la ts.length lc)).run Try.prog (grow (redrawn U d) os) = .ok (.string S1) (grow (redrawn U d) os) := fun d os => by
          rw [← hS1]; exact conv_str (hg.below (below_regrown U d os) (Nat.le_refl _)) rfl
        have kB : ∀ d os, (convert 24 9 (.slice (some ⟨gb, ob + 2, none⟩) 8 (bc - 2))).run Try.prog (grow (redrawn U d) os) = .ok (.string S2) (grow (redrawn U d) os) := fun d os => by
          rw [← hS2]; exact conv_str (hs.below (below_regrown U d os) (Nat.le_refl _)) H8'.out
        have hq : (S1.toList == S2.toList) = q1 := by
          rw [← hS1, ← hS2, str_eqB, ← Q1.out]
          exact decide_eq_decide.2 ⟨fun e => e.symm, fun e => e.symm⟩
        have hexp : Hid (expB un now = q2) := Q2
        clear hS1 hS2 hg hs kX vf
        have HEND : ∀ (i er : Int) (W' : World), RowKit.Below U.heap.size U W' → (i, er) = (if us = true ∧ q1 = true ∧ q2 = false ∧ q3 = true then ((Y : Int), 0) else (0, 9)) → ChkR (chkM (l.map Tk.key) (X : Int) (x :: y :: sec) kind now) w (.returned (.tuple #[.int .i64 i, .int .i64 er])) W' := fun i er W' hW he => ⟨_, _, rfl, Lib.hid (by rw [HF.out, he]), by have q := bu.size; rw [HX2.out] at q ⊢; exact bu.trans (hW.mono q)⟩
        have HE := Lib.hid HEND
        clear HEND HF HX2
        by_cases hu0 : un = 0
        · subst hu0
          obtain rfl : q2 = false := by rw [← Q2.out]; rfl
          clear Q2 hexp
          cases us <;> cases q1 <;> cases q3 <;>
            ((refine wp_region_quiet_below (by kernel_rfl) (by kernel_rfl) ?_; (repeat (go_big_quiet_step (first | (go_at_call 61; with_reducible exact qg (ref13_PermitsE Q3 _))))); refine wpQuiet_nil ?_; intro wq hwq; have hbq := below_of_regrown hwq; clear hwq)
             have b1q := (Below.cell (p := ⟨gb, _, none⟩) hbq bl).trans b1
             have blq := Nat.lt_of_lt_of_le bl hbq.size
             go_wp2_with fail
             refine bodyPost_ret (v := .tuple #[.int .i64 _, .int .i64 _]) (by first | (simp [results, Try.results38, go_sem]; done) | (simp [results, Try.results38, go_sem]; rfl) | (simp [results, Try.results38, go_sem]; exact ⟨rfl, rfl⟩)) rfl ?_
             exact HE.out _ _ _ hbq rfl)
        · have hu1 : (un == 0) = false := by rw [beq_eq_false_iff_ne]; exact hu0
          have hu2 : (un != 0) = true := bne_iff_ne.2 hu0
          by_cases hlt : un < now
          · obtain rfl : q2 = true := by rw [← Q2.out]; simp [expB, hu0, hlt]
            clear Q2 hexp
            cases us <;> cases q1 <;> cases q3 <;>
              ((refine wp_region_quiet_below (by kernel_rfl) (by kernel_rfl) ?_; (repeat (go_big_quiet_step (first | (go_at_call 61; with_reducible exact qg (ref13_PermitsE Q3 _))))); refine wpQuiet_nil ?_; intro wq hwq; have hbq := below_of_regrown hwq; clear hwq)
               have b1q := (Below.cell (p := ⟨gb, _, none⟩) hbq bl).trans b1
               have blq := Nat.lt_of_lt_of_le bl hbq.size
               go_wp2_with fail
               refine bodyPost_ret (v := .tuple #[.int .i64 _, .int .i64 _]) (by first | (simp [results, Try.results38, go_sem]; done) | (simp [results, Try.results38, go_sem]; rfl) | (simp [results, Try.results38, go_sem]; exact ⟨rfl, rfl⟩)) rfl ?_
               exact HE.out _ _ _ hbq rfl)
          · obtain rfl : q2 = false := by rw [← Q2.out]; simp [expB, hlt]
            clear Q2 hexp
            cases us <;> cases q1 <;> cases q3 <;>
              ((refine wp_region_quiet_below (by kernel_rfl) (by kernel_rfl) ?_; (repeat (go_big_quiet_step (first | (go_at_call 61; with_reducible exact qg (ref13_PermitsE Q3 _))))); refine wpQuiet_nil ?_; intro wq hwq; have hbq := below_of_regrown hwq; clear hwq)
               have b1q := (Below.cell (p := ⟨gb, _, none⟩) hbq bl).trans b1
               have blq := Nat.lt_of_lt_of_le bl hbq.size
               go_wp2_with fail
               refine bodyPost_ret (v := .tuple #[.int .i64 _, .int .i64 _]) (by first | (simp [results, Try.results38, go_sem]; done) | (simp [results, Try.results38, go_sem]; rfl) | (simp [results, Try.results38, go_sem]; exact ⟨rfl, rfl⟩)) rfl ?_
               exact HE.out _ _ _ hbq rfl)
      · have HF := Lib.hid (chk_us (ag := (x.toNat : Int)) (x := x) (y := y) (sec := sec) (kind := kind) (now := now) (tU_out (l := l) (s := (y.toNat : Int)) (by rw [← HN.out]; omega)))
        have jx : ¬ ((y.toNat : Nat) : Int) < (n : Int) := by omega
        clear hyn
        obtain ⟨X, hX⟩ : ∃ X, x.toNat = X := ⟨_, rfl⟩
        obtain ⟨Y, hY⟩ : ∃ Y, y.toNat = Y := ⟨_, rfl⟩
        rw [hX] at b0 hx HF ⊢
        rw [hY] at b1 hy jx
        clear hX hY
        go_enter Try.func38, Try.ntmps38
        go_wp2_with fail
        refine bodyPost_ret (v := .tuple #[.int .i64 0, .int .i64 9]) (by first | (simp [results, Try.results38, go_sem]; done) | (simp [results, Try.results38, go_sem]; rfl)) rfl ?_
        exact ⟨_, _, rfl, HF, (by repeat (first | (with_reducible refine Below.setCell ?_ ?_ _) | (with_reducible refine Below.alloc ?_ ?_ _) | (with_reducible refine Below.drew ?_) | (with_reducible refine below_drewN ?_ _) | (with_reducible exact Below.refl _ _) | (focus (simp; done)) | (focus (simp; omega)) | (focus omega)))⟩
    · have HF := Lib.hid (chk_ag (k := l.map Tk.key) (y := y) (sec := sec) (kind := kind) (now := now) hag)
      have hag2 : ¬ ((x.toNat : Int) = ag) := hag
      obtain ⟨X, hX⟩ : ∃ X, x.toNat = X := ⟨_, rfl⟩
      rw [hX] at b0 hx hag2
      clear hX hag
      go_enter Try.func38, Try.ntmps38
      go_wp2_with fail
      refine bodyPost_ret (v := .tuple #[.int .i64 0, .int .i64 9]) (by first | (simp [results, Try.results38, go_sem]; done) | (simp [results, Try.results38, go_sem]; rfl)) rfl ?_
      exact ⟨_, _, rfl, HF, (by repeat (first | (with_reducible refine Below.setCell ?_ ?_ _) | (with_reducible refine Below.alloc ?_ ?_ _) | (with_reducible refine Below.drew ?_) | (with_reducible refine below_drewN ?_ _) | (with_reducible exact Below.refl _ _) | (focus (simp; done)) | (focus (simp; omega)) | (focus omega)))⟩
  · have HF := Lib.hid (chk_len (k := l.map Tk.key) (ag := ag) (kind := kind) (now := now) h10)
    have e11 : ¬ ((N : Int) = 10) := by omega
    clear h10 hN
    go_enter Try.func38, Try.ntmps38
    go_wp2_with fail
    refine bodyPost_ret (v := .tuple #[.int .i64 0, .int .i64 9]) (by first | (simp [results, Try.results38, go_sem]; done) | (simp [results, Try.results38, go_sem]; rfl)) rfl ?_
    exact ⟨_, _, rfl, HF, (by repeat (first | (with_reducible refine Below.setCell ?_ ?_ _) | (with_reducible refine Below.alloc ?_ ?_ _) | (with_reducible refine Below.drew ?_) | (with_reducible refine below_drewN ?_ _) | (with_reducible exact Below.refl _ _) | (focus (simp; done)) | (focus (simp; omega)) | (focus omega)))⟩
end Go.Proofs.Ytgngmmmdhhjbhaa
