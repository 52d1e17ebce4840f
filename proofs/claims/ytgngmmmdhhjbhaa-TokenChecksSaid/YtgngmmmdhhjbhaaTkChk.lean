/- bytes.Equal, Bytes (2), Check (2) -/
import Derived.Test.YtgngmmmdhhjbhaaTkRev
import Derived.Test.YtgngmmmdhhjbhaaStr
import Derived.Test.YtgngmmmdhhjbhaaClone
import Derived.Test.YtgngmmmdhhjbhaaApr
import Derived.Test.YtgngmmmdhhjbhaaQuiet
namespace Go.Proofs.Ytgngmmmdhhjbhaa
set_option linter.unusedVariables false
open Go.RowKit Go.Sort
set_option maxRecDepth 100000

theorem str_eqB (l m : List UInt8) : ((ByteArray.mk l.toArray).toList == (ByteArray.mk m.toArray).toList) = decide (l = m) := by
  rw [str_toList, str_toList]
  exact (Bool.eq_iff_iff.2 (by simp))
theorem bytes_EqualE {l m : List UInt8} {r : Bool} (hq : Hid (decide (l = m) = r)) (a b : Option Addr) (n1 c1 n2 c2 : Nat) (w : World) (ha : Byt w a l) (hb : Byt w b m) (h1 : n1 = l.length) (h2 : n2 = m.length) :
    Calls Try.prog 58 #[.slice a n1 c1, .slice b n2 c2] w fun e w' => e = .returned (.bool r) ∧ w = w' := by
  obtain ⟨S1, hS1⟩ : ∃ S, (⟨l.toArray⟩ : ByteArray) = S := ⟨_, rfl⟩
  obtain ⟨S2, hS2⟩ : ∃ S, (⟨m.toArray⟩ : ByteArray) = S := ⟨_, rfl⟩
  have kA : (convert 24 9 (.slice a n1 c1)).run Try.prog w = .ok (.string S1) w := by rw [← hS1]; exact conv_str ha h1
  have kB : (convert 24 9 (.slice b n2 c2)).run Try.prog w = .ok (.string S2) w := by rw [← hS2]; exact conv_str hb h2
  have hs : (S1.toList == S2.toList) = r := by rw [← hS1, ← hS2, str_eqB]; exact hq.out
  clear hS1 hS2 h1 h2
  go_enter Try.func58, Try.ntmps58
  go_wp2_with fail
  go_ret
  exact ⟨rfl, rfl⟩
theorem own_lit {w : World} {C : Array Value} {l : List UInt8} {e : TypeId} {n : Nat} (h : C.toList = l.map encB) (hn : n = l.length := by rfl) (hm : l.length ≤ 100000000000 := by simp) : Own (w.alloc (.cells C e)) w.heap.size e 1 (some ⟨w.heap.size, 0, none⟩) n n (l.map encB) := by
  subst hn
  have hs : C.size = l.length := by rw [← Array.length_toList, h, List.length_map]
  have := own_new w C e 1 l.length (by omega) (by unfold maxLen; omega)
  rwa [h] at this
/-- a token's bytes -/
def tkB (ag s : Int) (sec : List UInt8) : List UInt8 := UInt8.ofNat (ag % 256).toNat :: UInt8.ofNat (s % 256).toNat :: sec
theorem byte_of (x : Int) : ((UInt8.ofNat (x % 256).toNat).toNat : Int) = x % 256 := by
  have h1 := Int.emod_nonneg x (show (256 : Int) ≠ 0 by decide)
  have h2 := Int.emod_lt_of_pos x (show (0 : Int) < 256 by decide)
  rw [UInt8.toNat_ofNat']
  omega
theorem lit2B (ag s : Int) : [Value.int .u8 (ag % 256), .int .u8 (s % 256)] = [UInt8.ofNat (ag % 256).toNat, UInt8.ofNat (s % 256).toNat].map encB := by
  simp only [List.map_cons, List.map_nil, encB]
  rw [byte_of, byte_of]
set_option maxHeartbeats 4000000 in
theorem ref14_Bytes (ag s : Int) (a : Option Addr) (n c : Nat) (sec : List UInt8) (w : World) (h : Byt w a sec) (hn : n = sec.length) (hs : n ≤ 100000) :
    Calls Try.prog 33 #[.int .i64 ag, .int .i64 s, .slice a n c] w fun e w' => ∃ (xa : Option Addr) (N xc : Nat), e = .returned (.slice xa N xc) ∧ Hid (N = (tkB ag s sec).length) ∧ N ≤ 100002 ∧ Own w' w.heap.size 5 1 xa N xc ((tkB ag s sec).map encB) ∧ Below w.heap.size w w' := by
  have HN := Lib.hid hn
  clear hn
  go_enter Try.func33, Try.ntmps33
  go_wp2_with ((at_builtin; refine appB rfl _ _ rfl w.heap.size (some ⟨w.heap.size, 0, none⟩) 2 2 [UInt8.ofNat (ag % 256).toNat, UInt8.ofNat (s % 256).toNat] rfl a n c sec rfl (own_lit (lit2B ag s)) (h.alloc _) HN.out (2 + n) rfl (by omega) (by simp) ?_; intro b1 cap1 w1 own1 g1 bl1; (have be1 := bl1 w (by repeat (first | (with_reducible refine Below.setCell ?_ ?_ _) | (with_reducible refine Below.alloc ?_ ?_ _) | (with_reducible refine Below.drew ?_) | (with_reducible refine below_drewN ?_ _) | (with_reducible exact Below.refl _ _) | (focus (simp; done)) | (focus (simp; omega)) | (focus omega))))))
  go_ret
  exact ⟨b1, 2 + n, cap1, rfl, Lib.hid (by rw [HN.out, tkB]; simp; omega), by omega, own1, be1⟩
set_option maxHeartbeats 4000000 in
theorem token_Bytes (ag s : Int) (a : Option Addr) (n c : Nat) (sec : List UInt8) (w : World) (h : Byt w a sec) (hn : n = sec.length) (hs : n ≤ 100000) :
    Calls Try.prog 39 #[.int .i64 ag, .int .i64 s, .slice a n c] w fun e w' => ∃ (xa : Option Addr) (N xc : Nat), e = .returned (.slice xa N xc) ∧ Hid (N = (tkB ag s sec).length) ∧ N ≤ 100002 ∧ Own w' w.heap.size 5 1 xa N xc ((tkB ag s sec).map encB) ∧ Below w.heap.size w w' := by
  have HN := Lib.hid hn
  clear hn
  go_enter Try.func39, Try.ntmps39
  go_wp2_with (first | ((with_reducible refine wp_makeB 0 (2 + n) ?_ ?_ ?_ ?_ ?_); (focus rfl); (focus (show Value.int _ _ = Value.int _ _; first | rfl | (congr 1; omega))); (focus omega); (focus omega); intro W0 B0 be0 z0; clear z0; (have own0 := (B0.ownL (base := w.heap.size) (n := 2 + n) (Nat.le_refl _) (by simp) (by simp only [maxLen]; omega)).takeB 0 (Nat.zero_le _))) | (at_builtin; refine appB rfl _ _ rfl w.heap.size (some ⟨w.heap.size, 0, none⟩) 0 (2 + n) [] rfl _ 2 2 [UInt8.ofNat (ag % 256).toNat, UInt8.ofNat (s % 256).toNat] rfl (own0.alloc _) (byt_new (lit2B ag s)) rfl 2 rfl (by omega) (by have := be0.size; simp; omega) ?_; intro b1 c1 w1 own1 g1 bl1; (have be1 := bl1 w (by repeat (first | (with_reducible refine Below.setCell ?_ ?_ _) | (with_reducible refine Below.alloc ?_ ?_ _) | (with_reducible refine Below.drew ?_) | (with_reducible refine below_drewN ?_ _) | (with_reducible exact Below.refl _ _) | (with_reducible refine Below.trans ?_ (Below.mono be0 ?_)) | (focus (simp; done)) | (focus (simp; omega)) | (focus omega) | (focus (have q0 := Below.size be0; (try simp at q0); (try simp); omega)))))) | (at_builtin; refine appB rfl _ _ rfl w.heap.size b1 2 c1 ([] ++ [UInt8.ofNat (ag % 256).toNat, UInt8.ofNat (s % 256).toNat]) rfl a n c sec rfl own1 (h.below be1 (Nat.le_refl _)) HN.out (2 + n) rfl (by omega) be1.size ?_; intro b2 c2 w2 own2 g2 bl2; (have be2 := bl2 w be1)))
  go_ret
  exact ⟨b2, 2 + n, c2, rfl, Lib.hid (by rw [HN.out, tkB]; simp; omega), by omega, own2, be2⟩
/-- what a check answers -/
def chkM (k : List TkK) (ag : Int) (b : List UInt8) (kind now : Int) : Int × Int :=
  match b with
  | x :: y :: sec => if sec.length = 8 ∧ (x.toNat : Int) = ag ∧ tU k (y.toNat : Int) = true ∧ decide (sec = (gK k (y.toNat : Int)).sec) = true ∧ expB (gK k (y.toNat : Int)).un now = false ∧ rPermits (gK k (y.toNat : Int)).rt kind = true then ((y.toNat : Int), 0) else (0, 9)
  | _ => (0, 9)
theorem chk_len {k : List TkK} {ag : Int} {b : List UInt8} {kind now : Int} (h : b.length ≠ 10) : chkM k ag b kind now = (0, 9) := by
  unfold chkM
  split
  · rename_i x y sec
    rw [if_neg]
    rintro ⟨h1, -⟩
    simp at h
    omega
  · rfl
theorem list10 {b : List UInt8} (h : b.length = 10) : ∃ x y sec, b = x :: y :: sec ∧ sec.length = 8 := by
  match b, h with
  | x :: y :: sec, h => exact ⟨x, y, sec, rfl, by simpa using h⟩
section
variable {k : List TkK} {ag : Int} {x y : UInt8} {sec : List UInt8} {kind now : Int}
theorem chk_ag (h : ¬ (x.toNat : Int) = ag) : chkM k ag (x :: y :: sec) kind now = (0, 9) := if_neg fun q => h q.2.1
theorem chk_us (h : tU k (y.toNat : Int) = false) : chkM k ag (x :: y :: sec) kind now = (0, 9) := if_neg fun q => by rw [h] at q; exact absurd q.2.2.1 (by decide)
theorem chk_sec (h : decide (sec = (gK k (y.toNat : Int)).sec) = false) : chkM k ag (x :: y :: sec) kind now = (0, 9) := if_neg fun q => by rw [h] at q; exact absurd q.2.2.2.1 (by decide)
theorem chk_exp (h : expB (gK k (y.toNat : Int)).un now = true) : chkM k ag (x :: y :: sec) kind now = (0, 9) := if_neg fun q => by rw [h] at q; exact absurd q.2.2.2.2.1 (by decide)
theorem chk_per (h : rPermits (gK k (y.toNat : Int)).rt kind = false) : chkM k ag (x :: y :: sec) kind now = (0, 9) := if_neg fun q => by rw [h] at q; exact absurd q.2.2.2.2.2 (by decide)
theorem chk_ok (h0 : sec.length = 8) (h1 : (x.toNat : Int) = ag) (h2 : tU k (y.toNat : Int) = true) (h3 : decide (sec = (gK k (y.toNat : Int)).sec) = true) (h4 : expB (gK k (y.toNat : Int)).un now = false) (h5 : rPermits (gK k (y.toNat : Int)).rt kind = true) : chkM k ag (x :: y :: sec) kind now = ((y.toNat : Int), 0) := if_pos ⟨h0, h1, h2, h3, h4, h5⟩
end
def ChkR (M : Int × Int) (w : World) (e : Ending) (w' : World) : Prop := ∃ i er : Int, e = .returned (.tuple #[.int .i64 i, .int .i64 er]) ∧ Hid (M = (i, er)) ∧ Below w.heap.size w w'
theorem token_expiredE {us : Bool} {un now : Int} {b : Bool} (h : Hid (expB un now = b)) (a : Option Addr) (n c : Nat) (par rt cl : Int) (w : World) : Calls Try.prog 54 #[tkAgg us a n c par rt cl un, .int .i64 now] w fun e w' => e = .returned (.bool b) ∧ Below w.heap.size w w' := by
  have := token_expired us a n c par rt cl un now w
  rw [h.out] at this
  exact this
theorem token_usedE {l : List Tk} {s : Int} {b : Bool} (h : Hid (tU (l.map Tk.key) s = b)) (a : Option Addr) (n c : Nat) (w : World) (ht : Tks w a l) (hn : n = l.length) : Calls Try.prog 42 #[.slice a n c, .int .i64 s] w fun e w' => e = .returned (.bool b) ∧ w = w' := by
  have := token_used a l n c s w ht hn
  rw [h.out] at this
  exact this
theorem rights_PermitsE {r k : Int} {b : Bool} (h : Hid (rPermits r k = b)) (w : World) : Calls Try.prog 59 #[.int .i64 r, .int .i64 k] w fun e w' => e = .returned (.bool b) ∧ w = w' := by
  have := rights_Permits r k w
  rw [h.out] at this
  exact this
theorem ref13_PermitsE {r k : Int} {b : Bool} (h : Hid (rPermits r k = b)) (w : World) : Calls Try.prog 61 #[.int .i64 r, .int .i64 k] w fun e w' => e = .returned (.bool b) ∧ w = w' := by
  have := ref13_Permits r k w
  rw [h.out] at this
  exact this
theorem byt_cells2 {w : World} {gb ob : Nat} {x y : UInt8} {sec : List UInt8} (h : Byt w (some ⟨gb, ob, none⟩) (x :: y :: sec)) : w.cell? ⟨gb, ob, none⟩ = some (.int .u8 x.toNat) ∧ w.cell? ⟨gb, ob + 1, none⟩ = some (.int .u8 y.toNat) ∧ Byt w (some ⟨gb, ob + 2, none⟩) sec ∧ gb < w.heap.size := by
  have h0 := h.cells 0 (by simp)
  have h1 := h.cells 1 (by simp)
  refine ⟨h0, h1, h.drop 2, ?_⟩
  rcases h with h | ⟨b, off, e, hlt, -⟩
  · simp at h
  · injection e with e
    injection e with e _ _
    subst e
    exact hlt
set_option maxHeartbeats 4000000 in
theorem token_Check (a : Option Addr) (l : List Tk) (n c : Nat) (ag : Int) (ba : Option Addr) (b : List UInt8) (N bc : Nat) (kind now : Int) (w : World) (h : Tks w a l) (hn : n = l.length) (hb : Byt w ba b) (hN : N = b.length) (hc : N ≤ bc) (hN9 : N ≤ 1000000) :
    Calls Try.prog 32 #[.slice a n c, .int .i64 ag, .slice ba N bc, .int .i64 kind, .int .i64 now] w (ChkR (chkM (l.map Tk.key) ag b kind now) w) := by
  have HN := Lib.hid hn
  clear hn
  by_cases h10 : b.length = 10
  · obtain rfl : N = 10 := by omega
    clear hN
    obtain ⟨x, y, sec, rfl, h8⟩ := list10 h10
    have H8 := Lib.hid h8
    have H8' : Hid (8 = sec.length) := Lib.hid h8.symm
    clear h10 h8
    have c2 : ¬ bc = 2 := by omega
    obtain ⟨gb, ob, rfl⟩ : ∃ gb ob, ba = some ⟨gb, ob, none⟩ := by
      rcases hb with h0 | ⟨g, o, e, _⟩
      · simp at h0
      · exact ⟨g, o, e⟩
    obtain ⟨b0, b1, hs, bl⟩ := byt_cells2 hb
    clear hb
    have hx := x.toNat_lt
    have hy := y.toNat_lt
    by_cases hag : (x.toNat : Int) = ag
    · subst hag
      cases hu : tU (l.map Tk.key) (y.toNat : Int) with
      | false =>
        have HF := Lib.hid (chk_us (ag := (x.toNat : Int)) (x := x) (y := y) (sec := sec) (kind := kind) (now := now) hu)
        have HU := Lib.hid hu
        clear hu
        obtain ⟨X, hX⟩ : ∃ X, x.toNat = X := ⟨_, rfl⟩
        obtain ⟨Y, hY⟩ : ∃ Y, y.toNat = Y := ⟨_, rfl⟩
        rw [hX] at b0 hx HF ⊢
        rw [hY] at b1 hy HU
        clear hX hY
        go_enter Try.func32, Try.ntmps32
        go_wp2_with ((go_at_call 42; (with_reducible refine (token_usedE HU a n c _ h HN.out).mono ?_); rintro e wz ⟨rfl, rfl⟩))
        refine bodyPost_ret (v := .tuple #[.int .i64 0, .int .i64 9]) (by first | (simp [results, Try.results32, go_sem]; done) | (simp [results, Try.results32, go_sem]; rfl)) rfl ?_
        exact ⟨_, _, rfl, HF, (by repeat (first | (with_reducible refine Below.setCell ?_ ?_ _) | (with_reducible refine Below.alloc ?_ ?_ _) | (with_reducible refine Below.drew ?_) | (with_reducible refine below_drewN ?_ _) | (with_reducible exact Below.refl _ _) | (focus (simp; done)) | (focus (simp; omega)) | (focus omega)))⟩
      | true =>
        obtain ⟨i, ei, hi⟩ := tU_in hu
        have eiN : y.toNat = i := by omega
        have HK : Hid (gK (l.map Tk.key) (y.toNat : Int) = l[i].key) := Lib.hid (by rw [ei]; exact gK_at hi)
        have HU := Lib.hid hu
        clear hu
        obtain ⟨aa, oa, rfl⟩ := h.open (by omega)
        obtain ⟨x0, x1, x2, x3, x4, x5, xl⟩ := row_tok h.row i hi
        have hg := h.sec _ (List.getElem_mem hi)
        obtain ⟨t, ht⟩ : ∃ t, l[i] = t := ⟨_, rfl⟩
        rw [ht] at x0 x1 x2 x3 x4 x5 HK hg
        clear ht
        obtain ⟨us, ts, par, rt, cl, un, la, lc⟩ := t
        simp only at x0 x1 x2 x3 x4 x5 hg
        have jx : (i : Int) < (n : Int) := by rw [HN.out]; omega
        obtain ⟨q1, hq1⟩ : ∃ q, decide (sec = ts) = q := ⟨_, rfl⟩
        obtain ⟨q2, hq2⟩ : ∃ q, expB un now = q := ⟨_, rfl⟩
        obtain ⟨q3, hq3⟩ : ∃ q, rPermits rt kind = q := ⟨_, rfl⟩
        have Q1 := Lib.hid hq1
        have Q2 := Lib.hid hq2
        have Q3 := Lib.hid hq3
        have HF : Hid (chkM (l.map Tk.key) (x.toNat : Int) (x :: y :: sec) kind now = if q1 = true ∧ q2 = false ∧ q3 = true then ((i : Int), 0) else (0, 9)) := Lib.hid (by
          have e1 : decide (sec = (gK (l.map Tk.key) (y.toNat : Int)).sec) = q1 := by rw [HK.out]; exact hq1
          have e2 : expB (gK (l.map Tk.key) (y.toNat : Int)).un now = q2 := by rw [HK.out]; exact hq2
          have e3 : rPermits (gK (l.map Tk.key) (y.toNat : Int)).rt kind = q3 := by rw [HK.out]; exact hq3
          cases q1 with
          | false => rw [chk_sec e1]; rfl
          | true =>
            cases q2 with
            | true => rw [chk_exp e2]; rfl
            | false =>
              cases q3 with
              | false => rw [chk_per e3]; rfl
              | true => rw [chk_ok H8.out rfl HU.out e1 e2 e3, ei]; rfl)
        clear hq1 hq2 hq3
        rw [eiN] at b1 hy HU
        clear HK ei eiN
        obtain ⟨X, hX⟩ : ∃ X, x.toNat = X := ⟨_, rfl⟩
        rw [hX] at b0 hx HF ⊢
        clear hX
        go_enter Try.func32, Try.ntmps32
        go_upto_region 7 with ((go_at_call 42; (with_reducible refine (token_usedE HU _ n c _ h HN.out).mono ?_); rintro e wz ⟨rfl, rfl⟩))
        obtain ⟨X2, hX2⟩ : ∃ X, w.heap.size = X := ⟨_, rfl⟩
        have be1 : RowKit.Below w.heap.size w (w.alloc (.cells #[.bool us, .slice la ts.length lc, .int .i64 par, .int .i64 rt, .int .i64 cl, .int .i64 un] 52)) := (RowKit.Below.refl _ _).alloc (Nat.le_refl _) _
        refine wp_named (fun U => Blk U X2 52 #[.bool us, .slice la ts.length lc, .int .i64 par, .int .i64 rt, .int .i64 cl, .int .i64 un] ∧ Byt U la ts ∧ Byt U (some ⟨gb, ob + 2, none⟩) sec ∧ RowKit.Below w.heap.size w U) ⟨by rw [← hX2]; exact Blk.new _ _ _, Row.alloc hg _, Row.alloc hs _, be1⟩ ?_
        have HX2 := Lib.hid hX2
        rw [hX2]
        clear hX2 be1 x0 x1 x2 x3 x4 x5 xl hg hs h b0 b1
        rintro U ⟨kX, hg, hs, bu⟩
        obtain ⟨v0, v1, v2, v3, v4, v5, vf, vl⟩ := kX.six
        have rr : ∀ d os o, (grow (redrawn U d) os).cell? ⟨X2, o, none⟩ = U.cell? ⟨X2, o, none⟩ := fun d os o => cells_regrown U d os X2 o vl
        have HGs := Lib.hid (fun d os => hg.below (below_regrown U d os) (Nat.le_refl _))
        have HSs := Lib.hid (fun d os => hs.below (below_regrown U d os) (Nat.le_refl _))
        clear hg hs kX vf
        cases q1 <;> cases q2 <;> cases q3 <;>
          ((refine wp_region_quiet_below (by kernel_rfl) (by kernel_rfl) ?_; (repeat (go_big_quiet_step (first | (go_at_call 58; with_reducible exact qg (bytes_EqualE Q1 _ _ _ _ _ _ _ (HSs.out _ _) (HGs.out _ _) H8'.out rfl)) | (go_at_call 54; with_reducible exact qb (token_expiredE Q2 _ _ _ _ _ _ _)) | (go_at_call 59; with_reducible exact qg (rights_PermitsE Q3 _))))); refine wpQuiet_nil ?_; intro wq hwq; have hbq := below_of_regrown hwq; clear hwq)
           go_wp2_with fail
           refine bodyPost_ret (v := .tuple #[.int .i64 _, .int .i64 _]) (by simp [results, Try.results32, go_sem]; exact ⟨rfl, rfl⟩) rfl ?_
           exact ⟨_, _, rfl, Lib.hid (by rw [HF.out]; rfl), (by have q := bu.size; rw [HX2.out] at q ⊢; exact bu.trans (hbq.mono q))⟩)
    · have HF := Lib.hid (chk_ag (k := l.map Tk.key) (y := y) (sec := sec) (kind := kind) (now := now) hag)
      have hag2 : ((x.toNat : Int) == ag) = false := by rw [beq_eq_false_iff_ne]; exact hag
      obtain ⟨X, hX⟩ : ∃ X, x.toNat = X := ⟨_, rfl⟩
      rw [hX] at b0 hx hag2
      clear hX hag
      go_enter Try.func32, Try.ntmps32
      go_wp2_with fail
      refine bodyPost_ret (v := .tuple #[.int .i64 0, .int .i64 9]) (by first | (simp [results, Try.results32, go_sem]; done) | (simp [results, Try.results32, go_sem]; rfl)) rfl ?_
      exact ⟨_, _, rfl, HF, (by repeat (first | (with_reducible refine Below.setCell ?_ ?_ _) | (with_reducible refine Below.alloc ?_ ?_ _) | (with_reducible refine Below.drew ?_) | (with_reducible refine below_drewN ?_ _) | (with_reducible exact Below.refl _ _) | (focus (simp; done)) | (focus (simp; omega)) | (focus omega)))⟩
  · have HF := Lib.hid (chk_len (k := l.map Tk.key) (ag := ag) (kind := kind) (now := now) h10)
    have e11 : ¬ ((N : Int) = 10) := by omega
    clear h10 hN
    go_enter Try.func32, Try.ntmps32
    go_wp2_with fail
    refine bodyPost_ret (v := .tuple #[.int .i64 0, .int .i64 9]) (by first | (simp [results, Try.results32, go_sem]; done) | (simp [results, Try.results32, go_sem]; rfl)) rfl ?_
    exact ⟨_, _, rfl, HF, (by repeat (first | (with_reducible refine Below.setCell ?_ ?_ _) | (with_reducible refine Below.alloc ?_ ?_ _) | (with_reducible refine Below.drew ?_) | (with_reducible refine below_drewN ?_ _) | (with_reducible exact Below.refl _ _) | (focus (simp; done)) | (focus (simp; omega)) | (focus omega)))⟩
end Go.Proofs.Ytgngmmmdhhjbhaa
