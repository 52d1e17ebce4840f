/- law 25: the sanity check -/
import Derived.Test.YtlfccoakodnbaaaSames
namespace Go.Proofs.Ytlfccoakodnbaaa
set_option linter.unusedVariables false
open Go.RowKit Go.Sort
set_option maxRecDepth 100000

theorem Touch.set4 {W : List Nat} {lo hi : Nat → Nat} (w : World) {b k : Nat} (hk : k ∈ W) (h1 : lo k ≤ b) (h2 : b < hi k) (v0 v1 v2 v3 : Value) : Touch W lo hi w ((((w.setCell ⟨b, 0, none⟩ v0).setCell ⟨b, 1, none⟩ v1).setCell ⟨b, 2, none⟩ v2).setCell ⟨b, 3, none⟩ v3) :=
  (((Touch.set w hk h1 h2 0 v0).trans (Touch.set _ hk h1 h2 1 v1)).trans (Touch.set _ hk h1 h2 2 v2)).trans (Touch.set _ hk h1 h2 3 v3)
theorem Blk.set4 {w : World} {b : Nat} {t : TypeId} {u0 u1 u2 u3 : Value} (h : Blk w b t #[u0, u1, u2, u3]) (v0 v1 v2 v3 : Value) : Blk ((((w.setCell ⟨b, 0, none⟩ v0).setCell ⟨b, 1, none⟩ v1).setCell ⟨b, 2, none⟩ v2).setCell ⟨b, 3, none⟩ v3) b t #[v0, v1, v2, v3] :=
  (((h.set 0 v0).set 1 v1).set 2 v2).set 3 v3
theorem zer_parse {n : Nat} (h : 0 < n) : fParse (List.replicate n (0 : UInt8)) = .fault 2 1 := fp_magic0 (by simp; omega) (by
  obtain ⟨m, rfl⟩ : ∃ m, n = m + 1 := ⟨n - 1, by omega⟩
  simp [at_, List.replicate_succ])
theorem zer_run (n : Nat) (ks : List Key) (hk : ks.length < 4) : ∀ m u, n - u ≤ m → (tRun 4 (List.replicate n 0) ⟨u, true, ks⟩).keys = ks := by
  intro m
  induction m with
  | zero =>
    intro u hu
    rw [tRun_stop (fun h => by
      have := h.2
      simp only [List.drop_replicate] at this
      rw [show n - u = 0 by omega, fp_more0 rfl] at this
      cases this)]
  | succ m ih =>
    intro u hu
    by_cases hlt : u < n
    · have hp : fParse ((List.replicate n (0 : UInt8)).drop u) = .fault 2 1 := by rw [List.drop_replicate]; exact zer_parse (by omega)
      rw [tRun_go ⟨hk, by simp only; rw [hp]; rfl⟩]
      simp only [hp]
      rw [show tStep ⟨u, true, ks⟩ (.fault 2 1) = ⟨u + 1, true, ks⟩ from rfl]
      exact ih (u + 1) (by omega)
    · exact ih u (by omega)
theorem zer_keys {n : Nat} (h : 0 < n) : (tRun 4 (List.replicate n 0) ⟨0, false, []⟩).keys = [(2, 0, [])] := by
  have hp : fParse ((List.replicate n (0 : UInt8)).drop 0) = .fault 2 1 := zer_parse h
  rw [tRun_go ⟨by simp, by simp only; rw [hp]; rfl⟩]
  simp only [hp]
  rw [show tStep ⟨0, false, []⟩ (.fault 2 1) = ⟨1, true, [(2, 0, [])]⟩ from rfl]
  exact zer_run n _ (by simp) n 1 (by omega)
set_option maxHeartbeats 2000000 in
theorem inbox_Open0 (w : World) : Calls Try.prog 10 #[.agg #[.bool false, .bool false, .slice none 0 0, .bool false]] w fun e w' => e = .returned (.agg #[.bool true, .bool false, .slice none 0 0, .bool false]) ∧ Below w.heap.size w w' := by
  go_enter Try.func10, Try.ntmps10
  go_wp2
  refine bodyPost_ret (v := .agg #[.bool true, .bool false, .slice none 0 0, .bool false]) (by simp [results, Try.results10, go_sem]) rfl ?_
  exact ⟨rfl, (by repeat (first | (with_reducible refine Below.setCell ?_ ?_ _) | (with_reducible refine Below.alloc ?_ ?_ _) | (with_reducible refine Below.drew ?_) | (with_reducible refine below_drewN ?_ _) | (with_reducible exact Below.refl _ _) | (focus (simp; done)) | (focus (simp; omega)) | (focus omega)))⟩
/-- make([]byte, n), an operation's obligation -/
theorem obl_makeB {w : World} {ρ : Operand → Value} {R : Value → World → Prop} {dst : Option Tmp} {x y : Operand} {ty : TypeId} {pos : String} {after : Array Edge} {guard : Option (Nat × Bool)}
    (n : Nat) (hx : ρ x = .int .i64 n) (hy : ρ y = .int .i64 n) (hn : n ≤ 100000)
    (h : Blk (w.alloc (.cells ((List.replicate n (0 : UInt8)).map encB).toArray 5)) w.heap.size 5 ((List.replicate n (0 : UInt8)).map encB).toArray → R (.slice (some ⟨w.heap.size, 0, none⟩) n n) (w.alloc (.cells ((List.replicate n (0 : UInt8)).map encB).toArray 5))) :
    oblUpon Try.prog R ((execOp ρ { dst, op := .makeSlice 23 x y, type := ty, pos, after, guard }).run Try.prog w) := by
  obtain ⟨i0, hi, hz0, hz1, hz2⟩ := info_parts info_byte
  have hrun := run_make (P := Try.prog) w 23 5 i0 _ Try.underlying23 hi hz0 .i64 .i64 n n (by omega) (by omega) (by rw [hz2]; omega) (by omega)
  have e : madeCells (Value.int .u8 0).cells (n * 1) = ((List.replicate n (0 : UInt8)).map encB).toArray := by
    rw [Nat.mul_one, List.map_replicate]
    exact madeCells_one _ _
  simp only [Int.toNat_natCast, hz1] at hrun
  rw [e] at hrun
  simp only [execOp, hx, hy, Sem.run_bind, Result.andThen_ok, hrun]
  exact h (Blk.new _ _ _)
theorem rcv300 : Ses.rcv ⟨true, false, [], false⟩ (List.replicate 300 0) = ⟨true, true, List.replicate 256 0, false⟩ := by
  simp [Ses.rcv, putL]
theorem inp_awake : Ses.inp ⟨true, true, List.replicate 256 0, false⟩ = [(15, 0, []), (2, 0, [])] := by
  have := zer_keys (n := 256) (by omega)
  simp only [Ses.inp, Ses.tk, if_true, this]
  rfl
theorem take_awake (a1 : Option Addr) (c1 : Nat) (w : World) (hb : Byt w a1 (List.replicate 256 0)) (hc : 256 ≤ c1) (hn : a1 = none → 256 = 0 ∧ c1 = 0) :
    Calls Try.prog 11 #[.agg #[.bool true, .bool true, .slice a1 256 c1, .bool false]] w fun e w' => ∃ (T : Ses) (a : Option Addr) (c n g xc : Nat), e = .returned (.tuple #[.agg #[.bool T.op, .bool T.dr, .slice a n c, .bool T.gb], .agg #[.bool true, .slice (some ⟨g, 0, none⟩) 2 xc]]) ∧ w'.cell? ⟨g, 0, none⟩ = some (.int .i64 15) ∧ g < w'.heap.size ∧ Below w.heap.size w w' := by
  refine (inbox_Take true true false (List.replicate 256 0) a1 256 c1 w ⟨hb, by simp, hc, hn, by omega⟩).mono fun e w' h => ?_
  obtain ⟨T, a, c, n, its, xa, xc, m, hT, hn, hm, hk, rfl, own1, own2, pays, hb⟩ := h
  have hk := hk.out
  have hm := hm.out
  rw [inp_awake] at hk
  have hlen : its.length = 2 := by have := congrArg List.length hk; simpa using this
  obtain ⟨g, rfl, -, hg⟩ := own2.open_ (by omega)
  rw [hlen] at hm
  subst hm
  obtain ⟨x, y, rfl⟩ : ∃ x y, its = [x, y] := match its, hlen with | [x, y], _ => ⟨x, y, rfl⟩
  simp only [List.map_cons, List.map_nil, List.cons.injEq, It.key, Prod.mk.injEq, and_true] at hk
  obtain ⟨x0, -, -, -⟩ := row_item own2.row 0 (by simp)
  simp only [Nat.zero_mul, Nat.add_zero, List.getElem_cons_zero] at x0
  rw [hk.1.1] at x0
  exact ⟨T, a, c, n, g, xc, rfl, x0, hg, hb⟩
set_option maxHeartbeats 4000000 in
theorem awake_yes (w : World) : Calls Try.prog 14 #[] w fun e w' => e = .returned (.bool true) ∧ Below w.heap.size w w' := by
  go_enter Try.func14, Try.ntmps14
  go_wp2_with fail
  apply wp_region_tab [] 6 40 [some 4, some 5, some 6, some 7, some 1, none] [⟨[], [], [], []⟩, ⟨[0], [0], [0], []⟩, ⟨[], [], [], []⟩, ⟨[0, 1, 2], [1, 2], [1, 2], []⟩, ⟨[], [], [], []⟩, ⟨[0, 1, 2, 3, 4], [3, 4], [3, 4], [4]⟩] [0, 1, 2, 3, 4, 5] [3, 5] [psiTrue, psiTrue, (fun f lo hi v b0 b1 W => ∃ b, v = .slice (some ⟨b, 0, none⟩) 300 300 ∧ b0 ≤ b ∧ b < b1 ∧ Blk W b 5 ((List.replicate 300 (0 : UInt8)).map encB).toArray), (fun f lo hi v b0 b1 W => ∃ a' c', v = .agg #[.bool true, .bool true, .slice a' 256 c', .bool false] ∧ Own W b0 5 1 a' 256 c' ((List.replicate 256 (0 : UInt8)).map encB) ∧ ∀ x, a'.map (·.block) = some x → x < b1), (fun f lo hi v b0 b1 W => ∃ b, v = .pointer (some ⟨b, 0, none⟩) ∧ b0 ≤ b ∧ b < b1 ∧ Blk W b 30 #[.bool false, .bool false, .slice none 0 0, .bool false]), (fun f lo hi v b0 b1 W => ∃ b a' c', f 4 = .pointer (some ⟨b, 0, none⟩) ∧ lo (4) ≤ b ∧ b < hi (4) ∧ f 3 = .agg #[.bool true, .bool true, .slice a' 256 c', .bool false] ∧ Blk W b 30 #[.bool true, .bool true, .slice a' 256 c', .bool false])] [kVal _, kVal _, kTrue, kTrue, kTrue, kTrue]
  · kernel_rfl
  · kernel_rfl
  · rfl
  · rfl
  · exact trivial
  · exact trivial
  refine ⟨?oR1_0, ?oR1_1, ?oR1_2, ?oR1_3, ?oR1_4, ?oR1_5, trivial⟩
  case oR1_0 => intro f lo hi w hb hx hf hk hrg R hR; (try replace hb := BelX.zero hb); (try simp (decide := true) only [go_sem] at hf); (try simp (decide := true) only [go_sem] at hk); go_simp; exact hR _ _ (rpost_val rfl rfl (Below.refl _ _) rfl)
  case oR1_1 =>
    intro f lo hi w hb hx hf hk hrg R hR; (try replace hb := BelX.zero hb); (try simp (decide := true) only [go_sem] at hf); (try simp (decide := true) only [go_sem] at hk)
    go_simp
    (with_reducible refine (inbox_Open0 _).mono ?_)
    rintro e w' ⟨rfl, hb1⟩
    exact ⟨_, rfl, hR _ _ (rpost_val rfl rfl hb1 rfl)⟩
  case oR1_2 =>
    intro f lo hi w hb hx hf hk hrg R hR; (try replace hb := BelX.zero hb); (try simp (decide := true) only [go_sem] at hf); (try simp (decide := true) only [go_sem] at hk)
    refine obl_makeB 300 ?_ ?_ (by omega) fun kk => ?_
    · go_simp
    · go_simp
    refine hR _ _ (rpost_none rfl (by repeat (first | (with_reducible refine Below.setCell ?_ ?_ _) | (with_reducible refine Below.alloc ?_ ?_ _) | (with_reducible refine Below.drew ?_) | (with_reducible refine below_drewN ?_ _) | (with_reducible exact Below.refl _ _) | (focus (simp; done)) | (focus (simp; omega)) | (focus omega))) ?_)
    (try simp (decide := true) only [go_sem])
    exact ⟨_, rfl, Nat.le_refl _, by simp, kk⟩
  case oR1_3 =>
    intro f lo hi w hb hx hf hk hrg R hR; (try replace hb := BelX.zero hb); (try simp (decide := true) only [go_sem] at hf); (try simp (decide := true) only [go_sem] at hk)
    obtain ⟨b, h6, -, -, kk⟩ := hf
    have hby : Byt w (some ⟨b, 0, none⟩) (List.replicate 300 0) := kk.rowL
    go_simp
    (with_reducible refine (inbox_Receive true false false [] none 0 0 (some ⟨b, 0, none⟩) (List.replicate 300 0) 300 300 _ ⟨Byt.nil _ _, rfl, by omega, by simp, by omega⟩ hby (by simp) (by omega) (by omega) (by omega)).mono ?_)
    rintro e w' hq
    rw [rcv300] at hq
    obtain ⟨a', c', n, hn, rfl, own, hb1⟩ := hq
    obtain rfl : n = 256 := by have := hn.out; simpa using this
    refine ⟨_, rfl, hR _ _ (rpost_none rfl hb1 ?_)⟩
    (try simp (decide := true) only [go_sem])
    exact ⟨a', c', rfl, own, own.lt'⟩
  case oR1_4 =>
    intro f lo hi w hb hx hf hk hrg R hR; (try replace hb := BelX.zero hb); (try simp (decide := true) only [go_sem] at hf); (try simp (decide := true) only [go_sem] at hk)
    go_simp
    refine hR _ _ (rpost_none rfl (by repeat (first | (with_reducible refine Below.setCell ?_ ?_ _) | (with_reducible refine Below.alloc ?_ ?_ _) | (with_reducible refine Below.drew ?_) | (with_reducible refine below_drewN ?_ _) | (with_reducible exact Below.refl _ _) | (focus (simp; done)) | (focus (simp; omega)) | (focus omega))) ?_)
    (try simp (decide := true) only [go_sem])
    exact ⟨_, rfl, Nat.le_refl _, by simp, Blk.new _ _ _⟩
  case oR1_5 =>
    intro f lo hi w hb hx hf hk hrg R hR; (try replace hb := BelX.zero hb); (try simp (decide := true) only [go_sem] at hf); (try simp (decide := true) only [go_sem] at hk)
    obtain ⟨⟨a', c', h7, -⟩, b, h1, q1, q2, kk⟩ := hf
    obtain ⟨e0, e1, e2, e3⟩ := kk.four'
    have fz := kk.frozen
    go_simp
    refine hR _ _ (rpost_some rfl rfl (Touch.set4 _ (List.mem_singleton.2 rfl) q1 q2 _ _ _ _) ?_)
    (try simp (decide := true) only [go_sem])
    exact ⟨b, a', c', h1, q1, q2, h7, kk.set4 _ _ _ _⟩
  case hcl =>
    refine ⟨Closed.true _ _ _ _, Closed.true _ _ _ _, ?cR1_2, ?cR1_3, ?cR1_4, ?cR1_5, trivial⟩
    · exact fun f lo hi v b0 b1 w w' h hs hB hown hU hX => by
        obtain ⟨b, rfl, h2, h3, h4⟩ := h
        exact ⟨b, rfl, h2, h3, (hown b h2 h3).trans h4⟩
    · exact fun f lo hi v b0 b1 w w' h hs hB hown hU hX => by
        obtain ⟨a', c', h1, own, lt⟩ := h
        exact ⟨a', c', h1, own.keep fun b hb hl _ => hown b hl (lt b (by rw [hb]; rfl)), lt⟩
    · exact fun f lo hi v b0 b1 w w' h hs hB hown hU hX => by
        obtain ⟨b, rfl, h2, h3, h4⟩ := h
        exact ⟨b, rfl, h2, h3, (hown b h2 h3).trans h4⟩
    · exact fun f lo hi v b0 b1 w w' h hs hB hown hU hX => by
        obtain ⟨b, a', c', h1, h2, h3, h4, h5⟩ := h
        exact ⟨b, a', c', h1, h2, h3, h4, (hU 4 (by simp) b h2 h3).trans h5⟩
  intro f lo hi W7 hbr hx hf hk hrg; (try replace hbr := BelX.zero hbr); clear hx; (try simp (decide := true) only [go_sem] at hf); (try simp (decide := true) only [go_sem] at hk)
  obtain ⟨⟨a1, c1, h7, own1, -⟩, b, a', c', h1, q1, q2, h7', kk⟩ := hf
  rw [h7] at h7'
  obtain ⟨rfl, rfl⟩ : a1 = a' ∧ c1 = c' := by
    injection h7' with e
    injection e with e
    injection e with _ e
    injection e with _ e
    injection e with e _
    injection e with e1 _ e2
    exact ⟨e1, e2⟩
  have cp := own1.cap_le
  have hby : Byt W7 a1 (List.replicate 256 0) := own1.byt
  have hnl := Lib.hid (fun h : a1 = none => own1.none_len h)
  obtain ⟨c0, c1', c2, c3⟩ := kk.four'
  have lb := kk.lt
  clear h7' hrg
  go_simp
  clear hk h7 h1
  go_wp2_with ((go_at_call 11; (with_reducible refine (take_awake a1 c1 _ hby cp hnl.out).mono ?_); rintro e w2 ⟨T, a2, c2', n2, g, xc, rfl, x0, gl, hb2⟩; ((have k2 := kk.below hb2 lb); clear c0 c1' c2 c3 lb; (obtain ⟨c0, c1', c2, c3⟩ := k2.four'); (have lb := k2.lt))))
  go_ret
  exact ⟨rfl, (by repeat (first | (with_reducible refine Below.setCell ?_ ?_ _) | (with_reducible refine Below.alloc ?_ ?_ _) | (with_reducible refine Below.drew ?_) | (with_reducible refine below_drewN ?_ _) | (with_reducible exact Below.refl _ _) | (with_reducible refine Below.trans ?_ (Below.mono hb2 ?_)) | (with_reducible refine Below.trans ?_ (Below.mono hbr ?_)) | (focus (simp; done)) | (focus (simp; omega)) | (focus omega) | (focus (have q0 := Below.size hb2; (try simp at q0); have q1 := Below.size hbr; (try simp at q1); (try simp); omega))))⟩
end Go.Proofs.Ytlfccoakodnbaaa
