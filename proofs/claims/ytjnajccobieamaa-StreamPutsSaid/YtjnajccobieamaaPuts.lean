/- law 04: StreamPuts -/
import Derived.Test.YtjnajccobieamaaPut
import Derived.Test.YtjnajccobieamaaTakes
namespace Go.Proofs.Ytjnajccobieamaa
set_option linter.unusedVariables false
open Go.RowKit Go.Sort
set_option maxRecDepth 100000

/-- make([]byte, n), an operation's obligation -/
theorem obl_makeB {w : World} {ρ : Operand → Value} {R : Value → World → Prop} {dst : Option Tmp} {x y : Operand} {ty : TypeId} {pos : String} {after : Array Edge} {guard : Option (Nat × Bool)}
    (n : Nat) (hx : ρ x = .int .i64 n) (hy : ρ y = .int .i64 n) (hn : n ≤ 100000)
    (h : Blk (w.alloc (.cells ((List.replicate n (0 : UInt8)).map encB).toArray 5)) w.heap.size 5 ((List.replicate n (0 : UInt8)).map encB).toArray → R (.slice (some ⟨w.heap.size, 0, none⟩) n n) (w.alloc (.cells ((List.replicate n (0 : UInt8)).map encB).toArray 5))) :
    oblUpon Try.prog R ((execOp ρ { dst, op := .makeSlice 25 x y, type := ty, pos, after, guard }).run Try.prog w) := by
  obtain ⟨i0, hi, hz0, hz1, hz2⟩ := info_parts info_byte
  have hrun := run_make (P := Try.prog) w 25 5 i0 _ Try.underlying25 hi hz0 .i64 .i64 n n (by omega) (by omega) (by rw [hz2]; omega) (by omega)
  have e : madeCells (Value.int .u8 0).cells (n * 1) = ((List.replicate n (0 : UInt8)).map encB).toArray := by
    rw [Nat.mul_one, List.map_replicate]
    exact madeCells_one _ _
  simp only [Int.toNat_natCast, hz1] at hrun
  rw [e] at hrun
  simp only [execOp, hx, hy, Sem.run_bind, Result.andThen_ok, hrun]
  exact h (Blk.new _ _ _)

theorem stream_ValidV {n : Nat} {b : Bool} (h : decide (n ≤ 256) = b) (a : Option Addr) (m c : Nat) (g : Bool) (w : World) (hn : n ≤ 9223372036854775807) (hm : m = n := by rfl) :
    Calls Try.prog 24 #[.agg #[.slice a m c, .bool g]] w fun e w' => e = .returned (.bool b) ∧ Below w.heap.size w w' := by subst hm; rw [← h]; exact stream_Valid a _ c g w hn
theorem ref04_ValidV {n : Nat} {b : Bool} (h : decide (n ≤ 256) = b) (a : Option Addr) (m c : Nat) (g : Bool) (w : World) (hn : n ≤ 9223372036854775807) (hm : m = n := by rfl) :
    Calls Try.prog 25 #[.agg #[.slice a m c, .bool g]] w fun e w' => e = .returned (.bool b) ∧ Below w.heap.size w w' := by subst hm; rw [← h]; exact ref04_Valid a _ c g w hn

set_option maxHeartbeats 4000000 in
theorem streamPuts_walk (a0 : Option Addr) (c0 : Nat) (l0 : List UInt8) (g0 : Bool) (a2 : Option Addr) (c2 : Nat) (l2 : List UInt8) (a1 : Option Addr) (c1 : Nat) (l1 : List Int) (n : Int) (w_0 : World) (h0 : Byt w_0 a0 l0) (n0 : l0.length ≤ 9223372036854775807) (h2 : Byt w_0 a2 l2) (n2 : l2.length ≤ 9223372036854775807) (k2 : l2.length ≤ c2) (h1 : Ints w_0 a1 l1) (n1 : l1.length ≤ 9223372036854775807) :
    Calls Try.prog 7 #[.agg #[.slice a0 l0.length c0, .bool g0], .slice a2 l2.length c2, .slice a1 l1.length c1, .int .i64 n] w_0 fun e w' => e = .returned (.bool true) ∧ Below w_0.heap.size w_0 w' := by
  by_cases hs : l0.length ≤ 300
  case neg =>
    have hs' : decide (300 < l0.length) = true := decide_eq_true (by omega)
    have hs2 : (300 : Int) < (l0.length : Int) := by omega
    clear hs
    go_enter Try.func7, Try.ntmps7
    go_wp2_with ((go_at_call 16; (with_reducible refine (awake_yes _).mono ?_); rintro e w20 ⟨rfl, hb20⟩))
    go_ret
    exact ⟨rfl, (by repeat (first | (with_reducible refine Below.setCell ?_ ?_ _) | (with_reducible refine Below.alloc ?_ ?_ _) | (with_reducible refine Below.drew ?_) | (with_reducible refine below_drewN ?_ _) | (with_reducible exact Below.refl _ _) | (with_reducible refine Below.trans ?_ (Below.mono hb20 ?_)) | (focus (simp; done)) | (focus (simp; omega)) | (focus omega) | (focus (have q0 := Below.size hb20; (try simp at q0); (try simp); omega))))⟩
  have hs' : decide (300 < l0.length) = false := decide_eq_false (by omega)
  have hs2 : ¬ (300 : Int) < (l0.length : Int) := by omega
  by_cases ht : l2.length ≤ 600
  case neg =>
    have ht' : decide (l2.length ≤ 600) = false := decide_eq_false (by omega)
    clear ht
    go_enter Try.func7, Try.ntmps7
    go_wp2_with (first | (go_at_call 23; (with_reducible refine (mk_Short _ _ _ _ n2).mono ?_); rintro e w' ⟨rfl, rfl⟩) | (go_at_call 16; (with_reducible refine (awake_yes _).mono ?_); rintro e w20 ⟨rfl, hb20⟩))
    go_ret
    exact ⟨rfl, (by repeat (first | (with_reducible refine Below.setCell ?_ ?_ _) | (with_reducible refine Below.alloc ?_ ?_ _) | (with_reducible refine Below.drew ?_) | (with_reducible refine below_drewN ?_ _) | (with_reducible exact Below.refl _ _) | (with_reducible refine Below.trans ?_ (Below.mono hb20 ?_)) | (focus (simp; done)) | (focus (simp; omega)) | (focus omega) | (focus (have q0 := Below.size hb20; (try simp at q0); (try simp); omega))))⟩
  have ht' : decide (l2.length ≤ 600) = true := decide_eq_true (by omega)
  obtain ⟨gb, hgb⟩ : ∃ gb, (bits BinOp.and IntKind.i64 n 1 == 0) = gb := ⟨_, rfl⟩
  go_enter Try.func7, Try.ntmps7
  go_upto_region 4 with (first | (go_at_call 23; (with_reducible refine (mk_Short _ _ _ _ n2).mono ?_); rintro e w' ⟨rfl, rfl⟩) | (go_at_call 9; (with_reducible refine (mk_New a1 c1 l1 _ (h1.below (B := w_0.heap.size) (by repeat (first | (with_reducible refine Below.setCell ?_ ?_ _) | (with_reducible refine Below.alloc ?_ ?_ _) | (with_reducible refine Below.drew ?_) | (with_reducible refine below_drewN ?_ _) | (with_reducible exact Below.refl _ _) | (focus (simp; done)) | (focus (simp; omega)) | (focus omega))) (Nat.le_refl _)) n1).mono ?_); rintro e w1 ⟨rfl, hd1, hb1⟩; (have hd1' : DeckAt w1 (w_0.heap.size + 1) ⟨a1, c1, l1⟩ 0 := by simpa using hd1)) | (go_at_call 17; (with_reducible refine (law_line _ 8 _ _ _ 8 rfl (by omega) (by omega) hd1').mono ?_); rintro e w2 ⟨ll, k2', la, lc, rfl, hll, own2, hd2, g2⟩; ((have hb1' : RowKit.Below w_0.heap.size w_0 w1 := (by repeat (first | (with_reducible refine Below.setCell ?_ ?_ _) | (with_reducible refine Below.alloc ?_ ?_ _) | (with_reducible refine Below.drew ?_) | (with_reducible refine below_drewN ?_ _) | (with_reducible exact Below.refl _ _) | (with_reducible refine Below.trans ?_ (Below.mono hb1 ?_)) | (focus (simp; done)) | (focus (simp; omega)) | (focus omega) | (focus (have q0 := Below.size hb1; (try simp at q0); (try simp); omega))))); (have be2 : RowKit.Below w_0.heap.size w_0 w2 := hb1'.grown g2 (by have := hb1'.size; omega) (fun k hk => by injection hk with hk; omega)); (have kr := ((Blk.new w_0 43 #[.slice a0 l0.length c0, .bool g0]).below hb1 (by simp)).grown g2 (by omega)))))
  have hll' : ll.length ≤ 240 := by omega
  obtain ⟨r, Er, r0, r1⟩ := modName n 3 (by omega)
  obtain ⟨M, hM⟩ := Int.eq_ofNat_of_zero_le (show 0 ≤ 255 + r by omega)
  have e1 : IntKind.i64.wrap (255 + r) = (M : Int) := by rw [hM, IntKind.wrap_i64]; omega
  have hM1 : M ≤ 257 := by omega
  refine wp_named (fun W => Blk W w_0.heap.size 43 #[.slice a0 l0.length c0, .bool g0] ∧ Blk W w2.heap.size 43 #[.slice la ll.length lc, .bool gb] ∧ Byt W la ll ∧ RowKit.Below w_0.heap.size w_0 W) ⟨kr.alloc _, Blk.new _ _ _, own2.byt.alloc _, (by repeat (first | (with_reducible refine Below.setCell ?_ ?_ _) | (with_reducible refine Below.alloc ?_ ?_ _) | (with_reducible refine Below.drew ?_) | (with_reducible refine below_drewN ?_ _) | (with_reducible exact Below.refl _ _) | (with_reducible refine Below.trans ?_ (Below.mono be2 ?_)) | (focus (simp; done)) | (focus (simp; omega)) | (focus omega) | (focus (have q0 := Below.size be2; (try simp at q0); (try simp); omega))))⟩ ?_
  rintro W ⟨kR, kS, hla, be⟩
  have H0 := Lib.hid (h0.below be (Nat.le_refl _))
  have H2 := Lib.hid (h2.below be (Nat.le_refl _))
  clear own2 hd2 hd1 hd1' hb1 hb1' g2 be2 h0 h1 h2 kr hM
  apply wp_region_tab [] 10 77 [some 33, some 34, some 35, some 36, some 37, some 38, some 39, some 40, some 41, some 42] [⟨[], [], [], []⟩, ⟨[], [], [], []⟩, ⟨[], [], [], []⟩, ⟨[2], [2], [2], []⟩, ⟨[2, 3], [3], [3], []⟩, ⟨[2, 3, 4], [4], [4], []⟩, ⟨[2, 3, 4, 5], [5], [5], []⟩, ⟨[0, 1, 2, 3, 4, 5, 6], [0, 1, 5, 6], [0, 1, 5, 6], []⟩, ⟨[0, 1, 2, 3, 4, 5, 6, 7], [7], [7], []⟩, ⟨[], [], [], []⟩] [0, 1, 2, 3, 4, 5, 6, 7, 8, 9] [5, 7, 8, 9] [psiTrue, psiTrue, psiTrue, psiTrue, psiTrue, (fun f lo hi v b0 b1 W => ∃ b, v = .slice (some ⟨b, 0, none⟩) M M ∧ b0 ≤ b ∧ b < b1 ∧ Blk W b 5 ((List.replicate M (0 : UInt8)).map encB).toArray), (fun f lo hi v b0 b1 W => ∃ b, f 5 = .slice (some ⟨b, 0, none⟩) M M ∧ v = .agg #[.slice (some ⟨b, 0, none⟩) M M, .bool false]), (fun f lo hi v b0 b1 W => ∃ b c, f 5 = .slice (some ⟨b, 0, none⟩) M M ∧ v = .slice (some ⟨c, 0, none⟩) 3 3 ∧ b0 ≤ c ∧ c < b1 ∧ Blk W c 43 #[.slice a0 l0.length c0, .bool g0, .slice la ll.length lc, .bool gb, .slice (some ⟨b, 0, none⟩) M M, .bool false]), psiTrue, psiTrue] [kVal _, kVal _, kVal _, kVal _, kVal _, kTrue, kTrue, kTrue, kVal _, kVal _]
  · kernel_rfl
  · kernel_rfl
  · rfl
  · rfl
  · exact trivial
  · exact trivial
  refine ⟨?oR1_0, ?oR1_1, ?oR1_2, ?oR1_3, ?oR1_4, ?oR1_5, ?oR1_6, ?oR1_7, ?oR1_8, ?oR1_9, trivial⟩
  case oR1_0 =>
    intro f lo hi w hb hx hf hk hrg R hR; (try replace hb := BelX.zero hb); (try simp (decide := true) only [go_sem] at hf); (try simp (decide := true) only [go_sem] at hk)
    have kk := kR.below hb kR.lt
    have e0 := kk.cell 0
    have e1 := kk.cell 1
    go_simp
    exact hR _ _ (rpost_val rfl rfl (Below.refl _ _) rfl)
  case oR1_1 =>
    intro f lo hi w hb hx hf hk hrg R hR; (try replace hb := BelX.zero hb); (try simp (decide := true) only [go_sem] at hf); (try simp (decide := true) only [go_sem] at hk)
    have kk := kS.below hb kS.lt
    have e0 := kk.cell 0
    have e1 := kk.cell 1
    go_simp
    exact hR _ _ (rpost_val rfl rfl (Below.refl _ _) rfl)
  case oR1_2 => intro f lo hi w hb hx hf hk hrg R hR; (try replace hb := BelX.zero hb); (try simp (decide := true) only [go_sem] at hf); (try simp (decide := true) only [go_sem] at hk); go_simp; exact hR _ _ (rpost_val rfl rfl (Below.refl _ _) rfl)
  case oR1_3 => intro f lo hi w hb hx hf hk hrg R hR; (try replace hb := BelX.zero hb); (try simp (decide := true) only [go_sem] at hf); (try simp (decide := true) only [go_sem] at hk); go_simp; (with_reducible refine (mk_ModE Er.out _ (by omega) (by omega)).mono ?_); rintro e w' ⟨rfl, rfl⟩; exact ⟨_, rfl, hR _ _ (rpost_val rfl rfl (Below.refl _ _) rfl)⟩
  case oR1_4 => intro f lo hi w hb hx hf hk hrg R hR; (try replace hb := BelX.zero hb); (try simp (decide := true) only [go_sem] at hf); (try simp (decide := true) only [go_sem] at hk); go_simp; exact hR _ _ (rpost_val rfl rfl (Below.refl _ _) rfl)
  case oR1_5 =>
    intro f lo hi w hb hx hf hk hrg R hR; (try replace hb := BelX.zero hb); (try simp (decide := true) only [go_sem] at hf); (try simp (decide := true) only [go_sem] at hk)
    refine obl_makeB M ?_ ?_ (by omega) fun kk => ?_
    · go_simp
    · go_simp
    refine hR _ _ (rpost_none rfl (by repeat (first | (with_reducible refine Below.setCell ?_ ?_ _) | (with_reducible refine Below.alloc ?_ ?_ _) | (with_reducible refine Below.drew ?_) | (with_reducible refine below_drewN ?_ _) | (with_reducible exact Below.refl _ _) | (focus (simp; done)) | (focus (simp; omega)) | (focus omega))) ?_)
    (try simp (decide := true) only [go_sem])
    exact ⟨_, rfl, Nat.le_refl _, by simp, kk⟩
  case oR1_6 =>
    intro f lo hi w hb hx hf hk hrg R hR; (try replace hb := BelX.zero hb); (try simp (decide := true) only [go_sem] at hf); (try simp (decide := true) only [go_sem] at hk)
    obtain ⟨b, h38, -⟩ := hf
    go_simp
    refine hR _ _ (rpost_none rfl (Below.refl _ _) ?_)
    (try simp (decide := true) only [go_sem])
    exact ⟨b, h38, rfl⟩
  case oR1_7 =>
    intro f lo hi w hb hx hf hk hrg R hR; (try replace hb := BelX.zero hb); (try simp (decide := true) only [go_sem] at hf); (try simp (decide := true) only [go_sem] at hk)
    obtain ⟨-, b, h38, h39⟩ := hf
    go_simp
    refine hR _ _ (rpost_none rfl (by repeat (first | (with_reducible refine Below.setCell ?_ ?_ _) | (with_reducible refine Below.alloc ?_ ?_ _) | (with_reducible refine Below.drew ?_) | (with_reducible refine below_drewN ?_ _) | (with_reducible exact Below.refl _ _) | (focus (simp; done)) | (focus (simp; omega)) | (focus omega))) ?_)
    (try simp (decide := true) only [go_sem])
    exact ⟨b, _, h38, rfl, Nat.le_refl _, by simp, Blk.new _ _ _⟩
  case oR1_8 =>
    intro f lo hi w hb hx hf hk hrg R hR; (try replace hb := BelX.zero hb); (try simp (decide := true) only [go_sem] at hf); (try simp (decide := true) only [go_sem] at hk)
    obtain ⟨b, c, -, h40, -⟩ := hf
    go_simp
    exact hR _ _ (rpost_val rfl rfl (Below.refl _ _) rfl)
  case oR1_9 => intro f lo hi w hb hx hf hk hrg R hR; (try replace hb := BelX.zero hb); (try simp (decide := true) only [go_sem] at hf); (try simp (decide := true) only [go_sem] at hk); go_simp; exact hR _ _ (rpost_val rfl rfl (Below.refl _ _) rfl)
  case hcl =>
    refine ⟨Closed.true _ _ _ _, Closed.true _ _ _ _, Closed.true _ _ _ _, Closed.true _ _ _ _, Closed.true _ _ _ _, ?cR1_5, ?cR1_6, ?cR1_7, Closed.true _ _ _ _, Closed.true _ _ _ _, trivial⟩
    · exact fun f lo hi v b0 b1 w w' h hs hB hown hU hX => by
        obtain ⟨b, rfl, h2, h3, h4⟩ := h
        exact ⟨b, rfl, h2, h3, (hown b h2 h3).trans h4⟩
    · exact fun _ _ _ _ _ _ _ _ h _ _ _ _ _ => h
    · exact fun f lo hi v b0 b1 w w' h hs hB hown hU hX => by
        obtain ⟨b, c, h1, h2, h3, h4, h5⟩ := h
        exact ⟨b, c, h1, h2, h3, h4, (hown c h3 h4).trans h5⟩
  intro f lo hi W7 hbr hx hf hk hrg; (try replace hbr := BelX.zero hbr); clear hx; (try simp (decide := true) only [go_sem] at hf); (try simp (decide := true) only [go_sem] at hk)
  obtain ⟨⟨b, h38, hb0, hb1, kz⟩, b', c, h38', h40, hc0, hc1, kc⟩ := hf
  obtain rfl : b = b' := by
    rw [h38] at h38'
    injection h38' with e
    injection e with e
    injection e
  have be7 : RowKit.Below w_0.heap.size w_0 W7 := be.trans (hbr.mono be.size)
  have H2b := Lib.hid (H2.out.below hbr (Nat.le_refl _))
  have HX : Hid (∀ i : Nat, i < 3 → ∃ (xa : Option Addr) (xl : List UInt8) (xc : Nat) (g : Bool), W7.cell? ⟨c, i * 2, none⟩ = some (.slice xa xl.length xc) ∧ W7.cell? ⟨c, i * 2 + 1, none⟩ = some (.bool g) ∧ Byt W7 xa xl ∧ xl.length ≤ 300) := by
    refine Lib.hid fun i hi => ?_
    have hi' : i = 0 ∨ i = 1 ∨ i = 2 := by omega
    rcases hi' with rfl | rfl | rfl
    · exact ⟨a0, l0, c0, g0, kc.cell 0, kc.cell 1, H0.out.below hbr (Nat.le_refl _), hs⟩
    · exact ⟨la, ll, lc, gb, kc.cell 2, kc.cell 3, hla.below hbr (Nat.le_refl _), by omega⟩
    · exact ⟨some ⟨b, 0, none⟩, List.replicate M 0, M, false, (kc.cell 4).trans (by simp), kc.cell 5, kz.rowL, by simp; omega⟩
  have lc' := kc.lt
  clear hrg hbr kz kc h38' hb0 hb1 hc0 hc1 kR kS hla H2 H0
  go_simp
  clear hk h38 h40 e1
  go_wp2_with fail
  go_loopw [42] (fun i wr => ∃ k : Nat, k ≤ 3 ∧ i = .int .i64 k ∧ RowKit.Below W7.heap.size W7 wr) (fun i _ => 3 - (intOf i).toNat)
  case atStart => exact ⟨0, by omega, rfl, RowKit.Below.refl _ _⟩
  case round =>
    obtain ⟨k, hk, rfl, hbr⟩ := hrel
    by_cases hlt : k < 3
    · have hi : (k : Int) < 3 := by omega
      obtain ⟨xa, xl, xc, g, hc, hcg, hxb, hxl⟩ := HX.out k hlt
      have hcr : wr.cell? ⟨c, k * 2, none⟩ = some (.slice xa xl.length xc) := by rw [(bcell hbr).1 _ _ lc']; exact hc
      have hcgr : wr.cell? ⟨c, k * 2 + 1, none⟩ = some (.bool g) := by rw [(bcell hbr).1 _ _ lc']; exact hcg
      have hxr := hxb.below hbr (Nat.le_refl _)
      have h2r := H2b.out.below hbr (Nat.le_refl _)
      clear hc hcg hxb
      go_upto_region 7 with fail
      refine wp_named (fun W => Blk W wr.heap.size 43 #[.slice xa xl.length xc, .bool g] ∧ Byt W xa xl ∧ Byt W a2 l2 ∧ RowKit.Below wr.heap.size wr W) ⟨Blk.new _ _ _, hxr.alloc _, h2r.alloc _, (by repeat (first | (with_reducible refine Below.setCell ?_ ?_ _) | (with_reducible refine Below.alloc ?_ ?_ _) | (with_reducible refine Below.drew ?_) | (with_reducible refine below_drewN ?_ _) | (with_reducible exact Below.refl _ _) | (focus (simp; done)) | (focus (simp; omega)) | (focus omega)))⟩ ?_
      rintro W8 ⟨kx, hx8, h28, be8⟩
      obtain ⟨vb, hvb⟩ : ∃ vb, decide (xl.length ≤ 256) = vb := ⟨_, rfl⟩
      have HVB := Lib.hid hvb
      have u0 := kx.cell 0
      have u1 := kx.cell 1
      have ul := kx.lt
      have rr : ∀ (d : Nat) (os : Array Obj) (o : Nat), (grow (redrawn W8 d) os).cell? ⟨wr.heap.size, o, none⟩ = W8.cell? ⟨wr.heap.size, o, none⟩ := fun d os o => cells_regrown _ _ _ _ _ ul
      have z0 : (vb != vb) = false := by simp
      clear hvb hcr hcgr hxr h2r
      (refine wp_region_quiet_below (by kernel_rfl) (by kernel_rfl) ?_; (repeat (go_big_quiet_step (first | (go_at_call 24; exact qb (stream_ValidV HVB.out xa xl.length xc g _ (by omega))) | (go_at_call 25; exact qb (ref04_ValidV HVB.out xa xl.length xc g _ (by omega)))))); refine wpQuiet_nil ?_; intro wq hwq; have hbq := below_of_regrown hwq; clear hwq)
      have kx9 := kx.below hbq kx.lt
      have hx9 := hx8.below hbq (Nat.le_refl _)
      have h29 := h28.below hbq (Nat.le_refl _)
      clear u0 u1 ul rr kx hx8 h28
      have u0 := kx9.cell 0
      have u1 := kx9.cell 1
      have ul := kx9.lt
      cases vb with
      | false =>
        go_wp2_with ((go_at_call 25; (with_reducible refine (ref04_ValidV HVB.out xa xl.length xc g _ (by omega)).mono ?_); rintro e w4 ⟨rfl, hb4⟩))
        go_roundw
        case rel => exact ⟨k + 1, by omega, by go_num, (by repeat (first | (with_reducible refine Below.setCell ?_ ?_ _) | (with_reducible refine Below.alloc ?_ ?_ _) | (with_reducible refine Below.drew ?_) | (with_reducible refine below_drewN ?_ _) | (with_reducible exact Below.refl _ _) | (with_reducible refine Below.trans ?_ (Below.mono hb4 ?_)) | (with_reducible refine Below.trans ?_ (Below.mono hbq ?_)) | (with_reducible refine Below.trans ?_ (Below.mono be8 ?_)) | (with_reducible refine Below.trans ?_ (Below.mono hbr ?_)) | (focus (simp; done)) | (focus (simp; omega)) | (focus omega) | (focus (have q0 := Below.size hb4; (try simp at q0); have q1 := Below.size hbq; (try simp at q1); have q2 := Below.size be8; (try simp at q2); have q3 := Below.size hbr; (try simp at q3); (try simp); omega))))⟩
        case measure => simp [intOf]; omega
      | true =>
        have hv256 : xl.length ≤ 256 := of_decide_eq_true HVB.out
        go_wp2_with (first | (go_at_call 25; (with_reducible refine (ref04_ValidV HVB.out xa xl.length xc g _ (by omega)).mono ?_); rintro e w4 ⟨rfl, hb4⟩; ((have kx4 := kx9.below hb4 ul); clear u0 u1 ul; (have u0 := kx4.cell 0); (have u1 := kx4.cell 1); (have ul := kx4.lt))) | (go_at_call 26; (with_reducible refine (stream_Put xa xl xc g a2 l2 c2 _ (hx9.below hb4 (Nat.le_refl _)) (h29.below hb4 (Nat.le_refl _)) hv256 k2 (by omega)).mono ?_); rintro e w5 ⟨pa, pc, pn, ok, rfl, hpn, hok, own5, hb5⟩; ((have HPN := Lib.hid hpn); (have HOK := Lib.hid hok); clear hpn hok; (have be5 : RowKit.Below wq.heap.size wq (w5.alloc (.cells #[.slice pa pn pc, .bool g] 43)) := (by repeat (first | (with_reducible refine Below.setCell ?_ ?_ _) | (with_reducible refine Below.alloc ?_ ?_ _) | (with_reducible refine Below.drew ?_) | (with_reducible refine below_drewN ?_ _) | (with_reducible exact Below.refl _ _) | (with_reducible refine Below.trans ?_ (Below.mono hb4 ?_)) | (with_reducible refine Below.trans ?_ (Below.mono hb5 ?_)) | (focus (simp; done)) | (focus (simp; omega)) | (focus omega) | (focus (have q0 := Below.size hb4; (try simp at q0); have q1 := Below.size hb5; (try simp at q1); (try simp); omega))))); (have kx5 := kx9.below be5 kx9.lt); clear u0 u1 ul; (have u0 := kx5.cell 0); (have u1 := kx5.cell 1); (have ul := kx5.lt); (have kp := Blk.new w5 43 #[.slice pa pn pc, .bool g]); (have bp := own5.byt.alloc (.cells #[.slice pa pn pc, .bool g] 43)))) | (go_at_call 27; (with_reducible refine (ref04_Put xa xl xc g a2 l2 c2 _ (hx9.below be5 (Nat.le_refl _)) (h29.below be5 (Nat.le_refl _)) hv256 k2 (by omega)).mono ?_); rintro e w6 ⟨qa, qc, qn, ok', rfl, hqn, hok', own6, hb6⟩; ((have HQN := Lib.hid hqn); (obtain rfl : ok = ok' := HOK.out.trans hok'.symm); clear hqn hok'; (have z5 : (ok != ok) = false := by simp); (have kp6 := kp.below hb6 kp.lt); (have p0 := kp6.cell 0); (have p1 := kp6.cell 1); (have pl := kp6.lt); (have bp6 := (bp.below hb6 (Nat.le_refl _)).alloc (.cells #[.slice qa qn qc, .bool g] 43)); (have bq6 := own6.byt.alloc (.cells #[.slice qa qn qc, .bool g] 43)))) | (go_at_call 21; (with_reducible refine (ref04_SameY pa qa (putL xl l2) _ _ pc qc g _ bp6 bq6 HPN.out HQN.out).mono ?_); rintro e w7 ⟨rfl, hb7⟩))
        go_roundw
        case rel => exact ⟨k + 1, by omega, by go_num, (by repeat (first | (with_reducible refine Below.setCell ?_ ?_ _) | (with_reducible refine Below.alloc ?_ ?_ _) | (with_reducible refine Below.drew ?_) | (with_reducible refine below_drewN ?_ _) | (with_reducible exact Below.refl _ _) | (with_reducible refine Below.trans ?_ (Below.mono hb7 ?_)) | (with_reducible refine Below.trans ?_ (Below.mono hb6 ?_)) | (with_reducible refine Below.trans ?_ (Below.mono hb5 ?_)) | (with_reducible refine Below.trans ?_ (Below.mono hb4 ?_)) | (with_reducible refine Below.trans ?_ (Below.mono hbq ?_)) | (with_reducible refine Below.trans ?_ (Below.mono be8 ?_)) | (with_reducible refine Below.trans ?_ (Below.mono hbr ?_)) | (focus (simp; done)) | (focus (simp; omega)) | (focus omega) | (focus (have q0 := Below.size hb7; (try simp at q0); have q1 := Below.size hb6; (try simp at q1); have q2 := Below.size hb5; (try simp at q2); have q3 := Below.size hb4; (try simp at q3); have q4 := Below.size hbq; (try simp at q4); have q5 := Below.size be8; (try simp at q5); have q6 := Below.size hbr; (try simp at q6); (try simp); omega))))⟩
        case measure => simp [intOf]; omega
    · obtain rfl : k = 3 := by omega
      go_wp2_with ((go_at_call 16; (with_reducible refine (awake_yes _).mono ?_); rintro e w20 ⟨rfl, hb20⟩))
      go_ret
      exact ⟨rfl, (by repeat (first | (with_reducible refine Below.setCell ?_ ?_ _) | (with_reducible refine Below.alloc ?_ ?_ _) | (with_reducible refine Below.drew ?_) | (with_reducible refine below_drewN ?_ _) | (with_reducible exact Below.refl _ _) | (with_reducible refine Below.trans ?_ (Below.mono hb20 ?_)) | (with_reducible refine Below.trans ?_ (Below.mono hbr ?_)) | (with_reducible refine Below.trans ?_ (Below.mono be7 ?_)) | (focus (simp; done)) | (focus (simp; omega)) | (focus omega) | (focus (have q0 := Below.size hb20; (try simp at q0); have q1 := Below.size hbr; (try simp at q1); have q2 := Below.size be7; (try simp at q2); (try simp); omega))))⟩
end Go.Proofs.Ytjnajccobieamaa
