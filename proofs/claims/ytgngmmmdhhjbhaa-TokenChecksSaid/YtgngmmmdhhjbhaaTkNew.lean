/- signalbrokerref14.New -/
import Derived.Test.YtgngmmmdhhjbhaaTkRev
import Derived.Test.YtgngmmmdhhjbhaaReg
import Derived.Test.YtgngmmmdhhjbhaaApr
namespace Go.Proofs.Ytgngmmmdhhjbhaa
set_option linter.unusedVariables false
open Go.RowKit Go.Sort
set_option maxRecDepth 100000

@[reducible] def agAgg (sa : Option Addr) (sn sc : Nat) (rt cl : Int) (la : Option Addr) (ln lc : Nat) (rq se ra bu : Int) : Value := .agg #[.slice sa sn sc, .int .i64 rt, .int .i64 cl, .slice la ln lc, .int .i64 rq, .int .i64 se, .int .i64 ra, .int .i64 bu]
def newK (sec : List UInt8) (rt cl : Int) : List TkK := ⟨true, sec, -1, rt, cl, 0⟩ :: List.replicate 7 freeK
theorem Own.ofRaw {w : World} {B : Nat} {e : TypeId} {S n cap g : Nat} {xs cur : List Value} (k : Blk w g e cur.toArray) (hB : B ≤ g) (hn : n ≤ cap) (hm : cap ≤ maxLen) (hl : cur.length = cap * S) (ht : cur.take (n * S) = xs) : Own w B e S (some ⟨g, 0, none⟩) n cap xs := by
  have hx : xs.length = n * S := by
    rw [← ht, List.length_take, hl]
    exact Nat.min_eq_left (Nat.mul_le_mul_right _ hn)
  exact ⟨hx, .inr ⟨g, cap, cur.toArray, rfl, hB, k, hn, hm, by simpa using hl, by simpa using ht⟩⟩
theorem obl_appB0 {ρ : Operand → Value} {R : Value → World → Prop} {w : World} {dst : Option Tmp} {s x : Operand} {ty : TypeId} {pos : String} {after : Array Edge} {guard : Option (Nat × Bool)}
    (A : Option Addr) (m c : Nat) (k : List UInt8) (hs : ρ s = .slice none 0 0) (hx : ρ x = .slice A m c) (hr : Byt w A k) (hm : m = k.length) (hbig : m ≤ 1000000)
    (h : ∀ b' cap' w', Own w' w.heap.size 5 1 b' m cap' (k.map encB) → Below w.heap.size w w' → R (.slice b' m cap') w') :
    oblUpon Try.prog R ((execOp ρ { dst, op := .call { callee := .builtin .append, args := #[s, x], argTypes := #[24, 24] }, type := ty, pos, after, guard }).run Try.prog w) := by
  obtain ⟨i0, hi, hz0, hz1, hz2⟩ := info_parts info_byte
  obtain ⟨b', cap', w', hrun, own', g⟩ := run_append_row (P := Try.prog) w w.heap.size 24 ty _ i0 _ 1 1 Try.underlying24 hi hz0 hz1 hz2 rfl (by decide) none 0 0 [] (Own.nil _ _ _ _) A m c (k.map encB) (by simp [hm]) hr (mapB_one _) (by simp only [maxLen]; omega) (by omega) (Nat.le_refl _)
  simp only [execOp, resolve, invoke, builtin, Sem.run_bind, Sem.run_pure, Result.andThen_ok, List.map_toArray, List.map_cons, List.map_nil, hs, hx, hrun]
  rw [Nat.zero_add] at own' ⊢
  exact h b' cap' w' (by simpa using own') (Grew.step (Own.nil w w.heap.size 5 1) g w (Below.refl _ _))
set_option maxHeartbeats 4000000 in
theorem ref14_New (sa : Option Addr) (sec : List UInt8) (sn sc : Nat) (rt cl : Int) (la : Option Addr) (ln lc : Nat) (rq se ra bu : Int) (w : World) (hs : Byt w sa sec) (hsn : sn = sec.length) (hs9 : sn ≤ 100000) :
    Calls Try.prog 34 #[agAgg sa sn sc rt cl la ln lc rq se ra bu] w fun e w' => ∃ (xa : Option Addr) (xc : Nat) (l2 : List Tk), e = .returned (.slice xa 8 xc) ∧ Hid (l2.map Tk.key = newK sec rt cl) ∧ Hid (8 = l2.length) ∧ TkL w' w.heap.size l2 xa xc ∧ Below w.heap.size w w' := by
  have HSN := Lib.hid hsn
  clear hsn
  go_enter Try.func34, Try.ntmps34
  go_upto_region 1 with fail
  obtain ⟨V, hV⟩ : ∃ V, w.heap.size = V := ⟨_, rfl⟩
  refine wp_named (fun W => Blk W V 32 #[.slice sa sn sc, .int .i64 rt, .int .i64 cl, .slice la ln lc, .int .i64 rq, .int .i64 se, .int .i64 ra, .int .i64 bu] ∧ Byt W sa sec ∧ RowKit.Below V w W) ⟨by rw [← hV]; exact Blk.new _ _ _, Row.alloc hs _, by rw [← hV]; exact (by repeat (first | (with_reducible refine Below.setCell ?_ ?_ _) | (with_reducible refine Below.alloc ?_ ?_ _) | (with_reducible refine Below.drew ?_) | (with_reducible refine below_drewN ?_ _) | (with_reducible exact Below.refl _ _) | (focus (simp; done)) | (focus (simp; omega)) | (focus omega)))⟩ ?_
  have HV := Lib.hid hV
  rw [hV]
  clear hV hs
  rintro W ⟨kV, hs, be⟩
  have vl := kV.lt
  apply wp_region_tab [] 10 21 [some 4, some 5, some 6, some 7, some 8, some 9, some 10, some 11, some 12, some 3] [⟨[], [], [], []⟩, ⟨[0], [0], [0], []⟩, ⟨[0, 1], [1], [1], []⟩, ⟨[], [], [], []⟩, ⟨[3], [3], [3], []⟩, ⟨[], [], [], []⟩, ⟨[5], [5], [5], []⟩, ⟨[0, 1, 2, 3, 4, 5, 6], [2, 4, 6], [2, 4, 6], []⟩, ⟨[0, 1, 2, 3, 4, 5, 6, 7], [2, 7], [2, 7], []⟩, ⟨[0, 1, 2, 3, 4, 5, 6, 7, 8], [8], [8], []⟩] [0, 1, 2, 3, 4, 5, 6, 7, 8, 9] [2, 8, 9] [psiTrue, psiTrue, (fun f lo hi v b0 b1 W => ∃ (ca : Option Addr) (cc : Nat), v = .slice ca sn cc ∧ Own W b0 5 1 ca sn cc (sec.map encB) ∧ ∀ y, ca.map (·.block) = some y → y < b1), psiTrue, psiTrue, psiTrue, psiTrue, (fun f lo hi v b0 b1 W => v = .agg #[.bool true, f 2, .int .i64 (-1), .int .i64 rt, .int .i64 cl, .int .i64 0]), (fun f lo hi v b0 b1 W => ∃ g, v = .slice (some ⟨g, 0, none⟩) 1 1 ∧ b0 ≤ g ∧ g < b1 ∧ Blk W g 52 #[.bool true, f 2, .int .i64 (-1), .int .i64 rt, .int .i64 cl, .int .i64 0]), (fun f _ _ v _ _ _ => v = f 8)] [kVal _, kVal _, kTrue, kVal _, kVal _, kVal _, kVal _, kTrue, kTrue, kTrue]
  · kernel_rfl
  · kernel_rfl
  · rfl
  · rfl
  · exact trivial
  · exact trivial
  refine ⟨?oR1_0, ?oR1_1, ?oR1_2, ?oR1_3, ?oR1_4, ?oR1_5, ?oR1_6, ?oR1_7, ?oR1_8, ?oR1_9, trivial⟩
  case oR1_0 => intro f lo hi w hb hx hf hk hrg R hR; (try replace hb := BelX.zero hb); (try simp (decide := true) only [go_sem] at hf); (try simp (decide := true) only [go_sem] at hk); go_simp; exact hR _ _ (rpost_val rfl rfl (Below.refl _ _) rfl)
  case oR1_1 =>
    intro f lo hi w hb hx hf hk hrg R hR; (try replace hb := BelX.zero hb); (try simp (decide := true) only [go_sem] at hf); (try simp (decide := true) only [go_sem] at hk)
    have kk := kV.below hb vl
    have e0 := kk.cell 0
    have hl := kk.lt
    go_simp
    exact hR _ _ (rpost_val rfl rfl (Below.refl _ _) rfl)
  case oR1_2 =>
    intro f lo hi w hb hx hf hk hrg R hR; (try replace hb := BelX.zero hb); (try simp (decide := true) only [go_sem] at hf); (try simp (decide := true) only [go_sem] at hk)
    refine obl_appB0 sa sn sc sec ?_ ?_ (hs.below hb (Nat.le_refl _)) HSN.out (by omega) fun b' cap' w' own' hb' => ?_
    · go_simp
    · go_simp
    exact hR _ _ (rpost_none rfl hb' ⟨b', cap', rfl, own', own'.lt'⟩)
  case oR1_3 => intro f lo hi w hb hx hf hk hrg R hR; (try replace hb := BelX.zero hb); (try simp (decide := true) only [go_sem] at hf); (try simp (decide := true) only [go_sem] at hk); go_simp; exact hR _ _ (rpost_val rfl rfl (Below.refl _ _) rfl)
  case oR1_4 =>
    intro f lo hi w hb hx hf hk hrg R hR; (try replace hb := BelX.zero hb); (try simp (decide := true) only [go_sem] at hf); (try simp (decide := true) only [go_sem] at hk)
    have kk := kV.below hb vl
    have e0 := kk.cell 1
    have hl := kk.lt
    go_simp
    exact hR _ _ (rpost_val rfl rfl (Below.refl _ _) rfl)
  case oR1_5 => intro f lo hi w hb hx hf hk hrg R hR; (try replace hb := BelX.zero hb); (try simp (decide := true) only [go_sem] at hf); (try simp (decide := true) only [go_sem] at hk); go_simp; exact hR _ _ (rpost_val rfl rfl (Below.refl _ _) rfl)
  case oR1_6 =>
    intro f lo hi w hb hx hf hk hrg R hR; (try replace hb := BelX.zero hb); (try simp (decide := true) only [go_sem] at hf); (try simp (decide := true) only [go_sem] at hk)
    have kk := kV.below hb vl
    have e0 := kk.cell 2
    have hl := kk.lt
    go_simp
    exact hR _ _ (rpost_val rfl rfl (Below.refl _ _) rfl)
  case oR1_7 =>
    intro f lo hi w hb hx hf hk hrg R hR; (try replace hb := BelX.zero hb); (try simp (decide := true) only [go_sem] at hf); (try simp (decide := true) only [go_sem] at hk)
    obtain ⟨ca, cc, h6, -⟩ := hf
    have H6 := Lib.hid h6
    go_simp
    refine hR _ _ (rpost_none rfl (Below.refl _ _) ?_)
    (try simp (decide := true) only [go_sem])
    rw [H6.out]
  case oR1_8 =>
    intro f lo hi w hb hx hf hk hrg R hR; (try replace hb := BelX.zero hb); (try simp (decide := true) only [go_sem] at hf); (try simp (decide := true) only [go_sem] at hk)
    obtain ⟨⟨ca, cc, h6, -⟩, h11⟩ := hf
    have H6 := Lib.hid h6
    rw [h6] at h11
    clear h6
    go_simp
    refine hR _ _ (rpost_none rfl (by repeat (first | (with_reducible refine Below.setCell ?_ ?_ _) | (with_reducible refine Below.alloc ?_ ?_ _) | (with_reducible refine Below.drew ?_) | (with_reducible refine below_drewN ?_ _) | (with_reducible exact Below.refl _ _) | (focus (simp; done)) | (focus (simp; omega)) | (focus omega))) ?_)
    (try simp (decide := true) only [go_sem])
    exact ⟨_, rfl, Nat.le_refl _, by simp, by rw [H6.out]; exact Blk.new _ _ _⟩
  case oR1_9 => intro f lo hi w hb hx hf hk hrg R hR; (try replace hb := BelX.zero hb); (try simp (decide := true) only [go_sem] at hf); (try simp (decide := true) only [go_sem] at hk); go_simp; exact hR _ _ (rpost_none rfl (Below.refl _ _) rfl)
  case hcl =>
    refine ⟨Closed.true _ _ _ _, Closed.true _ _ _ _, ?cR1_2, Closed.true _ _ _ _, Closed.true _ _ _ _, Closed.true _ _ _ _, Closed.true _ _ _ _, ?cR1_7, ?cR1_8, ?cR1_9, trivial⟩
    all_goals first | (intro f lo hi v b0 b1 w w' h hs hB hown hU hX; obtain ⟨ca, cc, h1, own, lt⟩ := h; exact ⟨ca, cc, h1, own.keep fun b hb hl _ => hown b hl (lt b (by rw [hb]; rfl)), lt⟩) | (intro f lo hi v b0 b1 w w' h hs hB hown hU hX; obtain ⟨g, h1, h2, h3, h4⟩ := h; exact ⟨g, h1, h2, h3, (hown g h2 h3).trans h4⟩) | (intro f lo hi v b0 b1 w w' h hs hB hown hU hX; exact h)
  intro f lo hi W7 hbr hx hf hk hrg; (try replace hbr := BelX.zero hbr); clear hx; (try simp (decide := true) only [go_sem] at hf); (try simp (decide := true) only [go_sem] at hk)
  obtain ⟨⟨ca, cc, h6, own6, -⟩, ⟨g, h12, gb0, -, kg⟩, h3⟩ := hf
  rw [h6] at kg
  rw [h12] at h3
  have r6 : W.heap.size ≤ lo 2 := (hrg.out 2 (by simp)).1
  have r12 : W.heap.size ≤ lo 8 := (hrg.out 8 (by simp)).1
  have hVW : V ≤ W.heap.size := by omega
  have be7 : RowKit.Below V w W7 := be.trans (hbr.mono hVW)
  have il : TkL W7 V [⟨true, sec, -1, rt, cl, 0, ca, cc⟩] (some ⟨g, 0, none⟩) 1 := by
    refine ⟨Own.ofRaw (cur := tkCells [⟨true, sec, -1, rt, cl, 0, ca, cc⟩]) ?_ (by omega) (Nat.le_refl _) (by decide) (by simp [tkCells_len]) (by simp [tkCells, Tk.cells]), fun t ht => ?_⟩
    · rw [HSN.out] at kg; exact kg
    · rw [List.mem_singleton.1 ht]
      have o := own6.mono (base' := V) (by omega)
      rw [HSN.out] at o
      exact o
  have hs7 := be7.size
  go_simp
  clear hk h6 h12 h3 hrg hbr kg own6 gb0 r6 r12 be kV vl
  go_wp2_with fail
  go_loopw [3] (fun s3 wr => ∃ (m : Nat) (xa : Option Addr) (xc : Nat) (l2 : List Tk), s3 = .slice xa m xc ∧ 1 ≤ m ∧ m ≤ 8 ∧ Hid (m = l2.length) ∧ Hid (l2.map Tk.key = ⟨true, sec, -1, rt, cl, 0⟩ :: List.replicate (m - 1) freeK) ∧ TkL wr V l2 xa xc ∧ RowKit.Below V w wr ∧ V ≤ wr.heap.size) (fun s3 _ => 8 - (match s3 with | .slice _ n _ => n | _ => 0))
  case atStart => exact ⟨1, _, _, _, rfl, by omega, by omega, Lib.hid rfl, Lib.hid rfl, il, be7, by have := HV.out; omega⟩
  case round =>
    clear il be7
    obtain ⟨m, xa, xc, l2, rfl, h1, h8, hm, hk, il, be, hz⟩ := hrel
    by_cases hlt : m < 8
    · have hmi : (m : Int) < 8 := by omega
      go_wp2_with ((at_builtin; refine app1Tk rfl _ _ rfl V xa m xc l2 rfl hm.out ⟨false, [], -1, 0, 0, 0, none, 0⟩ wr.heap.size rfl (Blk.new _ _ _) (il.alloc _) (by simp; omega) (Own.nil _ _ _ _) (by omega) ?_; intro xb xd w5 il5 g5 bl5))
      have be5 := bl5 _ (be.alloc hz _)
      go_roundw
      case rel => exact ⟨m + 1, xb, xd, _, rfl, by omega, by omega, Lib.hid (by simp [hm.out]), Lib.hid (by
        rw [List.map_append, hk.out]
        obtain ⟨q, rfl⟩ : ∃ q, m = q + 1 := ⟨m - 1, by omega⟩
        simp [List.replicate_succ', Tk.key, freeK]), il5, be5, by have := g5.1.size; simp at this; omega⟩
      case measure => simp; omega
    · obtain rfl : m = 8 := by omega
      go_wp2_with fail
      go_ret
      have hVV := HV.out
      exact ⟨xa, xc, l2, rfl, hk, hm, by rw [hVV]; exact il, by rw [hVV]; exact be⟩
end Go.Proofs.Ytgngmmmdhhjbhaa
