/- record.Flashing, signalbrokerref23.Flashing: views -/
import Derived.Test.YtpjnajallekjoaaService
namespace Go.Proofs.Ytpjnajallekjoaa
set_option linter.unusedVariables false
open Go.RowKit Go.Sort
set_option maxRecDepth 100000

theorem obl_makeI {w : World} {ρ : Operand → Value} {R : Value → World → Prop} {dst : Option Tmp} {x y : Operand} {ty : TypeId} {pos : String} {after : Array Edge} {guard : Option (Nat × Bool)}
    (n : Nat) (hx : ρ x = .int .i64 n) (hy : ρ y = .int .i64 n) (hn : n ≤ 100000)
    (h : Blk (w.alloc (.cells ((List.replicate n (0 : Int)).map encI).toArray 3)) w.heap.size 3 ((List.replicate n (0 : Int)).map encI).toArray → R (.slice (some ⟨w.heap.size, 0, none⟩) n n) (w.alloc (.cells ((List.replicate n (0 : Int)).map encI).toArray 3))) :
    oblUpon Try.prog R ((execOp ρ { dst, op := .makeSlice 22 x y, type := ty, pos, after, guard }).run Try.prog w) := by
  obtain ⟨i0, hi, hz0, hz1, hz2⟩ := info_parts info_int
  have hrun := run_make (P := Try.prog) w 22 3 i0 _ Try.underlying22 hi hz0 .i64 .i64 n n (by omega) (by omega) (by rw [hz2]; omega) (by omega)
  have e : madeCells (Value.int .i64 0).cells (n * 1) = ((List.replicate n (0 : Int)).map encI).toArray := by
    rw [Nat.mul_one, List.map_replicate]
    exact madeCells_one _ _
  simp only [Int.toNat_natCast, hz1] at hrun
  rw [e] at hrun
  simp only [execOp, hx, hy, Sem.run_bind, Result.andThen_ok, hrun]
  exact h (Blk.new _ _ _)
@[reducible] def vAgg (fl ov : Bool) (n : Nat) (ca : Option Addr) (cc : Nat) (na : Option Addr) (nc : Nat) : Value := .agg #[.bool fl, .bool ov, .slice ca n cc, .slice na n nc]
def FlashR (n : Nat) (w : World) (e : Ending) (w' : World) : Prop :=
  ∃ B C : Nat, e = .returned (vAgg true false n (some ⟨B, 0, none⟩) n (some ⟨C, 0, none⟩) n) ∧ w.heap.size ≤ B ∧ w.heap.size ≤ C ∧ B ≠ C ∧ Blk w' B 3 ((List.replicate n (0 : Int)).map encI).toArray ∧ Blk w' C 3 ((List.replicate n (0 : Int)).map encI).toArray ∧ Below w.heap.size w w'
set_option maxHeartbeats 4000000 in
theorem ref23_Flashing (jb jc jb2 jc2 n : Nat) (s : Int) (Z : World) (hn : n ≤ 8) :
    Calls Try.prog 40 #[jAgg jb jc jb2 jc2 n s] Z (FlashR n Z) := by
  go_enter Try.func40, Try.ntmps40
  go_upto_region 1 with fail
  refine wp_named (fun W => Blk W Z.heap.size 55 #[.slice (some ⟨jb, 0, none⟩) n jc, .slice (some ⟨jb2, 0, none⟩) n jc2, .int .i64 s] ∧ Blk W (Z.heap.size + 1) 36 #[.bool false, .bool false, .slice none 0 0, .slice none 0 0] ∧ RowKit.Below Z.heap.size Z W ∧ Z.heap.size + 2 ≤ W.heap.size) ⟨(Blk.new _ _ _).alloc _, Blk.next _ _ _ _, (by repeat (first | (with_reducible refine Below.setCell ?_ ?_ _) | (with_reducible refine Below.alloc ?_ ?_ _) | (with_reducible refine Below.drew ?_) | (with_reducible refine below_drewN ?_ _) | (with_reducible exact Below.refl _ _) | (focus (simp; done)) | (focus (simp; omega)) | (focus omega))), by simp⟩ ?_
  rintro W ⟨kj, kr, be, sz⟩
  apply wp_region_tab [((Z.heap.size+1), (Z.heap.size+1+1))] 10 12 [some 3, some 4, some 5, some 6, some 7, some 8, some 9, some 10, some 11, none] [⟨[10], [], [], []⟩, ⟨[0, 10], [0], [0], []⟩, ⟨[0, 1, 10], [1], [1], []⟩, ⟨[0, 1, 2, 10], [2], [2], []⟩, ⟨[10], [], [], []⟩, ⟨[4, 10], [4], [4], []⟩, ⟨[4, 5, 10], [5], [5], []⟩, ⟨[4, 5, 6, 10], [6], [6], []⟩, ⟨[0, 1, 2, 3, 4, 5, 6, 7, 10], [3, 7], [3, 7], []⟩, ⟨[0, 1, 2, 3, 4, 5, 6, 7, 8, 10], [3, 7, 8, 10], [3, 7, 8, 10], [10]⟩, ⟨[], [], [], []⟩] [0, 1, 2, 3, 4, 5, 6, 7, 8, 9] [3, 7, 9] [psiTrue, psiTrue, psiTrue, (fun f lo hi v b0 b1 W => ∃ B : Nat, v = .slice (some ⟨B, 0, none⟩) n n ∧ b0 ≤ B ∧ B < b1 ∧ Blk W B 3 ((List.replicate n (0 : Int)).map encI).toArray), psiTrue, psiTrue, psiTrue, (fun f lo hi v b0 b1 W => ∃ B : Nat, v = .slice (some ⟨B, 0, none⟩) n n ∧ b0 ≤ B ∧ B < b1 ∧ Blk W B 3 ((List.replicate n (0 : Int)).map encI).toArray), (fun f lo hi v b0 b1 W => v = .agg #[.bool true, .bool false, f 3, f 7]), (fun f lo hi v b0 b1 W => ∃ B C : Nat, f 3 = .slice (some ⟨B, 0, none⟩) n n ∧ f 7 = .slice (some ⟨C, 0, none⟩) n n ∧ Blk W (Z.heap.size+1) 36 #[.bool true, .bool false, .slice (some ⟨B, 0, none⟩) n n, .slice (some ⟨C, 0, none⟩) n n]), (fun f lo hi v b0 b1 W => (b0 = (Z.heap.size+1) ∧ b1 = (Z.heap.size+1+1)) ∧ Blk W (Z.heap.size+1) 36 #[.bool false, .bool false, .slice none 0 0, .slice none 0 0])] [kVal _, kVal _, kVal _, kTrue, kVal _, kVal _, kVal _, kTrue, kTrue, kTrue]
  · kernel_rfl
  · kernel_rfl
  · rfl
  · rfl
  rotate_left 2
  refine ⟨?oR1_0, ?oR1_1, ?oR1_2, ?oR1_3, ?oR1_4, ?oR1_5, ?oR1_6, ?oR1_7, ?oR1_8, ?oR1_9, trivial⟩
  case hx => exact ⟨⟨by omega, by omega⟩, by simp, trivial⟩
  case hX => exact ⟨fun _ _ _ _ => ⟨⟨rfl, rfl⟩, kr⟩, trivial⟩
  case oR1_0 => intro f lo hi w hb hx hf hk hrg R hR; (try replace hb := BelX.zero hb); (try simp (decide := true) only [go_sem] at hf); (try simp (decide := true) only [go_sem] at hk); go_simp; exact hR _ _ (rpost_val rfl rfl (Below.refl _ _) rfl)
  case oR1_1 =>
    intro f lo hi w hb hx hf hk hrg R hR; (try replace hb := BelX.zero hb); (try simp (decide := true) only [go_sem] at hf); (try simp (decide := true) only [go_sem] at hk)
    have e0 := (hb.blk kj (fun r hr => by simp at hr; subst hr; simp only; omega)).cell 0
    go_simp
    exact hR _ _ (rpost_val rfl rfl (Below.refl _ _) rfl)
  case oR1_2 => intro f lo hi w hb hx hf hk hrg R hR; (try replace hb := BelX.zero hb); (try simp (decide := true) only [go_sem] at hf); (try simp (decide := true) only [go_sem] at hk); go_simp; exact hR _ _ (rpost_val rfl rfl (Below.refl _ _) rfl)
  case oR1_3 =>
    intro f lo hi w hb hx hf hk hrg R hR; (try replace hb := BelX.zero hb); (try simp (decide := true) only [go_sem] at hf); (try simp (decide := true) only [go_sem] at hk)
    refine obl_makeI n ?_ ?_ (by omega) fun kk => ?_
    · go_simp
    · go_simp
    refine hR _ _ (rpost_none rfl (by repeat (first | (with_reducible refine Below.setCell ?_ ?_ _) | (with_reducible refine Below.alloc ?_ ?_ _) | (with_reducible refine Below.drew ?_) | (with_reducible refine below_drewN ?_ _) | (with_reducible exact Below.refl _ _) | (focus (simp; done)) | (focus (simp; omega)) | (focus omega))) ?_)
    (try simp (decide := true) only [go_sem])
    exact ⟨_, rfl, Nat.le_refl _, by simp, kk⟩
  case oR1_4 => intro f lo hi w hb hx hf hk hrg R hR; (try replace hb := BelX.zero hb); (try simp (decide := true) only [go_sem] at hf); (try simp (decide := true) only [go_sem] at hk); go_simp; exact hR _ _ (rpost_val rfl rfl (Below.refl _ _) rfl)
  case oR1_5 =>
    intro f lo hi w hb hx hf hk hrg R hR; (try replace hb := BelX.zero hb); (try simp (decide := true) only [go_sem] at hf); (try simp (decide := true) only [go_sem] at hk)
    have e0 := (hb.blk kj (fun r hr => by simp at hr; subst hr; simp only; omega)).cell 0
    go_simp
    exact hR _ _ (rpost_val rfl rfl (Below.refl _ _) rfl)
  case oR1_6 => intro f lo hi w hb hx hf hk hrg R hR; (try replace hb := BelX.zero hb); (try simp (decide := true) only [go_sem] at hf); (try simp (decide := true) only [go_sem] at hk); go_simp; exact hR _ _ (rpost_val rfl rfl (Below.refl _ _) rfl)
  case oR1_7 =>
    intro f lo hi w hb hx hf hk hrg R hR; (try replace hb := BelX.zero hb); (try simp (decide := true) only [go_sem] at hf); (try simp (decide := true) only [go_sem] at hk)
    refine obl_makeI n ?_ ?_ (by omega) fun kk => ?_
    · go_simp
    · go_simp
    refine hR _ _ (rpost_none rfl (by repeat (first | (with_reducible refine Below.setCell ?_ ?_ _) | (with_reducible refine Below.alloc ?_ ?_ _) | (with_reducible refine Below.drew ?_) | (with_reducible refine below_drewN ?_ _) | (with_reducible exact Below.refl _ _) | (focus (simp; done)) | (focus (simp; omega)) | (focus omega))) ?_)
    (try simp (decide := true) only [go_sem])
    exact ⟨_, rfl, Nat.le_refl _, by simp, kk⟩
  case oR1_8 =>
    intro f lo hi w hb hx hf hk hrg R hR; (try replace hb := BelX.zero hb); (try simp (decide := true) only [go_sem] at hf); (try simp (decide := true) only [go_sem] at hk)
    obtain ⟨⟨B, h6, -⟩, C, h10, -⟩ := hf
    go_simp
    refine hR _ _ (rpost_none rfl (Below.refl _ _) ?_)
    (try simp (decide := true) only [go_sem])
    rw [h6, h10]
  case oR1_9 =>
    intro f lo hi w hb hx hf hk hrg R hR; (try replace hb := BelX.zero hb); (try simp (decide := true) only [go_sem] at hf); (try simp (decide := true) only [go_sem] at hk)
    obtain ⟨⟨B, h6, -⟩, ⟨C, h10, -⟩, h11, -, kb⟩ := hf
    rw [h6, h10] at h11
    obtain ⟨e0, e1, e2, e3⟩ := kb.four'
    have fz := kb.frozen
    have p1 : lo 10 = _ := (XOk.get _ _ hx 0 _ rfl).1
    have p2 : hi 10 = _ := (XOk.get _ _ hx 0 _ rfl).2
    go_simp
    refine hR _ _ (rpost_some rfl rfl (Touch.set4 w (List.mem_singleton.2 rfl) (Nat.le_of_eq p1) (by rw [p2]; exact Nat.lt_succ_self _) _ _ _ _) ?_)
    (try simp (decide := true) only [go_sem])
    exact ⟨B, C, h6, h10, kb.set4 _ _ _ _⟩
  case hcl =>
    refine ⟨Closed.true _ _ _ _, Closed.true _ _ _ _, Closed.true _ _ _ _, ?cR1_3, Closed.true _ _ _ _, Closed.true _ _ _ _, Closed.true _ _ _ _, ?cR1_7, ?cR1_8, ?cR1_9, ?cR1_10, trivial⟩
    all_goals first
      | exact fun f lo hi v b0 b1 w w' h hs hB hown hU hX => by
          obtain ⟨B, h1, h2, h3, kk⟩ := h
          exact ⟨B, h1, h2, h3, (hown B h2 h3).trans kk⟩
      | exact fun f lo hi v b0 b1 w w' h hs hB hown hU hX => by
          obtain ⟨B, C, h1, h2, h3⟩ := h
          exact ⟨B, C, h1, h2, (hX 0 _ rfl (by simp) _ (Nat.le_refl _) (Nat.lt_succ_self _)).trans h3⟩
      | exact fun f lo hi v b0 b1 w w' h hs hB hown hU hX => by
          obtain ⟨⟨rfl, rfl⟩, kb⟩ := h
          exact ⟨⟨rfl, rfl⟩, (hown _ (Nat.le_refl _) (Nat.lt_succ_self _)).trans kb⟩
      | exact fun _ _ _ _ _ _ _ _ h _ _ _ _ _ => h
  intro f lo hi W7 hbr hx hf hk hrg; (try replace hbr := BelX.zero hbr); clear hx; (try simp (decide := true) only [go_sem] at hf); (try simp (decide := true) only [go_sem] at hk)
  obtain ⟨⟨B, h6, B1, B2, kB⟩, ⟨C, h10, C1, C2, kC⟩, B', C', h6', h10', k7⟩ := hf
  obtain ⟨rfl, rfl⟩ : B = B' ∧ C = C' := by
    rw [h6] at h6'
    rw [h10] at h10'
    injection h6' with e1
    injection e1 with e1
    injection e1 with e1
    injection h10' with e2
    injection e2 with e2
    injection e2 with e2
    exact ⟨e1, e2⟩
  have q3 := (hrg.out 3 (by simp)).1
  have q7 := (hrg.out 7 (by simp)).1
  have hBC : B ≠ C := fun e => by
    rcases (hrg.out 3 (by simp)).2.2.2 7 (by simp) (by decide) with h | h <;> omega
  have bx : RowKit.Below Z.heap.size Z W7 := ⟨hbr.1.trans be.os, hbr.2.1.trans be.tape, hbr.2.2.1.trans be.output, Nat.le_trans be.size hbr.2.2.2.1, fun k hk => (hbr.2.2.2.2 k ⟨by omega, fun r hr => by simp at hr; subst hr; simp only; omega⟩).trans (be.block k hk)⟩
  obtain ⟨d0, d1, d2, d3⟩ := k7.four'
  clear hrg hbr h6' h10'
  go_simp
  clear hk h6 h10
  go_wp2
  exact bodyPost_ret (v := vAgg true false n (some ⟨B, 0, none⟩) n (some ⟨C, 0, none⟩) n) (by simp [results, Try.results40, go_sem, d0, d1, d2, d3]) rfl ⟨B, C, rfl, by omega, by omega, hBC, kB, kC, bx⟩
end Go.Proofs.Ytpjnajallekjoaa
