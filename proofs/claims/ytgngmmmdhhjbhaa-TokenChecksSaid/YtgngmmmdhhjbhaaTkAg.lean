/- signalbrokerlaw14.agency -/
import Derived.Test.YtgngmmmdhhjbhaaTkAwk
import Derived.Test.YtgngmmmdhhjbhaaReg
namespace Go.Proofs.Ytgngmmmdhhjbhaa
set_option linter.unusedVariables false
open Go.RowKit Go.Sort
set_option maxRecDepth 100000

/-- an agency of the law's -/
def AgR (w : World) (e : Ending) (w' : World) : Prop := ∃ (sa : Option Addr) (sc : Nat) (rt cl : Int), e = .returned (agAgg sa 8 sc rt cl none 0 0 0 0 0 0) ∧ (rt = 63 ∨ rt = 47 ∨ rt = 7) ∧ 0 ≤ cl ∧ cl ≤ 3 ∧ Own w' w.heap.size 5 1 sa 8 sc ((secX 1000).map encB) ∧ Below w.heap.size w w'
set_option maxHeartbeats 4000000 in
theorem law_agency (n : Int) (Z : World) : Calls Try.prog 14 #[.int .i64 n] Z (AgR Z) := by
  obtain ⟨r, hr, r0, r1⟩ := modName n 3 (by decide)
  obtain ⟨q, hq⟩ : ∃ q, n.tdiv 3 = q := ⟨_, rfl⟩
  obtain ⟨c, hc, c0, c1⟩ := modName (IntKind.i64.wrap q) 4 (by decide)
  obtain ⟨rt, hrt, hrt3⟩ : ∃ rt : Int, (∀ (W : World) (g : Nat), Blk W g 3 #[.int .i64 63, .int .i64 47, .int .i64 7] → W.cell? ⟨g, r.toNat, none⟩ = some (.int .i64 rt)) ∧ (rt = 63 ∨ rt = 47 ∨ rt = 7) := by
    have : r = 0 ∨ r = 1 ∨ r = 2 := by omega
    rcases this with rfl | rfl | rfl
    · exact ⟨63, fun W g k => k.cell 0, by simp⟩
    · exact ⟨47, fun W g k => k.cell 1, by simp⟩
    · exact ⟨7, fun W g k => k.cell 2, by simp⟩
  obtain ⟨R0, rfl⟩ : ∃ R0 : Nat, r = R0 := ⟨r.toNat, by omega⟩
  simp only [Int.toNat_natCast] at hrt
  have HRT := Lib.hid hrt
  clear hrt
  go_enter Try.func14, Try.ntmps14
  go_upto_region 1 with fail
  refine wp_named (fun W => Blk W Z.heap.size 32 #[.slice none 0 0, .int .i64 0, .int .i64 0, .slice none 0 0, .int .i64 0, .int .i64 0, .int .i64 0, .int .i64 0] ∧ RowKit.Below Z.heap.size Z W ∧ Z.heap.size + 1 ≤ W.heap.size) ⟨Blk.new _ _ _, (by repeat (first | (with_reducible refine Below.setCell ?_ ?_ _) | (with_reducible refine Below.alloc ?_ ?_ _) | (with_reducible refine Below.drew ?_) | (with_reducible refine below_drewN ?_ _) | (with_reducible exact Below.refl _ _) | (focus (simp; done)) | (focus (simp; omega)) | (focus omega))), by simp⟩ ?_
  rintro W ⟨kr, be, sz⟩
  apply wp_region_tab [((Z.heap.size), (Z.heap.size+1))] 11 13 [some 3, some 4, some 5, some 6, some 7, some 8, some 9, some 10, some 11, some 12, none] [⟨[11], [], [], []⟩, ⟨[11], [], [], []⟩, ⟨[11], [], [], []⟩, ⟨[0, 2, 11], [2], [2], []⟩, ⟨[0, 1, 2, 3, 11], [1, 3], [1, 3], []⟩, ⟨[0, 1, 2, 3, 4, 11], [1, 4], [1, 4], []⟩, ⟨[11], [], [], []⟩, ⟨[6, 11], [6], [6], []⟩, ⟨[0, 2, 3, 6, 7, 11], [7], [7], []⟩, ⟨[0, 1, 2, 3, 4, 5, 6, 7, 8, 11], [0, 5, 8], [0, 5, 8], []⟩, ⟨[0, 1, 2, 3, 4, 5, 6, 7, 8, 9, 11], [0, 9, 11], [0, 9, 11], [11]⟩, ⟨[], [], [], []⟩] [0, 1, 2, 3, 4, 5, 6, 7, 8, 9, 10] [0, 10] [(fun f lo hi v b0 b1 W => ∃ (ca : Option Addr) (cc : Nat), v = .slice ca 8 cc ∧ Own W b0 5 1 ca 8 cc ((secX 1000).map encB) ∧ ∀ y, ca.map (·.block) = some y → y < b1), (fun f lo hi v b0 b1 W => ∃ g : Nat, v = .slice (some ⟨g, 0, none⟩) 3 3 ∧ b0 ≤ g ∧ g < b1 ∧ Blk W g 3 #[.int .i64 63, .int .i64 47, .int .i64 7]), psiTrue, psiTrue, (fun f lo hi v b0 b1 W => ∃ g : Nat, f 1 = .slice (some ⟨g, 0, none⟩) 3 3 ∧ v = .pointer (some ⟨g, R0, none⟩)), (fun f lo hi v b0 b1 W => v = .int .i64 rt), psiTrue, psiTrue, psiTrue, (fun f lo hi v b0 b1 W => v = .agg #[f 0, .int .i64 rt, .int .i64 c, .slice none 0 0, .int .i64 0, .int .i64 0, .int .i64 0, .int .i64 0]), (fun f lo hi v b0 b1 W => ∃ (ca : Option Addr) (cc : Nat), f 0 = .slice ca 8 cc ∧ Blk W (Z.heap.size) 32 #[.slice ca 8 cc, .int .i64 rt, .int .i64 c, .slice none 0 0, .int .i64 0, .int .i64 0, .int .i64 0, .int .i64 0]), (fun f lo hi v b0 b1 W => (b0 = (Z.heap.size) ∧ b1 = (Z.heap.size+1)) ∧ Blk W (Z.heap.size) 32 #[.slice none 0 0, .int .i64 0, .int .i64 0, .slice none 0 0, .int .i64 0, .int .i64 0, .int .i64 0, .int .i64 0])] [kTrue, kTrue, kVal _, kVal _, kTrue, kTrue, kVal _, kVal _, kVal _, kTrue, kTrue]
  · kernel_rfl
  · kernel_rfl
  · rfl
  · rfl
  rotate_left 2
  refine ⟨?oR1_0, ?oR1_1, ?oR1_2, ?oR1_3, ?oR1_4, ?oR1_5, ?oR1_6, ?oR1_7, ?oR1_8, ?oR1_9, ?oR1_10, trivial⟩
  case hx => exact ⟨⟨by omega, by omega⟩, by simp, trivial⟩
  case hX => exact ⟨fun _ _ _ _ => ⟨⟨rfl, rfl⟩, kr⟩, trivial⟩
  case oR1_0 =>
    intro f lo hi w hb hx hf hk hrg R hR; (try replace hb := BelX.zero hb); (try simp (decide := true) only [go_sem] at hf); (try simp (decide := true) only [go_sem] at hk)
    go_simp
    refine (mk_Secret _ _).mono ?_
    rintro e w' ⟨a, c', rfl, own, hb'⟩
    exact ⟨_, rfl, hR _ _ (rpost_none rfl hb' ⟨a, c', rfl, own, own.lt'⟩)⟩
  case oR1_1 =>
    intro f lo hi w hb hx hf hk hrg R hR; (try replace hb := BelX.zero hb); (try simp (decide := true) only [go_sem] at hf); (try simp (decide := true) only [go_sem] at hk)
    go_simp
    refine hR _ _ (rpost_none rfl (by repeat (first | (with_reducible refine Below.setCell ?_ ?_ _) | (with_reducible refine Below.alloc ?_ ?_ _) | (with_reducible refine Below.drew ?_) | (with_reducible refine below_drewN ?_ _) | (with_reducible exact Below.refl _ _) | (focus (simp; done)) | (focus (simp; omega)) | (focus omega))) ?_)
    (try simp (decide := true) only [go_sem])
    exact ⟨_, rfl, Nat.le_refl _, by simp, Blk.new _ _ _⟩
  case oR1_2 => intro f lo hi w hb hx hf hk hrg R hR; (try replace hb := BelX.zero hb); (try simp (decide := true) only [go_sem] at hf); (try simp (decide := true) only [go_sem] at hk); go_simp; exact hR _ _ (rpost_val rfl rfl (Below.refl _ _) rfl)
  case oR1_3 => intro f lo hi w hb hx hf hk hrg R hR; (try replace hb := BelX.zero hb); (try simp (decide := true) only [go_sem] at hf); (try simp (decide := true) only [go_sem] at hk); go_simp; (with_reducible refine (mk_ModE hr.out _ (by omega) (by omega)).mono ?_); rintro e w' ⟨rfl, rfl⟩; exact ⟨_, rfl, hR _ _ (rpost_val rfl rfl (Below.refl _ _) rfl)⟩
  case oR1_4 =>
    intro f lo hi w hb hx hf hk hrg R hR; (try replace hb := BelX.zero hb); (try simp (decide := true) only [go_sem] at hf); (try simp (decide := true) only [go_sem] at hk)
    obtain ⟨g, h4, -, -, kk⟩ := hf
    have kc := kk.cell 0
    have kl := kk.lt
    have hR3 : (R0 : Int) < 3 := r1
    go_simp
    refine hR _ _ (rpost_none rfl (Below.refl _ _) ?_)
    (try simp (decide := true) only [go_sem])
    exact ⟨g, h4, by simp⟩
  case oR1_5 =>
    intro f lo hi w hb hx hf hk hrg R hR; (try replace hb := BelX.zero hb); (try simp (decide := true) only [go_sem] at hf); (try simp (decide := true) only [go_sem] at hk)
    obtain ⟨⟨g, h4, -, -, kk⟩, g', h4', h7⟩ := hf
    obtain rfl : g = g' := by
      rw [h4] at h4'
      injection h4' with e1
      injection e1 with e1
      injection e1 with e1
    have kc := HRT.out _ _ kk
    have kl := kk.lt
    go_simp
    refine hR _ _ (rpost_none rfl (Below.refl _ _) ?_)
    (try simp (decide := true) only [go_sem])
  case oR1_6 => intro f lo hi w hb hx hf hk hrg R hR; (try replace hb := BelX.zero hb); (try simp (decide := true) only [go_sem] at hf); (try simp (decide := true) only [go_sem] at hk); go_simp; exact hR _ _ (rpost_val rfl rfl (Below.refl _ _) rfl)
  case oR1_7 => intro f lo hi w hb hx hf hk hrg R hR; (try replace hb := BelX.zero hb); (try simp (decide := true) only [go_sem] at hf); (try simp (decide := true) only [go_sem] at hk); go_simp; exact hR _ _ (rpost_val rfl rfl (Below.refl _ _) rfl)
  case oR1_8 => intro f lo hi w hb hx hf hk hrg R hR; (try replace hb := BelX.zero hb); (try simp (decide := true) only [go_sem] at hf); (try simp (decide := true) only [go_sem] at hk); go_simp; (with_reducible refine (mk_ModE hc.out _ (by omega) (by omega)).mono ?_); rintro e w' ⟨rfl, rfl⟩; exact ⟨_, rfl, hR _ _ (rpost_val rfl rfl (Below.refl _ _) rfl)⟩
  case oR1_9 =>
    intro f lo hi w hb hx hf hk hrg R hR; (try replace hb := BelX.zero hb); (try simp (decide := true) only [go_sem] at hf); (try simp (decide := true) only [go_sem] at hk)
    obtain ⟨⟨ca, cc, h3, -⟩, h8⟩ := hf
    have H3 := Lib.hid h3
    go_simp
    refine hR _ _ (rpost_none rfl (Below.refl _ _) ?_)
    (try simp (decide := true) only [go_sem])
    rw [H3.out]
  case oR1_10 =>
    intro f lo hi w hb hx hf hk hrg R hR; (try replace hb := BelX.zero hb); (try simp (decide := true) only [go_sem] at hf); (try simp (decide := true) only [go_sem] at hk)
    obtain ⟨⟨ca, cc, h3, -⟩, h12, -, kb⟩ := hf
    rw [h3] at h12
    obtain ⟨e0, e1, e2, e3, e4, e5, e6, e7⟩ := kb.eight
    have fz := kb.frozen
    have p1 : lo 11 = _ := (XOk.get _ _ hx 0 _ rfl).1
    have p2 : hi 11 = _ := (XOk.get _ _ hx 0 _ rfl).2
    go_simp
    refine hR _ _ (rpost_some rfl rfl (Touch.set8 w (List.mem_singleton.2 rfl) (Nat.le_of_eq p1) (by rw [p2]; exact Nat.lt_succ_self _) _ _ _ _ _ _ _ _) ?_)
    (try simp (decide := true) only [go_sem])
    exact ⟨ca, cc, h3, kb.set8 _ _ _ _ _ _ _ _⟩
  case hcl =>
    refine ⟨?cR1_0, ?cR1_1, Closed.true _ _ _ _, Closed.true _ _ _ _, ?cR1_4, ?cR1_5, Closed.true _ _ _ _, Closed.true _ _ _ _, Closed.true _ _ _ _, ?cR1_9, ?cR1_10, ?cR1_11, trivial⟩
    all_goals first
      | exact fun f lo hi v b0 b1 w w' h hs hB hown hU hX => by
          obtain ⟨ca, cc, h1, own, lt⟩ := h
          exact ⟨ca, cc, h1, own.keep fun b hb hl _ => hown b hl (lt b (by rw [hb]; rfl)), lt⟩
      | exact fun f lo hi v b0 b1 w w' h hs hB hown hU hX => by
          obtain ⟨g, h1, h2, h3, h4⟩ := h
          exact ⟨g, h1, h2, h3, (hown g h2 h3).trans h4⟩
      | exact fun f lo hi v b0 b1 w w' h hs hB hown hU hX => by
          obtain ⟨⟨rfl, rfl⟩, kb⟩ := h
          exact ⟨⟨rfl, rfl⟩, (hown _ (Nat.le_refl _) (Nat.lt_succ_self _)).trans kb⟩
      | exact fun f lo hi v b0 b1 w w' h hs hB hown hU hX => by
          obtain ⟨B, C, h1, h3⟩ := h
          exact ⟨B, C, h1, (hX 0 _ rfl (by simp) _ (Nat.le_refl _) (Nat.lt_succ_self _)).trans h3⟩
      | exact fun _ _ _ _ _ _ _ _ h _ _ _ _ _ => h
  intro f lo hi W7 hbr hx hf hk hrg; (try replace hbr := BelX.zero hbr); clear hx; (try simp (decide := true) only [go_sem] at hf); (try simp (decide := true) only [go_sem] at hk)
  obtain ⟨⟨ca, cc, h3, own, -⟩, ca', cc', h3', k7⟩ := hf
  obtain ⟨rfl, rfl⟩ : ca = ca' ∧ cc = cc' := by
    rw [h3] at h3'
    injection h3' with e1 _ e2
    exact ⟨e1, e2⟩
  have q0 : W.heap.size ≤ lo 0 := (hrg.out 0 (by simp)).1
  have bx : RowKit.Below Z.heap.size Z W7 := ⟨hbr.1.trans be.os, hbr.2.1.trans be.tape, hbr.2.2.1.trans be.output, Nat.le_trans be.size hbr.2.2.2.1, fun k hk => (hbr.2.2.2.2 k ⟨by omega, fun r hr => by simp at hr; subst hr; simp only; omega⟩).trans (be.block k hk)⟩
  obtain ⟨d0, d1, d2, d3, d4, d5, d6, d7⟩ := k7.eight
  have own7 := own.mono (base' := Z.heap.size) (by omega)
  clear hrg hbr h3'
  go_simp
  clear hk h3
  go_wp2
  exact bodyPost_ret (v := agAgg ca 8 cc rt c none 0 0 0 0 0 0) (by simp [results, Try.results14, go_sem, d0, d1, d2, d3, d4, d5, d6, d7]) rfl ⟨ca, cc, rt, c, rfl, hrt3, c0, by omega, own7, bx⟩
end Go.Proofs.Ytgngmmmdhhjbhaa
