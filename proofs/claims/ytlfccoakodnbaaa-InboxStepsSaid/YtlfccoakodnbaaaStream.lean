/- stream.All, stream.Take -/
import Derived.Test.YtlfccoakodnbaaaTake
import Derived.Test.YtlfccoakodnbaaaTakeS
namespace Go.Proofs.Ytlfccoakodnbaaa
set_option linter.unusedVariables false
open Go.RowKit Go.Sort
set_option maxRecDepth 100000

def allK (l : List UInt8) : List Key := (tRun (l.length + 1) l ⟨0, false, []⟩).keys
def AllR (l : List UInt8) (w : World) (e : Ending) (w' : World) : Prop :=
  ∃ (its : List It) (xa : Option Addr) (xc : Nat), e = .returned (.slice xa its.length xc) ∧ its.map It.key = allK l ∧ Items w' xa its ∧ Below w.heap.size w w'
theorem items_of {w : World} {base : Nat} {its : List It} {xa : Option Addr} {xc : Nat} (h : Own w base 49 3 xa its.length xc (itCells its)) (hp : ∀ x ∈ its, Own w 0 5 1 x.a x.pay.length x.c (x.pay.map encB)) : Items w xa its := ⟨h.row, fun x hx => (hp x hx).byt⟩
theorem Items.alloc {w : World} {a : Option Addr} {l : List It} (h : Items w a l) (o : Obj) : Items (w.alloc o) a l := ⟨h.1.alloc o, fun x hx => (h.2 x hx).alloc o⟩
set_option maxHeartbeats 2000000 in
theorem stream_Take (a : Option Addr) (l : List UInt8) (n c : Nat) (g0 : Bool) (N : Int) (w : World) (hb : Byt w a l) (hn : n = l.length) (hcap : l.length ≤ c) (hl : l.length ≤ 1000000000) (hnil : a = none → l.length = 0 ∧ c = 0) :
    Calls Try.prog 32 #[.agg #[.slice a n c, .bool g0], .int .i64 N] w (TakeR N.toNat l g0 w) := by
  subst hn
  by_cases hN : N ≤ 0
  · have dN : decide (N ≤ 0) = true := decide_eq_true hN
    have h0 : N.toNat = 0 := by omega
    have HT := Lib.hid (show tRun N.toNat l ⟨0, g0, []⟩ = ⟨0, g0, []⟩ from tRun_stop (fun h => by have := h.1; rw [h0] at this; omega))
    clear h0
    go_enter Try.func32, Try.ntmps32
    go_wp2
    refine wp_named (fun W => Blk W w.heap.size 28 #[.slice a l.length c, .bool g0] ∧ Blk W (w.heap.size + 1 + 1) 28 #[.slice none 0 0, .bool false] ∧ RowKit.Below w.heap.size w W) ⟨((Blk.new w _ _).alloc _).alloc _, by
      have := Blk.new ((w.alloc (.cells #[.slice a l.length c, .bool g0] 28)).alloc (.cells #[.int .i64 N] 3)) 28 #[.slice none 0 0, .bool false]
      simpa using this, (by repeat (first | (with_reducible refine Below.setCell ?_ ?_ _) | (with_reducible refine Below.alloc ?_ ?_ _) | (with_reducible refine Below.drew ?_) | (with_reducible refine below_drewN ?_ _) | (with_reducible exact Below.refl _ _) | (focus (simp; done)) | (focus (simp; omega)) | (focus omega)))⟩ ?_
    rintro W ⟨kS, kR, kbe⟩
    have bW := hb.below kbe (Nat.le_refl _)
    have rbb : l ≠ [] → ∀ k, a.map (·.block) = some k → k < w.heap.size := fun hne k hk => by
      rcases hb.open with h | ⟨b, off, rfl, hlt, _⟩
      · exact absurd h hne
      · simp at hk; omega
    apply wp_region_tab [((w.heap.size+1+1), (w.heap.size+1+1+1))] 8 19 [some 8, some 9, some 10, some 11, some 12, some 13, none, some 5] [⟨[8], [], [], []⟩, ⟨[0, 8], [0], [0], []⟩, ⟨[0, 1, 8], [1], [1], []⟩, ⟨[8], [], [], []⟩, ⟨[3, 8], [3], [3], []⟩, ⟨[0, 1, 2, 3, 4, 8], [2, 4], [2, 4], []⟩, ⟨[0, 1, 2, 3, 4, 5, 8], [2, 5, 8], [2, 5, 8], [8]⟩, ⟨[0, 1, 2, 3, 4, 5, 6, 8], [], [], []⟩, ⟨[], [], [], []⟩] [0, 1, 2, 3, 4, 5, 6, 7] [2, 6, 7] [psiTrue, psiTrue, (fun f lo hi v b0 b1 W => ∃ a' c', v = .slice a' l.length c' ∧ Own W b0 5 1 a' l.length c' (l.map encB) ∧ ∀ x, a'.map (·.block) = some x → x < b1), psiTrue, psiTrue, (fun f lo hi v b0 b1 W => v = .agg #[f 2, .bool g0]), (fun f lo hi v b0 b1 W => ∃ a' c', f 2 = .slice a' l.length c' ∧ Blk W (w.heap.size+1+1) 28 #[.slice a' l.length c', .bool g0]), psiTrue, (fun f lo hi v b0 b1 W => (b0 = (w.heap.size+1+1) ∧ b1 = (w.heap.size+1+1+1)) ∧ Blk W (w.heap.size+1+1) 28 #[.slice none 0 0, .bool false])] [kVal _, kVal _, kTrue, kVal _, kVal _, kTrue, kTrue, kVal _]
    · kernel_rfl
    · kernel_rfl
    · rfl
    · rfl
    rotate_left 2
    refine ⟨?oR1_0, ?oR1_1, ?oR1_2, ?oR1_3, ?oR1_4, ?oR1_5, ?oR1_6, ?oR1_7, trivial⟩
    case hx => exact ⟨⟨by omega, by have := kR.lt; omega⟩, by simp, trivial⟩
    case hX => exact ⟨fun _ _ _ _ => ⟨⟨rfl, rfl⟩, kR⟩, trivial⟩
    case oR1_0 => intro f lo hi w hb hx hf hk hrg R hR; (try replace hb := BelX.zero hb); (try simp (decide := true) only [go_sem] at hf); (try simp (decide := true) only [go_sem] at hk); go_simp; exact hR _ _ (rpost_val rfl rfl (Below.refl _ _) rfl)
    case oR1_1 =>
      intro f lo hi w hb hx hf hk hrg R hR; (try replace hb := BelX.zero hb); (try simp (decide := true) only [go_sem] at hf); (try simp (decide := true) only [go_sem] at hk)
      have e := (hb.blk kS (by first | (simp; done) | (simp; omega))).cell 0
      go_simp
      exact hR _ _ (rpost_val rfl rfl (Below.refl _ _) rfl)
    case oR1_2 =>
      intro f lo hi w hb hx hf hk hrg R hR; (try replace hb := BelX.zero hb); (try simp (decide := true) only [go_sem] at hf); (try simp (decide := true) only [go_sem] at hk)
      go_simp
      have bw : Byt w a l := by
        by_cases hne : l = []
        · rw [hne]; exact Byt.nil _ _
        · exact hb.row (show Row _ _ _ from bW) (fun b hb' r hr => by have := rbb hne b hb'; simp at hr; subst hr; simp only; omega)
      (with_reducible refine (clone_E a l.length c l _ bw rfl (by omega) hnil).mono ?_)
      rintro e w' ⟨a', c', rfl, own', hb'⟩
      exact ⟨_, rfl, hR _ _ (rpost_none rfl hb' ⟨a', c', rfl, own', own'.lt'⟩)⟩
    case oR1_3 => intro f lo hi w hb hx hf hk hrg R hR; (try replace hb := BelX.zero hb); (try simp (decide := true) only [go_sem] at hf); (try simp (decide := true) only [go_sem] at hk); go_simp; exact hR _ _ (rpost_val rfl rfl (Below.refl _ _) rfl)
    case oR1_4 =>
      intro f lo hi w hb hx hf hk hrg R hR; (try replace hb := BelX.zero hb); (try simp (decide := true) only [go_sem] at hf); (try simp (decide := true) only [go_sem] at hk)
      have e := (hb.blk kS (by first | (simp; done) | (simp; omega))).cell 1
      go_simp
      exact hR _ _ (rpost_val rfl rfl (Below.refl _ _) rfl)
    case oR1_5 =>
      intro f lo hi w hb hx hf hk hrg R hR; (try replace hb := BelX.zero hb); (try simp (decide := true) only [go_sem] at hf); (try simp (decide := true) only [go_sem] at hk)
      obtain ⟨a', c', h4, -⟩ := hf
      go_simp
      refine hR _ _ (rpost_none rfl (Below.refl _ _) ?_)
      (try simp (decide := true) only [go_sem])
      rw [h4]
    case oR1_6 =>
      intro f lo hi w hb hx hf hk hrg R hR; (try replace hb := BelX.zero hb); (try simp (decide := true) only [go_sem] at hf); (try simp (decide := true) only [go_sem] at hk)
      obtain ⟨⟨a', c', h4, own4, lt4⟩, h6, -, kb⟩ := hf
      rw [h4] at h6
      have e0 := kb.cell 0
      have e1 := kb.cell 1
      have fz := kb.frozen
      have p1 : lo 8 = _ := (XOk.get _ _ hx 0 _ rfl).1
      have p2 : hi 8 = _ := (XOk.get _ _ hx 0 _ rfl).2
      go_simp
      refine hR _ _ (rpost_some rfl rfl ((Touch.set w (List.mem_singleton.2 rfl) (Nat.le_of_eq p1) (by rw [p2]; exact Nat.lt_succ_self _) 0 _).trans (Touch.set _ (List.mem_singleton.2 rfl) (Nat.le_of_eq p1) (by rw [p2]; exact Nat.lt_succ_self _) 1 _)) ?_)
      (try simp (decide := true) only [go_sem])
      exact ⟨a', c', h4, (kb.set 0 _).set 1 _⟩
    case oR1_7 => intro f lo hi w hb hx hf hk hrg R hR; (try replace hb := BelX.zero hb); (try simp (decide := true) only [go_sem] at hf); (try simp (decide := true) only [go_sem] at hk); go_simp; exact hR _ _ (rpost_val rfl rfl (Below.refl _ _) rfl)
    case hcl =>
      refine ⟨Closed.true _ _ _ _, Closed.true _ _ _ _, ?cR1_2, Closed.true _ _ _ _, Closed.true _ _ _ _, ?cR1_5, ?cR1_6, Closed.true _ _ _ _, ?cR1_8, trivial⟩
      all_goals first
        | exact fun f lo hi v b0 b1 w w' h hs hB hown hU hX => by
            obtain ⟨a', c', h1, own, lt⟩ := h
            exact ⟨a', c', h1, own.keep fun b hb hl _ => hown b hl (lt b (by rw [hb]; rfl)), lt⟩
        | exact fun f lo hi v b0 b1 w w' h hs hB hown hU hX => by
            obtain ⟨a', c', h1, h2⟩ := h
            exact ⟨a', c', h1, (hX 0 _ rfl (by simp) _ (Nat.le_refl _) (Nat.lt_succ_self _)).trans h2⟩
        | exact fun f lo hi v b0 b1 w w' h hs hB hown hU hX => by
            obtain ⟨⟨rfl, rfl⟩, kb⟩ := h
            exact ⟨⟨rfl, rfl⟩, (hown _ (Nat.le_refl _) (Nat.lt_succ_self _)).trans kb⟩
        | exact fun _ _ _ _ _ _ _ _ h _ _ _ _ _ => h
    intro f lo hi W7 hbr hx hf hk hrg; (try replace hbr := BelX.zero hbr); clear hx; (try simp (decide := true) only [go_sem] at hf); (try simp (decide := true) only [go_sem] at hk)
    obtain ⟨⟨a', c', h4, own4, -⟩, a2, c2, h4', k8⟩ := hf
    obtain ⟨rfl, rfl⟩ : a' = a2 ∧ c' = c2 := by
      rw [h4] at h4'
      injection h4' with e1 _ e2
      exact ⟨e1, e2⟩
    have hr4 := hrg.out 2 (by simp)
    have hrg4 : W.heap.size ≤ lo 2 := hr4.1
    have bs := kbe.size
    have bel7 : RowKit.Below w.heap.size w W7 := ⟨hbr.1.trans kbe.os, hbr.2.1.trans kbe.tape, hbr.2.2.1.trans kbe.output, Nat.le_trans bs hbr.2.2.2.1, fun q hq => (hbr.2.2.2.2 q ⟨by omega, fun r hr => by simp at hr; subst hr; simp only; omega⟩).trans (kbe.block q hq)⟩
    have y0 := k8.cell 0
    have y1 := k8.cell 1
    clear hrg hbr h4' hr4
    go_simp
    clear hk h4
    go_wp2
    refine bodyPost_ret (v := .tuple #[.agg #[.slice a' l.length c', .bool g0], .slice none 0 0]) (by simp [results, Try.results32, go_sem, y0, y1]) rfl ?_
    exact ⟨_, [], none, 0, a', c', HT, rfl, rfl, Own.nil _ _ _ _, by simp, own4.mono (by omega), bel7⟩
  · obtain ⟨lim, rfl⟩ := Int.eq_ofNat_of_zero_le (show 0 ≤ N by omega)
    have hlim : 0 < lim := by omega
    have dN : decide ((lim : Int) ≤ 0) = false := decide_eq_false hN
    have hcell : ∀ o : Obj, (((w.alloc (.cells #[.slice a l.length c, .bool g0] 28)).alloc (.cells #[.int .i64 (lim : Int)] 3)).alloc o).cell? ⟨w.heap.size + 1, 0, none⟩ = some (.int .i64 (lim : Int)) := fun o => by
      have := ((Blk.new (w.alloc (.cells #[.slice a l.length c, .bool g0] 28)) 3 #[.int .i64 (lim : Int)]).alloc o).cell 0
      simpa using this
    have hkR : ∀ {w1 : World}, RowKit.Below (((w.alloc (.cells #[.slice a l.length c, .bool g0] 28)).alloc (.cells #[.int .i64 (lim : Int)] 3)).alloc (.cells #[.slice none 0 0, .bool false] 28)).heap.size (((w.alloc (.cells #[.slice a l.length c, .bool g0] 28)).alloc (.cells #[.int .i64 (lim : Int)] 3)).alloc (.cells #[.slice none 0 0, .bool false] 28)) w1 → Blk w1 (w.heap.size + 1 + 1) 28 #[.slice none 0 0, .bool false] := fun hb1 => by
      have := (Blk.new ((w.alloc (.cells #[.slice a l.length c, .bool g0] 28)).alloc (.cells #[.int .i64 (lim : Int)] 3)) 28 #[.slice none 0 0, .bool false]).below hb1 (by simp)
      simpa using this
    have HC := Lib.hid hcell
    clear hcell
    go_enter Try.func32, Try.ntmps32
    go_wp2_with (first | (go_at_call 39; (with_reducible refine (take_some a l c g0 _ (((hb.alloc _).alloc _).alloc _) hcap hl hnil lim hlim (w.heap.size + 1) (by simp) (HC.out _)).mono ?_); rintro e w1 ⟨st, its, xa, xc, ra, rc, hst, rfl, hk, own, pays, ownr, hb1⟩; (have kR := hkR hb1); (have y0 := kR.cell 0); (have y1 := kR.cell 1); (have fz := kR.frozen); (have yl := kR.lt)))
    have hs1 := hb1.size
    simp only [World.size_alloc] at hs1
    refine bodyPost_ret (v := .tuple #[.agg #[.slice ra (l.length - st.used) rc, .bool st.garb], .slice xa its.length xc]) (by simp [results, Try.results32, go_sem, y0, y1]) rfl ?_
    rw [Int.toNat_natCast]
    have two : ∀ (base : Nat) (e : TypeId) (sz n cp : Nat) (x : Option Addr) (xs : List Value) (u0 u1 : Value), Own w1 base e sz x n cp xs → (w.heap.size + 3 ≤ base ∨ e ≠ 28) → Own ((w1.setCell ⟨w.heap.size + 1 + 1, 0, none⟩ u0).setCell ⟨w.heap.size + 1 + 1, 1, none⟩ u1) base e sz x n cp xs := fun base e sz n cp x xs u0 u1 h hd => by
      have ne : ∀ i, x.map (·.block) ≠ some (⟨w.heap.size + 1 + 1, i, none⟩ : Addr).block := fun i e => by
        rcases hd with hd | hd
        · have := h.base_le _ e; simp only at this; omega
        · exact h.ne_blk kR hd e
      exact (h.far (ne 0) _).far (ne 1) _
    exact ⟨st, its, xa, xc, ra, rc, hst, rfl, hk, (two _ _ _ _ _ _ _ _ _ own (.inl (by simp))).mono (by simp; omega), fun x hx => two _ _ _ _ _ _ _ _ _ (pays x hx) (.inr (by decide)), (two _ _ _ _ _ _ _ _ _ ownr (.inl (by simp))).mono (by simp; omega), (by repeat (first | (with_reducible refine Below.setCell ?_ ?_ _) | (with_reducible refine Below.alloc ?_ ?_ _) | (with_reducible refine Below.drew ?_) | (with_reducible refine below_drewN ?_ _) | (with_reducible exact Below.refl _ _) | (with_reducible refine Below.trans ?_ (Below.mono hb1 ?_)) | (focus (simp; done)) | (focus (simp; omega)) | (focus omega) | (focus (have q0 := Below.size hb1; (try simp at q0); (try simp); omega))))⟩
end Go.Proofs.Ytlfccoakodnbaaa
