/- signalbrokermake.Deck.Requests -/
import Derived.Test.YtbanejpihdhbdaaDkLegs
import Derived.Test.YtbanejpihdhbdaaReqLaw
namespace Go.Proofs.Ytbanejpihdhbdaa
set_option linter.unusedVariables false
open Go.RowKit Go.Sort
set_option maxRecDepth 100000

/-- the requests of a deck: made by the call, valid, marked at the tick -/
def RequestsR (p : Nat) (d : Dk) (q now : Int) (w : World) (e : Ending) (w' : World) : Prop :=
  ∃ (k : Nat) (n : Nat) (l : List Rq) (xa : Option Addr) (xc : Nat), e = .returned (.slice xa n xc) ∧ Hid (n = l.length) ∧ Hid (∃ l0, RqsOk l0 q ∧ l.map Rq.key = markM l0 now) ∧ RqL w' w.heap.size l xa xc ∧ DeckAt w' p d k ∧ w.grownBy w' (some p)
theorem RqsOk.legsLen {l : List Rq} {q : Int} (h : RqsOk (l.map Rq.key) q) : ∀ r ∈ l, r.legs.length ≤ 3 := fun r hr => (h.mem _ (List.mem_map_of_mem hr)).2.2.2.2.n.2
theorem RqL.capLe {W : World} {B : Nat} {l : List Rq} {xa : Option Addr} {xc : Nat} (h : RqL W B l xa xc) : ∀ r ∈ l, r.legs.length ≤ r.c := fun r hr => (h.legs r hr).cap_le
theorem Own.none_cap {w : World} {base : Nat} {e : TypeId} {size n cap : Nat} {xs : List Value} (h : Own w base e size none n cap xs) : cap = 0 := by
  rcases h.2 with ⟨hv, _⟩ | ⟨g', c', cur, hv, _⟩
  · injection hv
  · injection hv with ha _ _
    cases ha
theorem grown_rql {W W' : World} {B p : Nat} {l : List Rq} {xa : Option Addr} {xc : Nat} (h : RqL W B l xa xc) (g : W.grownBy W' (some p)) (hp : p < B) : RqL W' B l xa xc :=
  ⟨h.own.grown g hp, fun r hr => (h.legs r hr).grown g hp, h.ap⟩
theorem rpost_vh {rows : List RDat} {ψs : List Psi} {ks : List (Value → Prop)} {f : Nat → Value} {lo hi : Nat → Nat} {i : Nat} {w w' : World} {v : Value} (hk : (ks.getD i kTrue) v) (hψ : ψs.getD i psiTrue = psiTrue) (hb : Below w.heap.size w w') : RPost rows ψs f lo hi ks i w v w' := by
  unfold RPost
  rw [hψ]
  exact ⟨.of_below hb, hk, trivial⟩
set_option maxHeartbeats 8000000 in
theorem deck_Requests (p : Nat) (d : Dk) (k : Nat) (q now : Int) (Z : World) (hd : DeckAt Z p d k) (hq0 : 0 ≤ q) (h0 : 0 ≤ now) (h1 : now ≤ 1000) :
    Calls Try.prog 15 #[.pointer (some ⟨p, 0, none⟩), .int .i64 q, .int .i64 now] Z (RequestsR p d q now Z) := by
  have hpw := hd.lt
  have HD0 := Lib.hid hd
  have har := Lib.hid hd.arr
  go_enter Try.func15, Try.ntmps15
  go_upto_region 3 with ((go_at_call 21; (with_reducible refine (deck_Next p 6 _ d _ hd (by decide) (by decide)).mono ?_); rintro e w1 ⟨v1, rfl, p1, q1, -, hd1, g1⟩))
  go_wp2_with fail
  go_loopw [7, 8] (fun s7 s8 wr => ∃ (kk : Int) (kd : Nat) (l : List Rq) (n : Nat) (xa : Option Addr) (xc : Nat), s7 = .slice xa n xc ∧ s8 = .int .i64 kk ∧ 0 ≤ kk ∧ kk ≤ 5 ∧ Hid (n = l.length) ∧ Hid (RqsOk (l.map Rq.key) q) ∧ RqL wr Z.heap.size l xa xc ∧ DeckAt wr p d kd ∧ Z.grownBy wr (some p)) (fun _ s _ => (intOf s).toNat)
  case atStart => exact ⟨v1, _, [], 0, none, 0, rfl, rfl, by omega, by omega, Lib.hid rfl, Lib.hid (RqsOk.nil hq0), RqL.nil _ _, hd1, g1⟩
  case round =>
    clear hd hd1 g1
    obtain ⟨kk, kd, l, n, xa, xc, rfl, rfl, hk0, hk1, hn, hok, il, hd, g⟩ := hrel
    by_cases hlt : 0 < kk
    · have hzs := g.size
      go_upto_region 6 with (first | (go_at_call 21; (with_reducible refine (deck_Next p 4 _ d _ hd (by decide) (by decide)).mono ?_); rintro e w2 ⟨vid, rfl, p2, q2, -, hd2, g2⟩) | (go_at_call 21; (with_reducible refine (deck_Next p 4 _ d _ hd2 (by decide) (by decide)).mono ?_); rintro e w3 ⟨vcls, rfl, p3, q3, -, hd3, g3⟩))
      have il3 := grown_rql (grown_rql il g2 hpw) g3 hpw
      have gz3 := (g.trans g2).trans g3
      refine wp_named (fun W => Blk W w3.heap.size 34 #[.int .i64 vid, .int .i64 vcls] ∧ RqL W Z.heap.size l xa xc ∧ (∃ k, DeckAt W p d k) ∧ Z.grownBy W (some p) ∧ Z.heap.size ≤ w3.heap.size) ⟨Blk.new _ _ _, il3.alloc _, ⟨_, hd3.alloc _⟩, gz3.trans (World.grownBy_alloc _ _ _), gz3.size⟩ ?_
      obtain ⟨V, hV⟩ : ∃ V, w3.heap.size = V := ⟨_, rfl⟩
      rw [hV]
      clear hd hd2 hd3 g g2 g3 gz3 il il3 hV hzs
      rintro W ⟨kV, il, ⟨kd, hd⟩, g, hVZ⟩
      have hWs := g.size
      have HIL := Lib.hid il
      have HOKM := Lib.hid hok.out.legsLen
      have HN4 : n ≤ 4 := by have := hok.out.n.2; rw [List.length_map] at this; rw [hn.out]; exact this
      apply wp_region_tab [(p, (p+1))] 21 48 [some 24, some 25, some 26, some 27, some 28, some 29, some 30, some 31, some 32, some 33, some 34, some 35, some 36, some 37, some 38, some 39, some 23, some 40, some 41, some 10, some 11] [⟨[21], [], [], []⟩, ⟨[21], [], [], []⟩, ⟨[21], [], [], []⟩, ⟨[2, 21], [2, 21], [2, 21], [21]⟩, ⟨[21], [], [], []⟩, ⟨[21], [], [], []⟩, ⟨[2, 3, 5, 21], [3, 5, 21], [3, 5], [21]⟩, ⟨[21], [], [], []⟩, ⟨[21], [], [], []⟩, ⟨[21], [], [], []⟩, ⟨[2, 3, 5, 6, 9, 21], [3, 6, 9, 21], [6, 9], [21]⟩, ⟨[2, 3, 5, 6, 8, 9, 10, 21], [8, 10], [8, 10], []⟩, ⟨[2, 3, 5, 6, 8, 9, 10, 11, 21], [11], [11], []⟩, ⟨[2, 3, 5, 6, 7, 8, 9, 10, 11, 12, 21], [3, 6, 7, 10, 12, 21], [7, 10, 12], [21]⟩, ⟨[21], [], [], []⟩, ⟨[0, 1, 2, 3, 4, 5, 6, 7, 8, 9, 10, 11, 12, 13, 14, 21], [0, 1, 3, 4, 6, 13, 14], [0, 1, 4, 13, 14], []⟩, ⟨[0, 1, 2, 3, 4, 5, 6, 7, 8, 9, 10, 11, 12, 13, 14, 15, 21], [15], [15], []⟩, ⟨[0, 1, 2, 3, 4, 5, 6, 7, 8, 9, 10, 11, 12, 13, 14, 15, 16, 21], [15, 16], [15, 16], []⟩, ⟨[0, 1, 2, 3, 4, 5, 6, 7, 8, 9, 10, 11, 12, 13, 14, 15, 16, 21], [15, 16], [15, 16], []⟩, ⟨[0, 1, 2, 3, 4, 5, 6, 7, 8, 9, 10, 11, 12, 13, 14, 15, 16, 17, 21], [15, 17], [15, 17], []⟩, ⟨[0, 1, 2, 3, 4, 5, 6, 7, 8, 9, 10, 11, 12, 13, 14, 15, 16, 17, 18, 19, 21], [15, 18], [15, 18], []⟩, ⟨[], [], [], []⟩] [0, 1, 2, 3, 4, 5, 6, 7, 8, 9, 10, 11, 12, 13, 14, 15, 16, 17, 18, 19, 20] [13, 15, 19, 20] [psiTrue, psiTrue, psiTrue, (fun f lo hi v b0 b1 W => ∃ k, DeckAt W p d k), psiTrue, psiTrue, (fun f lo hi v b0 b1 W => ∃ k, DeckAt W p d k), psiTrue, psiTrue, psiTrue, (fun f lo hi v b0 b1 W => ∃ k, DeckAt W p d k), psiTrue, psiTrue, (fun f lo hi v b0 b1 W => (∃ k, DeckAt W p d k) ∧ ∃ (lg : List Lg) (m : Nat) (la : Option Addr) (lc : Nat), v = .slice la m lc ∧ Hid (m = lg.length) ∧ m ≤ 3 ∧ Own W b0 25 5 la m lc (lgCells lg) ∧ ∀ x, la.map (·.block) = some x → x < b1), psiTrue, (fun f lo hi v b0 b1 W => ∃ (ya : Option Addr) (m yc : Nat) (l2 : List Rq) (er : Int), v = .tuple #[.slice ya m yc, .int .i64 er] ∧ (er = 0 → RqsOk (l2.map Rq.key) q) ∧ Hid (m = l2.length) ∧ RqL W b0 l2 ya yc ∧ RqLt l2 ya b1), (fun f lo hi v b0 b1 W => v = f 15), (fun f lo hi v b0 b1 W => ∃ er, f 15 = .tuple #[v, er]), (fun f lo hi v b0 b1 W => ∃ sl, f 15 = .tuple #[sl, v]), (fun f lo hi v b0 b1 W => ∃ er, f 15 = .tuple #[v, er]), (fun f lo hi v b0 b1 W => ∃ sl, f 15 = .tuple #[sl, v]), (fun f lo hi v b0 b1 W => (b0 = p ∧ b1 = (p+1)) ∧ ∃ k, DeckAt W p d k)] [kVal _, kVal _, kVal _, (fun v => ∃ x : Int, v = .int .i64 x ∧ 0 ≤ x ∧ x < 6), kVal _, kVal _, (fun v => ∃ x : Int, v = .int .i64 x ∧ 1 ≤ x ∧ x < 21), kVal _, kVal _, kVal _, (fun v => ∃ x : Int, v = .int .i64 x ∧ 0 ≤ x ∧ x < 4), (fun v => ∃ x : Int, v = .int .i64 x ∧ -4 < x ∧ x ≤ 1000), (fun v => ∃ x : Int, v = .int .i64 x ∧ 0 ≤ x ∧ x ≤ 1000), kTrue, kVal _, kTrue, kTrue, kTrue, kTrue, kTrue, kTrue]
      · kernel_rfl
      · kernel_rfl
      · rfl
      · rfl
      rotate_left 2
      refine ⟨?oR1_0, ?oR1_1, ?oR1_2, ?oR1_3, ?oR1_4, ?oR1_5, ?oR1_6, ?oR1_7, ?oR1_8, ?oR1_9, ?oR1_10, ?oR1_11, ?oR1_12, ?oR1_13, ?oR1_14, ?oR1_15, ?oR1_16, ?oR1_17, ?oR1_18, ?oR1_19, ?oR1_20, trivial⟩
      case hx => exact ⟨⟨by omega, by omega⟩, by simp, trivial⟩
      case hX => exact ⟨fun _ _ _ _ => ⟨⟨rfl, rfl⟩, _, hd⟩, trivial⟩
      case oR1_0 => intro f lo hi w hb hx hf hk hrg R hR; (try replace hb := BelX.zero hb); (try simp (decide := true) only [go_sem] at hf); (try simp (decide := true) only [go_sem] at hk); go_simp; exact hR _ _ (rpost_val rfl rfl (Below.refl _ _) rfl)
      case oR1_1 => intro f lo hi w hb hx hf hk hrg R hR; (try replace hb := BelX.zero hb); (try simp (decide := true) only [go_sem] at hf); (try simp (decide := true) only [go_sem] at hk); go_simp; exact hR _ _ (rpost_val rfl rfl (Below.refl _ _) rfl)
      case oR1_2 => intro f lo hi w hb hx hf hk hrg R hR; (try replace hb := BelX.zero hb); (try simp (decide := true) only [go_sem] at hf); (try simp (decide := true) only [go_sem] at hk); go_simp; exact hR _ _ (rpost_val rfl rfl (Below.refl _ _) rfl)
      case oR1_3 =>
        intro f lo hi w hb hx hf hk hrg R hR; (try replace hb := BelX.zero hb); (try simp (decide := true) only [go_sem] at hf); (try simp (decide := true) only [go_sem] at hk)
        obtain ⟨-, k1, hd1⟩ := hf
        go_simp
        (with_reducible refine (deck_Next p 6 _ d k1 hd1 (by omega) (by omega)).mono ?_)
        rintro e w' ⟨v, rfl, v0, v1, -, hd', g'⟩
        exact ⟨_, rfl, hR _ _ (rpost_both ⟨0 + v, rfl, by omega, by omega⟩ rfl (touch_grown g' (List.mem_singleton.2 rfl) (XOk.get _ _ hx 0 _ rfl).1 (XOk.get _ _ hx 0 _ rfl).2) ⟨_, hd'⟩)⟩
      case oR1_4 =>
        intro f lo hi w hb hx hf hk hrg R hR; (try replace hb := BelX.zero hb); (try simp (decide := true) only [go_sem] at hf); (try simp (decide := true) only [go_sem] at hk)
        have kk := hb.blk kV (by simp; omega)
        have c0 := kk.cell 0
        have c1 := kk.cell 1
        have hl := kk.lt
        go_simp
        exact hR _ _ (rpost_val rfl rfl (Below.refl _ _) rfl)
      case oR1_5 => intro f lo hi w hb hx hf hk hrg R hR; (try replace hb := BelX.zero hb); (try simp (decide := true) only [go_sem] at hf); (try simp (decide := true) only [go_sem] at hk); go_simp; exact hR _ _ (rpost_val rfl rfl (Below.refl _ _) rfl)
      case oR1_6 =>
        intro f lo hi w hb hx hf hk hrg R hR; (try replace hb := BelX.zero hb); (try simp (decide := true) only [go_sem] at hf); (try simp (decide := true) only [go_sem] at hk)
        obtain ⟨k1, hd1⟩ := hf
        go_simp
        (with_reducible refine (deck_Range p 1 20 _ d k1 hd1 (by omega) (by omega) (by omega)).mono ?_)
        rintro e w' ⟨v, rfl, v0, v1, -, hd', g'⟩
        exact ⟨_, rfl, hR _ _ (rpost_both ⟨1 + v, rfl, by omega, by omega⟩ rfl (touch_grown g' (List.mem_singleton.2 rfl) (XOk.get _ _ hx 0 _ rfl).1 (XOk.get _ _ hx 0 _ rfl).2) ⟨_, hd'⟩)⟩
      case oR1_7 => intro f lo hi w hb hx hf hk hrg R hR; (try replace hb := BelX.zero hb); (try simp (decide := true) only [go_sem] at hf); (try simp (decide := true) only [go_sem] at hk); go_simp; exact hR _ _ (rpost_val rfl rfl (Below.refl _ _) rfl)
      case oR1_8 => intro f lo hi w hb hx hf hk hrg R hR; (try replace hb := BelX.zero hb); (try simp (decide := true) only [go_sem] at hf); (try simp (decide := true) only [go_sem] at hk); go_simp; exact hR _ _ (rpost_val rfl rfl (Below.refl _ _) rfl)
      case oR1_9 => intro f lo hi w hb hx hf hk hrg R hR; (try replace hb := BelX.zero hb); (try simp (decide := true) only [go_sem] at hf); (try simp (decide := true) only [go_sem] at hk); go_simp; exact hR _ _ (rpost_val rfl rfl (Below.refl _ _) rfl)
      case oR1_10 =>
        intro f lo hi w hb hx hf hk hrg R hR; (try replace hb := BelX.zero hb); (try simp (decide := true) only [go_sem] at hf); (try simp (decide := true) only [go_sem] at hk)
        obtain ⟨k1, hd1⟩ := hf
        go_simp
        (with_reducible refine (deck_Next p 4 _ d k1 hd1 (by omega) (by omega)).mono ?_)
        rintro e w' ⟨v, rfl, v0, v1, -, hd', g'⟩
        exact ⟨_, rfl, hR _ _ (rpost_both ⟨0 + v, rfl, by omega, by omega⟩ rfl (touch_grown g' (List.mem_singleton.2 rfl) (XOk.get _ _ hx 0 _ rfl).1 (XOk.get _ _ hx 0 _ rfl).2) ⟨_, hd'⟩)⟩
      case oR1_11 =>
        intro f lo hi w hb hx hf hk hrg R hR; (try replace hb := BelX.zero hb); (try simp (decide := true) only [go_sem] at hf); (try simp (decide := true) only [go_sem] at hk)
        obtain ⟨h2, x, h4, hx0, hx1⟩ := hk
        have ew : IntKind.i64.wrap (now - x) = now - x := by rw [IntKind.wrap_i64]; omega
        go_simp
        exact hR _ _ (rpost_vh ⟨_, rfl, by omega, by omega⟩ rfl (Below.refl _ _))
      case oR1_12 =>
        intro f lo hi w hb hx hf hk hrg R hR; (try replace hb := BelX.zero hb); (try simp (decide := true) only [go_sem] at hf); (try simp (decide := true) only [go_sem] at hk)
        obtain ⟨x, h5, hx0, hx1⟩ := hk
        by_cases hx2 : (0 : Int) < x
        · go_simp
          exact hR _ _ (rpost_vh ⟨_, rfl, by omega, by omega⟩ rfl (Below.refl _ _))
        · go_simp
          exact hR _ _ (rpost_vh ⟨_, rfl, by omega, by omega⟩ rfl (Below.refl _ _))
      case oR1_13 =>
        intro f lo hi w hb hx hf hk hrg R hR; (try replace hb := BelX.zero hb); (try simp (decide := true) only [go_sem] at hf); (try simp (decide := true) only [go_sem] at hk)
        obtain ⟨k1, hd1⟩ := hf
        obtain ⟨-, -, e7, -, ⟨x, h12, hx0, hx1⟩, -⟩ := hk
        go_simp
        (with_reducible refine (deck_Legs p d k1 x _ hd1 (by omega) (by omega)).mono ?_)
        rintro e w' ⟨k2, lg, m, la, lc, rfl, hm, m3, own, hd', g'⟩
        exact ⟨_, rfl, hR _ _ (rpost_some rfl rfl (touch_grown g' (List.mem_singleton.2 rfl) (XOk.get _ _ hx 0 _ rfl).1 (XOk.get _ _ hx 0 _ rfl).2) ⟨⟨_, hd'⟩, lg, m, la, lc, rfl, hm, m3, own, own.lt'⟩)⟩
      case oR1_14 => intro f lo hi w hb hx hf hk hrg R hR; (try replace hb := BelX.zero hb); (try simp (decide := true) only [go_sem] at hf); (try simp (decide := true) only [go_sem] at hk); go_simp; exact hR _ _ (rpost_val rfl rfl (Below.refl _ _) rfl)
      case oR1_15 =>
        intro f lo hi w hb hx hf hk hrg R hR; (try replace hb := BelX.zero hb); (try simp (decide := true) only [go_sem] at hf); (try simp (decide := true) only [go_sem] at hk)
        obtain ⟨-, lg, m, la, lc, h13, hm, m3, own, -⟩ := hf
        obtain ⟨e0, e1, ⟨x3, h3, -, -⟩, e4, ⟨x6, h6, -, -⟩, e14⟩ := hk
        have ilw : RqL w Z.heap.size l xa xc := HIL.out.keepIn HIL.out.rlt fun b h1 h2 => hb.2.2.2.2 b ⟨h2, fun r hr => by simp at hr; subst hr; simp only; omega⟩
        have hcap := ilw.own.cap_le
        rw [← hn.out] at hcap
        go_simp
        (with_reducible refine (ref19_Submit xa l n xc q x3 vid vcls x6 la lg m lc now w ilw.rqs hn.out hcap (fun e => by have := ilw.own; rw [e] at this; exact this.none_cap) (by omega) (fun r hr => ⟨ilw.capLe r hr, by have := HOKM.out r hr; omega⟩) own.row hm.out own.cap_le (by omega)).mono ?_)
        rintro e w' ⟨ya, m2, yc, l2, er, rfl, hs, hm2, il2, hb2⟩
        exact ⟨_, rfl, hR _ _ (rpost_none rfl hb2 ⟨ya, m2, yc, l2, er, rfl, fun e => by have := hs.out; rw [e] at this; exact (subM_ok this).1, hm2, il2, il2.rlt⟩)⟩
      case oR1_16 => intro f lo hi w hb hx hf hk hrg R hR; (try replace hb := BelX.zero hb); (try simp (decide := true) only [go_sem] at hf); (try simp (decide := true) only [go_sem] at hk); go_simp; exact hR _ _ (rpost_none rfl (Below.refl _ _) rfl)
      case oR1_17 =>
        intro f lo hi w hb hx hf hk hrg R hR; (try replace hb := BelX.zero hb); (try simp (decide := true) only [go_sem] at hf); (try simp (decide := true) only [go_sem] at hk)
        obtain ⟨⟨ya, m2, yc, l2, er, h15, -⟩, h16⟩ := hf
        rw [h15] at h16
        go_simp
        refine hR _ _ (rpost_none rfl (Below.refl _ _) ?_)
        (try simp (decide := true) only [go_sem])
        exact ⟨_, h15⟩
      case oR1_18 =>
        intro f lo hi w hb hx hf hk hrg R hR; (try replace hb := BelX.zero hb); (try simp (decide := true) only [go_sem] at hf); (try simp (decide := true) only [go_sem] at hk)
        obtain ⟨⟨ya, m2, yc, l2, er, h15, -⟩, h16⟩ := hf
        rw [h15] at h16
        go_simp
        refine hR _ _ (rpost_none rfl (Below.refl _ _) ?_)
        (try simp (decide := true) only [go_sem])
        exact ⟨_, h15⟩
      case oR1_19 =>
        intro f lo hi w hb hx hf hk hrg R hR; (try replace hb := BelX.zero hb); (try simp (decide := true) only [go_sem] at hf); (try simp (decide := true) only [go_sem] at hk)
        obtain ⟨-, er, h17⟩ := hf
        go_simp
        refine hR _ _ (rpost_none rfl (Below.refl _ _) ?_)
        (try simp (decide := true) only [go_sem])
        exact ⟨_, h17⟩
      case oR1_20 =>
        intro f lo hi w hb hx hf hk hrg R hR; (try replace hb := BelX.zero hb); (try simp (decide := true) only [go_sem] at hf); (try simp (decide := true) only [go_sem] at hk)
        obtain ⟨-, er, h17⟩ := hf
        go_simp
        refine hR _ _ (rpost_none rfl (Below.refl _ _) ?_)
        (try simp (decide := true) only [go_sem])
        exact ⟨_, h17⟩
      case hcl =>
        refine ⟨Closed.true _ _ _ _, Closed.true _ _ _ _, Closed.true _ _ _ _, ?cR1_3, Closed.true _ _ _ _, Closed.true _ _ _ _, ?cR1_6, Closed.true _ _ _ _, Closed.true _ _ _ _, Closed.true _ _ _ _, ?cR1_10, Closed.true _ _ _ _, Closed.true _ _ _ _, ?cR1_13, Closed.true _ _ _ _, ?cR1_15, ?cR1_16, ?cR1_17, ?cR1_18, ?cR1_19, ?cR1_20, ?cR1_21, trivial⟩
        all_goals first | (intro f lo hi v b0 b1 w w' h hs hB hown hU hX; obtain ⟨k1, h⟩ := h; exact ⟨k1, DeckAt.closed h hd (fun hl b hb h1 h2 => hB b ⟨h1, fun r hr => by simp at hr; subst hr; simp only; omega⟩) (hX 0 _ rfl (by simp) p (Nat.le_refl _) (Nat.lt_succ_self _))⟩) | (intro f lo hi v b0 b1 w w' h hs hB hown hU hX; obtain ⟨⟨k1, h⟩, lg, m, la, lc, h1, h2, h3, own, lt⟩ := h; exact ⟨⟨k1, DeckAt.closed h hd (fun hl b hb h1 h2 => hB b ⟨h1, fun r hr => by simp at hr; subst hr; simp only; omega⟩) (hX 0 _ rfl (by simp) p (Nat.le_refl _) (Nat.lt_succ_self _))⟩, lg, m, la, lc, h1, h2, h3, own.keep fun b hb hl _ => hown b hl (lt b (by rw [hb]; rfl)), lt⟩) | (intro f lo hi v b0 b1 w w' h hs hB hown hU hX; obtain ⟨ya, m2, yc, l2, er, h1, h2, h3, h4, h5⟩ := h; exact ⟨ya, m2, yc, l2, er, h1, h2, h3, h4.keepIn h5 hown, h5⟩) | (intro f lo hi v b0 b1 w w' h hs hB hown hU hX; obtain ⟨⟨rfl, rfl⟩, k1, h⟩ := h; exact ⟨⟨rfl, rfl⟩, k1, DeckAt.closed h hd (fun hl b hb h1 h2 => hB b ⟨h1, fun r hr => by simp at hr; subst hr; simp only; omega⟩) (hown _ (Nat.le_refl _) (Nat.lt_succ_self _))⟩) | (exact fun _ _ _ _ _ _ _ _ h _ _ _ _ _ => h)
      intro f lo hi W7 hbr hx hf hk hrg; (try replace hbr := BelX.zero hbr); clear hx; (try simp (decide := true) only [go_sem] at hf); (try simp (decide := true) only [go_sem] at hk)
      obtain ⟨⟨⟨k7, hd7⟩, -⟩, ⟨ya, m2, yc, l2, er, h15, hok2, hm2, il2, lt2⟩, ⟨er2, h19⟩, sl2, h20⟩ := hf
      have hr15 := (hrg.out 15 (by simp)).1
      have e19 : f 19 = .slice ya m2 yc := by rw [h15] at h19; injection h19 with h; injection h with h; injection h with h; exact h.symm
      have e20 : f 20 = .int .i64 er := by rw [h15] at h20; injection h20 with h; injection h with h; injection h with _ h; injection h with h; exact h.symm
      have HOK2 := Lib.hid hok2
      have gz7 : Z.grownBy W7 (some p) := g.trans hbr.one
      have il7 : RqL W7 Z.heap.size l xa xc := HIL.out.keepIn HIL.out.rlt fun b h1 h2 => hbr.2.2.2.2 b ⟨h2, fun r hr => by simp at hr; subst hr; simp only; omega⟩
      have il2' := il2.mono (show Z.heap.size ≤ lo 15 by omega)
      clear hrg hbr h15 h19 h20 hok2 il2 lt2 hr15
      go_simp
      clear hk
      by_cases her : er = 0
      · subst her
        go_wp2_with fail
        go_roundw
        case rel => exact ⟨kk - 1, k7, l2, m2, ya, yc, rfl, by go_num, by omega, by omega, hm2, Lib.hid (HOK2.out (by first | rfl | trivial)), il2', hd7, gz7⟩
        case measure => simp [intOf]; omega
      · have zer : (er == 0) = false := by rw [beq_eq_false_iff_ne]; exact her
        go_wp2_with fail
        go_roundw
        case rel => exact ⟨kk - 1, k7, l, n, xa, xc, rfl, by go_num, by omega, by omega, hn, hok, il7, hd7, gz7⟩
        case measure => simp [intOf]; omega
    · obtain rfl : kk = 0 := by omega
      have hqm := hok.out.legsLen
      have HN4 : n ≤ 4 := by have := hok.out.n.2; rw [List.length_map] at this; rw [hn.out]; exact this
      go_wp2_with ((go_at_call 34; (with_reducible refine (ref19_Mark xa l n xc now _ il.rqs hn.out (by omega) (fun r hr => by have := hqm r hr; omega)).mono ?_); rintro e w2 ⟨ya, yc, l2, rfl, hk2, hn2, il2, hb2⟩))
      go_ret
      exact ⟨kd, n, l2, ya, yc, rfl, hn2, Lib.hid ⟨_, hok.out, hk2.out⟩, il2.mono g.size, hd.below hb2, g.trans (hb2.grown_any (some p))⟩
end Go.Proofs.Ytbanejpihdhbdaa
