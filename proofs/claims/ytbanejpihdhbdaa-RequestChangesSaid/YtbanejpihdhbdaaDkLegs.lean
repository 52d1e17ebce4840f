/- signalbrokermake.Deck.Legs -/
import Derived.Test.YtbanejpihdhbdaaRef19m
namespace Go.Proofs.Ytbanejpihdhbdaa
set_option linter.unusedVariables false
open Go.RowKit Go.Sort
set_option maxRecDepth 100000

theorem ref18_MakeX (j p f t now : Int) (w : World) : Calls Try.prog 35 #[.int .i64 j, .int .i64 p, .int .i64 f, .int .i64 t, .int .i64 now] w fun e w' => ∃ ju ph fr to_ si er : Int, e = .returned (.tuple #[lgAgg ju ph fr to_ si, .int .i64 er]) ∧ Below w.heap.size w w' :=
  (ref18_Make j p f t now w).mono fun e w' ⟨he, hb⟩ => by
    cases h : wMakeOk j p f t now with
    | true => exact ⟨j, p, now + f, now + t, -1, 0, by rw [he, wMakeV, if_pos h], hb⟩
    | false => exact ⟨0, 0, 0, 0, 0, 8, by rw [he, wMakeV, h]; rfl, hb⟩
theorem grown_past {w0 w1 w2 : World} {r : Option Nat} {J : Nat} (h : w0.grownBy w1 (some J)) (g : w1.grownBy w2 r) (hr : ∀ k, r = some k → w0.heap.size ≤ k) : w0.grownBy w2 (some J) :=
  ⟨g.os.trans h.os, g.tape.trans h.tape, g.output.trans h.output, Nat.le_trans h.size g.size, fun k hk hne => (g.block k (Nat.lt_of_lt_of_le hk h.size) (fun e => by have := hr k e.symm; omega)).trans (h.block k hk hne)⟩
theorem DeckAt.grew {Z W w' : World} {p k k0 B : Nat} {d : Dk} {a a' : Option Addr} (h : DeckAt W p d k) (h0 : DeckAt Z p d k0) (g : Grew B W w' a a') (ha : ∀ q, a.map (·.block) = some q → Z.heap.size ≤ q) (hs : Z.heap.size ≤ W.heap.size) : DeckAt w' p d k :=
  h.closed h0 (fun _ b _ h2 _ => g.1.block b (by omega) (fun e => by have := ha b e.symm; omega)) (g.1.block p h.lt (fun e => by have := ha p e.symm; have := h0.lt; omega))
def LegsR (p : Nat) (d : Dk) (w : World) (e : Ending) (w' : World) : Prop :=
  ∃ (k : Nat) (lg : List Lg) (n : Nat) (la : Option Addr) (lc : Nat), e = .returned (.slice la n lc) ∧ Hid (n = lg.length) ∧ n ≤ 3 ∧ Own w' w.heap.size 25 5 la n lc (lgCells lg) ∧ DeckAt w' p d k ∧ w.grownBy w' (some p)
set_option maxHeartbeats 4000000 in
theorem deck_Legs (p : Nat) (d : Dk) (k : Nat) (now : Int) (Z : World) (hd : DeckAt Z p d k) (h0 : 0 ≤ now) (h1 : now ≤ 100000) :
    Calls Try.prog 20 #[.pointer (some ⟨p, 0, none⟩), .int .i64 now] Z (LegsR p d Z) := by
  have hpw := hd.lt
  have HD0 := Lib.hid hd
  go_enter Try.func20, Try.ntmps20
  go_upto_region 3 with ((go_at_call 21; (with_reducible refine (deck_Next p 4 _ d _ hd (by decide) (by decide)).mono ?_); rintro e w1 ⟨v1, rfl, p1, q1, -, hd1, g1⟩))
  go_wp2_with fail
  go_loopw [5, 6] (fun s5 s6 wr => ∃ (kk : Int) (kd : Nat) (lg : List Lg) (n : Nat) (la : Option Addr) (lc : Nat), s5 = .slice la n lc ∧ s6 = .int .i64 kk ∧ 0 ≤ kk ∧ kk + n ≤ 3 ∧ Hid (n = lg.length) ∧ Own wr Z.heap.size 25 5 la n lc (lgCells lg) ∧ DeckAt wr p d kd ∧ Z.grownBy wr (some p)) (fun _ s _ => (intOf s).toNat)
  case atStart => exact ⟨v1, _, [], 0, none, 0, rfl, rfl, by omega, by omega, Lib.hid rfl, Own.nil _ _ _ _, hd1, g1⟩
  case round =>
    clear hd hd1 g1
    obtain ⟨kk, kd, lg, n, la, lc, rfl, rfl, hk0, hk1, hn, own, hd, g⟩ := hrel
    by_cases hlt : 0 < kk
    · have hzs := g.size
      go_upto_region 6 with ((go_at_call 21; (with_reducible refine (deck_Next p 5 _ d _ hd (by decide) (by decide)).mono ?_); rintro e w2 ⟨v2, rfl, p2, q2, -, hd2, g2⟩))
      have own2 := own.grown g2 hpw
      have gz2 := g.trans g2
      clear own hd g g2
      go_upto_region 7 with (first | (go_at_call 21; (with_reducible refine (deck_Next p 4 _ d _ hd2 (by decide) (by decide)).mono ?_); rintro e w3 ⟨v3, rfl, p3, q3, -, hd3, g3⟩) | (go_at_call 21; (with_reducible refine (deck_Next p 3 _ d _ hd3 (by decide) (by decide)).mono ?_); rintro e w4 ⟨v4, rfl, p4, q4, -, hd4, g4⟩) | (go_at_call 21; (with_reducible refine (deck_Next p 9 _ d _ hd4 (by decide) (by decide)).mono ?_); rintro e w5 ⟨v5, rfl, p5, q5, -, hd5, g5⟩) | (go_at_call 35; (with_reducible refine (ref18_MakeX _ _ _ _ _ _).mono ?_); rintro e w6 ⟨ju, ph, fr, to_, si, er, rfl, hb6⟩))
      have gz := ((gz2.trans g3).trans (g4.trans g5)).trans (hb6.grown_any (some p))
      have own6 := (((own2.grown g3 hpw).grown g4 hpw).grown g5 hpw).grown (hb6.grown_any (some p)) hpw
      have hd6 := hd5.below hb6
      refine wp_named (fun W => Blk W w6.heap.size 25 #[.int .i64 ju, .int .i64 ph, .int .i64 fr, .int .i64 to_, .int .i64 si] ∧ Own W Z.heap.size 25 5 la n lc (lgCells lg) ∧ DeckAt W p d _ ∧ Z.grownBy W (some p)) ⟨Blk.new _ _ _, own6.alloc _, hd6.alloc _, gz.trans (World.grownBy_alloc _ _ _)⟩ ?_
      obtain ⟨V, hV⟩ : ∃ V, w6.heap.size = V := ⟨_, rfl⟩
      rw [hV]
      clear hd2 hd3 hd4 hd5 hd6 g3 g4 g5 hb6 own2 own6 gz2 gz hV
      rintro W ⟨kV, own, hd, g⟩
      obtain ⟨v0, v1', v2', v3', v4', vf, vl⟩ := kV.five
      have hWs := g.size
      go_wp2_with ((at_builtin; refine app1Lg rfl _ _ rfl Z.heap.size la n lc lg rfl hn.out ju ph fr to_ si W.heap.size rfl (Blk.new _ _ _) (own.alloc _) (by simp; omega) (by omega) ?_; intro xb xd w7 own7 g7 bl7))
      have gz7 : Z.grownBy w7 (some p) := grown_past (g.trans (World.grownBy_alloc _ _ _)) g7.1 (fun q hq => own.base_le q hq)
      have hd7 : DeckAt w7 p d _ := DeckAt.grew (hd.alloc _) HD0.out g7 (fun q hq => own.base_le q hq) (by simp; omega)
      go_roundw
      case rel => exact ⟨kk - 1, _, lg ++ [⟨ju, ph, fr, to_, si⟩], n + 1, xb, xd, rfl, by go_num, by omega, by omega, Lib.hid (by simp [hn.out]), own7, hd7, gz7⟩
      case measure => simp [intOf]; omega
    · obtain rfl : kk = 0 := by omega
      go_wp2_with fail
      go_ret
      exact ⟨kd, lg, n, la, lc, rfl, hn, by omega, own, hd, g⟩
end Go.Proofs.Ytbanejpihdhbdaa
