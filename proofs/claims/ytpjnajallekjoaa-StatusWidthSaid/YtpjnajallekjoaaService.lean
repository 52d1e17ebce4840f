/- signalbrokermake.Deck.Service -/
import Derived.Test.YtpjnajallekjoaaControl
import Derived.Test.YtpjnajallekjoaaApr
import Derived.Test.YtpjnajallekjoaaBuf
namespace Go.Proofs.Ytpjnajallekjoaa
set_option linter.unusedVariables false
open Go.RowKit Go.Sort
set_option maxRecDepth 100000

theorem obl_appI {ρ : Operand → Value} {R : Value → World → Prop} {w : World} {dst : Option Tmp} {s x : Operand} {ty : TypeId} {pos : String} {after : Array Edge} {guard : Option (Nat × Bool)}
    (base : Nat) (b : Option Addr) (n cap : Nat) (l : List Int) (hs : ρ s = .slice b n cap) (A : Option Addr) (m c : Nat) (k : List Int) (hx : ρ x = .slice A m c)
    (own : Own w base 3 1 b n cap (l.map encI)) (hr : Ints w A k) (hm : m = k.length) (N : Nat) (hN : N = n + m) (hbig : N ≤ 100000000000) (hbase : base ≤ w.heap.size)
    (h : ∀ b' cap' w', Own w' base 3 1 b' N cap' ((l ++ k).map encI) → Grew base w w' b b' → R (.slice b' N cap') w') :
    oblUpon Try.prog R ((execOp ρ { dst, op := .call { callee := .builtin .append, args := #[s, x], argTypes := #[22, 22] }, type := ty, pos, after, guard }).run Try.prog w) := by
  obtain ⟨i0, hi, hz0, hz1, hz2⟩ := info_parts info_int
  obtain ⟨b', cap', w', hrun, own', g⟩ := run_append_row (P := Try.prog) w base 22 ty _ i0 _ 1 8 Try.underlying22 hi hz0 hz1 hz2 rfl (by decide) b n cap _ own A m c (k.map encI) (by simp [hm]) hr (mapI_one _) (by simp only [maxLen]; omega) (by omega) hbase
  simp only [execOp, resolve, invoke, builtin, Sem.run_bind, Sem.run_pure, Result.andThen_ok, List.map_toArray, List.map_cons, List.map_nil, hs, hx, hrun]
  rw [← hN] at own' ⊢
  rw [← List.map_append] at own'
  exact h b' cap' w' own' g
def svcPos (l : List Int) (k n : Nat) : Nat :=
  if dVal l (dAdv l (2 * n) k) 2 = 0 then dPos l (dPos l (dPos l (dAdv l (2 * n) k))) else dPos l (dAdv l (2 * n) k)
def SvcR (p : Nat) (d : Dk) (k0 n : Nat) (w : World) (e : Ending) (w' : World) : Prop :=
  ∃ (k : Nat) (ph gr : Int) (es : List Int) (ea : Option Addr) (ec : Nat), e = .returned (.agg #[.int .i64 ph, .int .i64 gr, .slice ea n ec]) ∧ Hid (k = svcPos d.l k0 n) ∧ -1 ≤ ph ∧ ph < n ∧ 0 ≤ gr ∧ gr ≤ 3 ∧ es.length = n ∧ (∀ x ∈ es, -1 ≤ x ∧ x ≤ 1000) ∧ Own w' w.heap.size 3 1 ea n ec (es.map encI) ∧ DeckAt w' p d k ∧ w.grownBy w' (some p)
set_option maxHeartbeats 8000000 in
theorem deck_Service (p : Nat) (d : Dk) (k n : Nat) (now : Int) (Z : World) (hd : DeckAt Z p d k) (hn1 : 1 ≤ n) (hn8 : n ≤ 8) (h0 : 0 ≤ now) (h1 : now ≤ 1000) :
    Calls Try.prog 25 #[.pointer (some ⟨p, 0, none⟩), .int .i64 n, .int .i64 now] Z (SvcR p d k n Z) := by
  have hpw := hd.lt
  have har := hd.arr
  go_enter Try.func25, Try.ntmps25
  go_upto_region 2 with fail
  refine wp_named (fun W => W.heap.size = Z.heap.size + 2 ∧ Blk W Z.heap.size 65 #[.int .i64 0, .int .i64 0, .slice none 0 0] ∧ Blk W (Z.heap.size + 1) 65 #[.int .i64 (-1), .int .i64 0, .slice none 0 0] ∧ DeckAt W p d k ∧ Z.grownBy W (some p)) ⟨by simp, (Blk.new _ _ _).alloc _, Blk.next _ _ _ _, (hd.alloc _).alloc _, (World.grownBy_alloc _ _ _).trans (World.grownBy_alloc _ _ _)⟩ ?_
  clear hd
  rintro W ⟨hWs, kr, kv, hd, gw⟩
  have HWS := Lib.hid hWs
  clear hWs
  go_wp2_with fail
  go_loopw [10] (fun s10 wr => ∃ (i : Nat) (kd : Nat) (es : List Int) (ea : Option Addr) (ec : Nat), s10 = .int .i64 i ∧ i ≤ n ∧ Hid (dAdv d.l (2 * (n - i)) kd = dAdv d.l (2 * n) k) ∧ es.length = i ∧ (∀ x ∈ es, -1 ≤ x ∧ x ≤ 1000) ∧ Blk wr Z.heap.size 65 #[.int .i64 0, .int .i64 0, .slice none 0 0] ∧ Blk wr (Z.heap.size + 1) 65 #[.int .i64 (-1), .int .i64 0, .slice ea i ec] ∧ Own wr (Z.heap.size + 2) 3 1 ea i ec (es.map encI) ∧ DeckAt wr p d kd ∧ Z.grownBy wr (some p)) (fun s _ => n - (intOf s).toNat)
  case atStart => exact ⟨0, k, [], none, 0, rfl, by omega, Lib.hid rfl, rfl, by simp, kr, kv, Own.nil _ _ _ _, hd, gw⟩
  case round =>
    clear kr kv hd gw
    obtain ⟨i, kd, es, ea, ec, rfl, hi, hps, hes, hok, kr, kv, own, hd, gw⟩ := hrel
    have HOK := Lib.hid hok
    clear hok
    by_cases hlt : i < n
    · go_upto_region 4 with fail
      have jw := gw.size
      have jl := kv.lt
      subst hes
      have hi8 : es.length < 8 := by omega
      obtain ⟨gl, gh, x1, x2, x3, x4⟩ : ∃ gl gh, gl ≤ gh ∧ gh ≤ wr.heap.size ∧ ((gl = 0 ∧ gh = 0) ∨ Z.heap.size + 2 ≤ gl) ∧ ∀ k, ea.map (·.block) = some k ↔ gl ≤ k ∧ k < gh := by
        cases haa : ea with
        | none => exact ⟨0, 0, Nat.le_refl _, Nat.zero_le _, .inl ⟨rfl, rfl⟩, fun k => by simp⟩
        | some ad =>
          have q1 := own.base_le ad.block (by rw [haa]; rfl)
          have q2 := own.lt' ad.block (by rw [haa]; rfl)
          exact ⟨ad.block, ad.block + 1, by omega, by omega, .inr q1, fun k => by simp; omega⟩
      have HX4 := Lib.hid x4
      clear x4
      apply wp_region_tab [(p, (p+1)), (gl, gh), (Z.heap.size+1, (Z.heap.size+1+1))] 16 39 [some 12, some 13, some 14, some 15, some 16, some 17, some 18, some 19, some 20, some 21, some 22, some 23, some 24, some 25, some 26, none] [⟨[16, 17, 18], [], [], []⟩, ⟨[0, 16, 17, 18], [0, 18], [0, 18], []⟩, ⟨[16, 17, 18], [], [], []⟩, ⟨[16, 17, 18], [], [], []⟩, ⟨[3, 16, 17, 18], [3, 16], [3, 16], [16]⟩, ⟨[2, 3, 4, 16, 17, 18], [2, 4], [2], []⟩, ⟨[2, 3, 4, 5, 16, 17, 18], [5], [5], []⟩, ⟨[2, 3, 4, 5, 6, 16, 17, 18], [6], [6], []⟩, ⟨[16, 17, 18], [], [], []⟩, ⟨[3, 4, 8, 16, 17, 18], [4, 8, 16], [4, 8], [16]⟩, ⟨[2, 3, 4, 5, 6, 7, 8, 9, 16, 17, 18], [7, 9], [7, 9], []⟩, ⟨[2, 3, 4, 5, 6, 7, 8, 9, 10, 16, 17, 18], [7, 10], [7, 10], []⟩, ⟨[2, 3, 4, 5, 6, 7, 8, 9, 10, 11, 16, 17, 18], [11], [11], []⟩, ⟨[0, 1, 2, 3, 4, 5, 6, 7, 8, 9, 10, 11, 12, 16, 17, 18], [1, 12, 17], [1, 12, 17], [17]⟩, ⟨[0, 1, 2, 3, 4, 5, 6, 7, 8, 9, 10, 11, 12, 13, 16, 17, 18], [], [], []⟩, ⟨[0, 1, 2, 3, 4, 5, 6, 7, 8, 9, 10, 11, 12, 13, 14, 16, 17, 18], [13, 14, 18], [13, 14, 18], [18]⟩, ⟨[], [], [], []⟩, ⟨[], [], [], []⟩, ⟨[], [], [], []⟩] [0, 1, 2, 3, 4, 5, 6, 7, 8, 9, 10, 11, 12, 13, 14, 15] [9, 13, 15] [psiTrue, psiTrue, psiTrue, psiTrue, (fun f lo hi v b0 b1 W => DeckAt W p d (dPos d.l kd)), psiTrue, psiTrue, (fun f lo hi v b0 b1 W => ∃ (b : Nat) (x : Int), v = .slice (some ⟨b, 0, none⟩) 3 3 ∧ b0 ≤ b ∧ b < b1 ∧ (-1 ≤ x ∧ x ≤ 1000) ∧ Blk W b 3 #[.int .i64 (-1), .int .i64 0, .int .i64 x]), psiTrue, (fun f lo hi v b0 b1 W => DeckAt W p d (dPos d.l (dPos d.l kd))), (fun f lo hi v b0 b1 W => ∃ (b : Nat) (j : Nat), f 7 = .slice (some ⟨b, 0, none⟩) 3 3 ∧ v = .pointer (some ⟨b, j, none⟩) ∧ j < 3), (fun f lo hi v b0 b1 W => ∃ x : Int, v = .int .i64 x ∧ (-1 ≤ x ∧ x ≤ 1000)), (fun f lo hi v b0 b1 W => ∃ (b : Nat) (x : Int), v = .slice (some ⟨b, 0, none⟩) 1 1 ∧ b0 ≤ b ∧ b < b1 ∧ (-1 ≤ x ∧ x ≤ 1000) ∧ Blk W b 3 #[.int .i64 x]), (fun f lo hi v b0 b1 W => ∃ (a : Option Addr) (c : Nat) (x : Int), v = .slice a (es.length + 1) c ∧ (-1 ≤ x ∧ x ≤ 1000) ∧ Own W (Z.heap.size+2) 3 1 a (es.length + 1) c ((es ++ [x]).map encI) ∧ ∀ k, a.map (·.block) = some k → (gl ≤ k ∧ k < gh) ∨ (b0 ≤ k ∧ k < b1)), psiTrue, (fun f lo hi v b0 b1 W => ∃ (a : Option Addr) (c : Nat), f 13 = .slice a (es.length + 1) c ∧ Blk W (Z.heap.size+1) 65 #[.int .i64 (-1), .int .i64 0, .slice a (es.length + 1) c]), (fun f lo hi v b0 b1 W => (b0 = p ∧ b1 = (p+1)) ∧ DeckAt W p d kd), (fun f lo hi v b0 b1 W => (b0 = gl ∧ b1 = gh) ∧ Own W (Z.heap.size+2) 3 1 ea es.length ec (es.map encI)), (fun f lo hi v b0 b1 W => (b0 = Z.heap.size+1 ∧ b1 = (Z.heap.size+1+1)) ∧ Blk W (Z.heap.size+1) 65 #[.int .i64 (-1), .int .i64 0, .slice ea es.length ec])] [kVal _, kVal _, kVal _, kVal _, (fun v => ∃ x : Int, v = .int .i64 x ∧ 0 ≤ x ∧ x < 6), (fun v => ∃ x : Int, v = .int .i64 x ∧ -6 < x ∧ x ≤ 1000), (fun v => ∃ x : Int, v = .int .i64 x ∧ -1 ≤ x ∧ x ≤ 1000), kTrue, kVal _, (fun v => ∃ x : Int, v = .int .i64 x ∧ 0 ≤ x ∧ x < 3), kTrue, kTrue, kTrue, kTrue, kVal _, kTrue]
      · kernel_rfl
      · kernel_rfl
      · rfl
      · rfl
      rotate_left 2
      refine ⟨?oR1_0, ?oR1_1, ?oR1_2, ?oR1_3, ?oR1_4, ?oR1_5, ?oR1_6, ?oR1_7, ?oR1_8, ?oR1_9, ?oR1_10, ?oR1_11, ?oR1_12, ?oR1_13, ?oR1_14, ?oR1_15, trivial⟩
      case hx => exact ⟨⟨by omega, by omega⟩, by simp; omega, ⟨by omega, by omega⟩, by simp; omega, ⟨by omega, by omega⟩, by simp, trivial⟩
      case hX => exact ⟨fun _ _ _ _ => ⟨⟨rfl, rfl⟩, hd⟩, fun _ _ _ _ => ⟨⟨rfl, rfl⟩, own⟩, fun _ _ _ _ => ⟨⟨rfl, rfl⟩, kv⟩, trivial⟩
      case oR1_0 => intro f lo hi w hb hx hf hk hrg R hR; (try replace hb := BelX.zero hb); (try simp (decide := true) only [go_sem] at hf); (try simp (decide := true) only [go_sem] at hk); go_simp; exact hR _ _ (rpost_val rfl rfl (Below.refl _ _) rfl)
      case oR1_1 =>
        intro f lo hi w hb hx hf hk hrg R hR; (try replace hb := BelX.zero hb); (try simp (decide := true) only [go_sem] at hf); (try simp (decide := true) only [go_sem] at hk)
        have e := hf.2.cell 2
        go_simp
        exact hR _ _ (rpost_val rfl rfl (Below.refl _ _) rfl)
      case oR1_2 => intro f lo hi w hb hx hf hk hrg R hR; (try replace hb := BelX.zero hb); (try simp (decide := true) only [go_sem] at hf); (try simp (decide := true) only [go_sem] at hk); go_simp; exact hR _ _ (rpost_val rfl rfl (Below.refl _ _) rfl)
      case oR1_3 => intro f lo hi w hb hx hf hk hrg R hR; (try replace hb := BelX.zero hb); (try simp (decide := true) only [go_sem] at hf); (try simp (decide := true) only [go_sem] at hk); go_simp; exact hR _ _ (rpost_val rfl rfl (Below.refl _ _) rfl)
      case oR1_4 =>
        intro f lo hi w hb hx hf hk hrg R hR; (try replace hb := BelX.zero hb); (try simp (decide := true) only [go_sem] at hf); (try simp (decide := true) only [go_sem] at hk)
        obtain ⟨-, hd1⟩ := hf
        go_simp
        (with_reducible refine (deck_Next p 6 _ d _ hd1 (by omega) (by omega)).mono ?_)
        rintro e w' ⟨v, rfl, v0, v1, -, hd', g'⟩
        exact ⟨_, rfl, hR _ _ (rpost_both ⟨0 + v, rfl, by omega, by omega⟩ rfl (touch_grown g' (List.mem_singleton.2 rfl) (XOk.get _ _ hx 0 _ rfl).1 (XOk.get _ _ hx 0 _ rfl).2) hd')⟩
      case oR1_5 =>
        intro f lo hi w hb hx hf hk hrg R hR; (try replace hb := BelX.zero hb); (try simp (decide := true) only [go_sem] at hf); (try simp (decide := true) only [go_sem] at hk)
        obtain ⟨h2, x, h4, hx0, hx1⟩ := hk
        have ew : IntKind.i64.wrap (now - x) = now - x := by rw [IntKind.wrap_i64]; omega
        go_simp
        exact hR _ _ (rpost_vb ⟨_, rfl, by omega, by omega⟩ rfl (Below.refl _ _))
      case oR1_6 =>
        intro f lo hi w hb hx hf hk hrg R hR; (try replace hb := BelX.zero hb); (try simp (decide := true) only [go_sem] at hf); (try simp (decide := true) only [go_sem] at hk)
        obtain ⟨x, h5, hx0, hx1⟩ := hk
        by_cases hx2 : (-1 : Int) < x
        · go_simp
          exact hR _ _ (rpost_vb ⟨_, rfl, by omega, by omega⟩ rfl (Below.refl _ _))
        · go_simp
          exact hR _ _ (rpost_vb ⟨_, rfl, by omega, by omega⟩ rfl (Below.refl _ _))
      case oR1_7 =>
        intro f lo hi w hb hx hf hk hrg R hR; (try replace hb := BelX.zero hb); (try simp (decide := true) only [go_sem] at hf); (try simp (decide := true) only [go_sem] at hk)
        obtain ⟨x, h6, hx0, hx1⟩ := hk
        go_simp
        refine hR _ _ (rpost_none rfl (by repeat (first | (with_reducible refine Below.setCell ?_ ?_ _) | (with_reducible refine Below.alloc ?_ ?_ _) | (with_reducible refine Below.drew ?_) | (with_reducible refine below_drewN ?_ _) | (with_reducible exact Below.refl _ _) | (focus (simp; done)) | (focus (simp; omega)) | (focus omega))) ?_)
        (try simp (decide := true) only [go_sem])
        exact ⟨_, x, rfl, Nat.le_refl _, by simp, ⟨by omega, by omega⟩, Blk.new _ _ _⟩
      case oR1_8 => intro f lo hi w hb hx hf hk hrg R hR; (try replace hb := BelX.zero hb); (try simp (decide := true) only [go_sem] at hf); (try simp (decide := true) only [go_sem] at hk); go_simp; exact hR _ _ (rpost_val rfl rfl (Below.refl _ _) rfl)
      case oR1_9 =>
        intro f lo hi w hb hx hf hk hrg R hR; (try replace hb := BelX.zero hb); (try simp (decide := true) only [go_sem] at hf); (try simp (decide := true) only [go_sem] at hk)
        have hd1 := hf
        clear hf
        go_simp
        (with_reducible refine (deck_Next p 3 _ d _ hd1 (by omega) (by omega)).mono ?_)
        rintro e w' ⟨v, rfl, v0, v1, -, hd', g'⟩
        exact ⟨_, rfl, hR _ _ (rpost_both ⟨0 + v, rfl, by omega, by omega⟩ rfl (touch_grown g' (List.mem_singleton.2 rfl) (XOk.get _ _ hx 0 _ rfl).1 (XOk.get _ _ hx 0 _ rfl).2) hd')⟩
      case oR1_10 =>
        intro f lo hi w hb hx hf hk hrg R hR; (try replace hb := BelX.zero hb); (try simp (decide := true) only [go_sem] at hf); (try simp (decide := true) only [go_sem] at hk)
        obtain ⟨⟨b, y, h7, -⟩, -⟩ := hf
        obtain ⟨x, h9, hx0, hx1⟩ := hk
        obtain ⟨j, rfl⟩ := Int.eq_ofNat_of_zero_le hx0
        have hj : j < 3 := by omega
        have i0 : (j : Int) < ((3 : Nat) : Int) := by omega
        go_simp
        refine hR _ _ (rpost_none rfl (Below.refl _ _) ?_)
        (try simp (decide := true) only [go_sem])
        exact ⟨b, j, h7, rfl, hj⟩
      case oR1_11 =>
        intro f lo hi w hb hx hf hk hrg R hR; (try replace hb := BelX.zero hb); (try simp (decide := true) only [go_sem] at hf); (try simp (decide := true) only [go_sem] at hk)
        obtain ⟨⟨b, y, h7, hb1, hb2, hy, kb⟩, b', j, h7', h10, hj⟩ := hf
        obtain rfl : b = b' := by
          rw [h7] at h7'
          injection h7' with e
          injection e with e
          injection e
        have hj' : j = 0 ∨ j = 1 ∨ j = 2 := by omega
        rcases hj' with rfl | rfl | rfl
        · have e0 := kb.cell 0
          go_simp
          refine hR _ _ (rpost_none rfl (Below.refl _ _) ?_)
          (try simp (decide := true) only [go_sem])
          exact ⟨-1, rfl, ⟨by omega, by omega⟩⟩
        · have e0 := kb.cell 1
          go_simp
          refine hR _ _ (rpost_none rfl (Below.refl _ _) ?_)
          (try simp (decide := true) only [go_sem])
          exact ⟨0, rfl, ⟨by omega, by omega⟩⟩
        · have e0 := kb.cell 2
          go_simp
          refine hR _ _ (rpost_none rfl (Below.refl _ _) ?_)
          (try simp (decide := true) only [go_sem])
          exact ⟨y, rfl, hy⟩
      case oR1_12 =>
        intro f lo hi w hb hx hf hk hrg R hR; (try replace hb := BelX.zero hb); (try simp (decide := true) only [go_sem] at hf); (try simp (decide := true) only [go_sem] at hk)
        obtain ⟨x, h11, hx1⟩ := hf
        go_simp
        refine hR _ _ (rpost_none rfl (by repeat (first | (with_reducible refine Below.setCell ?_ ?_ _) | (with_reducible refine Below.alloc ?_ ?_ _) | (with_reducible refine Below.drew ?_) | (with_reducible refine below_drewN ?_ _) | (with_reducible exact Below.refl _ _) | (focus (simp; done)) | (focus (simp; omega)) | (focus omega))) ?_)
        (try simp (decide := true) only [go_sem])
        exact ⟨_, x, rfl, Nat.le_refl _, by simp, hx1, Blk.new _ _ _⟩
      case oR1_13 =>
        intro f lo hi w hb hx hf hk hrg R hR; (try replace hb := BelX.zero hb); (try simp (decide := true) only [go_sem] at hf); (try simp (decide := true) only [go_sem] at hk)
        obtain ⟨⟨b, x, h12, hb1, hb2, hx1, kb⟩, -, own⟩ := hf
        have ix : Ints w (some ⟨b, 0, none⟩) [x] := kb.rowL (enc := encI) (l := [x])
        have hsz : wr.heap.size ≤ w.heap.size := hb.2.2.2.1
        refine obl_appI (Z.heap.size + 2) ea es.length ec es ?_ (some ⟨b, 0, none⟩) 1 1 [x] ?_ own ix rfl (es.length + 1) rfl (by omega) (by omega) ?_
        · go_simp
        · go_simp
        intro b2 c2 w2 own2 g2
        refine hR _ _ (rpost_some rfl rfl (Grew.touch g2 fun k hk' => ⟨17, by simp, ?_⟩) ?_)
        · obtain ⟨q1, q2⟩ : lo 17 = gl ∧ hi 17 = gh := XOk.get _ _ hx 1 _ rfl
          have h4 := (HX4.out k).1 hk'
          omega
        (try simp (decide := true) only [go_sem])
        refine ⟨_, _, x, rfl, hx1, own2, fun k hk' => ?_⟩
        rcases g2.2.1 with e | e
        · exact .inl ((HX4.out k).1 (e ▸ hk'))
        · rw [e] at hk'
          exact .inr ⟨by injection hk' with hk'; omega, own2.lt' k (e ▸ hk')⟩
      case oR1_14 => intro f lo hi w hb hx hf hk hrg R hR; (try replace hb := BelX.zero hb); (try simp (decide := true) only [go_sem] at hf); (try simp (decide := true) only [go_sem] at hk); go_simp; exact hR _ _ (rpost_val rfl rfl (Below.refl _ _) rfl)
      case oR1_15 =>
        intro f lo hi w hb hx hf hk hrg R hR; (try replace hb := BelX.zero hb); (try simp (decide := true) only [go_sem] at hf); (try simp (decide := true) only [go_sem] at hk)
        obtain ⟨⟨a, c, x, h13, -⟩, -, kb⟩ := hf
        have e0 := kb.cell 2
        have e1 := kb.frozen 2
        go_simp
        refine hR _ _ (rpost_some rfl rfl ?_ ?_)
        · refine ⟨rfl, rfl, rfl, by simp [World.setCell], fun q hq hne => Below.heap_setCell w _ _ q fun e => hne 18 (by simp) ?_⟩
          obtain ⟨q1, q2⟩ : lo 18 = Z.heap.size + 1 ∧ hi 18 = Z.heap.size + 1 + 1 := XOk.get _ _ hx 2 _ rfl
          simp only at e
          omega
        (try simp (decide := true) only [go_sem])
        exact ⟨a, c, h13, kb.set 2 _⟩
      case hcl =>
        refine ⟨Closed.true _ _ _ _, Closed.true _ _ _ _, Closed.true _ _ _ _, Closed.true _ _ _ _, ?cR1_4, Closed.true _ _ _ _, Closed.true _ _ _ _, ?cR1_7, Closed.true _ _ _ _, ?cR1_9, ?cR1_10, ?cR1_11, ?cR1_12, ?cR1_13, Closed.true _ _ _ _, ?cR1_15, ?cR1_16, ?cR1_17, ?cR1_18, trivial⟩
        all_goals first
          | exact fun f lo hi v b0 b1 w w' h hs hB hown hU hX => by
              exact DeckAt.closed h hd (fun hl b hb h1 h2 => hB b ⟨h1, fun r hr => by have := har.resolve_left hl b hb; simp at hr; rcases hr with rfl | rfl | rfl <;> simp only <;> omega⟩) (hX 0 _ rfl (by simp) p (Nat.le_refl _) (Nat.lt_succ_self _))
          | exact fun f lo hi v b0 b1 w w' h hs hB hown hU hX => by
              obtain ⟨e, h⟩ := h
              exact ⟨e, DeckAt.closed h hd (fun hl b hb h1 h2 => hB b ⟨h1, fun r hr => by have := har.resolve_left hl b hb; simp at hr; rcases hr with rfl | rfl | rfl <;> simp only <;> omega⟩) (hown p (by omega) (by omega))⟩
          | exact fun f lo hi v b0 b1 w w' h hs hB hown hU hX => by
              obtain ⟨b, x, rfl, h2, h3, h4, h6⟩ := h
              exact ⟨b, x, rfl, h2, h3, h4, (hown b h2 h3).trans h6⟩
          | exact fun f lo hi v b0 b1 w w' h hs hB hown hU hX => by
              obtain ⟨a, c, x, h1, h2, own, lt⟩ := h
              exact ⟨a, c, x, h1, h2, own.keep fun b hb hl _ => (lt b (by rw [hb]; rfl)).elim (fun h => hX 1 _ rfl (by simp) b h.1 h.2) (fun h => hown b h.1 h.2), lt⟩
          | exact fun f lo hi v b0 b1 w w' h hs hB hown hU hX => by
              obtain ⟨a, c, h1, h2⟩ := h
              exact ⟨a, c, h1, (hX 2 _ rfl (by simp) _ (Nat.le_refl _) (Nat.lt_succ_self _)).trans h2⟩
          | exact fun f lo hi v b0 b1 w w' h hs hB hown hU hX => by
              obtain ⟨⟨rfl, rfl⟩, own⟩ := h
              exact ⟨⟨rfl, rfl⟩, own.keep fun b hb hl _ => by have := (HX4.out b).1 (by rw [hb]; rfl); exact hown b this.1 this.2⟩
          | exact fun f lo hi v b0 b1 w w' h hs hB hown hU hX => by
              obtain ⟨⟨rfl, rfl⟩, kb⟩ := h
              exact ⟨⟨rfl, rfl⟩, (hown _ (Nat.le_refl _) (Nat.lt_succ_self _)).trans kb⟩
          | exact fun _ _ _ _ _ _ _ _ h _ _ _ _ _ => h
      intro f lo hi W7 hbr hx hf hk hrg; (try replace hbr := BelX.zero hbr); clear hx; (try simp (decide := true) only [go_sem] at hf); (try simp (decide := true) only [go_sem] at hk)
      obtain ⟨hd7, ⟨a, c, x, h13, hx7, own7, lt7⟩, a', c', h13', loc7⟩ := hf
      obtain ⟨rfl, rfl⟩ : a = a' ∧ c = c' := by
        rw [h13] at h13'
        injection h13' with e1 _ e2
        exact ⟨e1, e2⟩
      have hr13 := hrg.out 13 (by simp)
      have hout : ∀ q, q < wr.heap.size → q ≠ p → q ≠ Z.heap.size + 1 → ea.map (·.block) ≠ some q → W7.heap[q]? = wr.heap[q]? := fun q h1 h2 h3 h4 => hbr.2.2.2.2 q ⟨h1, fun r hr => by
        have h5 : ¬ (gl ≤ q ∧ q < gh) := fun h => h4 ((HX4.out q).2 h)
        simp at hr
        rcases hr with rfl | rfl | rfl <;> simp only <;> omega⟩
      have gw7 : Z.grownBy W7 (some p) := ⟨hbr.1.trans gw.os, hbr.2.1.trans gw.tape, hbr.2.2.1.trans gw.output, Nat.le_trans jw hbr.2.2.2.1, fun q hq hne => (hout q (by omega) (fun e => hne (by rw [e])) (by omega) (fun e => by have := own.base_le q e; omega)).trans (gw.block q hq hne)⟩
      have kr7 := (hout _ kr.lt (by omega) (by omega) (fun e => by have := own.base_le _ e; omega)).trans kr
      clear hout hrg hbr h13' lt7 hr13 HX4
      go_simp
      clear hk h13
      have HPS : Hid (dAdv d.l (2 * (n - (es.length + 1))) (dPos d.l (dPos d.l kd)) = dAdv d.l (2 * n) k) := Lib.hid (by
        rw [← hps.out, show 2 * (n - es.length) = 2 * (n - (es.length + 1)) + 1 + 1 by omega]
        rfl)
      go_wp2
      go_roundw
      case rel => exact ⟨es.length + 1, _, es ++ [x], a, c, by go_num, by omega, HPS, by simp, fun y hy => by rcases List.mem_append.1 hy with h | h; exact HOK.out y h; rw [List.mem_singleton.1 h]; exact hx7, kr7, loc7, own7, hd7, gw7⟩
      case measure => simp [intOf]; omega
    · obtain rfl : i = n := by omega
      go_upto_if 30 with ((go_at_call 21; (with_reducible refine (deck_Next p 2 _ d _ hd (by omega) (by omega)).mono ?_); rintro e w3 ⟨z, rfl, z0, z1, hzv, hd3, g3⟩))
      have kr3 := kr.grown g3 (by omega)
      have kv3 := kv.grown g3 (by omega)
      have own3 := own.grown g3 (by omega)
      have gw3 := gw.trans g3
      clear kr kv own hd gw g3
      have HKD : Hid (kd = dAdv d.l (2 * i) k) := Lib.hid (by have := hps.out; rwa [Nat.sub_self] at this)
      go_cut [] (fun wx => ∃ (ks : Nat) (ph gr : Int), Hid (ks = svcPos d.l k i) ∧ -1 ≤ ph ∧ ph < i ∧ 0 ≤ gr ∧ gr ≤ 3 ∧ Blk wx Z.heap.size 65 #[.int .i64 0, .int .i64 0, .slice none 0 0] ∧ Blk wx (Z.heap.size + 1) 65 #[.int .i64 ph, .int .i64 gr, .slice ea i ec] ∧ Own wx (Z.heap.size + 2) 3 1 ea i ec (es.map encI) ∧ DeckAt wx p d ks ∧ Z.grownBy wx (some p))
      case first =>
        by_cases hz : z = 0
        · obtain rfl := hz
          have HS3 : Hid (dPos d.l (dPos d.l (dPos d.l kd)) = svcPos d.l k i) := Lib.hid (by rw [svcPos, ← HKD.out, if_pos hzv.out])
          clear hzv
          go_wp2_with (first | (go_at_call 21; (with_reducible refine (deck_Next p i _ d _ hd3 (by omega) (by omega)).mono ?_); rintro e w4 ⟨ph, rfl, q0, q1, -, hd4, g4⟩; ((have kr4 := kr3.grown g4 (by omega)); (have kv4 := kv3.grown g4 (by omega)); (have own4 := own3.grown g4 (by omega)); (have gw4 := gw3.trans g4); clear hd3 kr3 kv3 own3 gw3 g4)) | (go_at_call 21; (with_reducible refine (deck_Next p 4 _ d _ hd4 (by omega) (by omega)).mono ?_); rintro e w5 ⟨gr, rfl, q2, q3, -, hd5, g5⟩; ((have kr5 := kr4.grown g5 (by omega)); (have kv5 := kv4.grown g5 (by omega)); (have own5 := own4.grown g5 (by omega)); (have gw5 := gw4.trans g5); clear hd4 kr4 kv4 own4 gw4 g5; (obtain ⟨v0, v1, v2⟩ : w5.cell? ⟨Z.heap.size + 1, 0, none⟩ = _ ∧ w5.cell? ⟨Z.heap.size + 1, 1, none⟩ = _ ∧ w5.cell? ⟨Z.heap.size + 1, 2, none⟩ = _ := ⟨kv5.cell 0, kv5.cell 1, kv5.cell 2⟩); (have vf := kv5.frozen); (have vl := kv5.lt))))
          go_meet
          have hBn : Z.heap.size + 1 ≠ p := by omega
          have hBa : d.l = [] ∨ ∀ b, d.a.map (·.block) = some b → b ≠ Z.heap.size + 1 := har.imp id fun h b hb => by have := h b hb; omega
          have hne : ∀ o, ea.map (·.block) ≠ some (⟨Z.heap.size + 1, o, none⟩ : Addr).block := fun o e => by have := own5.base_le _ e; simp only at this; omega
          exact ⟨_, ph, gr, HS3, by omega, by omega, q2, by omega, (kr5.far (p := ⟨Z.heap.size + 1, 0, none⟩) (by simp only; omega) _).far (p := ⟨Z.heap.size + 1, 1, none⟩) (by simp only; omega) _, (kv5.set 0 _).set 1 _, (own5.far (hne 0) _).far (hne 1) _, (hd5.set hBn hBa _).set hBn hBa _, grown_fresh gw5 ((grownBy_set _ _ 0 _).trans (grownBy_set _ _ 1 _)) (fun q hq => by injection hq with hq; omega)⟩
        · have HS1 : Hid (dPos d.l kd = svcPos d.l k i) := Lib.hid (by rw [svcPos, ← HKD.out, if_neg (by rw [hzv.out]; exact hz)])
          clear hzv
          have hzf : (z == 0) = false := by rw [beq_eq_false_iff_ne]; exact hz
          go_wp2_with fail
          go_meet
          exact ⟨_, -1, 0, HS1, by omega, by omega, by omega, by omega, kr3, kv3, own3, hd3, gw3⟩
      case rest =>
        obtain ⟨ks, ph, gr, hks, p0, p1, p2, p3, kr, kv, own, hd, gw⟩ := hcut
        obtain ⟨v0, v1, v2⟩ : wc.cell? ⟨Z.heap.size + 1, 0, none⟩ = _ ∧ wc.cell? ⟨Z.heap.size + 1, 1, none⟩ = _ ∧ wc.cell? ⟨Z.heap.size + 1, 2, none⟩ = _ := ⟨kv.cell 0, kv.cell 1, kv.cell 2⟩
        obtain ⟨r0, r1, r2⟩ : wc.cell? ⟨Z.heap.size, 0, none⟩ = _ ∧ wc.cell? ⟨Z.heap.size, 1, none⟩ = _ ∧ wc.cell? ⟨Z.heap.size, 2, none⟩ = _ := ⟨kr.cell 0, kr.cell 1, kr.cell 2⟩
        have vl := kv.lt
        have rf := kr.frozen
        have rl := kr.lt
        go_wp2_with fail
        refine bodyPost_ret (v := .agg #[.int .i64 ph, .int .i64 gr, .slice ea i ec]) (by simp [results, Try.results25, go_sem, r0, r1, r2]) rfl ?_
        have hBn : Z.heap.size ≠ p := by omega
        have hBa : d.l = [] ∨ ∀ b, d.a.map (·.block) = some b → b ≠ Z.heap.size := har.imp id fun h b hb => by have := h b hb; omega
        have hne : ∀ o, ea.map (·.block) ≠ some (⟨Z.heap.size, o, none⟩ : Addr).block := fun o e => by have := own.base_le _ e; simp only at this; omega
        exact ⟨ks, ph, gr, es, ea, ec, rfl, hks, p0, p1, p2, p3, hes, HOK.out, (((own.far (hne 0) _).far (hne 1) _).far (hne 2) _).mono (by omega), ((hd.set hBn hBa _).set hBn hBa _).set hBn hBa _, grown_fresh gw (((grownBy_set _ _ 0 _).trans (grownBy_set _ _ 1 _)).trans (grownBy_set _ _ 2 _)) (fun q hq => by injection hq with hq; omega)⟩
end Go.Proofs.Ytpjnajallekjoaa
