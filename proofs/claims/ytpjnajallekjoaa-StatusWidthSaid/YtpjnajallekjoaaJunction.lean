/- signalbrokermake.Deck.Junction: a junction of phases with short times -/
import Derived.Test.YtpjnajallekjoaaShapes
namespace Go.Proofs.Ytpjnajallekjoaa
open Go.RowKit Go.Sort
set_option maxRecDepth 100000

/-- what a junction of the deck's is, as a value in a world -/
def JunOk (w : World) (base : Nat) (m : Nat) (v : Value) : Prop := ∃ (b c b2 c2 : Nat) (ps : List Ph) (cs : List Int) (s : Int),
  v = .agg #[.slice (some ⟨b, 0, none⟩) m c, .slice (some ⟨b2, 0, none⟩) m c2, .int .i64 s] ∧ base ≤ b ∧ base ≤ b2 ∧ ps.length = m ∧ (∀ p ∈ ps, PhOk p) ∧ cs.length = m ∧ 0 ≤ s ∧ s ≤ 2 ∧
  Row w (some ⟨b, 0, none⟩) (phCells ps) ∧ Ints w (some ⟨b2, 0, none⟩) cs
def JunRet (p : Nat) (d : Dk) (k : Nat) (w : World) (e : Ending) (w' : World) : Prop := ∃ v, e = .returned v ∧ JunOk w' w.heap.size (junLen d.l k) v ∧ DeckAt w' p d (junPos d.l k) ∧ w.grownBy w' (some p)

/-- what holds of the junction under way -/
structure JunMid (p : Nat) (d : Dk) (kd : Nat) (w : World) (s : Int) (J R X : Nat) (xs : List Int) (wr : World) (i : Nat) (ps : List Ph) (a : Option Addr) (c : Nat) : Prop where
  len : ps.length = i
  ok : ∀ q ∈ ps, PhOk q
  jun : Blk wr J 55 #[.slice a i c, .slice none 0 0, .int .i64 s]
  own : Own wr (J + 1) 85 8 a i c (phCells ps)
  deck : DeckAt wr p d kd
  shp : Ints wr (some ⟨X, 0, none⟩) xs
  res : Blk wr R 55 #[.slice none 0 0, .slice none 0 0, .int .i64 0]
  grown : w.grownBy wr (some p)

theorem JunMid.step {p : Nat} {d : Dk} {kd kd' : Nat} {w : World} {s : Int} {J R X : Nat} {xs : List Int} {wr wr' : World} {i : Nat} {ps : List Ph} {a : Option Addr} {c : Nat}
    (h : JunMid p d kd w s J R X xs wr i ps a c) (g : wr.grownBy wr' (some p)) (hd : DeckAt wr' p d kd') (hJ : p < J) (hR : R ≠ p) (hX : X ≠ p) : JunMid p d kd' w s J R X xs wr' i ps a c :=
  ⟨h.len, h.ok, h.jun.grown g (by omega), h.own.grown g (by omega), hd, Row.grown h.shp g (fun b hb => by simp at hb; omega), h.res.grown g hR, h.grown.trans g⟩

/-- a store elsewhere -/
theorem JunMid.set1 {p : Nat} {d : Dk} {kd : Nat} {w : World} {s : Int} {J R X : Nat} {xs : List Int} {wr : World} {i : Nat} {ps : List Ph} {a : Option Addr} {c g o : Nat} {v : Value}
    (h : JunMid p d kd w s J R X xs wr i ps a c) (hp : g ≠ p) (hJ : g ≠ J) (hR : g ≠ R) (hX : g ≠ X) (hw : w.heap.size ≤ g) (ho : a.map (·.block) ≠ some g) (hda : d.l = [] ∨ ∀ b, d.a.map (·.block) = some b → b ≠ g) : JunMid p d kd w s J R X xs (wr.setCell ⟨g, o, none⟩ v) i ps a c :=
  ⟨h.len, h.ok, h.jun.far (fun e => hJ e.symm) _, h.own.far ho _, h.deck.set hp hda _, Row.far h.shp (fun e => hX (by injection e with e; exact e.symm)) _, h.res.far (fun e => hR e.symm) _,
    ⟨h.grown.os, h.grown.tape, h.grown.output, by simpa [World.setCell] using h.grown.size, fun k hk hne => (Below.heap_setCell wr ⟨g, o, none⟩ v k (fun e => by simp only at e; omega)).trans (h.grown.block k hk hne)⟩⟩

/-- a world in which the deck's block and one more may have been written -/
theorem JunMid.stepX {p : Nat} {d : Dk} {kd kd' : Nat} {w : World} {s : Int} {J R X : Nat} {xs : List Int} {wr wr' : World} {i : Nat} {ps : List Ph} {a : Option Addr} {c g : Nat}
    (h : JunMid p d kd w s J R X xs wr i ps a c) (hb : BelX wr [(p, p + 1), (g, g + 1)] wr') (hd : DeckAt wr' p d kd') (hJ : p < J ∧ J ≠ g) (hR : R ≠ p ∧ R ≠ g) (hX : X ≠ p ∧ X ≠ g) (hg : w.heap.size ≤ g) (ha : a.map (·.block) ≠ some g) : JunMid p d kd' w s J R X xs wr' i ps a c := by
  have hne : ∀ b, b ≠ p → b ≠ g → ∀ r ∈ [(p, p + 1), (g, g + 1)], ¬ (r.1 ≤ b ∧ b < r.2) := fun b h1 h2 r hr => by
    simp at hr
    rcases hr with rfl | rfl <;> simp only <;> omega
  refine ⟨h.len, h.ok, hb.blk h.jun (hne J (by omega) hJ.2), h.own.keep fun b e hb1 hlt => hb.2.2.2.2 b ⟨hlt, hne b (by omega) fun e' => ha (by rw [e, e']; rfl)⟩, hd, hb.row h.shp (fun b e => by simp at e; subst e; exact hne _ hX.1 hX.2), hb.blk h.res (hne R hR.1 hR.2), ?_⟩
  exact ⟨hb.1.trans h.grown.os, hb.2.1.trans h.grown.tape, hb.2.2.1.trans h.grown.output, Nat.le_trans h.grown.size hb.2.2.2.1, fun k hk hkp => by
    rw [hb.2.2.2.2 k ⟨by have := h.grown.size; omega, hne k (fun e => hkp (by rw [e])) (by omega)⟩]
    exact h.grown.block k hk hkp⟩

/-- one phase more -/
theorem JunMid.push {p : Nat} {d : Dk} {kd : Nat} {w : World} {s : Int} {J R X : Nat} {xs : List Int} {wr w' : World} {i : Nat} {ps : List Ph} {a b' : Option Addr} {c cap' : Nat} {o : Obj} (q : Ph)
    (h : JunMid p d kd w s J R X xs wr i ps a c) (hq : PhOk q) (g : Grew (J + 1) (wr.alloc o) w' a b') (own : Own w' (J + 1) 85 8 b' (i + 1) cap' (phCells ps ++ q.ints.map encI))
    (hJ : p < J) (hR : R < J) (hX : X < J) (hw : w.heap.size ≤ J) (ha : d.l = [] ∨ ∀ b, d.a.map (·.block) = some b → b < w.heap.size) :
    JunMid p d kd w s J R X xs (w'.setCell ⟨J, 0, none⟩ (.slice b' (i + 1) cap')) (i + 1) (ps ++ [q]) b' cap' := by
  have keep : ∀ b, b < wr.heap.size → b ≤ J → w'.heap[b]? = wr.heap[b]? := fun b hb hbJ => by
    rw [g.1.block b (by simp; omega) fun e => by have := h.own.base_le b e.symm; omega]
    exact Below.heap_alloc wr o b hb
  have hJl := h.jun.lt
  have hne : b'.map (·.block) ≠ some J := fun e => by have := own.base_le J e; omega
  refine ⟨by simp [h.len], fun x hx => ?_, ?_, ?_, ?_, ?_, ?_, ?_⟩
  · rcases List.mem_append.1 hx with hx | hx
    · exact h.ok x hx
    · rw [List.mem_singleton.1 hx]; exact hq
  · exact Blk.set ((keep J hJl (Nat.le_refl _)).trans h.jun) 0 _
  · rw [phCells_append]
    exact own.far hne _
  · refine DeckAt.set ?_ (by omega) (ha.imp id fun hh b hb => by have := hh b hb; omega) _
    refine ⟨(keep p h.deck.lt (by omega)).trans h.deck.1, ?_, h.deck.2.2⟩
    rcases ha with ha | ha
    · exact .inl (by rw [ha]; rfl)
    · exact Row.keep h.deck.2.1 fun b off e hlt => keep b hlt (by have := ha b (by rw [e]; rfl); omega)
  · exact Row.far (Row.keep h.shp fun b off e hlt => keep b hlt (by injection e with e; injection e with e; omega)) (fun e => by simp at e; omega) _
  · have hr : Blk w' R 55 #[.slice none 0 0, .slice none 0 0, .int .i64 0] := (keep R h.res.lt (by omega)).trans h.res
    exact hr.far (by simp only; omega) _
  · have hsz := h.grown.size
    have gs := g.1.size
    simp at gs
    refine ⟨g.1.os.trans h.grown.os, g.1.tape.trans h.grown.tape, g.1.output.trans h.grown.output, by simp [World.setCell]; omega, fun k hk hkp => ?_⟩
    exact (Below.heap_setCell w' ⟨J, 0, none⟩ _ k (fun e => by simp only at e; omega)).trans ((keep k (by omega) (by omega)).trans (h.grown.block k hk hkp))

theorem grown_fresh {w0 w1 w2 : World} {r : Option Nat} {J : Nat} (h : w0.grownBy w1 (some J)) (g : w1.grownBy w2 r) (hr : ∀ k, r = some k → w0.heap.size ≤ k) : w0.grownBy w2 (some J) :=
  ⟨g.os.trans h.os, g.tape.trans h.tape, g.output.trans h.output, Nat.le_trans h.size g.size, fun k hk hne => (g.block k (Nat.lt_of_lt_of_le hk h.size) (fun e => by have := hr k e.symm; omega)).trans (h.block k hk hne)⟩
set_option maxHeartbeats 4000000 in
theorem deck_Junction (p : Nat) (w : World) (d : Dk) (k : Nat) (hd : DeckAt w p d k) :
    Calls Try.prog 22 #[.pointer (some ⟨p, 0, none⟩)] w (JunRet p d k w) := by
  go_enter Try.func22, Try.ntmps22
  have hd0 := hd.alloc (.cells #[.slice none 0 0, .slice none 0 0, .int .i64 0] 55)
  have hpl := hd.lt
  go_wp2_with (first | (go_at_call 21; (with_reducible refine (deck_Next p 6 _ d k hd0 (by omega) (by omega)).mono ?_); rintro e w1 ⟨v1, rfl, v10, v11, hv1, hd1, g1⟩) | (go_at_call 37; (with_reducible refine (mk_shapes _ _ (by omega) (by omega)).mono ?_); rintro e w2 ⟨xs, rfl, hxl, hxi, hxb, bel2⟩; (have hd2 := hd1.below bel2)) | (go_at_call 21; (with_reducible refine (deck_Next p 3 _ d (dPos d.l k) hd2 (by omega) (by omega)).mono ?_); rintro e w3 ⟨v3, rfl, v30, v31, hv3, hd3, g3⟩))
  have m1 := shapeLen_bd v1
  obtain ⟨m, hm⟩ : ∃ m, shapeLen v1 = m := ⟨_, rfl⟩
  rw [hm] at m1 hxl ⊢
  have HM : Hid (junLen d.l k = m) := Lib.hid (by unfold junLen; rw [hv1.out]; exact hm)
  clear hm hv1 hv3
  have z1 := g1.size
  have z2 := bel2.size
  have z3 := g3.size
  simp at z1
  have gw : w.grownBy w3 (some p) := ((World.grownBy_alloc w _ _).trans g1).trans ((Below.grown_any bel2 _).trans g3)
  have q2 : w2.heap.size ≤ w3.heap.size := z3
  have sR : Blk w3 w.heap.size 55 #[.slice none 0 0, .slice none 0 0, .int .i64 0] := by
    have h := Blk.new w 55 #[.slice none 0 0, .slice none 0 0, .int .i64 0]
    have h1 := Blk.grown h g1 (by omega)
    exact Blk.grown (h1.below bel2 h1.lt) g3 (by omega)
  have sX : Ints w3 (some ⟨w1.heap.size, 0, none⟩) xs := Row.grown hxi g3 (fun b hb => by simp at hb; omega)
  have zX : w1.heap.size < w3.heap.size := by
    rcases Ints.open sX with h | ⟨b, off, e, hlt, _⟩
    · rw [h] at hxl; simp at hxl; omega
    · injection e with e
      injection e with e1 _ _
      omega
  go_loopw [22] (fun t wr => ∃ (i : Nat) (ps : List Ph) (a : Option Addr) (c : Nat), i ≤ m ∧ t = .int .i64 i ∧ JunMid p d (iter (phPos d.l) i (dPos d.l (dPos d.l k))) w v3 w3.heap.size w.heap.size w1.heap.size xs wr i ps a c ∧ w3.heap.size < wr.heap.size) (fun t _ => m - (intOf t).toNat)
  case atStart => exact ⟨0, [], none, 0, by omega, rfl, ⟨rfl, by simp, Blk.new _ _ _, Own.nil _ _ _ _, hd3.alloc _, Ints.alloc sX _, sR.alloc _, gw.trans (World.grownBy_alloc _ _ _)⟩, by simp⟩
  case round =>
    obtain ⟨i, ps, a, c, hi, rfl, hJ, hsz⟩ := hrel
    by_cases hlt : i < m
    · obtain ⟨x, y, hx, hy, hc0, hc1⟩ : ∃ x y, (0 ≤ x ∧ x ≤ 2) ∧ (0 ≤ y ∧ y ≤ 2) ∧ wr.cell? ⟨w1.heap.size, i * 2, none⟩ = some (.int .i64 x) ∧ wr.cell? ⟨w1.heap.size, i * 2 + 1, none⟩ = some (.int .i64 y) := by
        rcases Ints.open hJ.shp with h | ⟨b, off, e, _, hc⟩
        · rw [h] at hxl; simp at hxl; omega
        · injection e with e
          injection e with e1 e2 _
          subst e1 e2
          have a1 := hc (i * 2) (by omega)
          have a2 := hc (i * 2 + 1) (by omega)
          rw [Nat.zero_add] at a1 a2
          exact ⟨_, _, hxb _ (List.getElem_mem _), hxb _ (List.getElem_mem _), a1, a2⟩
      go_wp2
      obtain ⟨K0, hK0⟩ : ∃ K, iter (phPos d.l) i (dPos d.l (dPos d.l k)) = K := ⟨_, rfl⟩
      have HK := Lib.hid hK0
      rw [hK0] at hJ
      clear hK0
      obtain ⟨a1, h1⟩ : ∃ x, dVal d.l K0 3 = x := ⟨_, rfl⟩
      obtain ⟨a2, h2⟩ : ∃ x, dVal d.l (dPos d.l K0) 2 = x := ⟨_, rfl⟩
      obtain ⟨a3, h3⟩ : ∃ x, dVal d.l (dPos d.l (dPos d.l K0)) 3 = x := ⟨_, rfl⟩
      have b1 := dVal_bd d.l K0 (n := 3) (by omega)
      have b2 := dVal_bd d.l (dPos d.l K0) (n := 2) (by omega)
      have b3 := dVal_bd d.l (dPos d.l (dPos d.l K0)) (n := 3) (by omega)
      rw [h1] at b1
      rw [h2] at b2
      rw [h3] at b3
      have H1 := Lib.hid h1
      have H2 := Lib.hid h2
      have H3 := Lib.hid h3
      clear h1 h2 h3
      obtain ⟨g6, hg6⟩ : ∃ g, wr.heap.size = g := ⟨_, rfl⟩
      refine wp_named (fun W => JunMid p d K0 w v3 w3.heap.size w.heap.size w1.heap.size xs W i ps a c ∧ Blk W g6 83 #[.int .i64 x, .int .i64 y] ∧ g6 < W.heap.size) ⟨hJ.step (World.grownBy_alloc _ _ _) (hJ.deck.alloc _) (by omega) (by omega) (by omega), by rw [← hg6]; exact Blk.new _ _ _, by simp; omega⟩ ?_
      rintro W ⟨hJ, k6, l6⟩
      simp only [hg6]
      clear hc0 hc1
      have s6 : w3.heap.size < g6 := by omega
      clear hg6
      apply wp_region_tab [(p, (p+1))] 13 125 [some 26, some 27, some 28, some 29, some 30, some 31, some 32, some 33, some 34, some 35, some 36, some 7, none] [⟨[13], [], [], []⟩, ⟨[0, 13], [0], [0], []⟩, ⟨[13], [], [], []⟩, ⟨[2, 13], [2], [2], []⟩, ⟨[13], [], [], []⟩, ⟨[4, 13], [4, 13], [4, 13], [13]⟩, ⟨[13], [], [], []⟩, ⟨[4, 5, 6, 13], [5, 6, 13], [5, 6], [13]⟩, ⟨[13], [], [], []⟩, ⟨[4, 5, 6, 7, 8, 13], [7, 8, 13], [7, 8], [13]⟩, ⟨[0, 1, 2, 3, 4, 5, 6, 7, 8, 9, 13], [1, 3, 5, 7, 9], [1, 3, 9], []⟩, ⟨[13], [], [], []⟩, ⟨[0, 1, 2, 3, 4, 5, 6, 7, 8, 9, 10, 11, 13], [10, 11], [10, 11], [11]⟩, ⟨[], [], [], []⟩] [0, 1, 2, 3, 4, 5, 6, 7, 8, 9, 10, 11, 12] [9, 12] [psiTrue, psiTrue, psiTrue, psiTrue, psiTrue, (fun f lo hi v b0 b1 W => DeckAt W p d (dPos d.l K0)), psiTrue, (fun f lo hi v b0 b1 W => DeckAt W p d (dPos d.l (dPos d.l K0))), psiTrue, (fun f lo hi v b0 b1 W => DeckAt W p d (dPos d.l (dPos d.l (dPos d.l K0)))), psiTrue, (fun f lo hi v b0 b1 W => ∃ b, v = .pointer (some ⟨b, 0, none⟩) ∧ b0 ≤ b ∧ b < b1 ∧ Blk W b 85 #[.int .i64 0, .int .i64 0, .int .i64 0, .int .i64 0, .int .i64 0, .int .i64 0, .int .i64 0, .int .i64 0]), (fun f lo hi v b0 b1 W => ∃ b, f 11 = .pointer (some ⟨b, 0, none⟩) ∧ lo (11) ≤ b ∧ b < hi (11) ∧ Blk W b 85 #[.int .i64 x, .int .i64 y, .int .i64 (1 + a1), .int .i64 0, .int .i64 (1 + a2), .int .i64 a3, .int .i64 0, .int .i64 0]), (fun f lo hi v b0 b1 W => (b0 = p ∧ b1 = (p+1)) ∧ DeckAt W p d K0)] [kVal _, kVal _, kVal _, kVal _, kVal _, (fun v => v = .int .i64 (1 + a1)), kVal _, (fun v => v = .int .i64 (1 + a2)), kVal _, (fun v => v = .int .i64 a3), kVal _, kTrue, kTrue]
      · kernel_rfl
      · kernel_rfl
      · rfl
      · rfl
      rotate_left 2
      refine ⟨?oR1_0, ?oR1_1, ?oR1_2, ?oR1_3, ?oR1_4, ?oR1_5, ?oR1_6, ?oR1_7, ?oR1_8, ?oR1_9, ?oR1_10, ?oR1_11, ?oR1_12, trivial⟩
      case hx => exact ⟨⟨by omega, by have := hJ.deck.lt; omega⟩, by simp, trivial⟩
      case hX => exact ⟨fun _ _ _ _ => ⟨⟨rfl, rfl⟩, hJ.deck⟩, trivial⟩
      case oR1_0 => intro f lo hi w hb hx hf hk hrg R hR; (try replace hb := BelX.zero hb); (try simp (decide := true) only [go_sem] at hf); (try simp (decide := true) only [go_sem] at hk); go_simp; exact hR _ _ (rpost_val rfl rfl (Below.refl _ _) rfl)
      case oR1_1 =>
        intro f lo hi w hb hx hf hk hrg R hR; (try replace hb := BelX.zero hb); (try simp (decide := true) only [go_sem] at hf); (try simp (decide := true) only [go_sem] at hk)
        have e := (hb.blk k6 (by simp; omega)).cell 0
        go_simp
        exact hR _ _ (rpost_val rfl rfl (Below.refl _ _) rfl)
      case oR1_2 => intro f lo hi w hb hx hf hk hrg R hR; (try replace hb := BelX.zero hb); (try simp (decide := true) only [go_sem] at hf); (try simp (decide := true) only [go_sem] at hk); go_simp; exact hR _ _ (rpost_val rfl rfl (Below.refl _ _) rfl)
      case oR1_3 =>
        intro f lo hi w hb hx hf hk hrg R hR; (try replace hb := BelX.zero hb); (try simp (decide := true) only [go_sem] at hf); (try simp (decide := true) only [go_sem] at hk)
        have e := (hb.blk k6 (by simp; omega)).cell 1
        go_simp
        exact hR _ _ (rpost_val rfl rfl (Below.refl _ _) rfl)
      case oR1_4 => intro f lo hi w hb hx hf hk hrg R hR; (try replace hb := BelX.zero hb); (try simp (decide := true) only [go_sem] at hf); (try simp (decide := true) only [go_sem] at hk); go_simp; exact hR _ _ (rpost_val rfl rfl (Below.refl _ _) rfl)
      case oR1_5 => intro f lo hi w hb hx hf hk hrg R hR; (try replace hb := BelX.zero hb); (try simp (decide := true) only [go_sem] at hf); (try simp (decide := true) only [go_sem] at hk); go_simp; (with_reducible refine (deck_Range p 1 3 _ d K0 hf.2 (by omega) (by omega) (by omega)).mono ?_); rintro e w' ⟨v, rfl, v0, v1, hv, hd', g'⟩; obtain rfl := hv.out.symm.trans H1.out; exact ⟨_, rfl, hR _ _ (rpost_both (by first | rfl | (show _ = _; simp)) rfl (touch_grown g' (List.mem_singleton.2 rfl) (XOk.get _ _ hx 0 _ rfl).1 (XOk.get _ _ hx 0 _ rfl).2) hd')⟩
      case oR1_6 => intro f lo hi w hb hx hf hk hrg R hR; (try replace hb := BelX.zero hb); (try simp (decide := true) only [go_sem] at hf); (try simp (decide := true) only [go_sem] at hk); go_simp; exact hR _ _ (rpost_val rfl rfl (Below.refl _ _) rfl)
      case oR1_7 => intro f lo hi w hb hx hf hk hrg R hR; (try replace hb := BelX.zero hb); (try simp (decide := true) only [go_sem] at hf); (try simp (decide := true) only [go_sem] at hk); go_simp; (with_reducible refine (deck_Range p 1 2 _ d (dPos d.l K0) hf (by omega) (by omega) (by omega)).mono ?_); rintro e w' ⟨v, rfl, v0, v1, hv, hd', g'⟩; obtain rfl := hv.out.symm.trans H2.out; exact ⟨_, rfl, hR _ _ (rpost_both (by first | rfl | (show _ = _; simp)) rfl (touch_grown g' (List.mem_singleton.2 rfl) (XOk.get _ _ hx 0 _ rfl).1 (XOk.get _ _ hx 0 _ rfl).2) hd')⟩
      case oR1_8 => intro f lo hi w hb hx hf hk hrg R hR; (try replace hb := BelX.zero hb); (try simp (decide := true) only [go_sem] at hf); (try simp (decide := true) only [go_sem] at hk); go_simp; exact hR _ _ (rpost_val rfl rfl (Below.refl _ _) rfl)
      case oR1_9 => intro f lo hi w hb hx hf hk hrg R hR; (try replace hb := BelX.zero hb); (try simp (decide := true) only [go_sem] at hf); (try simp (decide := true) only [go_sem] at hk); go_simp; (with_reducible refine (deck_Next p 3 _ d (dPos d.l (dPos d.l K0)) hf (by omega) (by omega)).mono ?_); rintro e w' ⟨v, rfl, v0, v1, hv, hd', g'⟩; obtain rfl := hv.out.symm.trans H3.out; exact ⟨_, rfl, hR _ _ (rpost_both (by first | rfl | (show _ = _; simp)) rfl (touch_grown g' (List.mem_singleton.2 rfl) (XOk.get _ _ hx 0 _ rfl).1 (XOk.get _ _ hx 0 _ rfl).2) hd')⟩
      case oR1_10 => intro f lo hi w hb hx hf hk hrg R hR; (try replace hb := BelX.zero hb); (try simp (decide := true) only [go_sem] at hf); (try simp (decide := true) only [go_sem] at hk); go_simp; exact hR _ _ (rpost_val rfl rfl (Below.refl _ _) rfl)
      case oR1_11 =>
        intro f lo hi w hb hx hf hk hrg R hR; (try replace hb := BelX.zero hb); (try simp (decide := true) only [go_sem] at hf); (try simp (decide := true) only [go_sem] at hk)
        go_simp
        refine hR _ _ (rpost_none rfl (by repeat (first | (with_reducible refine Below.setCell ?_ ?_ _) | (with_reducible refine Below.alloc ?_ ?_ _) | (with_reducible refine Below.drew ?_) | (with_reducible refine below_drewN ?_ _) | (with_reducible exact Below.refl _ _) | (focus (simp; done)) | (focus (simp; omega)) | (focus omega))) ?_)
        (try simp (decide := true) only [go_sem])
        exact ⟨_, rfl, Nat.le_refl _, by simp, Blk.new _ _ _⟩
      case oR1_12 =>
        intro f lo hi w hb hx hf hk hrg R hR; (try replace hb := BelX.zero hb); (try simp (decide := true) only [go_sem] at hf); (try simp (decide := true) only [go_sem] at hk)
        obtain ⟨b, h1, h2, h3, h4⟩ := hf
        have e0 := h4.cell 0
        have e1 := h4.cell 1
        have e2 := h4.cell 2
        have e3 := h4.cell 3
        have e4 := h4.cell 4
        have e5 := h4.cell 5
        have e6 := h4.cell 6
        have e7 := h4.cell 7
        have fz := h4.frozen
        go_simp
        refine hR _ _ (rpost_some rfl rfl (Touch.set8 _ (List.mem_singleton.2 rfl) h2 h3 _ _ _ _ _ _ _ _) ?_)
        (try simp (decide := true) only [go_sem])
        exact ⟨b, h1, h2, h3, h4.set8 _ _ _ _ _ _ _ _⟩
      case hcl =>
        refine ⟨Closed.true _ _ _ _, Closed.true _ _ _ _, Closed.true _ _ _ _, Closed.true _ _ _ _, Closed.true _ _ _ _, ?cR1_5, Closed.true _ _ _ _, ?cR1_7, Closed.true _ _ _ _, ?cR1_9, Closed.true _ _ _ _, ?cR1_11, ?cR1_12, ?cR1_13, trivial⟩
        all_goals first
          | exact fun f lo hi v b0 b1 w w' h hs hB hown hU hX => DeckAt.closed h hJ.deck (fun _ b _ h1 h2 => hB b ⟨h1, fun r hr => by simp at hr; subst hr; simp only; omega⟩) (hX 0 _ rfl (by simp) p (Nat.le_refl _) (Nat.lt_succ_self _)) | (intro f lo hi v b0 b1 w w' hp _ _ hown _ _; obtain ⟨b, h1, h2, h3, h4⟩ := hp; exact ⟨b, h1, h2, h3, (hown b h2 h3).trans h4⟩) | (intro f lo hi v b0 b1 w w' hp _ _ _ hown _; obtain ⟨b, h1, h2, h3, h4⟩ := hp; exact ⟨b, h1, h2, h3, (hown 11 (by simp) b h2 h3).trans h4⟩)
          | exact fun f lo hi v b0 b1 w w' h hs hB hown hU hX => ⟨h.1, DeckAt.closed h.2 hJ.deck (fun _ b _ h1 h2 => hB b ⟨h1, fun r hr => by simp at hr; subst hr; simp only; omega⟩) (hown p (by have := h.1; omega) (by have := h.1; omega))⟩
      intro f lo hi W7 hbr hx hf hk hrg; (try replace hbr := BelX.zero hbr); clear hx; (try simp (decide := true) only [go_sem] at hf); (try simp (decide := true) only [go_sem] at hk)
      obtain ⟨hd7, b7, h7, b7a, b7b, k7⟩ := hf
      have hbo := hbr.one
      have zbo := hbo.size
      have hJ7 := hJ.step hbo hd7 (by omega) (by omega) (by omega)
      have s7 : g6 < b7 := by have := hrg.out 11 (by simp); omega
      have oa7 : a.map (·.block) ≠ some b7 := fun e => by
        have h1 := hJ.own.lt' b7 e
        have h2 := hrg.out 11 (by simp)
        omega
      have da7 : d.l = [] ∨ ∀ b, d.a.map (·.block) = some b → b ≠ b7 := hd.arr.imp id fun h b hb => by have := h b hb; omega
      obtain ⟨K3, hK3⟩ : ∃ K, dPos d.l (dPos d.l (dPos d.l K0)) = K := ⟨_, rfl⟩
      rw [hK3] at hd7 hJ7
      have HK3 := Lib.hid hK3
      clear hK3 hbr hJ k6 l6
      obtain ⟨c4, h4⟩ : ∃ x, dVal d.l K3 3 = x := ⟨_, rfl⟩
      have b4 := dVal_bd d.l K3 (n := 3) (by omega)
      rw [h4] at b4
      have H4 := Lib.hid h4
      clear h4
      go_simp
      clear hk
      have l7 := k7.lt
      by_cases hc : c4 = 2
      · subst hc
        obtain ⟨a5, h5⟩ : ∃ x, dVal d.l (dPos d.l K3) 2 = x := ⟨_, rfl⟩
        obtain ⟨a6, h6⟩ : ∃ x, dVal d.l (dPos d.l (dPos d.l K3)) 2 = x := ⟨_, rfl⟩
        have b5 := dVal_bd d.l (dPos d.l K3) (n := 2) (by omega)
        have b6 := dVal_bd d.l (dPos d.l (dPos d.l K3)) (n := 2) (by omega)
        rw [h5] at b5
        rw [h6] at b6
        have H5 := Lib.hid h5
        have H6 := Lib.hid h6
        clear h5 h6
        go_wp2_with (first | (go_at_call 21; (with_reducible refine (deck_Next p 3 _ d K3 hd7 (by omega) (by omega)).mono ?_); rintro e w8 ⟨v, rfl, -, -, hv, hd8, g8⟩; (obtain rfl := hv.out.symm.trans H4.out; have k8 := k7.grown g8 (by omega); have hJ8 := hJ7.step g8 hd8 (by omega) (by omega) (by omega))) | (go_at_call 27; (with_reducible refine (deck_Range p 1 2 _ d _ hd8 (by omega) (by omega) (by omega)).mono ?_); rintro e w9 ⟨v, rfl, -, -, hv, hd9, g9⟩; (obtain rfl := hv.out.symm.trans H5.out; have k9 := k8.grown g9 (by omega); have hJ9 := hJ8.step g9 hd9 (by omega) (by omega) (by omega))) | (go_at_call 27; (with_reducible refine (deck_Range p 1 2 _ d _ hd9 (by omega) (by omega) (by omega)).mono ?_); rintro e w10 ⟨v, rfl, -, -, hv, hd10, g10⟩; (obtain rfl := hv.out.symm.trans H6.out; have k10 := k9.grown g10 (by omega); have hJ10 := hJ9.step g10 hd10 (by omega) (by omega) (by omega); have e6 := k10.cell 6; have e7 := k10.cell 7; have fz := k10.frozen)))
        refine wp_named (fun W => ∃ wv cv KK, ((wv = 0 ∧ cv = 0) ∨ (1 ≤ wv ∧ wv ≤ 2 ∧ 1 ≤ cv ∧ cv ≤ 2)) ∧ Hid (phPos d.l K0 = dPos d.l KK) ∧ JunMid p d KK w v3 w3.heap.size w.heap.size w1.heap.size xs W i ps a c ∧ Blk W b7 85 #[.int .i64 x, .int .i64 y, .int .i64 (1 + a1), .int .i64 0, .int .i64 (1 + a2), .int .i64 a3, .int .i64 wv, .int .i64 cv])
          ⟨_, _, _, .inr ⟨by omega, by omega, by omega, by omega⟩, Lib.hid (by unfold phPos; simp only [HK3.out]; rw [if_pos H4.out]), (hJ10.set1 (by omega) (by omega) (by omega) (by omega) (by omega) oa7 da7).set1 (by omega) (by omega) (by omega) (by omega) (by omega) oa7 da7, (k10.set 6 _).set 7 _⟩ ?_
        rintro W9 ⟨wv, cv, KK, hwc, hKK, hJ9, k9⟩
        obtain ⟨a7, h7'⟩ : ∃ x, dVal d.l KK 4 = x := ⟨_, rfl⟩
        have b7' := dVal_bd d.l KK (n := 4) (by omega)
        rw [h7'] at b7'
        have H7 := Lib.hid h7'
        clear h7'
        have e1 : IntKind.i64.wrap (wv + cv) = wv + cv := by rw [IntKind.wrap_i64]; omega
        obtain ⟨mx, hmx⟩ : ∃ mx, (if 1 + a1 < wv + cv then wv + cv else 1 + a1) = mx := ⟨_, rfl⟩
        have bmx : 1 + a1 ≤ mx ∧ wv + cv ≤ mx ∧ mx ≤ 4 := by rw [← hmx]; split <;> omega
        have e2 : IntKind.i64.wrap (mx + a7) = mx + a7 := by rw [IntKind.wrap_i64]; omega
        apply wp_region_tab [(p, (p+1)), (b7, (b7+1))] 13 125 [some 46, some 47, some 48, some 49, some 50, some 51, some 52, some 53, some 54, some 55, some 56, some 57, none] [⟨[13, 14], [], [], []⟩, ⟨[0, 13, 14], [0, 14], [0, 14], []⟩, ⟨[13, 14], [], [], []⟩, ⟨[2, 13, 14], [2, 14], [2, 14], []⟩, ⟨[13, 14], [], [], []⟩, ⟨[4, 13, 14], [4, 14], [4, 14], []⟩, ⟨[2, 3, 4, 5, 13, 14], [3, 5], [3, 5], []⟩, ⟨[0, 1, 2, 3, 4, 5, 6, 13, 14], [1, 6], [1, 6], []⟩, ⟨[13, 14], [], [], []⟩, ⟨[8, 13, 14], [8, 13], [8, 13], [13]⟩, ⟨[0, 1, 2, 3, 4, 5, 6, 7, 8, 9, 13, 14], [7, 9], [7, 9], []⟩, ⟨[0, 1, 2, 3, 4, 5, 6, 7, 8, 9, 10, 13, 14], [], [], []⟩, ⟨[0, 1, 2, 3, 4, 5, 6, 7, 8, 9, 10, 11, 13, 14], [10, 11, 14], [10, 11, 14], [14]⟩, ⟨[], [], [], []⟩, ⟨[], [], [], []⟩] [0, 1, 2, 3, 4, 5, 6, 7, 8, 9, 10, 11, 12] [9, 12] [psiTrue, psiTrue, psiTrue, psiTrue, psiTrue, psiTrue, psiTrue, psiTrue, psiTrue, (fun f lo hi v b0 b1 W => DeckAt W p d (dPos d.l KK)), psiTrue, psiTrue, (fun f lo hi v b0 b1 W => ∃ mg, Hid (1 + a1 ≤ mg ∧ wv + cv ≤ mg ∧ mg ≤ 7) ∧ Blk W b7 85 #[.int .i64 x, .int .i64 y, .int .i64 (1 + a1), .int .i64 mg, .int .i64 (1 + a2), .int .i64 a3, .int .i64 wv, .int .i64 cv]), (fun f lo hi v b0 b1 W => (b0 = p ∧ b1 = (p+1)) ∧ DeckAt W p d KK), (fun f lo hi v b0 b1 W => (b0 = b7 ∧ b1 = (b7+1)) ∧ Blk W b7 85 #[.int .i64 x, .int .i64 y, .int .i64 (1 + a1), .int .i64 0, .int .i64 (1 + a2), .int .i64 a3, .int .i64 wv, .int .i64 cv])] [kVal _, kVal _, kVal _, kVal _, kVal _, kVal _, kVal _, kVal _, kVal _, (fun v => v = .int .i64 a7), kVal _, kVal _, kTrue]
        · kernel_rfl
        · kernel_rfl
        · rfl
        · rfl
        rotate_left 2
        refine ⟨?oR2_0, ?oR2_1, ?oR2_2, ?oR2_3, ?oR2_4, ?oR2_5, ?oR2_6, ?oR2_7, ?oR2_8, ?oR2_9, ?oR2_10, ?oR2_11, ?oR2_12, trivial⟩
        case hx => exact ⟨⟨by omega, by have := hJ9.deck.lt; omega⟩, by simp; omega, ⟨by omega, k9.lt⟩, by simp, trivial⟩
        case hX => exact ⟨fun _ _ _ _ => ⟨⟨rfl, rfl⟩, hJ9.deck⟩, fun _ _ _ _ => ⟨⟨rfl, rfl⟩, k9⟩, trivial⟩
        case oR2_0 => intro f lo hi w hb hx hf hk hrg R hR; (try replace hb := BelX.zero hb); (try simp (decide := true) only [go_sem] at hf); (try simp (decide := true) only [go_sem] at hk); go_simp; exact hR _ _ (rpost_val rfl rfl (Below.refl _ _) rfl)
        case oR2_1 =>
          intro f lo hi w hb hx hf hk hrg R hR; (try replace hb := BelX.zero hb); (try simp (decide := true) only [go_sem] at hf); (try simp (decide := true) only [go_sem] at hk)
          obtain ⟨-, kb⟩ := hf
          have e := kb.cell 2
          go_simp
          exact hR _ _ (rpost_val rfl rfl (Below.refl _ _) rfl)
        case oR2_2 => intro f lo hi w hb hx hf hk hrg R hR; (try replace hb := BelX.zero hb); (try simp (decide := true) only [go_sem] at hf); (try simp (decide := true) only [go_sem] at hk); go_simp; exact hR _ _ (rpost_val rfl rfl (Below.refl _ _) rfl)
        case oR2_3 =>
          intro f lo hi w hb hx hf hk hrg R hR; (try replace hb := BelX.zero hb); (try simp (decide := true) only [go_sem] at hf); (try simp (decide := true) only [go_sem] at hk)
          obtain ⟨-, kb⟩ := hf
          have e := kb.cell 6
          go_simp
          exact hR _ _ (rpost_val rfl rfl (Below.refl _ _) rfl)
        case oR2_4 => intro f lo hi w hb hx hf hk hrg R hR; (try replace hb := BelX.zero hb); (try simp (decide := true) only [go_sem] at hf); (try simp (decide := true) only [go_sem] at hk); go_simp; exact hR _ _ (rpost_val rfl rfl (Below.refl _ _) rfl)
        case oR2_5 =>
          intro f lo hi w hb hx hf hk hrg R hR; (try replace hb := BelX.zero hb); (try simp (decide := true) only [go_sem] at hf); (try simp (decide := true) only [go_sem] at hk)
          obtain ⟨-, kb⟩ := hf
          have e := kb.cell 7
          go_simp
          exact hR _ _ (rpost_val rfl rfl (Below.refl _ _) rfl)
        case oR2_6 => intro f lo hi w hb hx hf hk hrg R hR; (try replace hb := BelX.zero hb); (try simp (decide := true) only [go_sem] at hf); (try simp (decide := true) only [go_sem] at hk); go_simp; exact hR _ _ (rpost_val rfl rfl (Below.refl _ _) rfl)
        case oR2_7 => intro f lo hi w hb hx hf hk hrg R hR; (try replace hb := BelX.zero hb); (try simp (decide := true) only [go_sem] at hf); (try simp (decide := true) only [go_sem] at hk); go_simp; exact hR _ _ (rpost_val rfl rfl (Below.refl _ _) rfl)
        case oR2_8 => intro f lo hi w hb hx hf hk hrg R hR; (try replace hb := BelX.zero hb); (try simp (decide := true) only [go_sem] at hf); (try simp (decide := true) only [go_sem] at hk); go_simp; exact hR _ _ (rpost_val rfl rfl (Below.refl _ _) rfl)
        case oR2_9 => intro f lo hi w hb hx hf hk hrg R hR; (try replace hb := BelX.zero hb); (try simp (decide := true) only [go_sem] at hf); (try simp (decide := true) only [go_sem] at hk); go_simp; (with_reducible refine (deck_Next p 4 _ d KK hf.2 (by omega) (by omega)).mono ?_); rintro e w' ⟨v, rfl, v0, v1, hv, hd', g'⟩; obtain rfl := hv.out.symm.trans H7.out; exact ⟨_, rfl, hR _ _ (rpost_both (by first | rfl | (show _ = _; simp)) rfl (touch_grown g' (List.mem_singleton.2 rfl) (XOk.get _ _ hx 0 _ rfl).1 (XOk.get _ _ hx 0 _ rfl).2) hd')⟩
        case oR2_10 => intro f lo hi w hb hx hf hk hrg R hR; (try replace hb := BelX.zero hb); (try simp (decide := true) only [go_sem] at hf); (try simp (decide := true) only [go_sem] at hk); go_simp; exact hR _ _ (rpost_val rfl rfl (Below.refl _ _) rfl)
        case oR2_11 => intro f lo hi w hb hx hf hk hrg R hR; (try replace hb := BelX.zero hb); (try simp (decide := true) only [go_sem] at hf); (try simp (decide := true) only [go_sem] at hk); go_simp; exact hR _ _ (rpost_val rfl rfl (Below.refl _ _) rfl)
        case oR2_12 =>
          intro f lo hi w hb hx hf hk hrg R hR; (try replace hb := BelX.zero hb); (try simp (decide := true) only [go_sem] at hf); (try simp (decide := true) only [go_sem] at hk)
          obtain ⟨-, kb⟩ := hf
          have e := kb.cell 3
          have fz := kb.frozen 3
          go_simp
          refine hR _ _ (rpost_some rfl rfl (Touch.set _ (List.mem_singleton.2 rfl) (Nat.le_of_eq (XOk.get _ _ hx 1 _ rfl).1) (by rw [(XOk.get _ _ hx 1 _ rfl).2]; exact Nat.lt_succ_self _) 3 _) ?_)
          (try simp (decide := true) only [go_sem])
          exact ⟨_, Lib.hid (by omega), kb.set 3 _⟩
        case hcl =>
          refine ⟨Closed.true _ _ _ _, Closed.true _ _ _ _, Closed.true _ _ _ _, Closed.true _ _ _ _, Closed.true _ _ _ _, Closed.true _ _ _ _, Closed.true _ _ _ _, Closed.true _ _ _ _, Closed.true _ _ _ _, ?cR2_9, Closed.true _ _ _ _, Closed.true _ _ _ _, ?cR2_12, ?cR2_13, ?cR2_14, trivial⟩
          all_goals first
            | exact fun f lo hi v b0 b1 w w' h hs hB hown hU hX => DeckAt.closed h hJ9.deck (fun hl b hq h1 h2 => hB b ⟨h1, fun r hr => by simp at hr; rcases hr with rfl | rfl <;> simp only <;> first | omega | (have := da7.resolve_left hl b hq; omega)⟩) (hX 0 _ rfl (by simp) p (Nat.le_refl _) (Nat.lt_succ_self _))
            | exact fun f lo hi v b0 b1 w w' h hs hB hown hU hX => ⟨h.1, DeckAt.closed h.2 hJ9.deck (fun hl b hq h1 h2 => hB b ⟨h1, fun r hr => by simp at hr; rcases hr with rfl | rfl <;> simp only <;> first | omega | (have := da7.resolve_left hl b hq; omega)⟩) (hown p (by have := h.1; omega) (by have := h.1; omega))⟩
            | exact fun f lo hi v b0 b1 w w' h hs hB hown hU hX => ⟨h.choose, h.choose_spec.1, (hX 1 _ rfl (by simp) b7 (Nat.le_refl _) (Nat.lt_succ_self _)).trans h.choose_spec.2⟩
            | exact fun f lo hi v b0 b1 w w' h hs hB hown hU hX => ⟨h.1, (hown b7 (by have := h.1; omega) (by have := h.1; omega)).trans h.2⟩
        intro f lo hi W10 hbr hx hf hk hrg; (try replace hbr := BelX.zero hbr); clear hx; (try simp (decide := true) only [go_sem] at hf); (try simp (decide := true) only [go_sem] at hk)
        obtain ⟨hd10, mg, hmg, k10⟩ := hf
        have hJ10 := hJ9.stepX hbr hd10 (by omega) (by omega) (by omega) (by omega) oa7
        have z10 := hbr.2.2.2.1
        go_simp
        clear hk hrg hbr e1 e2 hmx
        obtain ⟨f0, f1, f2, f3, f4, f5, f6, f7⟩ := k10.eight
        have j0 := hJ10.jun.cell 0
        have jf := hJ10.jun.frozen
        have o10 := hJ10.own
        have zj := hJ10.jun.lt
        have hi7 : i ≤ 7 := by omega
        obtain ⟨i0, hi0, hz0, hz1, hz2⟩ := info_parts info_phase
        go_wp2_with (first | (at_builtin; refine wp_append_row _ rfl _ _ 53 rfl (w3.heap.size + 1) 85 i0 _ 8 64 Try.underlying53 hi0 hz0 hz1 hz2 rfl (by decide) a i c (phCells ps) rfl (some ⟨W10.heap.size, 0, none⟩) 1 1 rfl (o10.alloc _) [encI x, encI y, encI (1 + a1), encI mg, encI (1 + a2), encI a3, encI wv, encI cv] rfl (row_new _ _ _ _) (by intro u hu; simp at hu; rcases hu with rfl | rfl | rfl | rfl | rfl | rfl | rfl | rfl <;> rfl) (by simp only [maxLen]; omega) (by omega) (by simp; omega) ?_; intro b' cap' w11 own11 g11; (have jw := g11.1.size; have jne : (a.map (·.block)) ≠ some w3.heap.size := fun e => by have := o10.base_le _ e; omega); have j11 := (hJ10.jun.alloc (.cells #[.int .i64 x, .int .i64 y, .int .i64 (1 + a1), .int .i64 mg, .int .i64 (1 + a2), .int .i64 a3, .int .i64 wv, .int .i64 cv] 85)); have j11' := Blk.ofGrown j11 g11 jne; clear j0 jf f0 f1 f2 f3 f4 f5 f6 f7; have j0 := j11'.cell 0; have jf := j11'.frozen))
        go_roundw
        case rel =>
          refine ⟨i + 1, ps ++ [⟨x, y, 1 + a1, mg, 1 + a2, a3, wv, cv⟩], b', cap', by omega, by go_num, ?_, by simp [World.setCell] at jw ⊢; omega⟩
          rw [iter_succ, HK.out, hKK.out]
          have hm := hmg.out
          exact hJ10.push _ ⟨hx, hy, ⟨show 1 ≤ 1 + a1 by omega, show 1 + a1 ≤ 3 by omega⟩, ⟨hm.1, hm.2.1, hm.2.2⟩, ⟨show 1 ≤ 1 + a2 by omega, show 1 + a2 ≤ 2 by omega⟩, ⟨show 0 ≤ a3 by omega, show a3 ≤ 2 by omega⟩, hwc⟩ g11 own11 (by omega) (by omega) (by omega) (by omega) hd.arr
        case measure => simp [intOf]; omega
      · have hcb : (c4 == 2) = false := by rw [beq_eq_false_iff_ne]; exact hc
        go_wp2_with (first | (go_at_call 21; (with_reducible refine (deck_Next p 3 _ d K3 hd7 (by omega) (by omega)).mono ?_); rintro e w8 ⟨v, rfl, -, -, hv, hd8, g8⟩; (obtain rfl := hv.out.symm.trans H4.out; have k8 := k7.grown g8 (by omega); have hJ8 := hJ7.step g8 hd8 (by omega) (by omega) (by omega))))
        refine wp_named (fun W => ∃ wv cv KK, ((wv = 0 ∧ cv = 0) ∨ (1 ≤ wv ∧ wv ≤ 2 ∧ 1 ≤ cv ∧ cv ≤ 2)) ∧ Hid (phPos d.l K0 = dPos d.l KK) ∧ JunMid p d KK w v3 w3.heap.size w.heap.size w1.heap.size xs W i ps a c ∧ Blk W b7 85 #[.int .i64 x, .int .i64 y, .int .i64 (1 + a1), .int .i64 0, .int .i64 (1 + a2), .int .i64 a3, .int .i64 wv, .int .i64 cv])
          ⟨0, 0, _, .inl ⟨rfl, rfl⟩, Lib.hid (by unfold phPos; simp only [HK3.out]; rw [if_neg (by rw [H4.out]; exact hc)]), hJ8, k8⟩ ?_
        rintro W9 ⟨wv, cv, KK, hwc, hKK, hJ9, k9⟩
        obtain ⟨a7, h7'⟩ : ∃ x, dVal d.l KK 4 = x := ⟨_, rfl⟩
        have b7' := dVal_bd d.l KK (n := 4) (by omega)
        rw [h7'] at b7'
        have H7 := Lib.hid h7'
        clear h7'
        have e1 : IntKind.i64.wrap (wv + cv) = wv + cv := by rw [IntKind.wrap_i64]; omega
        obtain ⟨mx, hmx⟩ : ∃ mx, (if 1 + a1 < wv + cv then wv + cv else 1 + a1) = mx := ⟨_, rfl⟩
        have bmx : 1 + a1 ≤ mx ∧ wv + cv ≤ mx ∧ mx ≤ 4 := by rw [← hmx]; split <;> omega
        have e2 : IntKind.i64.wrap (mx + a7) = mx + a7 := by rw [IntKind.wrap_i64]; omega
        apply wp_region_tab [(p, (p+1)), (b7, (b7+1))] 13 125 [some 46, some 47, some 48, some 49, some 50, some 51, some 52, some 53, some 54, some 55, some 56, some 57, none] [⟨[13, 14], [], [], []⟩, ⟨[0, 13, 14], [0, 14], [0, 14], []⟩, ⟨[13, 14], [], [], []⟩, ⟨[2, 13, 14], [2, 14], [2, 14], []⟩, ⟨[13, 14], [], [], []⟩, ⟨[4, 13, 14], [4, 14], [4, 14], []⟩, ⟨[2, 3, 4, 5, 13, 14], [3, 5], [3, 5], []⟩, ⟨[0, 1, 2, 3, 4, 5, 6, 13, 14], [1, 6], [1, 6], []⟩, ⟨[13, 14], [], [], []⟩, ⟨[8, 13, 14], [8, 13], [8, 13], [13]⟩, ⟨[0, 1, 2, 3, 4, 5, 6, 7, 8, 9, 13, 14], [7, 9], [7, 9], []⟩, ⟨[0, 1, 2, 3, 4, 5, 6, 7, 8, 9, 10, 13, 14], [], [], []⟩, ⟨[0, 1, 2, 3, 4, 5, 6, 7, 8, 9, 10, 11, 13, 14], [10, 11, 14], [10, 11, 14], [14]⟩, ⟨[], [], [], []⟩, ⟨[], [], [], []⟩] [0, 1, 2, 3, 4, 5, 6, 7, 8, 9, 10, 11, 12] [9, 12] [psiTrue, psiTrue, psiTrue, psiTrue, psiTrue, psiTrue, psiTrue, psiTrue, psiTrue, (fun f lo hi v b0 b1 W => DeckAt W p d (dPos d.l KK)), psiTrue, psiTrue, (fun f lo hi v b0 b1 W => ∃ mg, Hid (1 + a1 ≤ mg ∧ wv + cv ≤ mg ∧ mg ≤ 7) ∧ Blk W b7 85 #[.int .i64 x, .int .i64 y, .int .i64 (1 + a1), .int .i64 mg, .int .i64 (1 + a2), .int .i64 a3, .int .i64 wv, .int .i64 cv]), (fun f lo hi v b0 b1 W => (b0 = p ∧ b1 = (p+1)) ∧ DeckAt W p d KK), (fun f lo hi v b0 b1 W => (b0 = b7 ∧ b1 = (b7+1)) ∧ Blk W b7 85 #[.int .i64 x, .int .i64 y, .int .i64 (1 + a1), .int .i64 0, .int .i64 (1 + a2), .int .i64 a3, .int .i64 wv, .int .i64 cv])] [kVal _, kVal _, kVal _, kVal _, kVal _, kVal _, kVal _, kVal _, kVal _, (fun v => v = .int .i64 a7), kVal _, kVal _, kTrue]
        · kernel_rfl
        · kernel_rfl
        · rfl
        · rfl
        rotate_left 2
        refine ⟨?oR3_0, ?oR3_1, ?oR3_2, ?oR3_3, ?oR3_4, ?oR3_5, ?oR3_6, ?oR3_7, ?oR3_8, ?oR3_9, ?oR3_10, ?oR3_11, ?oR3_12, trivial⟩
        case hx => exact ⟨⟨by omega, by have := hJ9.deck.lt; omega⟩, by simp; omega, ⟨by omega, k9.lt⟩, by simp, trivial⟩
        case hX => exact ⟨fun _ _ _ _ => ⟨⟨rfl, rfl⟩, hJ9.deck⟩, fun _ _ _ _ => ⟨⟨rfl, rfl⟩, k9⟩, trivial⟩
        case oR3_0 => intro f lo hi w hb hx hf hk hrg R hR; (try replace hb := BelX.zero hb); (try simp (decide := true) only [go_sem] at hf); (try simp (decide := true) only [go_sem] at hk); go_simp; exact hR _ _ (rpost_val rfl rfl (Below.refl _ _) rfl)
        case oR3_1 =>
          intro f lo hi w hb hx hf hk hrg R hR; (try replace hb := BelX.zero hb); (try simp (decide := true) only [go_sem] at hf); (try simp (decide := true) only [go_sem] at hk)
          obtain ⟨-, kb⟩ := hf
          have e := kb.cell 2
          go_simp
          exact hR _ _ (rpost_val rfl rfl (Below.refl _ _) rfl)
        case oR3_2 => intro f lo hi w hb hx hf hk hrg R hR; (try replace hb := BelX.zero hb); (try simp (decide := true) only [go_sem] at hf); (try simp (decide := true) only [go_sem] at hk); go_simp; exact hR _ _ (rpost_val rfl rfl (Below.refl _ _) rfl)
        case oR3_3 =>
          intro f lo hi w hb hx hf hk hrg R hR; (try replace hb := BelX.zero hb); (try simp (decide := true) only [go_sem] at hf); (try simp (decide := true) only [go_sem] at hk)
          obtain ⟨-, kb⟩ := hf
          have e := kb.cell 6
          go_simp
          exact hR _ _ (rpost_val rfl rfl (Below.refl _ _) rfl)
        case oR3_4 => intro f lo hi w hb hx hf hk hrg R hR; (try replace hb := BelX.zero hb); (try simp (decide := true) only [go_sem] at hf); (try simp (decide := true) only [go_sem] at hk); go_simp; exact hR _ _ (rpost_val rfl rfl (Below.refl _ _) rfl)
        case oR3_5 =>
          intro f lo hi w hb hx hf hk hrg R hR; (try replace hb := BelX.zero hb); (try simp (decide := true) only [go_sem] at hf); (try simp (decide := true) only [go_sem] at hk)
          obtain ⟨-, kb⟩ := hf
          have e := kb.cell 7
          go_simp
          exact hR _ _ (rpost_val rfl rfl (Below.refl _ _) rfl)
        case oR3_6 => intro f lo hi w hb hx hf hk hrg R hR; (try replace hb := BelX.zero hb); (try simp (decide := true) only [go_sem] at hf); (try simp (decide := true) only [go_sem] at hk); go_simp; exact hR _ _ (rpost_val rfl rfl (Below.refl _ _) rfl)
        case oR3_7 => intro f lo hi w hb hx hf hk hrg R hR; (try replace hb := BelX.zero hb); (try simp (decide := true) only [go_sem] at hf); (try simp (decide := true) only [go_sem] at hk); go_simp; exact hR _ _ (rpost_val rfl rfl (Below.refl _ _) rfl)
        case oR3_8 => intro f lo hi w hb hx hf hk hrg R hR; (try replace hb := BelX.zero hb); (try simp (decide := true) only [go_sem] at hf); (try simp (decide := true) only [go_sem] at hk); go_simp; exact hR _ _ (rpost_val rfl rfl (Below.refl _ _) rfl)
        case oR3_9 => intro f lo hi w hb hx hf hk hrg R hR; (try replace hb := BelX.zero hb); (try simp (decide := true) only [go_sem] at hf); (try simp (decide := true) only [go_sem] at hk); go_simp; (with_reducible refine (deck_Next p 4 _ d KK hf.2 (by omega) (by omega)).mono ?_); rintro e w' ⟨v, rfl, v0, v1, hv, hd', g'⟩; obtain rfl := hv.out.symm.trans H7.out; exact ⟨_, rfl, hR _ _ (rpost_both (by first | rfl | (show _ = _; simp)) rfl (touch_grown g' (List.mem_singleton.2 rfl) (XOk.get _ _ hx 0 _ rfl).1 (XOk.get _ _ hx 0 _ rfl).2) hd')⟩
        case oR3_10 => intro f lo hi w hb hx hf hk hrg R hR; (try replace hb := BelX.zero hb); (try simp (decide := true) only [go_sem] at hf); (try simp (decide := true) only [go_sem] at hk); go_simp; exact hR _ _ (rpost_val rfl rfl (Below.refl _ _) rfl)
        case oR3_11 => intro f lo hi w hb hx hf hk hrg R hR; (try replace hb := BelX.zero hb); (try simp (decide := true) only [go_sem] at hf); (try simp (decide := true) only [go_sem] at hk); go_simp; exact hR _ _ (rpost_val rfl rfl (Below.refl _ _) rfl)
        case oR3_12 =>
          intro f lo hi w hb hx hf hk hrg R hR; (try replace hb := BelX.zero hb); (try simp (decide := true) only [go_sem] at hf); (try simp (decide := true) only [go_sem] at hk)
          obtain ⟨-, kb⟩ := hf
          have e := kb.cell 3
          have fz := kb.frozen 3
          go_simp
          refine hR _ _ (rpost_some rfl rfl (Touch.set _ (List.mem_singleton.2 rfl) (Nat.le_of_eq (XOk.get _ _ hx 1 _ rfl).1) (by rw [(XOk.get _ _ hx 1 _ rfl).2]; exact Nat.lt_succ_self _) 3 _) ?_)
          (try simp (decide := true) only [go_sem])
          exact ⟨_, Lib.hid (by omega), kb.set 3 _⟩
        case hcl =>
          refine ⟨Closed.true _ _ _ _, Closed.true _ _ _ _, Closed.true _ _ _ _, Closed.true _ _ _ _, Closed.true _ _ _ _, Closed.true _ _ _ _, Closed.true _ _ _ _, Closed.true _ _ _ _, Closed.true _ _ _ _, ?cR3_9, Closed.true _ _ _ _, Closed.true _ _ _ _, ?cR3_12, ?cR3_13, ?cR3_14, trivial⟩
          all_goals first
            | exact fun f lo hi v b0 b1 w w' h hs hB hown hU hX => DeckAt.closed h hJ9.deck (fun hl b hq h1 h2 => hB b ⟨h1, fun r hr => by simp at hr; rcases hr with rfl | rfl <;> simp only <;> first | omega | (have := da7.resolve_left hl b hq; omega)⟩) (hX 0 _ rfl (by simp) p (Nat.le_refl _) (Nat.lt_succ_self _))
            | exact fun f lo hi v b0 b1 w w' h hs hB hown hU hX => ⟨h.1, DeckAt.closed h.2 hJ9.deck (fun hl b hq h1 h2 => hB b ⟨h1, fun r hr => by simp at hr; rcases hr with rfl | rfl <;> simp only <;> first | omega | (have := da7.resolve_left hl b hq; omega)⟩) (hown p (by have := h.1; omega) (by have := h.1; omega))⟩
            | exact fun f lo hi v b0 b1 w w' h hs hB hown hU hX => ⟨h.choose, h.choose_spec.1, (hX 1 _ rfl (by simp) b7 (Nat.le_refl _) (Nat.lt_succ_self _)).trans h.choose_spec.2⟩
            | exact fun f lo hi v b0 b1 w w' h hs hB hown hU hX => ⟨h.1, (hown b7 (by have := h.1; omega) (by have := h.1; omega)).trans h.2⟩
        intro f lo hi W10 hbr hx hf hk hrg; (try replace hbr := BelX.zero hbr); clear hx; (try simp (decide := true) only [go_sem] at hf); (try simp (decide := true) only [go_sem] at hk)
        obtain ⟨hd10, mg, hmg, k10⟩ := hf
        have hJ10 := hJ9.stepX hbr hd10 (by omega) (by omega) (by omega) (by omega) oa7
        have z10 := hbr.2.2.2.1
        go_simp
        clear hk hrg hbr e1 e2 hmx
        obtain ⟨f0, f1, f2, f3, f4, f5, f6, f7⟩ := k10.eight
        have j0 := hJ10.jun.cell 0
        have jf := hJ10.jun.frozen
        have o10 := hJ10.own
        have zj := hJ10.jun.lt
        have hi7 : i ≤ 7 := by omega
        obtain ⟨i0, hi0, hz0, hz1, hz2⟩ := info_parts info_phase
        go_wp2_with (first | (at_builtin; refine wp_append_row _ rfl _ _ 53 rfl (w3.heap.size + 1) 85 i0 _ 8 64 Try.underlying53 hi0 hz0 hz1 hz2 rfl (by decide) a i c (phCells ps) rfl (some ⟨W10.heap.size, 0, none⟩) 1 1 rfl (o10.alloc _) [encI x, encI y, encI (1 + a1), encI mg, encI (1 + a2), encI a3, encI wv, encI cv] rfl (row_new _ _ _ _) (by intro u hu; simp at hu; rcases hu with rfl | rfl | rfl | rfl | rfl | rfl | rfl | rfl <;> rfl) (by simp only [maxLen]; omega) (by omega) (by simp; omega) ?_; intro b' cap' w11 own11 g11; (have jw := g11.1.size; have jne : (a.map (·.block)) ≠ some w3.heap.size := fun e => by have := o10.base_le _ e; omega); have j11 := (hJ10.jun.alloc (.cells #[.int .i64 x, .int .i64 y, .int .i64 (1 + a1), .int .i64 mg, .int .i64 (1 + a2), .int .i64 a3, .int .i64 wv, .int .i64 cv] 85)); have j11' := Blk.ofGrown j11 g11 jne; clear j0 jf f0 f1 f2 f3 f4 f5 f6 f7; have j0 := j11'.cell 0; have jf := j11'.frozen))
        go_roundw
        case rel =>
          refine ⟨i + 1, ps ++ [⟨x, y, 1 + a1, mg, 1 + a2, a3, wv, cv⟩], b', cap', by omega, by go_num, ?_, by simp [World.setCell] at jw ⊢; omega⟩
          rw [iter_succ, HK.out, hKK.out]
          have hm := hmg.out
          exact hJ10.push _ ⟨hx, hy, ⟨show 1 ≤ 1 + a1 by omega, show 1 + a1 ≤ 3 by omega⟩, ⟨hm.1, hm.2.1, hm.2.2⟩, ⟨show 1 ≤ 1 + a2 by omega, show 1 + a2 ≤ 2 by omega⟩, ⟨show 0 ≤ a3 by omega, show a3 ≤ 2 by omega⟩, hwc⟩ g11 own11 (by omega) (by omega) (by omega) (by omega) hd.arr
        case measure => simp [intOf]; omega
    · have him : i = m := by omega
      subst him
      clear hi
      obtain ⟨K9, hK9⟩ : ∃ K, iter (phPos d.l) i (dPos d.l (dPos d.l k)) = K := ⟨_, rfl⟩
      rw [hK9] at hJ
      have HK9 := Lib.hid hK9
      clear hK9
      have j0 := hJ.jun.cell 0
      go_wp2_with (first | (go_at_call 21; (with_reducible refine (deck_Next p 4 _ d _ hJ.deck (by omega) (by omega)).mono ?_); rintro e w12 ⟨v12, rfl, -, -, hv12, hd12, g12⟩; (have hJ12 := hJ.step g12 hd12 (by omega) (by omega) (by omega); clear j0; have j0 := hJ12.jun.cell 0)))
      have zw := hJ.jun.lt
      have z12 := g12.size
      obtain ⟨B0, hB0⟩ : ∃ B, w12.heap.size = B := ⟨_, rfl⟩
      have jl := hJ12.jun.lt
      obtain ⟨ga, rfl, ga1, ga2⟩ := hJ12.own.open_ (by omega)
      have hlen := hJ12.len
      go_loopw [71] (fun t wr => ∃ (i2 : Nat) (cs : List Int) (a2 : Option Addr) (c2 : Nat), i2 ≤ i ∧ t = .int .i64 i2 ∧ cs.length = i2 ∧ Blk wr w3.heap.size 55 #[.slice (some ⟨ga, 0, none⟩) i c, .slice a2 i2 c2, .int .i64 v3] ∧ Own wr B0 3 1 a2 i2 c2 (cs.map encI) ∧ w12.grownBy wr (some w3.heap.size)) (fun t _ => i - (intOf t).toNat)
      case atStart => exact ⟨0, [], none, 0, by omega, rfl, rfl, hJ12.jun, Own.nil _ _ _ _, World.grownBy.refl _ _⟩
      case round =>
        obtain ⟨i2, cs, a2, c2, hi2, rfl, hcs, kj, own2, gr2⟩ := hrel
        obtain ⟨wo, rfl⟩ : ∃ wo : World, wo = wr := ⟨_, rfl⟩
        have szo := gr2.size
        by_cases hlt2 : i2 < i
        · have hph : Row wo (some ⟨ga, 0, none⟩) (phCells ps) := Row.keep hJ12.own.row fun b off e hlt => gr2.block b hlt fun e' => by
            injection e with e
            injection e with e
            injection e' with e'
            omega
          obtain ⟨p0, p1, p2, p3, p4, p5, p6, p7⟩ := row_phase hph i2 (by omega)
          have j0 := kj.cell 0
          have jl2 := kj.lt
          have gal : ga < wo.heap.size := by omega
          go_wp2
          clear p0 p1 p2 p3 p4 p5 p6 p7 j0
          obtain ⟨C, hC⟩ : ∃ C : Array Value, C = #[.int .i64 ps[i2].ring, .int .i64 ps[i2].group, .int .i64 ps[i2].ming, .int .i64 ps[i2].maxg, .int .i64 ps[i2].yellow, .int .i64 ps[i2].red, .int .i64 ps[i2].walk, .int .i64 ps[i2].clear_] := ⟨_, rfl⟩
          have HC := Lib.hid hC
          have C0 : C[0]? = some (.int .i64 ps[i2].ring) := by rw [hC]; rfl
          have C1 : C[1]? = some (.int .i64 ps[i2].group) := by rw [hC]; rfl
          obtain ⟨x0, hx0⟩ : ∃ x, ps[i2].ring = x := ⟨_, rfl⟩
          obtain ⟨x1, hx1⟩ : ∃ x, ps[i2].group = x := ⟨_, rfl⟩
          rw [hx0] at C0
          rw [hx1] at C1
          have HC0 := Lib.hid C0
          have HC1 := Lib.hid C1
          clear C0 C1 hx0 hx1 hC
          go_loopw [79, 11] (fun t r wr => ∃ (k2 : Nat) (rv : Int), k2 ≤ i ∧ t = .int .i64 k2 ∧ r = .int .i64 rv ∧ Below wo.heap.size wo wr ∧ Blk wr wo.heap.size 85 C) (fun t _ _ => i - (intOf t).toNat)
          case atStart => exact ⟨0, 0, by omega, rfl, rfl, (by repeat (first | (with_reducible refine Below.setCell ?_ ?_ _) | (with_reducible refine Below.alloc ?_ ?_ _) | (with_reducible refine Below.drew ?_) | (with_reducible refine below_drewN ?_ _) | (with_reducible exact Below.refl _ _) | (focus (simp; done)) | (focus (simp; omega)) | (focus omega))), by rw [HC.out]; exact Blk.new _ _ _⟩
          case round =>
            obtain ⟨k2, rv, hk2, rfl, rfl, hbo, k10⟩ := hrel
            have szr := hbo.size
            have kjr := kj.below hbo jl2
            have l10 := k10.lt
            by_cases hlt3 : k2 < i
            · obtain ⟨q0, q1, q2, q3, q4, q5, q6, q7⟩ := row_phase (hph.below hbo (Nat.le_refl _)) k2 (by omega)
              have f0 := (k10.cell 0).trans HC0.out
              have f1 := (k10.cell 1).trans HC1.out
              obtain ⟨q, hq⟩ : ∃ q, ps[k2] = q := ⟨_, rfl⟩
              rw [hq] at q0 q1 q2 q3 q4 q5 q6 q7
              clear hq
              by_cases hik : i2 = k2
              · subst hik
                go_wp2
                go_roundw
                case rel => exact ⟨i2 + 1, rv, by omega, by go_num, rfl, (by repeat (first | (with_reducible refine Below.setCell ?_ ?_ _) | (with_reducible refine Below.alloc ?_ ?_ _) | (with_reducible refine Below.drew ?_) | (with_reducible refine below_drewN ?_ _) | (with_reducible exact Below.refl _ _) | (with_reducible refine Below.trans ?_ (Below.mono hbo ?_)) | (focus (simp; done)) | (focus (simp; omega)) | (focus omega) | (focus (have q0 := Below.size hbo; (try simp at q0); (try simp); omega)))), k10.alloc _⟩
                case measure => simp [intOf]; omega
              · have hik' : ((i2 : Int) == (k2 : Int)) = false := by rw [beq_eq_false_iff_ne]; omega
                go_wp2
                all_goals first
                  | exact ⟨⟨_, _, _, .int .i64 ((k2 : Int) + 1), ⟨k2 + 1, by omega, by go_num, ⟨_, rfl⟩, (by repeat (first | (with_reducible refine Below.setCell ?_ ?_ _) | (with_reducible refine Below.alloc ?_ ?_ _) | (with_reducible refine Below.drew ?_) | (with_reducible refine below_drewN ?_ _) | (with_reducible exact Below.refl _ _) | (with_reducible refine Below.trans ?_ (Below.mono hbo ?_)) | (focus (simp; done)) | (focus (simp; omega)) | (focus omega) | (focus (have q0 := Below.size hbo; (try simp at q0); (try simp); omega)))), k10.alloc _⟩, rfl, rfl, rfl, rfl⟩, by simp [intOf]; omega⟩
                  | exact ⟨⟨_, _, .int .i64 ((k2 : Int) + 1), ⟨k2 + 1, by omega, by go_num, ⟨_, rfl⟩, (by repeat (first | (with_reducible refine Below.setCell ?_ ?_ _) | (with_reducible refine Below.alloc ?_ ?_ _) | (with_reducible refine Below.drew ?_) | (with_reducible refine below_drewN ?_ _) | (with_reducible exact Below.refl _ _) | (with_reducible refine Below.trans ?_ (Below.mono hbo ?_)) | (focus (simp; done)) | (focus (simp; omega)) | (focus omega) | (focus (have q0 := Below.size hbo; (try simp at q0); (try simp); omega)))), k10.alloc _⟩, rfl, rfl, rfl⟩, by simp [intOf]; omega⟩ | (go_roundw; case rel => exact ⟨k2 + 1, _, by omega, by go_num, rfl, (by repeat (first | (with_reducible refine Below.setCell ?_ ?_ _) | (with_reducible refine Below.alloc ?_ ?_ _) | (with_reducible refine Below.drew ?_) | (with_reducible refine below_drewN ?_ _) | (with_reducible exact Below.refl _ _) | (with_reducible refine Below.trans ?_ (Below.mono hbo ?_)) | (focus (simp; done)) | (focus (simp; omega)) | (focus omega) | (focus (have q0 := Below.size hbo; (try simp at q0); (try simp); omega)))), k10.alloc _⟩; case measure => simp [intOf]; omega)
                  | exact ⟨⟨k2 + 1, _, by omega, by go_num, rfl, (by repeat (first | (with_reducible refine Below.setCell ?_ ?_ _) | (with_reducible refine Below.alloc ?_ ?_ _) | (with_reducible refine Below.drew ?_) | (with_reducible refine below_drewN ?_ _) | (with_reducible exact Below.refl _ _) | (with_reducible refine Below.trans ?_ (Below.mono hbo ?_)) | (focus (simp; done)) | (focus (simp; omega)) | (focus omega) | (focus (have q0 := Below.size hbo; (try simp at q0); (try simp); omega)))), k10.alloc _⟩, by simp [intOf]; omega⟩
            · have kj0 := kjr.cell 0
              have kj1 := kjr.cell 1
              have kjf := kjr.frozen
              have o2 := own2.below hbo (Nat.le_refl _)
              have hi7 : i2 ≤ 7 := by omega
              obtain ⟨i0, hi0, hz0, hz1, hz2⟩ := info_parts info_int
              have z2' := gr2.size
              go_wp2_with (first | (at_builtin; (refine wp_append_row _ rfl _ _ 22 rfl B0 3 i0 _ 1 8 Try.underlying22 hi0 hz0 hz1 hz2 rfl (by decide) a2 i2 c2 (cs.map encI) rfl (some ⟨wr.heap.size, 0, none⟩) 1 1 rfl (o2.alloc _) [encI rv] rfl (row_new _ _ _ _) (mapI_one [rv]) (by simp only [maxLen]; omega) (by omega) (by first | (simp; done) | (simp; omega)) ?_); intro b' cap' w21 own21 g21; (have jne2 : a2.map (·.block) ≠ some w3.heap.size := fun e => (by have := o2.base_le _ e; omega); have j21 := Blk.ofGrown (kjr.alloc (.cells #[.int .i64 rv] 3)) g21 jne2); (clear kj0 kj1 kjf; have kj1 := j21.cell 1; have kjf := j21.frozen)))
              go_roundw
              case rel => refine ⟨i2 + 1, cs ++ [rv], b', cap', by omega, by go_num, by simp [hcs], j21.set 1 _, by
                have h := own21.far (p := ⟨w3.heap.size, 1, none⟩) (fun e => by have := own21.base_le _ e; simp only at this; omega) (.slice b' (i2 + 1) cap')
                rw [List.map_append]; exact h, (grown_fresh ((gr2.trans (Below.grown_any hbo _)).trans (World.grownBy_alloc _ _ _)) g21.1 (fun k hk => by have := o2.base_le k hk; omega)).trans (grownBy_set _ _ _ _)⟩
              case measure => simp [intOf]; omega
        · obtain rfl : i2 = i := by omega
          obtain ⟨gb, rfl, gb1, gb2⟩ := own2.open_ (by omega)
          have kj0 := kj.cell 0
          have kj1 := kj.cell 1
          have kj2 := kj.cell 2
          have kr := hJ12.res.grown gr2 (by omega)
          have r0 := kr.cell 0
          have r1 := kr.cell 1
          have r2 := kr.cell 2
          have rf := kr.frozen
          have rl := kr.lt
          have zj2 := kj.lt
          go_wp2
          refine bodyPost_ret (v := .agg #[.slice (some ⟨ga, 0, none⟩) i2 c, .slice (some ⟨gb, 0, none⟩) i2 c2, .int .i64 v3]) (by simp [results, Try.results22, go_sem, r0, r1, r2]) rfl ?_
          have hset : wo.grownBy (((wo.setCell ⟨w.heap.size, 0, none⟩ (.slice (some ⟨ga, 0, none⟩) i2 c)).setCell ⟨w.heap.size, 1, none⟩ (.slice (some ⟨gb, 0, none⟩) i2 c2)).setCell ⟨w.heap.size, 2, none⟩ (.int .i64 v3)) (some w.heap.size) := ((grownBy_set _ _ _ _).trans (grownBy_set _ _ _ _)).trans (grownBy_set _ _ _ _)
          refine ⟨_, rfl, ⟨ga, c, gb, c2, ps, cs, v3, by rw [HM.out], by omega, by omega, by rw [HM.out]; exact hlen, hJ12.ok, by rw [HM.out]; exact hcs, by omega, by omega, ?_, ?_⟩, ?_, ?_⟩
          · exact Row.grown (Row.keep hJ12.own.row fun b off e hlt => gr2.block b hlt fun e' => by
              injection e with e
              injection e with e
              injection e' with e'
              omega) hset (fun b hb => by simp at hb; omega)
          · exact Row.grown own2.row hset (fun b hb => by simp at hb; omega)
          · have hdw : DeckAt wo p d (dPos d.l K9) := by
              refine ⟨(gr2.block p hd12.lt (fun e => by injection e with e; omega)).trans hd12.1, ?_, hd12.2.2⟩
              rcases hd.arr with ha | ha
              · exact .inl (by rw [ha]; rfl)
              · exact Row.keep hd12.2.1 fun b off e hlt => gr2.block b hlt fun e' => by
                  injection e' with e'
                  have := ha b (by rw [e]; rfl)
                  omega
            have hR : d.l = [] ∨ ∀ b, d.a.map (·.block) = some b → b ≠ w.heap.size := hd.arr.imp id fun h b hb => by have := h b hb; omega
            have := ((hdw.set (o := 0) (g := w.heap.size) (by omega) hR (.slice (some ⟨ga, 0, none⟩) i2 c)).set (o := 1) (g := w.heap.size) (by omega) hR (.slice (some ⟨gb, 0, none⟩) i2 c2)).set (o := 2) (g := w.heap.size) (by omega) hR (.int .i64 v3)
            unfold junPos
            rw [HM.out, HK9.out]
            exact this
          · have g12' : w.grownBy w12 (some p) := hJ12.grown
            refine ⟨?_, ?_, ?_, ?_, ?_⟩
            · exact hset.os.trans (gr2.os.trans g12'.os)
            · exact hset.tape.trans (gr2.tape.trans g12'.tape)
            · exact hset.output.trans (gr2.output.trans g12'.output)
            · exact Nat.le_trans g12'.size (Nat.le_trans gr2.size hset.size)
            · intro b hb hne
              rw [hset.block b (by have := g12'.size; omega) (fun e => by injection e with e; omega), gr2.block b (by have := g12'.size; omega) (fun e => by injection e with e; omega)]
              exact g12'.block b hb hne
end Go.Proofs.Ytpjnajallekjoaa
