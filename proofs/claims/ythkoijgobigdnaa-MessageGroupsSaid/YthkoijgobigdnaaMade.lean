/- law 05: made, a message of any kind -/
import Derived.Test.YthkoijgobigdnaaMake
import Derived.Test.YthkoijgobigdnaaApr
import Derived.Test.YthkoijgobigdnaaDecode
import Derived.Deep.DeepCutAuto
namespace Go.Proofs.Ythkoijgobigdnaa
open Go.RowKit Go.Sort
set_option maxRecDepth 100000

theorem obl_appI {ρ : Operand → Value} {R : Value → World → Prop} {w : World} {dst : Option Tmp} {s x : Operand} {ty : TypeId} {pos : String} {after : Array Edge} {guard : Option (Nat × Bool)}
    (base : Nat) (b : Option Addr) (n cap : Nat) (l : List Int) (hs : ρ s = .slice b n cap) (A : Option Addr) (m c : Nat) (k : List Int) (hx : ρ x = .slice A m c)
    (own : Own w base 3 1 b n cap (l.map encI)) (hr : Ints w A k) (hm : m = k.length) (N : Nat) (hN : N = n + m) (hbig : N ≤ 100000000000) (hbase : base ≤ w.heap.size)
    (h : ∀ b' cap' w', Own w' base 3 1 b' N cap' ((l ++ k).map encI) → Grew base w w' b b' → R (.slice b' N cap') w') :
    oblUpon Try.prog R ((execOp ρ { dst, op := .call { callee := .builtin .append, args := #[s, x], argTypes := #[23, 23] }, type := ty, pos, after, guard }).run Try.prog w) := by
  obtain ⟨i0, hi, hz0, hz1, hz2⟩ := info_parts info_int
  obtain ⟨b', cap', w', hrun, own', g⟩ := run_append_row (P := Try.prog) w base 23 ty _ i0 _ 1 8 Try.underlying23 hi hz0 hz1 hz2 rfl (by decide) b n cap _ own A m c (k.map encI) (by simp [hm]) hr (mapI_one _) (by simp only [maxLen]; omega) (by omega) hbase
  simp only [execOp, resolve, invoke, builtin, Sem.run_bind, Sem.run_pure, Result.andThen_ok, List.map_toArray, List.map_cons, List.map_nil, hs, hx, hrun]
  rw [← hN] at own' ⊢
  rw [← List.map_append] at own'
  exact h b' cap' w' own' g

/-- the message under way: J its block, R the result's -/
structure MadeMid (p : Nat) (d : Dk) (w : World) (R J : Nat) (m : Msg) (ta : Option Addr) (tc : Nat) (aa : Option Addr) (ac : Nat) (da : Option Addr) (dc : Nat) (wx : World) (kd : Nat) : Prop where
  deck : DeckAt wx p d kd
  grown : w.grownBy wx (some p)
  res : Blk wx R 27 #[.int .i64 0, .slice none 0 0, .slice none 0 0, .slice none 0 0]
  loc : Blk wx J 27 #[.int .i64 m.kind, .slice ta m.tok.length tc, .slice aa m.args.length ac, .slice da m.dat.length dc]
  tok : Own wx (J + 1) 5 1 ta m.tok.length tc (m.tok.map encB)
  args : Own wx (J + 1) 3 1 aa m.args.length ac (m.args.map encI)
  dat : Own wx (J + 1) 5 1 da m.dat.length dc (m.dat.map encB)
  apt : Apart aa ta
  apd : Apart aa da

section
variable {p : Nat} {d : Dk} {w : World} {R J : Nat} {m : Msg} {ta aa da : Option Addr} {tc ac dc : Nat} {wx wy : World} {kd k2 : Nat}
theorem MadeMid.step (h : MadeMid p d w R J m ta tc aa ac da dc wx kd) (hd : DeckAt wy p d k2) (g : wx.grownBy wy (some p)) (hR : p < R) (hJ : p < J) : MadeMid p d w R J m ta tc aa ac da dc wy k2 :=
  ⟨hd, h.grown.trans g, h.res.grown g (by omega), h.loc.grown g (by omega), h.tok.grown g (by omega), h.args.grown g (by omega), h.dat.grown g (by omega), h.apt, h.apd⟩
theorem MadeMid.below (h : MadeMid p d w R J m ta tc aa ac da dc wx kd) (g : Below wx.heap.size wx wy) : MadeMid p d w R J m ta tc aa ac da dc wy kd :=
  ⟨h.deck.below g, h.grown.then_below g, h.res.below g h.res.lt, h.loc.below g h.loc.lt, h.tok.below g (Nat.le_refl _), h.args.below g (Nat.le_refl _), h.dat.below g (Nat.le_refl _), h.apt, h.apd⟩
end

/-- a slice's block was made on the way from w to w' -/
def NewIn (w w' : World) (a : Option Addr) : Prop := ∀ q, a.map (·.block) = some q → w.heap.size ≤ q ∧ q < w'.heap.size
def MadeO (p : Nat) (d : Dk) (w : World) (e : Ending) (w' : World) : Prop :=
  ∃ (m : Msg) (k : Nat) (ta : Option Addr) (tc : Nat) (aa : Option Addr) (ac : Nat) (da : Option Addr) (dc : Nat), e = .returned (.agg #[.int .i64 m.kind, .slice ta m.tok.length tc, .slice aa m.args.length ac, .slice da m.dat.length dc]) ∧ MsgAt w' m ta tc aa da ∧
    NewIn w w' ta ∧ NewIn w w' aa ∧ NewIn w w' da ∧ 1 ≤ m.kind ∧ m.kind ≤ 22 ∧ (∀ n ∈ m.args, argOk n) ∧ DeckAt w' p d k ∧ w.grownBy w' (some p)
def MadeR (p : Nat) (d : Dk) (w : World) (e : Ending) (w' : World) : Prop :=
  ∃ (m : Msg) (k : Nat) (v : Value), e = .returned v ∧ MsgOut m w' v ∧ 1 ≤ m.kind ∧ m.kind ≤ 22 ∧ (∀ n ∈ m.args, argOk n) ∧ DeckAt w' p d k ∧ w.grownBy w' (some p)

section
variable {p : Nat} {d : Dk} {w : World} {R J : Nat} {m : Msg} {ta aa da : Option Addr} {tc ac dc : Nat} {wx wy : World} {kd k0 : Nat}
theorem MadeMid.tokNew {k : Int} {tok : List UInt8} {n : Nat} {sa : Option Addr} {o : Obj} (h : MadeMid p d w R J ⟨k, [], [], []⟩ none 0 none 0 none 0 wx kd) (h0 : DeckAt w p d k0) (hw : w.heap.size ≤ R) (hRJ : R < J)
    (own : Own wy (J + 1) 5 1 ta n tc (tok.map encB)) (g : Grew (J + 1) (wx.alloc o) wy sa ta) (hsa : ∀ k, sa.map (·.block) = some k → J + 1 ≤ k) (hn : n = tok.length) :
    MadeMid p d w R J ⟨k, tok, [], []⟩ ta tc none 0 none 0 (wy.setCell ⟨J, 1, none⟩ (.slice ta n tc)) kd := by
  subst hn
  have hp := h0.lt
  have hs := h.grown.size
  have hl := h.loc.lt
  have hne : ∀ q, q ≤ J → sa.map (·.block) ≠ some q := fun q hq e => by have := hsa q e; omega
  have hta := own.base_le
  have l2 := (h.loc.alloc o).ofGrown g (hne J (Nat.le_refl _))
  have gg := (h.grown.then_alloc o)
  refine ⟨?_, ?_, ?_, ?_, ?_, Own.nil _ _ _ _, Own.nil _ _ _ _, Apart.none_left _, Apart.none_left _⟩
  · exact DeckAt.set ((h.deck.alloc o).grew h0 g (by simp; omega) (fun k e => by have := hsa k e; omega)) (by omega) (h0.arr.imp id fun q b hb => by have := q b hb; omega) _
  · have g2 : w.grownBy wy (some p) := ⟨g.1.os.trans gg.os, g.1.tape.trans gg.tape, g.1.output.trans gg.output, Nat.le_trans gg.size g.1.size, fun q hq hne' => (g.1.block q (Nat.lt_of_lt_of_le hq gg.size) (fun e => by have := hsa q e.symm; omega)).trans (gg.block q hq hne')⟩
    exact g2.then_set (by omega)
  · exact ((h.res.alloc o).ofGrown g (hne R (by omega))).far (by simp only; omega) _
  · exact l2.set 1 _
  · exact own.far (fun e => by have := hta J e; omega) _
end

theorem MadeMid.datNew {p : Nat} {d : Dk} {w : World} {R J : Nat} {k : Int} {tok : List UInt8} {l : List Int} {dat0 : List UInt8} {ta aa da : Option Addr} {tc ac dc : Nat} {wx : World} {kd k0 : Nat} (h : MadeMid p d w R J ⟨k, tok, l, dat0⟩ ta tc aa ac da dc wx kd) (h0 : DeckAt w p d k0) (hw : w.heap.size ≤ R) (hRJ : R < J)
    {dat : List UInt8} {db : Option Addr} {n c : Nat} (own : Own wx (J + 1) 5 1 db n c (dat.map encB)) (hn : n = dat.length) (hap : Apart aa db) :
    MadeMid p d w R J ⟨k, tok, l, dat⟩ ta tc aa ac db c (wx.setCell ⟨J, 3, none⟩ (.slice db n c)) kd := by
  subst hn
  have hp := h0.lt
  have ft := h.tok.base_le
  have fa := h.args.base_le
  have fd := own.base_le
  exact ⟨h.deck.set (by omega) (h0.arr.imp id fun q b hb => by have := q b hb; omega) _, h.grown.then_set (by omega), h.res.far (by simp only; omega) _, h.loc.set 3 _, h.tok.far (fun e => by have := ft J e; omega) _, h.args.far (fun e => by have := fa J e; omega) _, own.far (fun e => by have := fd J e; omega) _, h.apt, hap⟩
theorem Apart.new {w : World} {base : Nat} {e : TypeId} {size n cap : Nat} {a b : Option Addr} {xs : List Value} (h : Own w base e size a n cap xs) (hb : ∀ k, b.map (·.block) = some k → w.heap.size ≤ k) : Apart a b := fun k ha hk => by
  have := h.lt' k ha
  have := hb k hk
  omega

theorem MadeMid.fin {p : Nat} {d : Dk} {w : World} {R J : Nat} {m : Msg} {ta aa da : Option Addr} {tc ac dc : Nat} {wx : World} {kd k0 : Nat} (h : MadeMid p d w R J m ta tc aa ac da dc wx kd) (h0 : DeckAt w p d k0) (hw : w.heap.size ≤ R) (hRJ : R < J)
    (h1 : 1 ≤ m.kind) (h2 : m.kind ≤ 22) (hok : ∀ x ∈ m.args, argOk x) (l1 : m.tok.length ≤ 1000000) (l2 : m.args.length ≤ 1000000) (l3 : m.dat.length ≤ 1000000) {u0 u1 u2 u3 : Value} :
    MadeO p d w (.returned (.agg #[.int .i64 m.kind, .slice ta m.tok.length tc, .slice aa m.args.length ac, .slice da m.dat.length dc])) ((((wx.setCell ⟨R, 0, none⟩ u0).setCell ⟨R, 1, none⟩ u1).setCell ⟨R, 2, none⟩ u2).setCell ⟨R, 3, none⟩ u3) := by
  have hp := h0.lt
  have ft := h.tok.base_le
  have fa := h.args.base_le
  have fd := h.dat.base_le
  have da' : d.l = [] ∨ ∀ b, d.a.map (·.block) = some b → b ≠ R := h0.arr.imp id fun q b hb => by have := q b hb; omega
  exact ⟨m, kd, ta, tc, aa, ac, da, dc, rfl, ⟨Row.far4 h.tok.byt (fun b hb => by have := ft b hb; omega) _ _ _ _, Row.far4 h.args.row (fun b hb => by have := fa b hb; omega) _ _ _ _, Row.far4 h.dat.byt (fun b hb => by have := fd b hb; omega) _ _ _ _, fun e => h.tok.none_len e, l1, l2, l3⟩,
    fun q hq => ⟨by have := ft q hq; omega, by have := h.tok.lt' q hq; simpa using this⟩, fun q hq => ⟨by have := fa q hq; omega, by have := h.args.lt' q hq; simpa using this⟩, fun q hq => ⟨by have := fd q hq; omega, by have := h.dat.lt' q hq; simpa using this⟩, h1, h2, hok,
    (((h.deck.set (by omega) da' _).set (by omega) da' _).set (by omega) da' _).set (by omega) da' _, (((h.grown.then_set (by omega)).then_set (by omega)).then_set (by omega)).then_set (by omega)⟩

theorem kindTab {K : Nat} (h1 : 1 ≤ K) (h2 : K ≤ 22) : ∃ t : Int, 0 ≤ t ∧ t ≤ 7 ∧ (#[.int .i64 0, .int .i64 0, .int .i64 3, .int .i64 1, .int .i64 2, .int .i64 1, .int .i64 7, .int .i64 3, .int .i64 1, .int .i64 0, .int .i64 1, .int .i64 1, .int .i64 0, .int .i64 2, .int .i64 2, .int .i64 2, .int .i64 1, .int .i64 1, .int .i64 4, .int .i64 2, .int .i64 4, .int .i64 1, .int .i64 1] : Array Value)[K]? = some (.int .i64 t) := by
  have : K = 1 ∨ K = 2 ∨ K = 3 ∨ K = 4 ∨ K = 5 ∨ K = 6 ∨ K = 7 ∨ K = 8 ∨ K = 9 ∨ K = 10 ∨ K = 11 ∨ K = 12 ∨ K = 13 ∨ K = 14 ∨ K = 15 ∨ K = 16 ∨ K = 17 ∨ K = 18 ∨ K = 19 ∨ K = 20 ∨ K = 21 ∨ K = 22 := by omega
  rcases this with rfl | rfl | rfl | rfl | rfl | rfl | rfl | rfl | rfl | rfl | rfl | rfl | rfl | rfl | rfl | rfl | rfl | rfl | rfl | rfl | rfl | rfl <;> exact ⟨_, by omega, by omega, rfl⟩

set_option maxHeartbeats 4000000 in
theorem law_madeO (p : Nat) (d : Dk) (k : Nat) (w : World) (hd : DeckAt w p d k) : Calls Try.prog 11 #[.pointer (some ⟨p, 0, none⟩)] w (MadeO p d w) := by
  have hp := hd.lt
  have hd0 : DeckAt (w.alloc (.cells #[.int .i64 0, .slice none 0 0, .slice none 0 0, .slice none 0 0] 27)) p d k := hd.alloc _
  have g0 : w.grownBy (w.alloc (.cells #[.int .i64 0, .slice none 0 0, .slice none 0 0, .slice none 0 0] 27)) (some p) := (show Below w.heap.size w _ from (by repeat (first | (with_reducible refine Below.setCell ?_ ?_ _) | (with_reducible refine Below.alloc ?_ ?_ _) | (with_reducible refine Below.drew ?_) | (with_reducible refine below_drewN ?_ _) | (with_reducible exact Below.refl _ _) | (focus (simp; done)) | (focus (simp; omega)) | (focus omega)))).grown_any _
  have bR0 := Blk.new w 27 #[.int .i64 0, .slice none 0 0, .slice none 0 0, .slice none 0 0]
  go_enter Try.func11, Try.ntmps11
  go_upto_if 11 with (first | (go_at_call 27; (with_reducible refine (deck_Next p 22 _ d k hd0 (by omega) (by omega)).mono ?_); rintro e w1 ⟨v, rfl, v0, v1, -, hd1, g1⟩; ((try simp only [Int.zero_add]); have bR1 := bR0.grown g1 (by omega); have lR1 := bR1.lt)))
  have mid : MadeMid p d w w.heap.size w1.heap.size ⟨1 + v, [], [], []⟩ none 0 none 0 none 0 (w1.alloc (.cells #[.int .i64 (1 + v), .slice none 0 0, .slice none 0 0, .slice none 0 0] 27)) _ :=
    ⟨hd1.alloc _, (g0.trans g1).then_alloc _, bR1.alloc _, Blk.new _ _ _, Own.nil _ _ _ _, Own.nil _ _ _ _, Own.nil _ _ _ _, Apart.none_left _, Apart.none_left _⟩
  have hpj : p < w1.heap.size := by omega
  clear hd1 g1 bR1 hd0 g0 bR0
  go_cut [3] (fun s3 wx => ∃ (tok : List UInt8) (ta : Option Addr) (tc kd : Nat), s3 = .pointer (some ⟨w1.heap.size, 0, none⟩) ∧ tok.length ≤ 10 ∧ MadeMid p d w w.heap.size w1.heap.size ⟨1 + v, tok, [], []⟩ ta tc none 0 none 0 wx kd)
  case first =>
    go_wp2_with (first | (go_at_call 27; (with_reducible refine (deck_Next p 99 _ d _ mid.deck (by omega) (by omega)).mono ?_); rintro e w2 ⟨x, rfl, x0, x1, -, hd2, g2⟩; ((try simp only [Int.zero_add]); have mid2 := mid.step hd2 g2 hp hpj; clear hd2 g2)) | (go_at_call 28; (with_reducible refine (mk_Secret x _ (by omega) (by omega)).mono ?_); rintro e w3 ⟨sa, sc, rfl, own3, hb3⟩; (have mid3 := mid2.below hb3; have own3' := own3.mono (show w1.heap.size + 1 ≤ _ from mid2.loc.lt); clear own3)) | (go_at_call 27; (with_reducible refine (deck_Next p 9 _ d _ mid3.deck (by omega) (by omega)).mono ?_); rintro e w4 ⟨y, rfl, y0, y1, -, hd4, g4⟩; ((try simp only [Int.zero_add]); have mid4 := mid3.step hd4 g4 hp hpj; have own4 := own3'.grown g4 (by omega); have l4 := mid4.loc.lt; have B4 : Byt (w4.alloc (.cells #[.int .u8 y, .int .u8 1] 5)) (some ⟨w4.heap.size, 0, none⟩) [byt y, 1] := byt_new (by have by4 := byt_int y0 (show y < 256 by omega); simp [encB]; omega))) | (at_builtin; refine appB rfl _ _ rfl (w1.heap.size + 1) sa 8 sc (secL x 8) rfl _ 2 2 [byt y, 1] rfl (own4.alloc _) B4 rfl 10 rfl (by omega) (by simp; omega) ?_; intro b6 c6 w6 own6 gr6 bl6; (have l6 := (mid4.loc.alloc _).ofGrown gr6 (fun e => by have := own4.base_le _ e; omega)); (have q0 := l6.cell 1); (have q1 := l6.frozen 1); (have q2 := l6.lt)))
    · have mid7 := mid4.tokNew hd (Nat.le_refl _) (by omega) own6 gr6 own4.base_le (by simp [secL_len])
      go_meet
      exact ⟨_, b6, c6, _, rfl, by simp [secL_len], mid7⟩
    · go_meet
      exact ⟨[], none, 0, _, rfl, by simp, mid⟩
  case rest =>
    obtain ⟨tok, ta, tc, kd, rfl, htok, mid2⟩ := hcut
    clear mid
    obtain ⟨K, hK⟩ := Int.eq_ofNat_of_zero_le (show 0 ≤ 1 + v by omega)
    rw [hK] at mid2
    have hK1 : 1 ≤ K := by omega
    have hK2 : K ≤ 22 := by omega
    clear hK v0 v1
    obtain ⟨tb, tb0, tb1, hT⟩ := kindTab hK1 hK2
    have j0 := mid2.loc.cell 0
    have jl := mid2.loc.lt
    have hdA := mid2.deck.alloc (.cells #[.int .i64 0, .int .i64 0, .int .i64 3, .int .i64 1, .int .i64 2, .int .i64 1, .int .i64 7, .int .i64 3, .int .i64 1, .int .i64 0, .int .i64 1, .int .i64 1, .int .i64 0, .int .i64 2, .int .i64 2, .int .i64 2, .int .i64 1, .int .i64 1, .int .i64 4, .int .i64 2, .int .i64 4, .int .i64 1, .int .i64 1] 3)
    go_upto_if 28 with (first | (go_at_call 27; (with_reducible refine (deck_Next p 4 _ d _ hdA (by omega) (by omega)).mono ?_); rintro e w5 ⟨u, rfl, u0, u1, -, hd5, g5⟩; ((try simp only [Int.zero_add]))))
    have mid5 := (mid2.below (show RowKit.Below wc.heap.size wc _ from (by repeat (first | (with_reducible refine Below.setCell ?_ ?_ _) | (with_reducible refine Below.alloc ?_ ?_ _) | (with_reducible refine Below.drew ?_) | (with_reducible refine below_drewN ?_ _) | (with_reducible exact Below.refl _ _) | (focus (simp; done)) | (focus (simp; omega)) | (focus omega))))).step hd5 g5 hp hpj
    clear hdA hd5 j0 jl hT
    go_cut [3, 4] (fun s3 s4 wx => ∃ (n : Int) (kd : Nat), s3 = .pointer (some ⟨w1.heap.size, 0, none⟩) ∧ s4 = .int .i64 n ∧ -2 ≤ n ∧ n ≤ 65 ∧ MadeMid p d w w.heap.size w1.heap.size ⟨K, tok, [], []⟩ ta tc none 0 none 0 wx kd)
    case first =>
      go_wp2_with (first | (go_at_call 27; (with_reducible refine (deck_Next p 60 _ d _ mid5.deck (by omega) (by omega)).mono ?_); rintro e w6 ⟨x, rfl, x0, x1, -, hd6, g6⟩; ((try simp only [Int.zero_add]); have mid6 := mid5.step hd6 g6 hp hpj)))
      · go_meet
        exact ⟨_, _, rfl, rfl, by omega, by omega, mid6⟩
      · go_meet
        exact ⟨_, _, rfl, rfl, by omega, by omega, mid5⟩
    case rest =>
      obtain ⟨n0, kd0, rfl, rfl, n1, n2, mid0⟩ := hcut
      clear mid5 mid2
      go_wp2
      go_loopw [4] (fun s4 wr => ∃ (n : Int) (l : List Int) (aa : Option Addr) (ac kk : Nat), s4 = .int .i64 n ∧ -2 ≤ n ∧ n + l.length ≤ 65 ∧ (∀ x ∈ l, argOk x) ∧ MadeMid p d w w.heap.size w1.heap.size ⟨K, tok, l, []⟩ ta tc aa ac none 0 wr kk) (fun s4 _ => (intOf s4).toNat)
      case atStart => exact ⟨n0, [], none, 0, kd0, rfl, n1, by simp; omega, by simp, mid0⟩
      case round =>
        obtain ⟨n, l, aa, ac, kk, rfl, m1, m2, hok, mid⟩ := hrel
        have HOK := Lib.hid hok
        clear hok mid0
        by_cases hn : 0 < n
        · go_upto_region 9 with fail
          have jw := mid.grown.size
          have jl := mid.loc.lt
          obtain ⟨gl, gh, x1, x2, x3, x4⟩ : ∃ gl gh, gl ≤ gh ∧ gh ≤ wr.heap.size ∧ ((gl = 0 ∧ gh = 0) ∨ w1.heap.size + 1 ≤ gl) ∧ ∀ k, aa.map (·.block) = some k ↔ gl ≤ k ∧ k < gh := by
            cases haa : aa with
            | none => exact ⟨0, 0, Nat.le_refl _, Nat.zero_le _, .inl ⟨rfl, rfl⟩, fun k => by simp⟩
            | some ad =>
              have q1 := mid.args.base_le ad.block (by rw [haa]; rfl)
              have q2 := mid.args.lt' ad.block (by rw [haa]; rfl)
              exact ⟨ad.block, ad.block + 1, by omega, by omega, .inr q1, fun k => by simp; omega⟩
          have HX4 := Lib.hid x4
          clear x4
          apply wp_region_tab [(p, (p+1)), (gl, gh), (w1.heap.size, (w1.heap.size+1))] 15 77 [some 38, some 39, some 40, some 41, some 42, some 43, some 44, some 45, some 46, some 47, some 48, some 49, some 50, some 51, none] [⟨[15, 16, 17], [], [], []⟩, ⟨[0, 15, 16, 17], [0, 17], [0, 17], []⟩, ⟨[15, 16, 17], [], [], []⟩, ⟨[2, 15, 16, 17], [2, 15], [2, 15], [15]⟩, ⟨[15, 16, 17], [], [], []⟩, ⟨[2, 3, 4, 15, 16, 17], [3, 4, 15], [3, 4], [15]⟩, ⟨[2, 3, 4, 5, 15, 16, 17], [3, 5], [], []⟩, ⟨[15, 16, 17], [], [], []⟩, ⟨[2, 3, 4, 5, 7, 15, 16, 17], [5, 7, 15], [5, 7], [15]⟩, ⟨[2, 3, 4, 5, 6, 7, 8, 15, 16, 17], [6, 8], [6, 8], []⟩, ⟨[2, 3, 4, 5, 6, 7, 8, 9, 15, 16, 17], [6, 9], [6, 9], []⟩, ⟨[2, 3, 4, 5, 6, 7, 8, 9, 10, 15, 16, 17], [10], [10], []⟩, ⟨[0, 1, 2, 3, 4, 5, 6, 7, 8, 9, 10, 11, 15, 16, 17], [1, 11, 16], [1, 11, 16], [16]⟩, ⟨[0, 1, 2, 3, 4, 5, 6, 7, 8, 9, 10, 11, 12, 15, 16, 17], [], [], []⟩, ⟨[0, 1, 2, 3, 4, 5, 6, 7, 8, 9, 10, 11, 12, 13, 15, 16, 17], [12, 13, 17], [12, 13, 17], [17]⟩, ⟨[], [], [], []⟩, ⟨[], [], [], []⟩, ⟨[], [], [], []⟩] [0, 1, 2, 3, 4, 5, 6, 7, 8, 9, 10, 11, 12, 13, 14] [8, 12, 14] [psiTrue, psiTrue, psiTrue, (fun f lo hi v b0 b1 W => ∃ k, DeckAt W p d k), psiTrue, (fun f lo hi v b0 b1 W => ∃ k, DeckAt W p d k), (fun f lo hi v b0 b1 W => ∃ (b : Nat) (x y : Int), v = .slice (some ⟨b, 0, none⟩) 4 4 ∧ b0 ≤ b ∧ b < b1 ∧ argOk x ∧ argOk y ∧ Blk W b 3 #[.int .i64 x, .int .i64 y, .int .i64 0, .int .i64 4294967295]), psiTrue, (fun f lo hi v b0 b1 W => ∃ k, DeckAt W p d k), (fun f lo hi v b0 b1 W => ∃ (b : Nat) (j : Nat), f 6 = .slice (some ⟨b, 0, none⟩) 4 4 ∧ v = .pointer (some ⟨b, j, none⟩) ∧ j < 4), (fun f lo hi v b0 b1 W => ∃ x : Int, v = .int .i64 x ∧ argOk x), (fun f lo hi v b0 b1 W => ∃ (b : Nat) (x : Int), v = .slice (some ⟨b, 0, none⟩) 1 1 ∧ b0 ≤ b ∧ b < b1 ∧ argOk x ∧ Blk W b 3 #[.int .i64 x]), (fun f lo hi v b0 b1 W => ∃ (a : Option Addr) (c : Nat) (x : Int), v = .slice a (l.length + 1) c ∧ argOk x ∧ Own W (w1.heap.size+1) 3 1 a (l.length + 1) c ((l ++ [x]).map encI) ∧ ∀ k, a.map (·.block) = some k → (gl ≤ k ∧ k < gh) ∨ (b0 ≤ k ∧ k < b1)), psiTrue, (fun f lo hi v b0 b1 W => ∃ (a : Option Addr) (c : Nat), f 12 = .slice a (l.length + 1) c ∧ Blk W w1.heap.size 27 #[.int .i64 K, .slice ta tok.length tc, .slice a (l.length + 1) c, .slice none 0 0]), (fun f lo hi v b0 b1 W => (b0 = p ∧ b1 = (p+1)) ∧ ∃ k, DeckAt W p d k), (fun f lo hi v b0 b1 W => (b0 = gl ∧ b1 = gh) ∧ Own W (w1.heap.size+1) 3 1 aa l.length ac (l.map encI)), (fun f lo hi v b0 b1 W => (b0 = w1.heap.size ∧ b1 = (w1.heap.size+1)) ∧ Blk W w1.heap.size 27 #[.int .i64 K, .slice ta tok.length tc, .slice aa l.length ac, .slice none 0 0])] [kVal _, kVal _, kVal _, (fun v => ∃ x : Int, v = .int .i64 x ∧ 0 ≤ x ∧ x < 200), kVal _, (fun v => ∃ x : Int, v = .int .i64 x ∧ 0 ≤ x ∧ x < 1073741824), kTrue, kVal _, (fun v => ∃ x : Int, v = .int .i64 x ∧ 0 ≤ x ∧ x < 4), kTrue, kTrue, kTrue, kTrue, kVal _, kTrue]
          · kernel_rfl
          · kernel_rfl
          · rfl
          · rfl
          rotate_left 2
          refine ⟨?oR1_0, ?oR1_1, ?oR1_2, ?oR1_3, ?oR1_4, ?oR1_5, ?oR1_6, ?oR1_7, ?oR1_8, ?oR1_9, ?oR1_10, ?oR1_11, ?oR1_12, ?oR1_13, ?oR1_14, trivial⟩
          case hx => exact ⟨⟨by omega, by omega⟩, by simp; omega, ⟨by omega, by omega⟩, by simp; omega, ⟨by omega, by omega⟩, by simp, trivial⟩
          case hX => exact ⟨fun _ _ _ _ => ⟨⟨rfl, rfl⟩, _, mid.deck⟩, fun _ _ _ _ => ⟨⟨rfl, rfl⟩, mid.args⟩, fun _ _ _ _ => ⟨⟨rfl, rfl⟩, mid.loc⟩, trivial⟩
          case oR1_0 => intro f lo hi w hb hx hf hk hrg R hR; (try replace hb := BelX.zero hb); (try simp (decide := true) only [go_sem] at hf); (try simp (decide := true) only [go_sem] at hk); go_simp; exact hR _ _ (rpost_val rfl rfl (Below.refl _ _) rfl)
          case oR1_1 =>
            intro f lo hi w hb hx hf hk hrg R hR; (try replace hb := BelX.zero hb); (try simp (decide := true) only [go_sem] at hf); (try simp (decide := true) only [go_sem] at hk)
            have e := hf.2.cell 2
            go_simp
            exact hR _ _ (rpost_val rfl rfl (Below.refl _ _) rfl)
          case oR1_2 => intro f lo hi w hb hx hf hk hrg R hR; (try replace hb := BelX.zero hb); (try simp (decide := true) only [go_sem] at hf); (try simp (decide := true) only [go_sem] at hk); go_simp; exact hR _ _ (rpost_val rfl rfl (Below.refl _ _) rfl)
          case oR1_3 =>
            intro f lo hi w hb hx hf hk hrg R hR; (try replace hb := BelX.zero hb); (try simp (decide := true) only [go_sem] at hf); (try simp (decide := true) only [go_sem] at hk)
            obtain ⟨-, k1, hd1⟩ := hf
            go_simp
            (with_reducible refine (deck_Next p 200 _ d k1 hd1 (by omega) (by omega)).mono ?_)
            rintro e w' ⟨v, rfl, v0, v1, -, hd', g'⟩
            exact ⟨_, rfl, hR _ _ (rpost_both ⟨0 + v, rfl, by omega, by omega⟩ rfl (touch_grown g' (List.mem_singleton.2 rfl) (XOk.get _ _ hx 0 _ rfl).1 (XOk.get _ _ hx 0 _ rfl).2) ⟨_, hd'⟩)⟩
          case oR1_4 => intro f lo hi w hb hx hf hk hrg R hR; (try replace hb := BelX.zero hb); (try simp (decide := true) only [go_sem] at hf); (try simp (decide := true) only [go_sem] at hk); go_simp; exact hR _ _ (rpost_val rfl rfl (Below.refl _ _) rfl)
          case oR1_5 =>
            intro f lo hi w hb hx hf hk hrg R hR; (try replace hb := BelX.zero hb); (try simp (decide := true) only [go_sem] at hf); (try simp (decide := true) only [go_sem] at hk)
            obtain ⟨k1, hd1⟩ := hf
            go_simp
            (with_reducible refine (deck_Next p 1073741824 _ d k1 hd1 (by omega) (by omega)).mono ?_)
            rintro e w' ⟨v, rfl, v0, v1, -, hd', g'⟩
            exact ⟨_, rfl, hR _ _ (rpost_both ⟨0 + v, rfl, by omega, by omega⟩ rfl (touch_grown g' (List.mem_singleton.2 rfl) (XOk.get _ _ hx 0 _ rfl).1 (XOk.get _ _ hx 0 _ rfl).2) ⟨_, hd'⟩)⟩
          case oR1_6 =>
            intro f lo hi w hb hx hf hk hrg R hR; (try replace hb := BelX.zero hb); (try simp (decide := true) only [go_sem] at hf); (try simp (decide := true) only [go_sem] at hk)
            obtain ⟨⟨y1, hy1, hy2, hy3⟩, ⟨z1, hz1, hz2, hz3⟩⟩ := hk
            go_simp
            refine hR _ _ (rpost_none rfl (by repeat (first | (with_reducible refine Below.setCell ?_ ?_ _) | (with_reducible refine Below.alloc ?_ ?_ _) | (with_reducible refine Below.drew ?_) | (with_reducible refine below_drewN ?_ _) | (with_reducible exact Below.refl _ _) | (focus (simp; done)) | (focus (simp; omega)) | (focus omega))) ?_)
            (try simp (decide := true) only [go_sem])
            exact ⟨_, y1, z1, rfl, Nat.le_refl _, by simp, ⟨by omega, by omega⟩, ⟨by omega, by omega⟩, Blk.new _ _ _⟩
          case oR1_7 => intro f lo hi w hb hx hf hk hrg R hR; (try replace hb := BelX.zero hb); (try simp (decide := true) only [go_sem] at hf); (try simp (decide := true) only [go_sem] at hk); go_simp; exact hR _ _ (rpost_val rfl rfl (Below.refl _ _) rfl)
          case oR1_8 =>
            intro f lo hi w hb hx hf hk hrg R hR; (try replace hb := BelX.zero hb); (try simp (decide := true) only [go_sem] at hf); (try simp (decide := true) only [go_sem] at hk)
            obtain ⟨k1, hd1⟩ := hf
            go_simp
            (with_reducible refine (deck_Next p 4 _ d k1 hd1 (by omega) (by omega)).mono ?_)
            rintro e w' ⟨v, rfl, v0, v1, -, hd', g'⟩
            exact ⟨_, rfl, hR _ _ (rpost_both ⟨0 + v, rfl, by omega, by omega⟩ rfl (touch_grown g' (List.mem_singleton.2 rfl) (XOk.get _ _ hx 0 _ rfl).1 (XOk.get _ _ hx 0 _ rfl).2) ⟨_, hd'⟩)⟩
          case oR1_9 =>
            intro f lo hi w hb hx hf hk hrg R hR; (try replace hb := BelX.zero hb); (try simp (decide := true) only [go_sem] at hf); (try simp (decide := true) only [go_sem] at hk)
            obtain ⟨⟨b, y, z, h6, -⟩, -⟩ := hf
            obtain ⟨x, h8, hx0, hx1⟩ := hk
            obtain ⟨j, rfl⟩ := Int.eq_ofNat_of_zero_le hx0
            have hj : j < 4 := by omega
            have i0 : (j : Int) < ((4 : Nat) : Int) := by omega
            go_simp
            refine hR _ _ (rpost_none rfl (Below.refl _ _) ?_)
            (try simp (decide := true) only [go_sem])
            exact ⟨b, j, h6, rfl, hj⟩
          case oR1_10 =>
            intro f lo hi w hb hx hf hk hrg R hR; (try replace hb := BelX.zero hb); (try simp (decide := true) only [go_sem] at hf); (try simp (decide := true) only [go_sem] at hk)
            obtain ⟨⟨b, y, z, h6, hb1, hb2, hy, hz, kb⟩, b', j, h6', h9, hj⟩ := hf
            obtain rfl : b = b' := by
              rw [h6] at h6'
              injection h6' with e
              injection e with e
              injection e
            have hj' : j = 0 ∨ j = 1 ∨ j = 2 ∨ j = 3 := by omega
            rcases hj' with rfl | rfl | rfl | rfl
            · have e0 := kb.cell 0
              go_simp
              refine hR _ _ (rpost_none rfl (Below.refl _ _) ?_)
              (try simp (decide := true) only [go_sem])
              exact ⟨y, rfl, hy⟩
            · have e0 := kb.cell 1
              go_simp
              refine hR _ _ (rpost_none rfl (Below.refl _ _) ?_)
              (try simp (decide := true) only [go_sem])
              exact ⟨z, rfl, hz⟩
            · have e0 := kb.cell 2
              go_simp
              refine hR _ _ (rpost_none rfl (Below.refl _ _) ?_)
              (try simp (decide := true) only [go_sem])
              exact ⟨0, rfl, ⟨by omega, by omega⟩⟩
            · have e0 := kb.cell 3
              go_simp
              refine hR _ _ (rpost_none rfl (Below.refl _ _) ?_)
              (try simp (decide := true) only [go_sem])
              exact ⟨4294967295, rfl, ⟨by omega, by omega⟩⟩
          case oR1_11 =>
            intro f lo hi w hb hx hf hk hrg R hR; (try replace hb := BelX.zero hb); (try simp (decide := true) only [go_sem] at hf); (try simp (decide := true) only [go_sem] at hk)
            obtain ⟨x, h10, hx1⟩ := hf
            go_simp
            refine hR _ _ (rpost_none rfl (by repeat (first | (with_reducible refine Below.setCell ?_ ?_ _) | (with_reducible refine Below.alloc ?_ ?_ _) | (with_reducible refine Below.drew ?_) | (with_reducible refine below_drewN ?_ _) | (with_reducible exact Below.refl _ _) | (focus (simp; done)) | (focus (simp; omega)) | (focus omega))) ?_)
            (try simp (decide := true) only [go_sem])
            exact ⟨_, x, rfl, Nat.le_refl _, by simp, hx1, Blk.new _ _ _⟩
          case oR1_12 =>
            intro f lo hi w hb hx hf hk hrg R hR; (try replace hb := BelX.zero hb); (try simp (decide := true) only [go_sem] at hf); (try simp (decide := true) only [go_sem] at hk)
            obtain ⟨⟨b, x, h11, hb1, hb2, hx1, kb⟩, -, own⟩ := hf
            have ix : Ints w (some ⟨b, 0, none⟩) [x] := kb.rowL (enc := encI) (l := [x])
            have hsz : wr.heap.size ≤ w.heap.size := hb.2.2.2.1
            refine obl_appI (w1.heap.size + 1) aa l.length ac l ?_ (some ⟨b, 0, none⟩) 1 1 [x] ?_ own ix rfl (l.length + 1) rfl (by omega) (by omega) ?_
            · go_simp
            · go_simp
            intro b2 c2 w2 own2 g2
            refine hR _ _ (rpost_some rfl rfl (Grew.touch g2 fun k hk' => ⟨16, by simp, ?_⟩) ?_)
            · obtain ⟨q1, q2⟩ : lo 16 = gl ∧ hi 16 = gh := XOk.get _ _ hx 1 _ rfl
              have h4 := (HX4.out k).1 hk'
              omega
            (try simp (decide := true) only [go_sem])
            refine ⟨_, _, x, rfl, hx1, own2, fun k hk' => ?_⟩
            rcases g2.2.1 with e | e
            · exact .inl ((HX4.out k).1 (e ▸ hk'))
            · rw [e] at hk'
              exact .inr ⟨by injection hk' with hk'; omega, own2.lt' k (e ▸ hk')⟩
          case oR1_13 => intro f lo hi w hb hx hf hk hrg R hR; (try replace hb := BelX.zero hb); (try simp (decide := true) only [go_sem] at hf); (try simp (decide := true) only [go_sem] at hk); go_simp; exact hR _ _ (rpost_val rfl rfl (Below.refl _ _) rfl)
          case oR1_14 =>
            intro f lo hi w hb hx hf hk hrg R hR; (try replace hb := BelX.zero hb); (try simp (decide := true) only [go_sem] at hf); (try simp (decide := true) only [go_sem] at hk)
            obtain ⟨⟨a, c, x, h12, -⟩, -, kb⟩ := hf
            have e0 := kb.cell 2
            have e1 := kb.frozen 2
            go_simp
            refine hR _ _ (rpost_some rfl rfl ?_ ?_)
            · refine ⟨rfl, rfl, rfl, by simp [World.setCell], fun q hq hne => Below.heap_setCell w _ _ q fun e => hne 17 (by simp) ?_⟩
              obtain ⟨q1, q2⟩ : lo 17 = w1.heap.size ∧ hi 17 = w1.heap.size + 1 := XOk.get _ _ hx 2 _ rfl
              simp only at e
              omega
            (try simp (decide := true) only [go_sem])
            exact ⟨a, c, h12, kb.set 2 _⟩
          case hcl =>
            refine ⟨Closed.true _ _ _ _, Closed.true _ _ _ _, Closed.true _ _ _ _, ?cR1_3, Closed.true _ _ _ _, ?cR1_5, ?cR1_6, Closed.true _ _ _ _, ?cR1_8, ?cR1_9, ?cR1_10, ?cR1_11, ?cR1_12, Closed.true _ _ _ _, ?cR1_14, ?cR1_15, ?cR1_16, ?cR1_17, trivial⟩
            all_goals first
              | exact fun f lo hi v b0 b1 w w' h hs hB hown hU hX => by
                  obtain ⟨k1, h⟩ := h
                  exact ⟨k1, DeckAt.closed h mid.deck (fun hl b hb h1 h2 => hB b ⟨h1, fun r hr => by have := hd.arr.resolve_left hl b hb; simp at hr; rcases hr with rfl | rfl | rfl <;> simp only <;> omega⟩) (hX 0 _ rfl (by simp) p (Nat.le_refl _) (Nat.lt_succ_self _))⟩
              | exact fun f lo hi v b0 b1 w w' h hs hB hown hU hX => by
                  obtain ⟨e, k1, h⟩ := h
                  exact ⟨e, k1, DeckAt.closed h mid.deck (fun hl b hb h1 h2 => hB b ⟨h1, fun r hr => by have := hd.arr.resolve_left hl b hb; simp at hr; rcases hr with rfl | rfl | rfl <;> simp only <;> omega⟩) (hown p (by omega) (by omega))⟩
              | exact fun f lo hi v b0 b1 w w' h hs hB hown hU hX => by
                  obtain ⟨b, x, y, rfl, h2, h3, h4, h5, h6⟩ := h
                  exact ⟨b, x, y, rfl, h2, h3, h4, h5, (hown b h2 h3).trans h6⟩
              | exact fun f lo hi v b0 b1 w w' h hs hB hown hU hX => by
                  obtain ⟨b, x, rfl, h2, h3, h4, h6⟩ := h
                  exact ⟨b, x, rfl, h2, h3, h4, (hown b h2 h3).trans h6⟩
              | exact fun f lo hi v b0 b1 w w' h hs hB hown hU hX => by
                  obtain ⟨a, c, x, h1, h2, own, lt⟩ := h
                  exact ⟨a, c, x, h1, h2, own.keep fun b hb hl _ => (lt b (by rw [hb]; rfl)).elim (fun h => hX 1 _ rfl (by simp) b h.1 h.2) (fun h => hown b h.1 h.2), lt⟩
              | exact fun f lo hi v b0 b1 w w' h hs hB hown hU hX => by
                  obtain ⟨a, c, h1, h2⟩ := h
                  exact ⟨a, c, h1, (hX 2 _ rfl (by simp) _ (Nat.le_refl _) (Nat.lt_succ_self _)).trans h2⟩
              | exact fun f lo hi v b0 b1 w w' h hs hB hown hU hX => by
                  obtain ⟨⟨rfl, rfl⟩, own⟩ := h
                  exact ⟨⟨rfl, rfl⟩, own.keep fun b hb hl _ => by have := (HX4.out b).1 (by rw [hb]; rfl); exact hown b this.1 this.2⟩
              | exact fun f lo hi v b0 b1 w w' h hs hB hown hU hX => by
                  obtain ⟨⟨rfl, rfl⟩, kb⟩ := h
                  exact ⟨⟨rfl, rfl⟩, (hown _ (Nat.le_refl _) (Nat.lt_succ_self _)).trans kb⟩
              | exact fun _ _ _ _ _ _ _ _ h _ _ _ _ _ => h
          intro f lo hi W7 hbr hx hf hk hrg; (try replace hbr := BelX.zero hbr); clear hx; (try simp (decide := true) only [go_sem] at hf); (try simp (decide := true) only [go_sem] at hk)
          obtain ⟨⟨k7, hd7⟩, ⟨a, c, x, h12, hx7, own7, lt7⟩, a', c', h12', loc7⟩ := hf
          obtain ⟨rfl, rfl⟩ : a = a' ∧ c = c' := by
            rw [h12] at h12'
            injection h12' with e1 _ e2
            exact ⟨e1, e2⟩
          have hr12 := hrg.out 12 (by simp)
          have hout : ∀ q, q < wr.heap.size → q ≠ p → q ≠ w1.heap.size → aa.map (·.block) ≠ some q → W7.heap[q]? = wr.heap[q]? := fun q h1 h2 h3 h4 => hbr.2.2.2.2 q ⟨h1, fun r hr => by
            have h5 : ¬ (gl ≤ q ∧ q < gh) := fun h => h4 ((HX4.out q).2 h)
            simp at hr
            rcases hr with rfl | rfl | rfl <;> simp only <;> omega⟩
          have mid7 : MadeMid p d w w.heap.size w1.heap.size ⟨K, tok, l ++ [x], []⟩ ta tc a c none 0 W7 k7 := by
            refine ⟨hd7, ⟨hbr.1.trans mid.grown.os, hbr.2.1.trans mid.grown.tape, hbr.2.2.1.trans mid.grown.output, Nat.le_trans jw hbr.2.2.2.1, fun q hq hne => (hout q (by omega) (fun e => hne (by rw [e])) (by omega) (fun e => ?_)).trans (mid.grown.block q hq hne)⟩, (hout _ mid.res.lt (by omega) (by omega) (fun e => ?_)).trans mid.res, by simpa using loc7, mid.tok.keep fun b hb h1 h2 => hout b h2 (by omega) (by omega) (fun e => mid.apt b e (by rw [hb]; rfl)), by simpa using own7, Own.nil _ _ _ _, fun q ha ht => ?_, Apart.none_right _⟩
            · have := mid.args.base_le q e; omega
            · have := mid.args.base_le _ e; omega
            · rcases lt7 q ha with h | h
              · exact mid.apt q ((HX4.out q).2 h) ht
              · have := mid.tok.lt' q ht; omega
          clear hout hrg hbr h12' own7 lt7 loc7 hd7 hr12 HX4
          go_simp
          clear hk h12
          go_wp2
          go_roundw
          case rel => exact ⟨n - 1, l ++ [x], a, c, k7, rfl, by omega, by simp; omega, fun y hy => by rcases List.mem_append.1 hy with h | h; exact HOK.out y h; rw [List.mem_singleton.1 h]; exact hx7, mid7⟩
          case measure => simp [intOf]; omega
        · have jl := mid.loc.lt
          have j0 := mid.loc.cell 0
          have hn' : n ≤ 0 := by omega
          clear hn
          have cases4 : (((K : Int) == 16) = true) ∨ (((K : Int) == 16) = false ∧ ((K : Int) == 17) = true) ∨ (((K : Int) == 16) = false ∧ ((K : Int) == 17) = false ∧ ((K : Int) == 21) = true) ∨ (((K : Int) == 16) = false ∧ ((K : Int) == 17) = false ∧ ((K : Int) == 21) = false) := by
            cases ((K : Int) == 16) <;> cases ((K : Int) == 17) <;> cases ((K : Int) == 21) <;> simp
          rcases cases4 with c1 | ⟨c1, c2⟩ | ⟨c1, c2, c3⟩ | ⟨c1, c2, c3⟩
          · go_upto_region 18 with (first | (go_at_call 27; (with_reducible refine (deck_Next p 5 _ d _ mid.deck (by omega) (by omega)).mono ?_); rintro e w6 ⟨x, rfl, x0, x1, -, hd6, g6⟩; ((try simp only [Int.zero_add]); have mid6 := mid.step hd6 g6 hp hpj; obtain ⟨y, hy⟩ := Int.eq_ofNat_of_zero_le (show 0 ≤ 10 - x / 4 by omega))) | ((with_reducible refine wp_makeB y y ?_ ?_ ?_ ?_ ?_); (focus rfl); (focus rfl); (focus omega); (focus omega); intro W0 B0 be0 z0; (have m0 := mid6.below be0); (have q1 := m0.loc.cell 3); (have q2 := m0.loc.frozen 3); (have q3 := m0.loc.lt)))
            have own0 := B0.ownL (base := w1.heap.size + 1) (n := y) mid6.loc.lt (by simp) (by simp only [maxLen]; omega)
            refine wp_named (fun W => ∃ dat db dc kk, dat.length ≤ 1000 ∧ MadeMid p d w w.heap.size w1.heap.size ⟨K, tok, l, dat⟩ ta tc aa ac db dc W kk) ⟨_, _, _, _, (by simp; omega), m0.datNew hd (Nat.le_refl _) lR1 own0 (by simp) (Apart.new mid6.args fun k hk => by simp at hk; omega)⟩ ?_
            rintro W9 ⟨dat, db, dc, k9, hdat, m9⟩
            have j0 := m9.loc.cell 0
            have j1 := m9.loc.cell 1
            have j2 := m9.loc.cell 2
            have j3 := m9.loc.cell 3
            have jl9 := m9.loc.lt
            have r0 := m9.res.cell 0
            have r1 := m9.res.cell 1
            have r2 := m9.res.cell 2
            have r3 := m9.res.cell 3
            have rf := m9.res.frozen
            have rl := m9.res.lt
            go_wp2
            exact bodyPost_ret (v := .agg #[.int .i64 K, .slice ta tok.length tc, .slice aa l.length ac, .slice db dat.length dc]) (by simp [results, Try.results11, go_sem, r0, r1, r2, r3]) rfl (m9.fin hd (Nat.le_refl _) lR1 (by simp only; omega) (by simp only; omega) HOK.out (by simp only; omega) (by simp only; omega) (by simp only; omega))
          · go_upto_region 18 with (first | (go_at_call 29; (with_reducible refine (deck_Bytes p 30 _ d _ 30 rfl mid.deck (by omega)).mono ?_); rintro e w6 ⟨dat, k6, da, dc, rfl, hdl, own6, hd6, g6⟩; (have mid6 := mid.step hd6 g6 hp hpj; have q1 := mid6.loc.cell 3; have q2 := mid6.loc.frozen 3; have q3 := mid6.loc.lt; have own6' := own6.mono (show w1.heap.size + 1 ≤ _ from jl); have mid7 := mid6.datNew hd (Nat.le_refl _) lR1 own6' rfl (Apart.new mid.args own6.base_le); clear own6 own6' hd6)) | (go_at_call 27; (with_reducible refine (deck_Next p 9 _ d _ mid7.deck (by omega) (by omega)).mono ?_); rintro e w8 ⟨x, rfl, x0, x1, -, hd8, g8⟩; ((try simp only [Int.zero_add]); have mid8 := mid7.step hd8 g8 hp hpj)) | (go_at_call 27; (with_reducible refine (deck_Next p 12 _ d _ mid8.deck (by omega) (by omega)).mono ?_); rintro e w9 ⟨z, rfl, z0, z1, -, hd9, g9⟩; ((try simp only [Int.zero_add]); have mid9 := mid8.step hd9 g9 hp hpj; obtain ⟨y, hy⟩ := Int.eq_ofNat_of_zero_le (show 0 ≤ 190 + z by omega))) | ((with_reducible refine wp_makeB y y ?_ ?_ ?_ ?_ ?_); (focus rfl); (focus rfl); (focus omega); (focus omega); intro W0 B0 be0 z0; (have m0 := mid9.below be0); (have r1 := m0.loc.cell 3); (have r2 := m0.loc.frozen 3); (have r3 := m0.loc.lt)))
            · have own0 := B0.ownL (base := w1.heap.size + 1) (n := y) mid9.loc.lt (by simp) (by simp only [maxLen]; omega)
              refine wp_named (fun W => ∃ dat db dc kk, dat.length ≤ 1000 ∧ MadeMid p d w w.heap.size w1.heap.size ⟨K, tok, l, dat⟩ ta tc aa ac db dc W kk) ⟨_, _, _, _, (by simp; omega), m0.datNew hd (Nat.le_refl _) lR1 own0 (by simp) (Apart.new mid9.args fun k hk => by simp at hk; omega)⟩ ?_
              rintro W9 ⟨dat, db, dc, k9, hdat, m9⟩
              have j0 := m9.loc.cell 0
              have j1 := m9.loc.cell 1
              have j2 := m9.loc.cell 2
              have j3 := m9.loc.cell 3
              have jl9 := m9.loc.lt
              have r0 := m9.res.cell 0
              have r1 := m9.res.cell 1
              have r2 := m9.res.cell 2
              have r3 := m9.res.cell 3
              have rf := m9.res.frozen
              have rl := m9.res.lt
              go_wp2
              exact bodyPost_ret (v := .agg #[.int .i64 K, .slice ta tok.length tc, .slice aa l.length ac, .slice db dat.length dc]) (by simp [results, Try.results11, go_sem, r0, r1, r2, r3]) rfl (m9.fin hd (Nat.le_refl _) lR1 (by simp only; omega) (by simp only; omega) HOK.out (by simp only; omega) (by simp only; omega) (by simp only; omega))
            · refine wp_named (fun W => ∃ dat db dc kk, dat.length ≤ 1000 ∧ MadeMid p d w w.heap.size w1.heap.size ⟨K, tok, l, dat⟩ ta tc aa ac db dc W kk) ⟨_, _, _, _, (by omega), mid8⟩ ?_
              rintro W9 ⟨dat, db, dc, k9, hdat, m9⟩
              have j0 := m9.loc.cell 0
              have j1 := m9.loc.cell 1
              have j2 := m9.loc.cell 2
              have j3 := m9.loc.cell 3
              have jl9 := m9.loc.lt
              have r0 := m9.res.cell 0
              have r1 := m9.res.cell 1
              have r2 := m9.res.cell 2
              have r3 := m9.res.cell 3
              have rf := m9.res.frozen
              have rl := m9.res.lt
              go_wp2
              exact bodyPost_ret (v := .agg #[.int .i64 K, .slice ta tok.length tc, .slice aa l.length ac, .slice db dat.length dc]) (by simp [results, Try.results11, go_sem, r0, r1, r2, r3]) rfl (m9.fin hd (Nat.le_refl _) lR1 (by simp only; omega) (by simp only; omega) HOK.out (by simp only; omega) (by simp only; omega) (by simp only; omega))
          · go_upto_region 18 with (first | (go_at_call 29; (with_reducible refine (deck_Bytes p 30 _ d _ 30 rfl mid.deck (by omega)).mono ?_); rintro e w6 ⟨dat, k6, da, dc, rfl, hdl, own6, hd6, g6⟩; (have mid6 := mid.step hd6 g6 hp hpj; have q1 := mid6.loc.cell 3; have q2 := mid6.loc.frozen 3; have q3 := mid6.loc.lt; have own6' := own6.mono (show w1.heap.size + 1 ≤ _ from jl); have mid7 := mid6.datNew hd (Nat.le_refl _) lR1 own6' rfl (Apart.new mid.args own6.base_le); clear own6 own6' hd6)) | (go_at_call 27; (with_reducible refine (deck_Next p 9 _ d _ mid7.deck (by omega) (by omega)).mono ?_); rintro e w8 ⟨x, rfl, x0, x1, -, hd8, g8⟩; ((try simp only [Int.zero_add]); have mid8 := mid7.step hd8 g8 hp hpj)) | (go_at_call 27; (with_reducible refine (deck_Next p 12 _ d _ mid8.deck (by omega) (by omega)).mono ?_); rintro e w9 ⟨z, rfl, z0, z1, -, hd9, g9⟩; ((try simp only [Int.zero_add]); have mid9 := mid8.step hd9 g9 hp hpj; obtain ⟨y, hy⟩ := Int.eq_ofNat_of_zero_le (show 0 ≤ 190 + z by omega))) | ((with_reducible refine wp_makeB y y ?_ ?_ ?_ ?_ ?_); (focus rfl); (focus rfl); (focus omega); (focus omega); intro W0 B0 be0 z0; (have m0 := mid9.below be0); (have r1 := m0.loc.cell 3); (have r2 := m0.loc.frozen 3); (have r3 := m0.loc.lt)))
            · have own0 := B0.ownL (base := w1.heap.size + 1) (n := y) mid9.loc.lt (by simp) (by simp only [maxLen]; omega)
              refine wp_named (fun W => ∃ dat db dc kk, dat.length ≤ 1000 ∧ MadeMid p d w w.heap.size w1.heap.size ⟨K, tok, l, dat⟩ ta tc aa ac db dc W kk) ⟨_, _, _, _, (by simp; omega), m0.datNew hd (Nat.le_refl _) lR1 own0 (by simp) (Apart.new mid9.args fun k hk => by simp at hk; omega)⟩ ?_
              rintro W9 ⟨dat, db, dc, k9, hdat, m9⟩
              have j0 := m9.loc.cell 0
              have j1 := m9.loc.cell 1
              have j2 := m9.loc.cell 2
              have j3 := m9.loc.cell 3
              have jl9 := m9.loc.lt
              have r0 := m9.res.cell 0
              have r1 := m9.res.cell 1
              have r2 := m9.res.cell 2
              have r3 := m9.res.cell 3
              have rf := m9.res.frozen
              have rl := m9.res.lt
              go_wp2
              exact bodyPost_ret (v := .agg #[.int .i64 K, .slice ta tok.length tc, .slice aa l.length ac, .slice db dat.length dc]) (by simp [results, Try.results11, go_sem, r0, r1, r2, r3]) rfl (m9.fin hd (Nat.le_refl _) lR1 (by simp only; omega) (by simp only; omega) HOK.out (by simp only; omega) (by simp only; omega) (by simp only; omega))
            · refine wp_named (fun W => ∃ dat db dc kk, dat.length ≤ 1000 ∧ MadeMid p d w w.heap.size w1.heap.size ⟨K, tok, l, dat⟩ ta tc aa ac db dc W kk) ⟨_, _, _, _, (by omega), mid8⟩ ?_
              rintro W9 ⟨dat, db, dc, k9, hdat, m9⟩
              have j0 := m9.loc.cell 0
              have j1 := m9.loc.cell 1
              have j2 := m9.loc.cell 2
              have j3 := m9.loc.cell 3
              have jl9 := m9.loc.lt
              have r0 := m9.res.cell 0
              have r1 := m9.res.cell 1
              have r2 := m9.res.cell 2
              have r3 := m9.res.cell 3
              have rf := m9.res.frozen
              have rl := m9.res.lt
              go_wp2
              exact bodyPost_ret (v := .agg #[.int .i64 K, .slice ta tok.length tc, .slice aa l.length ac, .slice db dat.length dc]) (by simp [results, Try.results11, go_sem, r0, r1, r2, r3]) rfl (m9.fin hd (Nat.le_refl _) lR1 (by simp only; omega) (by simp only; omega) HOK.out (by simp only; omega) (by simp only; omega) (by simp only; omega))
          · go_upto_region 18 with fail
            refine wp_named (fun W => ∃ dat db dc kk, dat.length ≤ 1000 ∧ MadeMid p d w w.heap.size w1.heap.size ⟨K, tok, l, dat⟩ ta tc aa ac db dc W kk) ⟨_, _, _, _, (by simp), mid⟩ ?_
            rintro W9 ⟨dat, db, dc, k9, hdat, m9⟩
            have j0 := m9.loc.cell 0
            have j1 := m9.loc.cell 1
            have j2 := m9.loc.cell 2
            have j3 := m9.loc.cell 3
            have jl9 := m9.loc.lt
            have r0 := m9.res.cell 0
            have r1 := m9.res.cell 1
            have r2 := m9.res.cell 2
            have r3 := m9.res.cell 3
            have rf := m9.res.frozen
            have rl := m9.res.lt
            go_wp2
            exact bodyPost_ret (v := .agg #[.int .i64 K, .slice ta tok.length tc, .slice aa l.length ac, .slice db dat.length dc]) (by simp [results, Try.results11, go_sem, r0, r1, r2, r3]) rfl (m9.fin hd (Nat.le_refl _) lR1 (by simp only; omega) (by simp only; omega) HOK.out (by simp only; omega) (by simp only; omega) (by simp only; omega))
theorem law_made (p : Nat) (d : Dk) (k : Nat) (w : World) (hd : DeckAt w p d k) : Calls Try.prog 11 #[.pointer (some ⟨p, 0, none⟩)] w (MadeR p d w) :=
  (law_madeO p d k w hd).mono fun _ _ ⟨m, k, ta, tc, aa, ac, da, dc, h, hat, _, _, _, g⟩ => ⟨m, k, _, h, ⟨ta, tc, aa, ac, da, dc, rfl, hat⟩, g⟩
end Go.Proofs.Ythkoijgobigdnaa
