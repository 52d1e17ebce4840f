/- signalbrokerref09: controls -/
import Derived.Test.YtpjnajallekjoaaRef07
import Derived.Test.YtpjnajallekjoaaLamp
namespace Go.Proofs.Ytpjnajallekjoaa
set_option linter.unusedVariables false
open Go.RowKit Go.Sort
set_option maxRecDepth 100000

theorem Blk.next (w : World) (o : Obj) (e : TypeId) (C : Array Value) : Blk ((w.alloc o).alloc (.cells C e)) (w.heap.size + 1) e C := by
  have := Blk.new (w.alloc o) e C
  simpa using this
theorem Blk.four' {w : World} {b : Nat} {t : TypeId} {v0 v1 v2 v3 : Value} (h : Blk w b t #[v0, v1, v2, v3]) : w.cell? ⟨b, 0, none⟩ = some v0 ∧ w.cell? ⟨b, 1, none⟩ = some v1 ∧ w.cell? ⟨b, 2, none⟩ = some v2 ∧ w.cell? ⟨b, 3, none⟩ = some v3 := ⟨h.cell 0, h.cell 1, h.cell 2, h.cell 3⟩
def liCells (l : List (Int × Int)) : List Value := l.flatMap fun x => [.int .i64 x.1, .int .i64 x.2]
theorem liCells_len : ∀ l : List (Int × Int), (liCells l).length = 2 * l.length
  | [] => rfl
  | x :: l => by
    have := liCells_len l
    simp only [liCells, List.flatMap_cons, List.length_append, List.length_cons] at this ⊢
    rw [this]
    simp
    omega
/-- the Next of a control -/
def NextOk (ps : List Ph) (nx : List Int) : Prop := nx.length = 2 ∧ ∀ r (h : r < nx.length), InRing ps (r : Int) nx[r]
def EnterR (ps : List Ph) (B : Nat) (group : Int) (v0 v3 : Value) (w : World) (e : Ending) (w' : World) : Prop :=
  ∃ (nx : List Int) (na : Option Addr) (nc : Nat), e = .returned (.tuple #[]) ∧ NextOk ps nx ∧ Own w' w.heap.size 3 1 na 2 nc (nx.map encI) ∧ Blk w' B 59 #[v0, .int .i64 group, .slice na 2 nc, v3] ∧ w.grownBy w' (some B)
set_option maxHeartbeats 4000000 in
theorem ref09_enter (base jb jc jb2 jc2 : Nat) (ps : List Ph) (cs : List Int) (s group : Int) (B : Nat) (v0 v1 v2 v3 : Value) (w : World) (hj : JAt w base jb jc jb2 jc2 ps cs s) (hk : Blk w B 59 #[v0, v1, v2, v3]) (hB : base ≤ B) :
    Calls Try.prog 51 #[jAgg jb jc jb2 jc2 ps.length s, .pointer (some ⟨B, 0, none⟩), .int .i64 group] w (EnterR ps B group v0 v3 w) := by
  have hlw := hj.lw
  have hlB := hk.lt
  go_enter Try.func51, Try.ntmps51
  go_wp2
  go_loopw [6, 8] (fun s6 s8 wr => ∃ (i : Nat) (nx : List Int) (na : Option Addr) (nc : Nat), s6 = .slice na i nc ∧ s8 = .int .i64 i ∧ i ≤ 2 ∧ nx.length = i ∧ (∀ r (h : r < nx.length), InRing ps (r : Int) nx[r]) ∧ Own wr (w.heap.size + 1) 3 1 na i nc (nx.map encI) ∧ Blk wr w.heap.size 55 #[.slice (some ⟨jb, 0, none⟩) ps.length jc, .slice (some ⟨jb2, 0, none⟩) ps.length jc2, .int .i64 s] ∧ RowKit.Below w.heap.size w wr) (fun _ s _ => 2 - (intOf s).toNat)
  case atStart => exact ⟨0, [], none, 0, rfl, rfl, by omega, rfl, by simp, Own.nil _ _ _ _, Blk.new _ _ _, (by repeat (first | (with_reducible refine Below.setCell ?_ ?_ _) | (with_reducible refine Below.alloc ?_ ?_ _) | (with_reducible refine Below.drew ?_) | (with_reducible refine below_drewN ?_ _) | (with_reducible exact Below.refl _ _) | (focus (simp; done)) | (focus (simp; omega)) | (focus omega)))⟩
  case round =>
    obtain ⟨i, nx, na, nc, rfl, rfl, hi, hnl, hin, own, kj, be⟩ := hrel
    have HIN := Lib.hid hin
    have HNL := Lib.hid hnl
    clear hin hnl
    obtain ⟨j0, j1, j2⟩ : wr.cell? ⟨w.heap.size, 0, none⟩ = _ ∧ wr.cell? ⟨w.heap.size, 1, none⟩ = _ ∧ wr.cell? ⟨w.heap.size, 2, none⟩ = _ := ⟨kj.cell 0, kj.cell 1, kj.cell 2⟩
    have jl := kj.lt
    by_cases hlt : i < 2
    · have hii : (i : Int) < 2 := by omega
      go_wp2_with (first | (go_at_call 63; (with_reducible refine (ref09_after base jb jc jb2 jc2 ps cs s (i : Int) group (-1) _ (hj.below (be.mono hlw))).mono ?_); rintro e w1 ⟨q, rfl, hq, hb1⟩; ((have k1 := kj.below hb1 jl); (have own1 := (own.below hb1 (Nat.le_refl _)).alloc (.cells #[.int .i64 q] 3)))) | (at_builtin; refine app1I (w0 := w) rfl _ _ rfl (w.heap.size + 1) na i nc nx rfl q w1.heap.size rfl (Blk.new _ _ _) own1 (by omega) (by have := k1.lt; simp; omega) ?_; intro b' c' w' own' gr bl; (have be' := bl _ (RowKit.Below.refl _ _))))
      go_roundw
      case rel =>
        refine ⟨i + 1, nx ++ [q], b', c', by go_num, by go_num, by omega, by rw [List.length_append, HNL.out]; rfl, fun r h => ?_, own', (k1.alloc _).below be' (by omega), (by repeat (first | (with_reducible refine Below.setCell ?_ ?_ _) | (with_reducible refine Below.alloc ?_ ?_ _) | (with_reducible refine Below.drew ?_) | (with_reducible refine below_drewN ?_ _) | (with_reducible exact Below.refl _ _) | (with_reducible refine Below.trans ?_ (Below.mono be' ?_)) | (with_reducible refine Below.trans ?_ (Below.mono hb1 ?_)) | (with_reducible refine Below.trans ?_ (Below.mono be ?_)) | (focus (simp; done)) | (focus (simp; omega)) | (focus omega) | (focus (have q0 := Below.size be'; (try simp at q0); have q1 := Below.size hb1; (try simp at q1); have q2 := Below.size be; (try simp at q2); (try simp); omega))))⟩
        rw [List.length_append] at h
        by_cases hr : r < nx.length
        · rw [List.getElem_append_left hr]; exact HIN.out r hr
        · have hr' : r = nx.length := by simp at h; omega
          subst hr'
          rw [List.getElem_append_right (Nat.le_refl _)]
          simp only [Nat.sub_self, List.getElem_singleton]
          rw [HNL.out]
          exact hq
      case measure => simp [intOf]; omega
    · obtain rfl : i = 2 := by omega
      have hkr := hk.below be hlB
      obtain ⟨c0, c1, c2, c3⟩ := hkr.four'
      have cf := hkr.frozen
      have cl := hkr.lt
      go_wp2
      go_end0
      refine ⟨nx, na, nc, rfl, ⟨HNL.out, HIN.out⟩, ?_, ?_, ?_⟩
      · have ne : ∀ i, na.map (·.block) ≠ some (⟨B, i, none⟩ : Addr).block := fun i e => by have := own.base_le _ e; simp only at this; omega
        exact ((own.far (ne 1) _).far (ne 2) _).mono (by omega)
      · exact (hkr.set 1 _).set 2 _
      · exact (be.grown_any (some B)).trans ((grownBy_set _ B 1 _).trans (grownBy_set _ B 2 _))
theorem info_light : (Try.prog.info? 90).map (fun i => (i.zero, i.size, i.bytes)) = some (some (.agg #[.int .i64 0, .int .i64 0]), 2, 16) := by kernel_rfl
theorem liCells_zero : ∀ n : Nat, liCells (List.replicate n (0, 0)) = List.replicate (n * 2) (.int .i64 0)
  | 0 => rfl
  | n + 1 => by
    have := liCells_zero n
    rw [List.replicate_succ, show (n + 1) * 2 = n * 2 + 1 + 1 by omega, List.replicate_succ, List.replicate_succ, ← this]
    rfl
theorem madeCells_two (z : Value) (n : Nat) : madeCells #[z, z] n = (List.replicate n z).toArray := by
  apply Array.ext
  · simp [madeCells]
  · intro i h1 h2
    have : i % 2 = 0 ∨ i % 2 = 1 := by omega
    rcases this with h | h <;> simp [madeCells, h]
/-- make([]api.Light, n), an operation's obligation -/
theorem obl_makeLi {w : World} {ρ : Operand → Value} {R : Value → World → Prop} {dst : Option Tmp} {x y : Operand} {ty : TypeId} {pos : String} {after : Array Edge} {guard : Option (Nat × Bool)}
    (n : Nat) (hx : ρ x = .int .i64 n) (hy : ρ y = .int .i64 n) (hn : n ≤ 100000)
    (h : Own (w.alloc (.cells (liCells (List.replicate n (0, 0))).toArray 90)) w.heap.size 90 2 (some ⟨w.heap.size, 0, none⟩) n n (liCells (List.replicate n (0, 0))) → R (.slice (some ⟨w.heap.size, 0, none⟩) n n) (w.alloc (.cells (liCells (List.replicate n (0, 0))).toArray 90))) :
    oblUpon Try.prog R ((execOp ρ { dst, op := .makeSlice 57 x y, type := ty, pos, after, guard }).run Try.prog w) := by
  obtain ⟨i0, hi, hz0, hz1, hz2⟩ := info_parts info_light
  have hrun := run_make (P := Try.prog) w 57 90 i0 _ Try.underlying57 hi hz0 .i64 .i64 n n (by omega) (by omega) (by rw [hz2]; omega) (by omega)
  have e : madeCells (Value.agg #[.int .i64 0, .int .i64 0]).cells (n * 2) = (liCells (List.replicate n (0, 0))).toArray := by
    rw [liCells_zero]
    exact madeCells_two _ _
  simp only [Int.toNat_natCast, hz1] at hrun
  rw [e] at hrun
  simp only [execOp, hx, hy, Sem.run_bind, Result.andThen_ok, hrun]
  refine h ?_
  have := own_new w (liCells (List.replicate n (0, 0))).toArray 90 2 n (by simp [liCells_len]; omega) (by simp only [maxLen]; omega)
  simpa using this
/-- a control's arrays, and what is known of it -/
structure CtlV (W : World) (base : Nat) (ps : List Ph) (ls : List (Int × Int)) (nx : List Int) (g wt : Int) (la : Option Addr) (lc : Nat) (na : Option Addr) (nc : Nat) : Prop where
  lo : Own W base 90 2 la ps.length lc (liCells ls)
  no : Own W base 3 1 na 2 nc (nx.map encI)
  nx : NextOk ps nx
  ll : ls.length = ps.length
  lok : ∀ i (h : i < ps.length) (h' : i < ls.length), LiOk ps[i] ls[i].1 ls[i].2
  g0 : 0 ≤ g ∧ g ≤ 3
  w0 : 0 ≤ wt ∧ wt ≤ 2
section
variable {W W' : World} {base : Nat} {ps : List Ph} {ls : List (Int × Int)} {nx : List Int} {g wt : Int} {la : Option Addr} {lc : Nat} {na : Option Addr} {nc : Nat}
theorem CtlV.below (h : CtlV W base ps ls nx g wt la lc na nc) (hb : Below W.heap.size W W') : CtlV W' base ps ls nx g wt la lc na nc :=
  ⟨h.lo.below hb (Nat.le_refl _), h.no.below hb (Nat.le_refl _), h.nx, h.ll, h.lok, h.g0, h.w0⟩
theorem CtlV.mono (h : CtlV W base ps ls nx g wt la lc na nc) {base' : Nat} (hb : base' ≤ base) : CtlV W base' ps ls nx g wt la lc na nc :=
  ⟨h.lo.mono hb, h.no.mono hb, h.nx, h.ll, h.lok, h.g0, h.w0⟩
theorem CtlV.alloc (h : CtlV W base ps ls nx g wt la lc na nc) (o : Obj) : CtlV (W.alloc o) base ps ls nx g wt la lc na nc :=
  ⟨h.lo.alloc o, h.no.alloc o, h.nx, h.ll, h.lok, h.g0, h.w0⟩
end
theorem Own.ne_blk {W : World} {base g : Nat} {e t : TypeId} {size n cap : Nat} {a : Option Addr} {xs : List Value} {cs : Array Value} (h : Own W base e size a n cap xs) (k : Blk W g t cs) (hne : e ≠ t) : a.map (·.block) ≠ some g := by
  intro he
  rcases h.2 with ⟨hv, _⟩ | ⟨g', c, cur, hv, _, hh, _⟩
  · injection hv with ha _ _
    rw [ha] at he
    cases he
  · injection hv with ha _ _
    rw [ha] at he
    injection he with he
    simp only at he
    subst he
    unfold Blk at k
    rw [hh] at k
    injection k with k
    injection k with _ ht
    exact hne ht
theorem own_four {Y : World} {p : Nat} {e' : TypeId} {C : Array Value} (kR : Blk Y p e' C) {base : Nat} {e : TypeId} {size n cap : Nat} {a : Option Addr} {xs : List Value} (h : Own Y base e size a n cap xs) (h1 : e ≠ e') (u0 u1 u2 u3 : Value) :
    Own ((((Y.setCell ⟨p, 0, none⟩ u0).setCell ⟨p, 1, none⟩ u1).setCell ⟨p, 2, none⟩ u2).setCell ⟨p, 3, none⟩ u3) base e size a n cap xs := by
  have a1 := h.ne_blk kR h1
  refine Own.far ?_ a1 _
  refine Own.far ?_ a1 _
  refine Own.far ?_ a1 _
  exact Own.far h a1 _
theorem Touch.set4 {W : List Nat} {lo hi : Nat → Nat} (w : World) {b k : Nat} (hk : k ∈ W) (h1 : lo k ≤ b) (h2 : b < hi k) (v0 v1 v2 v3 : Value) : Touch W lo hi w ((((w.setCell ⟨b, 0, none⟩ v0).setCell ⟨b, 1, none⟩ v1).setCell ⟨b, 2, none⟩ v2).setCell ⟨b, 3, none⟩ v3) :=
  (((Touch.set w hk h1 h2 0 v0).trans (Touch.set _ hk h1 h2 1 v1)).trans (Touch.set _ hk h1 h2 2 v2)).trans (Touch.set _ hk h1 h2 3 v3)
theorem Blk.set4 {w : World} {b : Nat} {t : TypeId} {u0 u1 u2 u3 : Value} (h : Blk w b t #[u0, u1, u2, u3]) (v0 v1 v2 v3 : Value) : Blk ((((w.setCell ⟨b, 0, none⟩ v0).setCell ⟨b, 1, none⟩ v1).setCell ⟨b, 2, none⟩ v2).setCell ⟨b, 3, none⟩ v3) b t #[v0, v1, v2, v3] :=
  (((h.set 0 v0).set 1 v1).set 2 v2).set 3 v3
def InitR (ps : List Ph) (s : Int) (w : World) (e : Ending) (w' : World) : Prop :=
  ∃ (nx : List Int) (la : Option Addr) (lc : Nat) (na : Option Addr) (nc : Nat), e = .returned (.agg #[.slice la ps.length lc, .int .i64 0, .slice na 2 nc, .int .i64 s]) ∧ CtlV w' w.heap.size ps (List.replicate ps.length (0, 0)) nx 0 s la lc na nc ∧ Below w.heap.size w w'
set_option maxHeartbeats 4000000 in
theorem ref09_Init (base jb jc jb2 jc2 : Nat) (ps : List Ph) (cs : List Int) (s : Int) (w : World) (hj : JAt w base jb jc jb2 jc2 ps cs s) :
    Calls Try.prog 38 #[jAgg jb jc jb2 jc2 ps.length s] w (InitR ps s w) := by
  have hlw := hj.lw
  have hn := hj.n1
  have hs := hj.s0
  go_enter Try.func38, Try.ntmps38
  go_upto_region 1 with fail
  refine wp_named (fun W => Blk W w.heap.size 55 #[.slice (some ⟨jb, 0, none⟩) ps.length jc, .slice (some ⟨jb2, 0, none⟩) ps.length jc2, .int .i64 s] ∧ Blk W (w.heap.size + 1) 59 #[.slice none 0 0, .int .i64 0, .slice none 0 0, .int .i64 0] ∧ RowKit.Below w.heap.size w W) ⟨(Blk.new _ _ _).alloc _, Blk.next _ _ _ _, (by repeat (first | (with_reducible refine Below.setCell ?_ ?_ _) | (with_reducible refine Below.alloc ?_ ?_ _) | (with_reducible refine Below.drew ?_) | (with_reducible refine below_drewN ?_ _) | (with_reducible exact Below.refl _ _) | (focus (simp; done)) | (focus (simp; omega)) | (focus omega)))⟩ ?_
  rintro W ⟨kj, kr, be⟩
  apply wp_region_tab [] 9 14 [some 4, some 5, some 6, some 7, some 8, some 9, some 10, some 3, none] [⟨[], [], [], []⟩, ⟨[0], [0], [0], []⟩, ⟨[0, 1], [1], [1], []⟩, ⟨[0, 1, 2], [2], [2], []⟩, ⟨[], [], [], []⟩, ⟨[4], [4], [4], []⟩, ⟨[0, 1, 2, 3, 4, 5], [3, 5], [3, 5], []⟩, ⟨[], [], [], []⟩, ⟨[0, 1, 2, 3, 4, 5, 6, 7], [3, 6, 7], [3, 6, 7], [7]⟩] [0, 1, 2, 3, 4, 5, 6, 7, 8] [3, 8] [psiTrue, psiTrue, psiTrue, (fun f lo hi v b0 b1 W => ∃ b, v = .slice (some ⟨b, 0, none⟩) ps.length ps.length ∧ b0 ≤ b ∧ b < b1 ∧ Own W b 90 2 (some ⟨b, 0, none⟩) ps.length ps.length (liCells (List.replicate ps.length (0, 0)))), psiTrue, psiTrue, (fun f lo hi v b0 b1 W => ∃ b, f 3 = .slice (some ⟨b, 0, none⟩) ps.length ps.length ∧ v = .agg #[.slice (some ⟨b, 0, none⟩) ps.length ps.length, .int .i64 0, .slice none 0 0, .int .i64 s]), (fun f lo hi v b0 b1 W => ∃ c, v = .pointer (some ⟨c, 0, none⟩) ∧ b0 ≤ c ∧ c < b1 ∧ Blk W c 59 #[.slice none 0 0, .int .i64 0, .slice none 0 0, .int .i64 0]), (fun f lo hi v b0 b1 W => ∃ b c, f 3 = .slice (some ⟨b, 0, none⟩) ps.length ps.length ∧ f 7 = .pointer (some ⟨c, 0, none⟩) ∧ lo (7) ≤ c ∧ c < hi (7) ∧ Blk W c 59 #[.slice (some ⟨b, 0, none⟩) ps.length ps.length, .int .i64 0, .slice none 0 0, .int .i64 s])] [kVal _, kVal _, kVal _, kTrue, kVal _, kVal _, kTrue, kTrue, kTrue]
  · kernel_rfl
  · kernel_rfl
  · rfl
  · rfl
  · exact trivial
  · exact trivial
  refine ⟨?oR1_0, ?oR1_1, ?oR1_2, ?oR1_3, ?oR1_4, ?oR1_5, ?oR1_6, ?oR1_7, ?oR1_8, trivial⟩
  case oR1_0 => intro f lo hi w hb hx hf hk hrg R hR; (try replace hb := BelX.zero hb); (try simp (decide := true) only [go_sem] at hf); (try simp (decide := true) only [go_sem] at hk); go_simp; exact hR _ _ (rpost_val rfl rfl (Below.refl _ _) rfl)
  case oR1_1 =>
    intro f lo hi w hb hx hf hk hrg R hR; (try replace hb := BelX.zero hb); (try simp (decide := true) only [go_sem] at hf); (try simp (decide := true) only [go_sem] at hk)
    have e0 := (kj.below hb kj.lt).cell 0
    go_simp
    exact hR _ _ (rpost_val rfl rfl (Below.refl _ _) rfl)
  case oR1_2 => intro f lo hi w hb hx hf hk hrg R hR; (try replace hb := BelX.zero hb); (try simp (decide := true) only [go_sem] at hf); (try simp (decide := true) only [go_sem] at hk); go_simp; exact hR _ _ (rpost_val rfl rfl (Below.refl _ _) rfl)
  case oR1_3 =>
    intro f lo hi w hb hx hf hk hrg R hR; (try replace hb := BelX.zero hb); (try simp (decide := true) only [go_sem] at hf); (try simp (decide := true) only [go_sem] at hk)
    refine obl_makeLi ps.length ?_ ?_ (by omega) fun kk => ?_
    · go_simp
    · go_simp
    refine hR _ _ (rpost_none rfl (by repeat (first | (with_reducible refine Below.setCell ?_ ?_ _) | (with_reducible refine Below.alloc ?_ ?_ _) | (with_reducible refine Below.drew ?_) | (with_reducible refine below_drewN ?_ _) | (with_reducible exact Below.refl _ _) | (focus (simp; done)) | (focus (simp; omega)) | (focus omega))) ?_)
    (try simp (decide := true) only [go_sem])
    exact ⟨_, rfl, Nat.le_refl _, by simp, kk⟩
  case oR1_4 => intro f lo hi w hb hx hf hk hrg R hR; (try replace hb := BelX.zero hb); (try simp (decide := true) only [go_sem] at hf); (try simp (decide := true) only [go_sem] at hk); go_simp; exact hR _ _ (rpost_val rfl rfl (Below.refl _ _) rfl)
  case oR1_5 =>
    intro f lo hi w hb hx hf hk hrg R hR; (try replace hb := BelX.zero hb); (try simp (decide := true) only [go_sem] at hf); (try simp (decide := true) only [go_sem] at hk)
    have e0 := (kj.below hb kj.lt).cell 2
    go_simp
    exact hR _ _ (rpost_val rfl rfl (Below.refl _ _) rfl)
  case oR1_6 =>
    intro f lo hi w hb hx hf hk hrg R hR; (try replace hb := BelX.zero hb); (try simp (decide := true) only [go_sem] at hf); (try simp (decide := true) only [go_sem] at hk)
    obtain ⟨b, h7, -⟩ := hf
    go_simp
    refine hR _ _ (rpost_none rfl (Below.refl _ _) ?_)
    (try simp (decide := true) only [go_sem])
    exact ⟨b, h7, rfl⟩
  case oR1_7 =>
    intro f lo hi w hb hx hf hk hrg R hR; (try replace hb := BelX.zero hb); (try simp (decide := true) only [go_sem] at hf); (try simp (decide := true) only [go_sem] at hk)
    go_simp
    refine hR _ _ (rpost_none rfl (by repeat (first | (with_reducible refine Below.setCell ?_ ?_ _) | (with_reducible refine Below.alloc ?_ ?_ _) | (with_reducible refine Below.drew ?_) | (with_reducible refine below_drewN ?_ _) | (with_reducible exact Below.refl _ _) | (focus (simp; done)) | (focus (simp; omega)) | (focus omega))) ?_)
    (try simp (decide := true) only [go_sem])
    exact ⟨_, rfl, Nat.le_refl _, by simp, Blk.new _ _ _⟩
  case oR1_8 =>
    intro f lo hi w hb hx hf hk hrg R hR; (try replace hb := BelX.zero hb); (try simp (decide := true) only [go_sem] at hf); (try simp (decide := true) only [go_sem] at hk)
    obtain ⟨⟨b, h7, -, -, -⟩, ⟨b', h7', h10⟩, c, h3, q1, q2, kk⟩ := hf
    obtain rfl : b = b' := by
      rw [h7] at h7'
      simpa using h7'
    obtain ⟨e0, e1, e2, e3⟩ := kk.four'
    have fz := kk.frozen
    clear h7'
    go_simp
    refine hR _ _ (rpost_some rfl rfl (Touch.set4 _ (List.mem_singleton.2 rfl) q1 q2 _ _ _ _) ?_)
    (try simp (decide := true) only [go_sem])
    exact ⟨b, c, h7, h3, q1, q2, kk.set4 _ _ _ _⟩
  case hcl =>
    refine ⟨Closed.true _ _ _ _, Closed.true _ _ _ _, Closed.true _ _ _ _, ?cR1_3, Closed.true _ _ _ _, Closed.true _ _ _ _, ?cR1_6, ?cR1_7, ?cR1_8, trivial⟩
    · exact fun f lo hi v b0 b1 w w' h hs hB hown hU hX => by
        obtain ⟨b, rfl, h2, h3, h4⟩ := h
        exact ⟨b, rfl, h2, h3, h4.keep fun q e _ _ => by injection e with e; injection e with e _ _; subst e; exact hown b h2 h3⟩
    · exact fun _ _ _ _ _ _ _ _ h _ _ _ _ _ => h
    · exact fun f lo hi v b0 b1 w w' h hs hB hown hU hX => by
        obtain ⟨b, rfl, h2, h3, h4⟩ := h
        exact ⟨b, rfl, h2, h3, (hown b h2 h3).trans h4⟩
    · exact fun f lo hi v b0 b1 w w' h hs hB hown hU hX => by
        obtain ⟨b, c, h1, h2, h3, h4, h5⟩ := h
        exact ⟨b, c, h1, h2, h3, h4, (hU 7 (by simp) c h3 h4).trans h5⟩
  intro f lo hi W7 hbr hx hf hk hrg; (try replace hbr := BelX.zero hbr); clear hx; (try simp (decide := true) only [go_sem] at hf); (try simp (decide := true) only [go_sem] at hk)
  obtain ⟨⟨b, h7, p1, -, own⟩, b', c, h7', h3, q1, q2, kk⟩ := hf
  obtain rfl : b = b' := by
    rw [h7] at h7'
    simpa using h7'
  have r3 : W.heap.size ≤ lo 3 := (hrg.out 3 (by simp)).1
  have r7 : W.heap.size ≤ lo 7 := (hrg.out 7 (by simp)).1
  have hsz := be.size
  have be7 : RowKit.Below w.heap.size w W7 := be.trans (hbr.mono be.size)
  have kj7 := kj.below hbr kj.lt
  have kr7 := kr.below hbr kr.lt
  have hjl := kj.lt
  have hrl := kr.lt
  have own0 := own.mono (base' := W.heap.size) (by omega)
  have hne : b ≠ c := fun e => own.ne_blk kk (by decide) (by rw [e]; rfl)
  have hcW : W.heap.size ≤ c := by omega
  clear hrg hbr h7' q1 q2 p1 own kj kr be
  obtain ⟨j0, j1, j2⟩ : W7.cell? ⟨w.heap.size, 0, none⟩ = _ ∧ W7.cell? ⟨w.heap.size, 1, none⟩ = _ ∧ W7.cell? ⟨w.heap.size, 2, none⟩ = _ := ⟨kj7.cell 0, kj7.cell 1, kj7.cell 2⟩
  have jl := kj7.lt
  go_simp
  clear hk h7 h3
  go_wp2_with ((go_at_call 51; (with_reducible refine (ref09_enter w.heap.size jb jc jb2 jc2 ps cs s 0 c _ _ _ _ _ ((hj.mono hlw (Nat.le_refl _)).below be7) kk (by omega)).mono ?_); rintro e w8 ⟨nx, na, nc, rfl, hnx, ownn, k8, g8⟩; ((have kr8 := kr7.grown g8 (by omega)); (obtain ⟨c0, c1, c2, c3⟩ := k8.four'); (have cl := k8.lt); (obtain ⟨d0, d1, d2, d3⟩ := kr8.four'); (have fr := kr8.frozen); (have dl := kr8.lt))))
  refine bodyPost_ret (v := .agg #[.slice (some ⟨b, 0, none⟩) ps.length ps.length, .int .i64 0, .slice na 2 nc, .int .i64 s]) (by simp [results, Try.results38, go_sem, d0, d1, d2, d3]) rfl ?_
  have z7 := be7.size
  have lo8 : Own w8 w.heap.size 90 2 (some ⟨b, 0, none⟩) ps.length ps.length (liCells (List.replicate ps.length (0, 0))) := (own0.keep fun q e _ hlt => g8.block q hlt (fun e' => by injection e with e; injection e with e _ _; injection e' with e'; exact hne (by rw [e, e']))).mono (by omega)
  refine ⟨nx, _, _, na, nc, rfl, ⟨own_four kr8 lo8 (by decide) _ _ _ _, own_four kr8 (ownn.mono z7) (by decide) _ _ _ _, hnx, by simp, fun i h h' => by simp [LiOk], by omega, hs⟩, (by repeat (first | (with_reducible refine Below.setCell ?_ ?_ _) | (with_reducible refine Below.alloc ?_ ?_ _) | (with_reducible refine Below.drew ?_) | (with_reducible refine below_drewN ?_ _) | (with_reducible exact Below.refl _ _) | (with_reducible refine Below.trans ?_ (Below.mono (be7.grown g8 z7 (fun k hk => by injection hk with hk; omega)) ?_)) | (focus (simp; done)) | (focus (simp; omega)) | (focus omega) | (focus (have q0 := Below.size (be7.grown g8 z7 (fun k hk => by injection hk with hk; omega)); (try simp at q0); (try simp); omega))))⟩
theorem liCells_one (l : List (Int × Int)) : ∀ u ∈ liCells l, u.oneCell' = true := by
  intro u hu
  simp only [liCells, List.mem_flatMap] at hu
  obtain ⟨y, _, hy⟩ := hu
  simp only [List.mem_cons, List.not_mem_nil, or_false] at hy
  rcases hy with rfl | rfl <;> rfl
/-- append of lights, an operation's obligation -/
theorem obl_appLi {w : World} {ρ : Operand → Value} {R : Value → World → Prop} {dst : Option Tmp} {s x : Operand} {ty : TypeId} {pos : String} {after : Array Edge} {guard : Option (Nat × Bool)}
    (A : Option Addr) (m c : Nat) (k : List (Int × Int)) (hs : ρ s = .slice none 0 0) (hx : ρ x = .slice A m c) (hr : Row w A (liCells k)) (hm : m = k.length) (hbig : m ≤ 1000000)
    (h : ∀ b' cap' w', Own w' w.heap.size 90 2 b' m cap' (liCells k) → Below w.heap.size w w' → R (.slice b' m cap') w') :
    oblUpon Try.prog R ((execOp ρ { dst, op := .call { callee := .builtin .append, args := #[s, x], argTypes := #[57, 57] }, type := ty, pos, after, guard }).run Try.prog w) := by
  obtain ⟨i0, hi, hz0, hz1, hz2⟩ := info_parts info_light
  obtain ⟨b', cap', w', hrun, own', g⟩ := run_append_row (P := Try.prog) w w.heap.size 57 ty _ i0 _ 2 16 Try.underlying57 hi hz0 hz1 hz2 rfl (by decide) none 0 0 _ (Own.nil _ _ _ _) A m c (liCells k) (by rw [liCells_len, hm]; omega) hr (liCells_one k) (by simp only [maxLen]; omega) (by omega) (Nat.le_refl _)
  simp only [execOp, resolve, invoke, builtin, Sem.run_bind, Sem.run_pure, Result.andThen_ok, List.map_toArray, List.map_cons, List.map_nil, hs, hx, hrun]
  rw [Nat.zero_add] at own' ⊢
  exact h b' cap' w' (by simpa using own') (Grew.step (Own.nil w w.heap.size 90 2) g w (Below.refl _ _))
/-- append of ints, an operation's obligation -/
theorem obl_appI0 {w : World} {ρ : Operand → Value} {R : Value → World → Prop} {dst : Option Tmp} {s x : Operand} {ty : TypeId} {pos : String} {after : Array Edge} {guard : Option (Nat × Bool)}
    (A : Option Addr) (m c : Nat) (k : List Int) (hs : ρ s = .slice none 0 0) (hx : ρ x = .slice A m c) (hr : Ints w A k) (hm : m = k.length) (hbig : m ≤ 1000000)
    (h : ∀ b' cap' w', Own w' w.heap.size 3 1 b' m cap' (k.map encI) → Below w.heap.size w w' → R (.slice b' m cap') w') :
    oblUpon Try.prog R ((execOp ρ { dst, op := .call { callee := .builtin .append, args := #[s, x], argTypes := #[22, 22] }, type := ty, pos, after, guard }).run Try.prog w) := by
  obtain ⟨i0, hi, hz0, hz1, hz2⟩ := info_parts info_int
  obtain ⟨b', cap', w', hrun, own', g⟩ := run_append_row (P := Try.prog) w w.heap.size 22 ty _ i0 _ 1 8 Try.underlying22 hi hz0 hz1 hz2 rfl (by decide) none 0 0 _ (Own.nil _ _ _ _) A m c (k.map encI) (by simp [hm]) hr (mapI_one k) (by simp only [maxLen]; omega) (by omega) (Nat.le_refl _)
  simp only [execOp, resolve, invoke, builtin, Sem.run_bind, Sem.run_pure, Result.andThen_ok, List.map_toArray, List.map_cons, List.map_nil, hs, hx, hrun]
  rw [Nat.zero_add] at own' ⊢
  exact h b' cap' w' (by simpa using own') (Grew.step (Own.nil w w.heap.size 3 1) g w (Below.refl _ _))
def CtlRet (ps : List Ph) (ls : List (Int × Int)) (nx : List Int) (g wt : Int) (w : World) (e : Ending) (w' : World) : Prop :=
  ∃ (la : Option Addr) (lc : Nat) (na : Option Addr) (nc : Nat), e = .returned (.agg #[.slice la ps.length lc, .int .i64 g, .slice na 2 nc, .int .i64 wt]) ∧ CtlV w' w.heap.size ps ls nx g wt la lc na nc ∧ Below w.heap.size w w'
set_option maxHeartbeats 4000000 in
theorem ref09_Copy (base : Nat) (ps : List Ph) (ls : List (Int × Int)) (nx : List Int) (g wt : Int) (la : Option Addr) (lc : Nat) (na : Option Addr) (nc : Nat) (w : World) (hc : CtlV w base ps ls nx g wt la lc na nc) (h8 : ps.length ≤ 8) :
    Calls Try.prog 52 #[.agg #[.slice la ps.length lc, .int .i64 g, .slice na 2 nc, .int .i64 wt]] w (CtlRet ps ls nx g wt w) := by
  go_enter Try.func52, Try.ntmps52
  go_upto_region 1 with fail
  refine wp_named (fun W => Blk W w.heap.size 59 #[.slice la ps.length lc, .int .i64 g, .slice na 2 nc, .int .i64 wt] ∧ Blk W (w.heap.size + 1) 59 #[.slice none 0 0, .int .i64 0, .slice none 0 0, .int .i64 0] ∧ CtlV W base ps ls nx g wt la lc na nc ∧ RowKit.Below w.heap.size w W ∧ w.heap.size + 2 ≤ W.heap.size) ⟨(Blk.new _ _ _).alloc _, Blk.next _ _ _ _, (hc.alloc _).alloc _, (by repeat (first | (with_reducible refine Below.setCell ?_ ?_ _) | (with_reducible refine Below.alloc ?_ ?_ _) | (with_reducible refine Below.drew ?_) | (with_reducible refine below_drewN ?_ _) | (with_reducible exact Below.refl _ _) | (focus (simp; done)) | (focus (simp; omega)) | (focus omega))), by simp⟩ ?_
  have hlow : ∀ k, la.map (·.block) = some k → k < w.heap.size := fun k h => hc.lo.lt' k h
  have hlow2 : ∀ k, na.map (·.block) = some k → k < w.heap.size := fun k h => hc.no.lt' k h
  clear hc
  rintro W ⟨kc, kr, hc, be, sz⟩
  apply wp_region_tab [((w.heap.size+1), (w.heap.size+1+1))] 12 14 [some 3, some 4, some 5, some 6, some 7, some 8, some 9, some 10, some 11, some 12, some 13, none] [⟨[12], [], [], []⟩, ⟨[0, 12], [0], [0], []⟩, ⟨[0, 1, 12], [1], [1], []⟩, ⟨[12], [], [], []⟩, ⟨[3, 12], [3], [3], []⟩, ⟨[12], [], [], []⟩, ⟨[5, 12], [5], [5], []⟩, ⟨[0, 1, 2, 5, 6, 12], [6], [6], []⟩, ⟨[12], [], [], []⟩, ⟨[8, 12], [8], [8], []⟩, ⟨[0, 1, 2, 3, 4, 5, 6, 7, 8, 9, 12], [2, 4, 7, 9], [2, 4, 7, 9], []⟩, ⟨[0, 1, 2, 3, 4, 5, 6, 7, 8, 9, 10, 12], [2, 7, 10, 12], [2, 7, 10, 12], [12]⟩, ⟨[], [], [], []⟩] [0, 1, 2, 3, 4, 5, 6, 7, 8, 9, 10, 11] [2, 7, 11] [psiTrue, psiTrue, (fun f lo hi v b0 b1 W => ∃ a' c', v = .slice a' ps.length c' ∧ Own W b0 90 2 a' ps.length c' (liCells ls) ∧ ∀ x, a'.map (·.block) = some x → x < b1), psiTrue, psiTrue, psiTrue, psiTrue, (fun f lo hi v b0 b1 W => ∃ a' c', v = .slice a' 2 c' ∧ Own W b0 3 1 a' 2 c' (nx.map encI) ∧ ∀ x, a'.map (·.block) = some x → x < b1), psiTrue, psiTrue, (fun f lo hi v b0 b1 W => v = .agg #[f 2, .int .i64 g, f 7, .int .i64 wt]), (fun f lo hi v b0 b1 W => ∃ a' c' a2 c2, f 2 = .slice a' ps.length c' ∧ f 7 = .slice a2 2 c2 ∧ Blk W (w.heap.size+1) 59 #[.slice a' ps.length c', .int .i64 g, .slice a2 2 c2, .int .i64 wt]), (fun f lo hi v b0 b1 W => (b0 = (w.heap.size+1) ∧ b1 = (w.heap.size+1+1)) ∧ Blk W (w.heap.size+1) 59 #[.slice none 0 0, .int .i64 0, .slice none 0 0, .int .i64 0])] [kVal _, kVal _, kTrue, kVal _, kVal _, kVal _, kVal _, kTrue, kVal _, kVal _, kTrue, kTrue]
  · kernel_rfl
  · kernel_rfl
  · rfl
  · rfl
  rotate_left 2
  refine ⟨?oR2_0, ?oR2_1, ?oR2_2, ?oR2_3, ?oR2_4, ?oR2_5, ?oR2_6, ?oR2_7, ?oR2_8, ?oR2_9, ?oR2_10, ?oR2_11, trivial⟩
  case hx => exact ⟨⟨by omega, by omega⟩, by simp, trivial⟩
  case hX => exact ⟨fun _ _ _ _ => ⟨⟨rfl, rfl⟩, kr⟩, trivial⟩
  case oR2_0 => intro f lo hi w hb hx hf hk hrg R hR; (try replace hb := BelX.zero hb); (try simp (decide := true) only [go_sem] at hf); (try simp (decide := true) only [go_sem] at hk); go_simp; exact hR _ _ (rpost_val rfl rfl (Below.refl _ _) rfl)
  case oR2_1 =>
    intro f lo hi w hb hx hf hk hrg R hR; (try replace hb := BelX.zero hb); (try simp (decide := true) only [go_sem] at hf); (try simp (decide := true) only [go_sem] at hk)
    obtain ⟨e0, e1, e2, e3⟩ := (hb.blk kc (fun r hr => by simp at hr; subst hr; simp only; omega)).four'
    go_simp
    exact hR _ _ (rpost_val rfl rfl (Below.refl _ _) rfl)
  case oR2_2 =>
    intro f lo hi w hb hx hf hk hrg R hR; (try replace hb := BelX.zero hb); (try simp (decide := true) only [go_sem] at hf); (try simp (decide := true) only [go_sem] at hk)
    have hrow : Row w la (liCells ls) := hb.row hc.lo.row (fun k hk r hr => by have := hlow k hk; simp at hr; subst hr; simp only; omega)
    refine obl_appLi la ps.length lc ls ?_ ?_ hrow hc.ll.symm (by omega) ?_
    · go_simp
    · go_simp
    intro b' cap' w' own' hb'
    refine hR _ _ (rpost_none rfl hb' ?_)
    (try simp (decide := true) only [go_sem])
    exact ⟨b', cap', rfl, own', own'.lt'⟩
  case oR2_3 => intro f lo hi w hb hx hf hk hrg R hR; (try replace hb := BelX.zero hb); (try simp (decide := true) only [go_sem] at hf); (try simp (decide := true) only [go_sem] at hk); go_simp; exact hR _ _ (rpost_val rfl rfl (Below.refl _ _) rfl)
  case oR2_4 =>
    intro f lo hi w hb hx hf hk hrg R hR; (try replace hb := BelX.zero hb); (try simp (decide := true) only [go_sem] at hf); (try simp (decide := true) only [go_sem] at hk)
    obtain ⟨e0, e1, e2, e3⟩ := (hb.blk kc (fun r hr => by simp at hr; subst hr; simp only; omega)).four'
    go_simp
    exact hR _ _ (rpost_val rfl rfl (Below.refl _ _) rfl)
  case oR2_5 => intro f lo hi w hb hx hf hk hrg R hR; (try replace hb := BelX.zero hb); (try simp (decide := true) only [go_sem] at hf); (try simp (decide := true) only [go_sem] at hk); go_simp; exact hR _ _ (rpost_val rfl rfl (Below.refl _ _) rfl)
  case oR2_6 =>
    intro f lo hi w hb hx hf hk hrg R hR; (try replace hb := BelX.zero hb); (try simp (decide := true) only [go_sem] at hf); (try simp (decide := true) only [go_sem] at hk)
    obtain ⟨e0, e1, e2, e3⟩ := (hb.blk kc (fun r hr => by simp at hr; subst hr; simp only; omega)).four'
    go_simp
    exact hR _ _ (rpost_val rfl rfl (Below.refl _ _) rfl)
  case oR2_7 =>
    intro f lo hi w hb hx hf hk hrg R hR; (try replace hb := BelX.zero hb); (try simp (decide := true) only [go_sem] at hf); (try simp (decide := true) only [go_sem] at hk)
    have hrow : Ints w na nx := hb.row hc.no.row (fun k hk r hr => by have := hlow2 k hk; simp at hr; subst hr; simp only; omega)
    refine obl_appI0 na 2 nc nx ?_ ?_ hrow hc.nx.1.symm (by omega) ?_
    · go_simp
    · go_simp
    intro b' cap' w' own' hb'
    refine hR _ _ (rpost_none rfl hb' ?_)
    (try simp (decide := true) only [go_sem])
    exact ⟨b', cap', rfl, own', own'.lt'⟩
  case oR2_8 => intro f lo hi w hb hx hf hk hrg R hR; (try replace hb := BelX.zero hb); (try simp (decide := true) only [go_sem] at hf); (try simp (decide := true) only [go_sem] at hk); go_simp; exact hR _ _ (rpost_val rfl rfl (Below.refl _ _) rfl)
  case oR2_9 =>
    intro f lo hi w hb hx hf hk hrg R hR; (try replace hb := BelX.zero hb); (try simp (decide := true) only [go_sem] at hf); (try simp (decide := true) only [go_sem] at hk)
    obtain ⟨e0, e1, e2, e3⟩ := (hb.blk kc (fun r hr => by simp at hr; subst hr; simp only; omega)).four'
    go_simp
    exact hR _ _ (rpost_val rfl rfl (Below.refl _ _) rfl)
  case oR2_10 =>
    intro f lo hi w hb hx hf hk hrg R hR; (try replace hb := BelX.zero hb); (try simp (decide := true) only [go_sem] at hf); (try simp (decide := true) only [go_sem] at hk)
    obtain ⟨⟨a', c', h5, -⟩, a2, c2, h10, -⟩ := hf
    go_simp
    refine hR _ _ (rpost_none rfl (Below.refl _ _) ?_)
    (try simp (decide := true) only [go_sem])
    rw [h5, h10]
  case oR2_11 =>
    intro f lo hi w hb hx hf hk hrg R hR; (try replace hb := BelX.zero hb); (try simp (decide := true) only [go_sem] at hf); (try simp (decide := true) only [go_sem] at hk)
    obtain ⟨⟨a', c', h5, -⟩, ⟨a2, c2, h10, -⟩, h13, -, kb⟩ := hf
    rw [h5, h10] at h13
    obtain ⟨e0, e1, e2, e3⟩ := kb.four'
    have fz := kb.frozen
    have p1 : lo 12 = _ := (XOk.get _ _ hx 0 _ rfl).1
    have p2 : hi 12 = _ := (XOk.get _ _ hx 0 _ rfl).2
    go_simp
    refine hR _ _ (rpost_some rfl rfl (Touch.set4 w (List.mem_singleton.2 rfl) (Nat.le_of_eq p1) (by rw [p2]; exact Nat.lt_succ_self _) _ _ _ _) ?_)
    (try simp (decide := true) only [go_sem])
    exact ⟨a', c', a2, c2, h5, h10, kb.set4 _ _ _ _⟩
  case hcl =>
    refine ⟨Closed.true _ _ _ _, Closed.true _ _ _ _, ?cR2_2, Closed.true _ _ _ _, Closed.true _ _ _ _, Closed.true _ _ _ _, Closed.true _ _ _ _, ?cR2_7, Closed.true _ _ _ _, Closed.true _ _ _ _, ?cR2_10, ?cR2_11, ?cR2_12, trivial⟩
    all_goals first
      | exact fun f lo hi v b0 b1 w w' h hs hB hown hU hX => by
          obtain ⟨a', c', h1, own, lt⟩ := h
          exact ⟨a', c', h1, own.keep fun b hb hl _ => hown b hl (lt b (by rw [hb]; rfl)), lt⟩
      | exact fun f lo hi v b0 b1 w w' h hs hB hown hU hX => by
          obtain ⟨a', c', a2, c2, h1, h2, h3⟩ := h
          exact ⟨a', c', a2, c2, h1, h2, (hX 0 _ rfl (by simp) _ (Nat.le_refl _) (Nat.lt_succ_self _)).trans h3⟩
      | exact fun f lo hi v b0 b1 w w' h hs hB hown hU hX => by
          obtain ⟨⟨rfl, rfl⟩, kb⟩ := h
          exact ⟨⟨rfl, rfl⟩, (hown _ (Nat.le_refl _) (Nat.lt_succ_self _)).trans kb⟩
      | exact fun _ _ _ _ _ _ _ _ h _ _ _ _ _ => h
  intro f lo hi W7 hbr hx hf hk hrg; (try replace hbr := BelX.zero hbr); clear hx; (try simp (decide := true) only [go_sem] at hf); (try simp (decide := true) only [go_sem] at hk)
  obtain ⟨⟨a', c', h5, own5, -⟩, ⟨a2, c2, h10, own10, -⟩, b', d', b2, d2, h5', h10', k7⟩ := hf
  obtain ⟨rfl, rfl⟩ : a' = b' ∧ c' = d' := by
    rw [h5] at h5'
    simpa using h5'
  obtain ⟨rfl, rfl⟩ : a2 = b2 ∧ c2 = d2 := by
    rw [h10] at h10'
    simpa using h10'
  have r2 : W.heap.size ≤ lo 2 := (hrg.out 2 (by simp)).1
  have r7 : W.heap.size ≤ lo 7 := (hrg.out 7 (by simp)).1
  have bel7 : RowKit.Below w.heap.size w W7 := ⟨hbr.1.trans be.os, hbr.2.1.trans be.tape, hbr.2.2.1.trans be.output, Nat.le_trans be.size hbr.2.2.2.1, fun q hq => (hbr.2.2.2.2 q ⟨by omega, fun r hr => by simp at hr; subst hr; simp only; omega⟩).trans (be.block q hq)⟩
  obtain ⟨d0, d1, d2', d3⟩ := k7.four'
  clear hrg hbr h5' h10'
  go_simp
  clear hk h5 h10
  go_wp2
  refine bodyPost_ret (v := .agg #[.slice a' ps.length c', .int .i64 g, .slice a2 2 c2, .int .i64 wt]) (by simp [results, Try.results52, go_sem, d0, d1, d2', d3]) rfl ?_
  exact ⟨a', c', a2, c2, rfl, ⟨own5.mono (by omega), own10.mono (by omega), hc.nx, hc.ll, hc.lok, hc.g0, hc.w0⟩, bel7⟩
end Go.Proofs.Ytpjnajallekjoaa
