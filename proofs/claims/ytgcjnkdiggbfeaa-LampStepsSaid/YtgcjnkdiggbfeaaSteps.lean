import Derived.Test.YtgcjnkdiggbfeaaAwake
import Derived.Test.YtgcjnkdiggbfeaaValid
import Derived.StillTactics
import Derived.StillTailTactics
namespace Go.Proofs.Ytgcjnkdiggbfeaa
open Go.RowKit Go.Sort
set_option maxRecDepth 100000

theorem qst {P : Program} {f : FuncId} {args : Array Value} {w : World} {v : Value} (h : Calls P f args w fun e w' => e = .returned v ∧ w = w') : Calls P f args w fun e w'' => e = .returned v ∧ w'' = w := h.mono fun _ _ ⟨he, hm⟩ => ⟨he, hm.symm⟩
section
variable {r g mg xg y rd wk cl : Int}
theorem valid_c {a t : Int} {v : Bool} (h : Hid (lValid ⟨r, g, mg, xg, y, rd, wk, cl⟩ a t = v)) (w : World) : Calls Try.prog 15 #[.agg #[.int .i64 r, .int .i64 g, .int .i64 mg, .int .i64 xg, .int .i64 y, .int .i64 rd, .int .i64 wk, .int .i64 cl], .agg #[.int .i64 a, .int .i64 t]] w fun e w' => e = .returned (.bool v) ∧ Below w.heap.size w w' := h.out ▸ lamp_Valid ⟨r, g, mg, xg, y, rd, wk, cl⟩ a t w
theorem nonred_c {a t : Int} {v : Bool} (h : Hid (lNonRed a = v)) (w : World) : Calls Try.prog 17 #[.agg #[.int .i64 a, .int .i64 t]] w fun e w' => e = .returned (.bool v) ∧ Below w.heap.size w w' := h.out ▸ lamp_NonRed a t w
theorem rvalid_c {a t : Int} {v : Bool} (h : Hid (lValid ⟨r, g, mg, xg, y, rd, wk, cl⟩ a t = v)) (w : World) : Calls Try.prog 16 #[.agg #[.int .i64 r, .int .i64 g, .int .i64 mg, .int .i64 xg, .int .i64 y, .int .i64 rd, .int .i64 wk, .int .i64 cl], .agg #[.int .i64 a, .int .i64 t]] w fun e w' => e = .returned (.bool v) ∧ Below w.heap.size w w' := h.out ▸ ref08_Valid ⟨r, g, mg, xg, y, rd, wk, cl⟩ a t w
theorem rnonred_c {a t : Int} {v : Bool} (h : Hid (lNonRed a = v)) (w : World) : Calls Try.prog 18 #[.agg #[.int .i64 a, .int .i64 t]] w fun e w' => e = .returned (.bool v) ∧ Below w.heap.size w w' := h.out ▸ ref08_NonRed a t w
theorem sneed_c {nd : Int} (h : Hid (lNeed ⟨r, g, mg, xg, y, rd, wk, cl⟩ = nd)) (w : World) (hp : PhOk ⟨r, g, mg, xg, y, rd, wk, cl⟩) :
    Calls Try.prog 12 #[.agg #[.int .i64 r, .int .i64 g, .int .i64 mg, .int .i64 xg, .int .i64 y, .int .i64 rd, .int .i64 wk, .int .i64 cl]] w fun e w' => e = .returned (.int .i64 nd) ∧ Below w.heap.size w w' := h.out ▸ lamp_Need _ w hp
theorem sstep_c {a t a' t' : Int} {leave : Bool} (h : Hid (lStep ⟨r, g, mg, xg, y, rd, wk, cl⟩ a t leave = (a', t'))) (w : World) (hp : PhOk ⟨r, g, mg, xg, y, rd, wk, cl⟩) (hx : LiOk ⟨r, g, mg, xg, y, rd, wk, cl⟩ a t) :
    Calls Try.prog 11 #[.agg #[.int .i64 r, .int .i64 g, .int .i64 mg, .int .i64 xg, .int .i64 y, .int .i64 rd, .int .i64 wk, .int .i64 cl], .agg #[.int .i64 a, .int .i64 t], .bool leave] w fun e w' => e = .returned (.agg #[.int .i64 a', .int .i64 t']) ∧ Below w.heap.size w w' := by
  have := lamp_Step ⟨r, g, mg, xg, y, rd, wk, cl⟩ a t leave w hp hx
  rw [h.out] at this
  exact this
theorem scount_c {a t n : Int} (h : Hid (lCount ⟨r, g, mg, xg, y, rd, wk, cl⟩ a t = n)) (w : World) (hp : PhOk ⟨r, g, mg, xg, y, rd, wk, cl⟩) (hx : LiOk ⟨r, g, mg, xg, y, rd, wk, cl⟩ a t) :
    Calls Try.prog 9 #[.agg #[.int .i64 r, .int .i64 g, .int .i64 mg, .int .i64 xg, .int .i64 y, .int .i64 rd, .int .i64 wk, .int .i64 cl], .agg #[.int .i64 a, .int .i64 t]] w fun e w' => e = .returned (.int .i64 n) ∧ Below w.heap.size w w' := by
  have hb := hx.bd hp
  exact h.out ▸ lamp_Count ⟨r, g, mg, xg, y, rd, wk, cl⟩ a t w hp (by omega)
theorem swalk_c {a t n : Int} (h : Hid (lWalk ⟨r, g, mg, xg, y, rd, wk, cl⟩ a t = n)) (w : World) (hp : PhOk ⟨r, g, mg, xg, y, rd, wk, cl⟩) :
    Calls Try.prog 14 #[.agg #[.int .i64 r, .int .i64 g, .int .i64 mg, .int .i64 xg, .int .i64 y, .int .i64 rd, .int .i64 wk, .int .i64 cl], .agg #[.int .i64 a, .int .i64 t]] w fun e w' => e = .returned (.int .i64 n) ∧ Below w.heap.size w w' := h.out ▸ lamp_Walk _ a t w hp
theorem rneed_c {nd : Int} (h : Hid (lNeed ⟨r, g, mg, xg, y, rd, wk, cl⟩ = nd)) (w : World) (hp : PhOk ⟨r, g, mg, xg, y, rd, wk, cl⟩) :
    Calls Try.prog 19 #[.agg #[.int .i64 r, .int .i64 g, .int .i64 mg, .int .i64 xg, .int .i64 y, .int .i64 rd, .int .i64 wk, .int .i64 cl]] w fun e w' => e = .returned (.int .i64 nd) ∧ Below w.heap.size w w' := h.out ▸ ref08_Need _ w hp
theorem rstep_c {a t a' t' : Int} {leave : Bool} (h : Hid (lStep ⟨r, g, mg, xg, y, rd, wk, cl⟩ a t leave = (a', t'))) (w : World) (hp : PhOk ⟨r, g, mg, xg, y, rd, wk, cl⟩) (hx : LiOk ⟨r, g, mg, xg, y, rd, wk, cl⟩ a t) :
    Calls Try.prog 20 #[.agg #[.int .i64 r, .int .i64 g, .int .i64 mg, .int .i64 xg, .int .i64 y, .int .i64 rd, .int .i64 wk, .int .i64 cl], .agg #[.int .i64 a, .int .i64 t], .bool leave] w fun e w' => e = .returned (.agg #[.int .i64 a', .int .i64 t']) ∧ Below w.heap.size w w' := by
  have := ref08_Step ⟨r, g, mg, xg, y, rd, wk, cl⟩ a t leave w hp hx
  rw [h.out] at this
  exact this
theorem rcount_c {a t n : Int} (h : Hid (lCount ⟨r, g, mg, xg, y, rd, wk, cl⟩ a t = n)) (w : World) (hp : PhOk ⟨r, g, mg, xg, y, rd, wk, cl⟩) (hx : LiOk ⟨r, g, mg, xg, y, rd, wk, cl⟩ a t) :
    Calls Try.prog 21 #[.agg #[.int .i64 r, .int .i64 g, .int .i64 mg, .int .i64 xg, .int .i64 y, .int .i64 rd, .int .i64 wk, .int .i64 cl], .agg #[.int .i64 a, .int .i64 t]] w fun e w' => e = .returned (.int .i64 n) ∧ Below w.heap.size w w' := by
  have hb := hx.bd hp
  exact h.out ▸ ref08_Count ⟨r, g, mg, xg, y, rd, wk, cl⟩ a t w hp (by omega)
theorem rwalk_c {a t n : Int} (h : Hid (lWalk ⟨r, g, mg, xg, y, rd, wk, cl⟩ a t = n)) (w : World) (hp : PhOk ⟨r, g, mg, xg, y, rd, wk, cl⟩) :
    Calls Try.prog 22 #[.agg #[.int .i64 r, .int .i64 g, .int .i64 mg, .int .i64 xg, .int .i64 y, .int .i64 rd, .int .i64 wk, .int .i64 cl], .agg #[.int .i64 a, .int .i64 t]] w fun e w' => e = .returned (.int .i64 n) ∧ Below w.heap.size w w' := h.out ▸ ref08_Walk _ a t w hp
end

/-- three lights in a row -/
def Lights3 (w : World) (B : Nat) : Prop := ∀ j, j < 3 → ∃ a t : Int, w.cell? ⟨B, j * 2, none⟩ = some (.int .i64 a) ∧ w.cell? ⟨B, j * 2 + 1, none⟩ = some (.int .i64 t)
theorem Lights3.mk (w : World) (e : TypeId) (a b c d x y : Int) : Lights3 (w.alloc (.cells #[.int .i64 a, .int .i64 b, .int .i64 c, .int .i64 d, .int .i64 x, .int .i64 y] e)) w.heap.size := by
  intro j hj
  have : j = 0 ∨ j = 1 ∨ j = 2 := by omega
  have k := Blk.new w e #[.int .i64 a, .int .i64 b, .int .i64 c, .int .i64 d, .int .i64 x, .int .i64 y]
  rcases this with rfl | rfl | rfl
  · exact ⟨a, b, k.cell 0, k.cell 1⟩
  · exact ⟨c, d, k.cell 2, k.cell 3⟩
  · exact ⟨x, y, k.cell 4, k.cell 5⟩
theorem Lights3.below {w w' : World} {B : Nat} (h : Lights3 w B) (hb : Below w.heap.size w w') (hB : B < w.heap.size) : Lights3 w' B := fun j hj => by
  obtain ⟨a, t, h1, h2⟩ := h j hj
  exact ⟨a, t, by rw [← h1]; exact hb.cell (p := ⟨B, j * 2, none⟩) hB, by rw [← h2]; exact hb.cell (p := ⟨B, j * 2 + 1, none⟩) hB⟩

set_option maxHeartbeats 1000000 in
theorem lampSteps_walk (ra rt : Int) (a0 : Option Addr) (c0 : Nat) (l0 : List Int) (n by_ : Int) (leave : Bool) (w : World) (h0 : Ints w a0 l0) (n0 : l0.length ≤ 9223372036854775807) :
    Calls Try.prog 6 #[.agg #[.int .i64 ra, .int .i64 rt], .slice a0 l0.length c0, .int .i64 n, .int .i64 by_, .bool leave] w fun e w' => e = .returned (.bool true) ∧ RowKit.Below w.heap.size w w' := by
  obtain ⟨m6, E6, m60, m61⟩ := modName ra 6 (by omega)
  obtain ⟨m5, E5, m50, m51⟩ := modName rt 5 (by omega)
  have h0' := h0.alloc (.cells #[.int .i64 ra, .int .i64 rt] 27)
  go_enter Try.func6, Try.ntmps6
  go_wp2_with (first | (go_at_call 7; (with_reducible refine (law08_phase a0 c0 l0 by_ _ h0' n0).mono ?_); rintro e w1 ⟨p, rfl, hp, hb1⟩; (obtain ⟨r, g, mg, xg, y, rd, wk, cl⟩ := p; simp only [Ph.agg])) | (go_at_call 8; (with_reducible refine (light_c n _ hp).mono ?_); rintro e w2 ⟨a, t, rfl, hx, hb2⟩))
  have z1 := hb1.size
  have z2 := hb2.size
  simp at z1 z2
  obtain ⟨R, hR⟩ : ∃ P, w.heap.size = P := ⟨_, rfl⟩
  obtain ⟨P, hP⟩ : ∃ P, w1.heap.size = P := ⟨_, rfl⟩
  obtain ⟨X, hX⟩ : ∃ P, w2.heap.size = P := ⟨_, rfl⟩
  refine wp_named (fun W => RowKit.Below R w W ∧ Blk W R 27 #[.int .i64 ra, .int .i64 rt] ∧ Blk W P 24 #[.int .i64 r, .int .i64 g, .int .i64 mg, .int .i64 xg, .int .i64 y, .int .i64 rd, .int .i64 wk, .int .i64 cl] ∧ Blk W X 27 #[.int .i64 a, .int .i64 t]) ?_ ?_
  · have k0 := (Blk.new w 27 #[.int .i64 ra, .int .i64 rt]).below hb1 (by simp)
    have k1 := (k0.alloc (.cells #[.int .i64 r, .int .i64 g, .int .i64 mg, .int .i64 xg, .int .i64 y, .int .i64 rd, .int .i64 wk, .int .i64 cl] 24)).below hb2 (by simp; omega)
    have k2 := (Blk.new w1 24 #[.int .i64 r, .int .i64 g, .int .i64 mg, .int .i64 xg, .int .i64 y, .int .i64 rd, .int .i64 wk, .int .i64 cl]).below hb2 (by simp)
    exact ⟨by rw [← hR]; exact (by repeat (first | (with_reducible refine Below.setCell ?_ ?_ _) | (with_reducible refine Below.alloc ?_ ?_ _) | (with_reducible refine Below.drew ?_) | (with_reducible refine below_drewN ?_ _) | (with_reducible exact Below.refl _ _) | (with_reducible refine Below.trans ?_ (Below.mono hb2 ?_)) | (with_reducible refine Below.trans ?_ (Below.mono hb1 ?_)) | (focus (simp; done)) | (focus (simp; omega)) | (focus omega) | (focus (have q0 := Below.size hb2; (try simp at q0); have q1 := Below.size hb1; (try simp at q1); (try simp); omega)))), by rw [← hR]; exact k1.alloc _, by rw [← hP]; exact k2.alloc _, by rw [← hX]; exact Blk.new w2 _ _⟩
  rintro W ⟨beW, kR, kP, kX⟩
  simp only [hR, hP, hX]
  have HR := Lib.hid hR
  have o1 : R < P := by omega
  have o2 : P < X := by omega
  clear hR hP hX z1 z2 hb1 hb2 h0 h0'
  obtain ⟨f0, f1, f2, f3, f4, f5, f6, f7, fl⟩ := kP.eightF
  obtain ⟨x0, x1, -, xl⟩ := kX.two
  obtain ⟨u0, u1, -, ul⟩ := kR.two
  have e1 : IntKind.i64.wrap (m6 - 1) = m6 - 1 := by rw [IntKind.wrap_i64]; omega
  have e2 : IntKind.i64.wrap (m5 - 1) = m5 - 1 := by rw [IntKind.wrap_i64]; omega
  clear f0 f1 f2 f3 f4 f5 f6 f7 x0 x1 u0 u1
  apply wp_region_tab [] 14 95 [some 21, some 22, some 23, some 24, some 25, some 26, some 27, some 28, some 29, some 30, some 31, some 32, some 33, some 34] [⟨[], [], [], []⟩, ⟨[], [], [], []⟩, ⟨[], [], [], []⟩, ⟨[2], [2], [2], []⟩, ⟨[2, 3], [3], [3], []⟩, ⟨[2, 3, 4], [4], [4], []⟩, ⟨[], [], [], []⟩, ⟨[6], [6], [6], []⟩, ⟨[2, 3, 4, 6, 7], [7], [7], []⟩, ⟨[2, 3, 4, 6, 7, 8], [8], [8], []⟩, ⟨[2, 3, 4, 5, 6, 7, 8, 9], [5, 9], [5, 9], []⟩, ⟨[0, 1, 2, 3, 4, 5, 6, 7, 8, 9, 10], [0, 1, 10], [0, 1, 10], []⟩, ⟨[0, 1, 2, 3, 4, 5, 6, 7, 8, 9, 10, 11], [11], [11], []⟩, ⟨[], [], [], []⟩] [0, 1, 2, 3, 4, 5, 6, 7, 8, 9, 10, 11, 12, 13] [11] [psiTrue, psiTrue, psiTrue, psiTrue, psiTrue, psiTrue, psiTrue, psiTrue, psiTrue, psiTrue, psiTrue, (fun f lo hi v b0 b1 W => ∃ b, v = .slice (some ⟨b, 0, none⟩) 3 3 ∧ b0 ≤ b ∧ b < b1 ∧ Blk W b 27 #[.int .i64 ra, .int .i64 rt, .int .i64 a, .int .i64 t, .int .i64 (m6 - 1), .int .i64 (m5 - 1)]), psiTrue, psiTrue] [kVal _, kVal _, kVal _, kVal _, kVal _, kVal _, kVal _, kVal _, kVal _, kVal _, kVal _, kTrue, (fun v => v = .int .i64 3), kVal _]
  · kernel_rfl
  · kernel_rfl
  · rfl
  · rfl
  · exact trivial
  · exact trivial
  refine ⟨?oR1_0, ?oR1_1, ?oR1_2, ?oR1_3, ?oR1_4, ?oR1_5, ?oR1_6, ?oR1_7, ?oR1_8, ?oR1_9, ?oR1_10, ?oR1_11, ?oR1_12, ?oR1_13, trivial⟩
  case oR1_0 =>
    intro f lo hi w hb hx hf hk hrg R hR; (try replace hb := BelX.zero hb); (try simp (decide := true) only [go_sem] at hf); (try simp (decide := true) only [go_sem] at hk)
    obtain ⟨q0, q1, -, -⟩ := (kR.below hb ul).two
    go_simp
    exact hR _ _ (rpost_val rfl rfl (Below.refl _ _) rfl)
  case oR1_1 =>
    intro f lo hi w hb hx hf hk hrg R hR; (try replace hb := BelX.zero hb); (try simp (decide := true) only [go_sem] at hf); (try simp (decide := true) only [go_sem] at hk)
    obtain ⟨q0, q1, -, -⟩ := (kX.below hb xl).two
    go_simp
    exact hR _ _ (rpost_val rfl rfl (Below.refl _ _) rfl)
  case oR1_2 => intro f lo hi w hb hx hf hk hrg R hR; (try replace hb := BelX.zero hb); (try simp (decide := true) only [go_sem] at hf); (try simp (decide := true) only [go_sem] at hk); go_simp; exact hR _ _ (rpost_val rfl rfl (Below.refl _ _) rfl)
  case oR1_3 =>
    intro f lo hi w hb hx hf hk hrg R hR; (try replace hb := BelX.zero hb); (try simp (decide := true) only [go_sem] at hf); (try simp (decide := true) only [go_sem] at hk)
    obtain ⟨q0, q1, -, -⟩ := (kR.below hb ul).two
    go_simp
    exact hR _ _ (rpost_val rfl rfl (Below.refl _ _) rfl)
  case oR1_4 => intro f lo hi w hb hx hf hk hrg R hR; (try replace hb := BelX.zero hb); (try simp (decide := true) only [go_sem] at hf); (try simp (decide := true) only [go_sem] at hk); go_simp; (with_reducible refine (mk_ModE E6.out _ (by omega) (by omega)).mono ?_); rintro e w' ⟨rfl, rfl⟩; exact ⟨_, rfl, hR _ _ (rpost_val rfl rfl (Below.refl _ _) rfl)⟩
  case oR1_5 => intro f lo hi w hb hx hf hk hrg R hR; (try replace hb := BelX.zero hb); (try simp (decide := true) only [go_sem] at hf); (try simp (decide := true) only [go_sem] at hk); go_simp; exact hR _ _ (rpost_val rfl rfl (Below.refl _ _) rfl)
  case oR1_6 => intro f lo hi w hb hx hf hk hrg R hR; (try replace hb := BelX.zero hb); (try simp (decide := true) only [go_sem] at hf); (try simp (decide := true) only [go_sem] at hk); go_simp; exact hR _ _ (rpost_val rfl rfl (Below.refl _ _) rfl)
  case oR1_7 =>
    intro f lo hi w hb hx hf hk hrg R hR; (try replace hb := BelX.zero hb); (try simp (decide := true) only [go_sem] at hf); (try simp (decide := true) only [go_sem] at hk)
    obtain ⟨q0, q1, -, -⟩ := (kR.below hb ul).two
    go_simp
    exact hR _ _ (rpost_val rfl rfl (Below.refl _ _) rfl)
  case oR1_8 => intro f lo hi w hb hx hf hk hrg R hR; (try replace hb := BelX.zero hb); (try simp (decide := true) only [go_sem] at hf); (try simp (decide := true) only [go_sem] at hk); go_simp; (with_reducible refine (mk_ModE E5.out _ (by omega) (by omega)).mono ?_); rintro e w' ⟨rfl, rfl⟩; exact ⟨_, rfl, hR _ _ (rpost_val rfl rfl (Below.refl _ _) rfl)⟩
  case oR1_9 => intro f lo hi w hb hx hf hk hrg R hR; (try replace hb := BelX.zero hb); (try simp (decide := true) only [go_sem] at hf); (try simp (decide := true) only [go_sem] at hk); go_simp; exact hR _ _ (rpost_val rfl rfl (Below.refl _ _) rfl)
  case oR1_10 => intro f lo hi w hb hx hf hk hrg R hR; (try replace hb := BelX.zero hb); (try simp (decide := true) only [go_sem] at hf); (try simp (decide := true) only [go_sem] at hk); go_simp; exact hR _ _ (rpost_val rfl rfl (Below.refl _ _) rfl)
  case oR1_11 =>
    intro f lo hi w hb hx hf hk hrg R hR; (try replace hb := BelX.zero hb); (try simp (decide := true) only [go_sem] at hf); (try simp (decide := true) only [go_sem] at hk)
    go_simp
    refine hR _ _ (rpost_none rfl (by repeat (first | (with_reducible refine Below.setCell ?_ ?_ _) | (with_reducible refine Below.alloc ?_ ?_ _) | (with_reducible refine Below.drew ?_) | (with_reducible refine below_drewN ?_ _) | (with_reducible exact Below.refl _ _) | (focus (simp; done)) | (focus (simp; omega)) | (focus omega))) ?_)
    (try simp (decide := true) only [go_sem])
    exact ⟨_, rfl, Nat.le_refl _, by simp, Blk.new _ _ _⟩
  case oR1_12 =>
    intro f lo hi w hb hx hf hk hrg R hR; (try replace hb := BelX.zero hb); (try simp (decide := true) only [go_sem] at hf); (try simp (decide := true) only [go_sem] at hk)
    obtain ⟨b, h11, -⟩ := hf
    go_simp
    exact hR _ _ (rpost_val rfl rfl (Below.refl _ _) rfl)
  case oR1_13 => intro f lo hi w hb hx hf hk hrg R hR; (try replace hb := BelX.zero hb); (try simp (decide := true) only [go_sem] at hf); (try simp (decide := true) only [go_sem] at hk); go_simp; exact hR _ _ (rpost_val rfl rfl (Below.refl _ _) rfl)
  case hcl =>
    refine ⟨Closed.true _ _ _ _, Closed.true _ _ _ _, Closed.true _ _ _ _, Closed.true _ _ _ _, Closed.true _ _ _ _, Closed.true _ _ _ _, Closed.true _ _ _ _, Closed.true _ _ _ _, Closed.true _ _ _ _, Closed.true _ _ _ _, Closed.true _ _ _ _, ?cR1_11, Closed.true _ _ _ _, Closed.true _ _ _ _, trivial⟩
    · intro f lo hi v b0 b1 w w' hp _ _ hown _ _
      obtain ⟨b, h1, h2, h3, h4⟩ := hp
      exact ⟨b, h1, h2, h3, (hown b h2 h3).trans h4⟩
  intro f lo hi W3 hbr hx hf hk hrg; (try replace hbr := BelX.zero hbr); clear hx; (try simp (decide := true) only [go_sem] at hf); (try simp (decide := true) only [go_sem] at hk)
  obtain ⟨B, hB, B0, B1, kB⟩ := hf
  have sB : X < B := by have := hrg.out 11 (by simp); omega
  go_simp
  clear hk hB hrg e1 e2
  have beW3 : RowKit.Below R w W3 := (by repeat (first | (with_reducible refine Below.setCell ?_ ?_ _) | (with_reducible refine Below.alloc ?_ ?_ _) | (with_reducible refine Below.drew ?_) | (with_reducible refine below_drewN ?_ _) | (with_reducible exact Below.refl _ _) | (with_reducible refine Below.trans ?_ (Below.mono hbr ?_)) | (with_reducible refine Below.trans ?_ (Below.mono beW ?_)) | (focus (simp; done)) | (focus (simp; omega)) | (focus omega) | (focus (have q0 := Below.size hbr; (try simp at q0); have q1 := Below.size beW; (try simp at q1); (try simp); omega))))
  have kR3 := kR.below hbr ul
  have kP3 := kP.below hbr fl
  have kX3 := kX.below hbr xl
  have L3 : Lights3 W3 B := by
    intro j hj
    have : j = 0 ∨ j = 1 ∨ j = 2 := by omega
    rcases this with rfl | rfl | rfl
    · exact ⟨ra, rt, kB.cell 0, kB.cell 1⟩
    · exact ⟨a, t, kB.cell 2, kB.cell 3⟩
    · exact ⟨_, _, kB.cell 4, kB.cell 5⟩
  have lB := kB.lt
  clear kB
  go_wp2
  go_loopw [34] (fun i wr => ∃ k : Nat, k ≤ 3 ∧ i = .int .i64 k ∧ RowKit.Below R w wr ∧ Blk wr P 24 #[.int .i64 r, .int .i64 g, .int .i64 mg, .int .i64 xg, .int .i64 y, .int .i64 rd, .int .i64 wk, .int .i64 cl] ∧ Blk wr X 27 #[.int .i64 a, .int .i64 t] ∧ Lights3 wr B ∧ B < wr.heap.size) (fun i _ => 3 - (intOf i).toNat)
  case atStart => exact ⟨0, by omega, rfl, beW3, kP3, kX3, L3, lB⟩
  case round =>
    obtain ⟨k, hk, rfl, bel, kP, kX, hL, hB⟩ := hrel
    have HL := Lib.hid hL
    clear hL
    have lP := kP.lt
    have lX := kX.lt
    have sR : R ≤ wr.heap.size := by have := bel.size; have := HR.out; omega
    by_cases hlt : k < 3
    · obtain ⟨a', t', q0, q1⟩ := HL.out k hlt
      obtain ⟨v1, hv1⟩ : ∃ v, lValid ⟨r, g, mg, xg, y, rd, wk, cl⟩ a' t' = v := ⟨_, rfl⟩
      obtain ⟨v2, hv2⟩ : ∃ v, lNonRed a' = v := ⟨_, rfl⟩
      have HV1 := Lib.hid hv1
      have HV2 := Lib.hid hv2
      clear hv1 hv2
      go_wp2
      obtain ⟨Y, hY⟩ : ∃ Y, wr.heap.size = Y := ⟨_, rfl⟩
      refine wp_named (fun W => RowKit.Below Y wr W ∧ Blk W Y 27 #[.int .i64 a', .int .i64 t']) (by rw [← hY]; exact ⟨(by repeat (first | (with_reducible refine Below.setCell ?_ ?_ _) | (with_reducible refine Below.alloc ?_ ?_ _) | (with_reducible refine Below.drew ?_) | (with_reducible refine below_drewN ?_ _) | (with_reducible exact Below.refl _ _) | (focus (simp; done)) | (focus (simp; omega)) | (focus omega))), Blk.new _ _ _⟩) ?_
      rintro W ⟨beW, kY⟩
      simp only [hY]
      have kP5 := kP.below beW (by omega)
      obtain ⟨f0, f1, f2, f3, f4, f5, f6, f7, fl5⟩ := kP5.eightF
      obtain ⟨x0, x1, -, xl5⟩ := kY.two
      have rr1 : ∀ d os o, (grow (redrawn W d) os).cell? ⟨P, o, none⟩ = W.cell? ⟨P, o, none⟩ := fun d os o => cells_regrown W d os _ o fl5
      have rr2 : ∀ d os o, (grow (redrawn W d) os).cell? ⟨Y, o, none⟩ = W.cell? ⟨Y, o, none⟩ := fun d os o => cells_regrown W d os _ o xl5
      clear q0 q1
      (refine wp_region_quiet_below (by kernel_rfl) (by kernel_rfl) ?_; (repeat (go_big_quiet_step (first | (go_at_call 15; exact qb (valid_c HV1 _)) | (go_at_call 16; exact qb (rvalid_c HV1 _)) | (go_at_call 17; exact qb (nonred_c HV2 _)) | (go_at_call 18; exact qb (rnonred_c HV2 _))))); refine wpQuiet_nil ?_; intro wq hwq; have hbq := below_of_regrown hwq; clear hwq)
      clear rr1 rr2 f0 f1 f2 f3 f4 f5 f6 f7 x0 x1
      have bq : RowKit.Below wr.heap.size wr wq := by
        rw [hY]; exact beW.trans (hbq.mono (by have := beW.size; omega))
      go_wp2
      go_roundw
      case rel => exact ⟨k + 1, by omega, by go_num, bel.trans (bq.mono sR), kP.below bq lP, kX.below bq lX, HL.out.below bq hB, by have := bq.size; omega⟩
      case measure => simp [intOf]; omega
    · obtain ⟨nd, hnd⟩ : ∃ v, lNeed ⟨r, g, mg, xg, y, rd, wk, cl⟩ = v := ⟨_, rfl⟩
      obtain ⟨sa, st, hs⟩ : ∃ u v, lStep ⟨r, g, mg, xg, y, rd, wk, cl⟩ a t leave = (u, v) := ⟨_, _, rfl⟩
      obtain ⟨cn, hcn⟩ : ∃ v, lCount ⟨r, g, mg, xg, y, rd, wk, cl⟩ a t = v := ⟨_, rfl⟩
      obtain ⟨wn, hwn⟩ : ∃ v, lWalk ⟨r, g, mg, xg, y, rd, wk, cl⟩ a t = v := ⟨_, rfl⟩
      have H1 := Lib.hid hnd
      have H2 := Lib.hid hs
      have H3 := Lib.hid hcn
      have H4 := Lib.hid hwn
      have H5 := Lib.hid (lValid_ok hx)
      clear hnd hs hcn hwn
      obtain ⟨f0, f1, f2, f3, f4, f5, f6, f7, fl5⟩ := kP.eightF
      obtain ⟨x0, x1, -, xl5⟩ := kX.two
      go_wp2
      have rr1 : ∀ d os o, (grow (redrawn wr d) os).cell? ⟨P, o, none⟩ = wr.cell? ⟨P, o, none⟩ := fun d os o => cells_regrown wr d os _ o fl5
      have rr2 : ∀ d os o, (grow (redrawn wr d) os).cell? ⟨X, o, none⟩ = wr.cell? ⟨X, o, none⟩ := fun d os o => cells_regrown wr d os _ o xl5
      (refine wp_region_quiet_below (by kernel_rfl) (by kernel_rfl) ?_; (repeat (go_big_quiet_step (first | (go_at_call 15; exact qb (valid_c H5 _)) | (go_at_call 12; exact qb (sneed_c H1 _ hp)) | (go_at_call 19; exact qb (rneed_c H1 _ hp)) | (go_at_call 11; exact qb (sstep_c H2 _ hp hx)) | (go_at_call 20; exact qb (rstep_c H2 _ hp hx)) | (go_at_call 9; exact qb (scount_c H3 _ hp hx)) | (go_at_call 21; exact qb (rcount_c H3 _ hp hx)) | (go_at_call 14; exact qb (swalk_c H4 _ hp)) | (go_at_call 22; exact qb (rwalk_c H4 _ hp)) | (go_at_call 10; exact qb (awake_yes _))))); refine wpQuiet_nil ?_; intro wq hwq; have hbq := below_of_regrown hwq; clear hwq)
      go_wp2
      go_ret
      exact ⟨rfl, by rw [HR.out]; exact bel.trans (hbq.mono sR)⟩
end Go.Proofs.Ytgcjnkdiggbfeaa
