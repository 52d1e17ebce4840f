/- message.Decode: the kinds with groups, a whole message -/
import Derived.Test.YthkoijgobigdnaaDecodeG
import Derived.Test.YthkoijgobigdnaaDeck
import Derived.Outline
namespace Go.Proofs.Ythkoijgobigdnaa
open Go.RowKit Go.Sort
set_option maxRecDepth 20000

section
variable (k : Int) (pa : Option Addr) (p : List UInt8) (pc : Nat) (w : World)
variable {T F : Nat} {gr lo hi dt : Int} (h1 : 1 ≤ k) (h2 : k ≤ 22) (hs : shpOf k = ⟨T, F, gr, lo, hi, dt⟩)
variable (hb : Byt w pa p) (hc : p.length ≤ pc) (hnil : pa = none → p.length = 0 ∧ pc = 0) (hp : p.length ≤ 200) (ht : T ≤ p.length)
variable {l : List Int} {r : List UInt8} (hF : F ≤ 4) (hr : rdN F (p.drop T) = some (l, r)) (hg : 0 < gr)
variable {x : Int} {r2 : List UInt8} (hr1 : rdN 1 r = some ([x], r2)) (hx0 : lo ≤ x) (hx1 : x ≤ hi) (h0x : 0 ≤ x) (hi16 : hi ≤ 16) (hg4 : gr ≤ 4)
variable {m2 : List Int} {r3 : List UInt8} (hr3 : rdN (x * gr).toNat r2 = some (m2, r3))
include h1 h2 hs hb hc hnil hp ht hF hr hg hr1 hx0 hx1 h0x hi16 hg4 hr3
set_option maxHeartbeats 2000000 in
theorem msg_Decode_gY : Calls Try.prog 16 #[.int .i64 k, .slice pa p.length pc] w (DecR k p w) := by
  have z1 : decide (200 < p.length) = false := decide_eq_false (by omega)
  have i1 : (p.length : Int) ≤ 200 := by omega
  have z2 : decide (p.length < T) = false := decide_eq_false (by omega)
  have zg : decide (0 < gr) = true := decide_eq_true hg
  obtain ⟨R, hR⟩ : ∃ R, Hid (R = r.length) := ⟨_, Lib.hid rfl⟩
  obtain ⟨brest, nrest⟩ := byt_rest hb hc ht hnil
  obtain ⟨ra, hra⟩ : ∃ ra, (if pc = T then pa else Option.map (fun x => x.add T) pa) = ra := ⟨_, rfl⟩
  rw [hra] at brest nrest
  have hld : (p.drop T).length = p.length - T := List.length_drop
  have hrl : r.length ≤ p.length - T := by
    have := congrArg List.length (rdN_only _ _ _ _ hr).2.1
    rw [List.length_append, hld] at this
    omega
  have hRl : R ≤ 200 := by have := hR.out; omega
  have HRL := Lib.hid hrl
  have HL := Lib.hid hld
  have HR := Lib.hid hr
  have HR1 := Lib.hid hr1
  obtain ⟨R2, hR2⟩ : ∃ R, Hid (R = r2.length) := ⟨_, Lib.hid rfl⟩
  have hr2l : r2.length ≤ r.length := by
    have := congrArg List.length (rdN_only _ _ _ _ hr1).2.1
    rw [List.length_append] at this
    omega
  have HR2M : r2.length ≤ 1000000 := by omega
  have HR2L := Lib.hid hr2l
  have z3 : decide (x < lo) = false := decide_eq_false (by omega)
  have z4 : decide (hi < x) = false := decide_eq_false (by omega)
  have hxg : 0 ≤ x * gr := Int.mul_nonneg h0x (by omega)
  have hxg4 : x * gr ≤ 16 * 4 := Int.mul_le_mul (by omega) hg4 (by omega) (by omega)
  obtain ⟨q, hq⟩ := Int.eq_ofNat_of_zero_le hxg
  have HXQ := Lib.hid hr3
  rw [hq] at hxg4
  have hq1000 : q ≤ 1000 := by omega
  rw [hq, Int.toNat_natCast] at hr3
  have HR3 := Lib.hid hr3
  obtain ⟨R3, HR3L⟩ : ∃ R, Hid (R = r3.length) := ⟨_, Lib.hid rfl⟩
  have e1 : IntKind.i64.wrap (x * gr) = (q : Int) := by rw [hq, IntKind.wrap_i64]; omega
  clear hld hrl hr hr1 hr2l hxg hxg4 hq hr3
  go_enter Try.func16, Try.ntmps16
  go_wp2_with (first | (go_at_call 31; (with_reducible refine (msg_shapeOfE _ h1 h2 hs).mono ?_); rintro e w1 ⟨rfl, hb1⟩; (have bR := (Blk.new w 27 #[.int .i64 0, .slice none 0 0, .slice none 0 0, .slice none 0 0]).below hb1 (by simp)); (have lR := bR.lt)))
  go_quiet (fail)
  go_wp2_with (first | (go_at_call 32; (with_reducible refine (numbersY HR hR ra _ _ _ rfl _ (brest.below (by repeat (first | (with_reducible refine Below.setCell ?_ ?_ _) | (with_reducible refine Below.alloc ?_ ?_ _) | (with_reducible refine Below.drew ?_) | (with_reducible refine below_drewN ?_ _) | (with_reducible exact Below.refl _ _) | (with_reducible refine Below.trans ?_ (Below.mono hb1 ?_)) | (focus (simp; done)) | (focus (simp; omega)) | (focus omega) | (focus (have q0 := Below.size hb1; (try simp at q0); (try simp); omega)))) (Nat.le_refl _)) HL.out.symm (by omega) (by have := HL.out; omega) nrest (by omega)).mono ?_); rintro e w2 ⟨xa, xc, rb, rc, rfl, hrc, own2, sub2, nil2, hb2⟩; (have own2 := own2.mono (show w1.heap.size + 1 ≤ _ by simp)); (have bR2 := ((bR.alloc _).drewN _).below hb2 (by simp; omega)); (have bS2 := ((Blk.new w1 56 #[.int .i64 T, .int .i64 F, .int .i64 gr, .int .i64 lo, .int .i64 hi, .int .i64 dt]).drewN nq).below hb2 (by simp)); obtain ⟨m0, m1, m2, m3⟩ := bR2.four; obtain ⟨s0, s1, s2, s3, s4, s5⟩ := bS2.six; (have lR2 := bR2.lt); (have lS2 := bS2.lt); (have be2 : RowKit.Below w.heap.size w w2 := (by repeat (first | (with_reducible refine Below.setCell ?_ ?_ _) | (with_reducible refine Below.alloc ?_ ?_ _) | (with_reducible refine Below.drew ?_) | (with_reducible refine below_drewN ?_ _) | (with_reducible exact Below.refl _ _) | (with_reducible refine Below.trans ?_ (Below.mono hb1 ?_)) | (with_reducible refine Below.trans ?_ (Below.mono hb2 ?_)) | (focus (simp; done)) | (focus (simp; omega)) | (focus omega) | (focus (have q0 := Below.size hb1; (try simp at q0); have q1 := Below.size hb2; (try simp at q1); (try simp); omega))))); (have brb := sub2 w brest)) | (go_at_call 32; (with_reducible refine (numbers1 HR1 hR2 rb _ _ _ (brb.below be2 (Nat.le_refl _)) hR.out hrc (by have := HRL.out; omega) nil2).mono ?_); rintro e w3 ⟨g, gc, rd, rdc, rfl, hrdc, cx, g1, g2, gc1, sub3, nil3, hb3⟩; (have bR3 := bR2.below hb3 bR2.lt); (have bS3 := bS2.below hb3 bS2.lt); (have own3 := own2.below hb3 (Nat.le_refl _)); obtain ⟨y0, y1, y2, y3⟩ := bR3.four; obtain ⟨t0, t1, t2, t3, t4, t5⟩ := bS3.six; (have lR3 := bR3.lt); (have fR3 := bR3.frozen); (have be3 : RowKit.Below w.heap.size w w3 := (by repeat (first | (with_reducible refine Below.setCell ?_ ?_ _) | (with_reducible refine Below.alloc ?_ ?_ _) | (with_reducible refine Below.drew ?_) | (with_reducible refine below_drewN ?_ _) | (with_reducible exact Below.refl _ _) | (with_reducible refine Below.trans ?_ (Below.mono be2 ?_)) | (with_reducible refine Below.trans ?_ (Below.mono hb3 ?_)) | (focus (simp; done)) | (focus (simp; omega)) | (focus omega) | (focus (have q0 := Below.size be2; (try simp at q0); have q1 := Below.size hb3; (try simp at q1); (try simp); omega))))); (have brd := sub3 w brb)))
  go_quiet (fail)
  go_wp2
  refine wp_named (fun W => Blk W w.heap.size 27 #[.int .i64 0, .slice none 0 0, .slice none 0 0, .slice none 0 0] ∧ Blk W w1.heap.size 56 #[.int .i64 T, .int .i64 F, .int .i64 gr, .int .i64 lo, .int .i64 hi, .int .i64 dt] ∧ W.cell? ⟨g, 0, none⟩ = some (.int .i64 x) ∧ g < W.heap.size ∧ Own W (w1.heap.size + 1) 3 1 xa F xc (l.map encI) ∧ RowKit.Below w.heap.size w W) ⟨bR3.drewN _, bS3.drewN _, by simpa using cx, by simpa using g2, own3.below (by repeat (first | (with_reducible refine Below.setCell ?_ ?_ _) | (with_reducible refine Below.alloc ?_ ?_ _) | (with_reducible refine Below.drew ?_) | (with_reducible refine below_drewN ?_ _) | (with_reducible exact Below.refl _ _) | (focus (simp; done)) | (focus (simp; omega)) | (focus omega))) (Nat.le_refl _), (by repeat (first | (with_reducible refine Below.setCell ?_ ?_ _) | (with_reducible refine Below.alloc ?_ ?_ _) | (with_reducible refine Below.drew ?_) | (with_reducible refine below_drewN ?_ _) | (with_reducible exact Below.refl _ _) | (with_reducible refine Below.trans ?_ (Below.mono be3 ?_)) | (focus (simp; done)) | (focus (simp; omega)) | (focus omega) | (focus (have q0 := Below.size be3; (try simp at q0); (try simp); omega))))⟩ ?_
  rintro W ⟨kR, kS, kx, kg, kown, kbe⟩
  clear m0 m1 m2 m3 s0 s1 s2 s3 s4 s5 y0 y1 y2 y3 t0 t1 t2 t3 t4 t5 bR2 bS2 bR3 bS3 lR2 lS2 lR3 fR3 own2 own3 cx
  apply wp_region_tab [] 15 116 [some 80, some 81, some 82, some 83, some 84, some 85, some 86, some 87, some 79, some 88, some 89, some 90, some 12, some 9, some 7] [⟨[], [], [], []⟩, ⟨[], [], [], []⟩, ⟨[1], [1], [1], []⟩, ⟨[1, 2], [2], [2], []⟩, ⟨[], [], [], []⟩, ⟨[4], [4], [4], []⟩, ⟨[1, 2, 3, 4, 5], [3, 5], [3, 5], []⟩, ⟨[0, 1, 2, 3, 4, 5, 6], [0, 6], [0, 6], []⟩, ⟨[0, 1, 2, 3, 4, 5, 6, 7], [7], [7], []⟩, ⟨[0, 1, 2, 3, 4, 5, 6, 7, 8], [7, 8], [7, 8], []⟩, ⟨[0, 1, 2, 3, 4, 5, 6, 7, 8], [7, 8], [7, 8], []⟩, ⟨[0, 1, 2, 3, 4, 5, 6, 7, 8], [7, 8], [7, 8], []⟩, ⟨[0, 1, 2, 3, 4, 5, 6, 7, 8, 9], [9], [9], []⟩, ⟨[0, 1, 2, 3, 4, 5, 6, 7, 8, 9, 10, 12], [10], [10], []⟩, ⟨[0, 1, 2, 3, 4, 5, 6, 7, 8, 9, 10, 11, 12, 13], [11], [11], []⟩] [0, 1, 2, 3, 4, 5, 6, 7, 8, 9, 10, 11, 12, 13, 14] [7, 9, 10, 11, 12, 13, 14] [psiTrue, psiTrue, psiTrue, psiTrue, psiTrue, psiTrue, psiTrue, (fun f lo hi v b0 b1 W => ∃ ya yc re rec_, v = .tuple #[.slice ya q yc, .slice re R3 rec_, .bool true] ∧ R3 ≤ rec_ ∧ Own W b0 3 1 ya q yc (m2.map encI) ∧ (∀ x, ya.map (·.block) = some x → x < b1) ∧ (∀ w0 : World, Byt w0 rd r2 → Byt w0 re r3) ∧ (re = none → R3 = 0 ∧ rec_ = 0)), (fun f _ _ v _ _ _ => v = f 7), (fun f lo hi v b0 b1 W => ∃ ya yc re rec_, f 7 = .tuple #[.slice ya q yc, .slice re R3 rec_, .bool true] ∧ v = .slice ya q yc), (fun f lo hi v b0 b1 W => ∃ ya yc re rec_, f 7 = .tuple #[.slice ya q yc, .slice re R3 rec_, .bool true] ∧ v = .slice re R3 rec_), psiTrue, (fun f _ _ v _ _ _ => v = f 9), (fun f _ _ v _ _ _ => v = f 10), psiTrue] [kVal _, kVal _, kVal _, kVal _, kVal _, kVal _, kVal _, kTrue, kTrue, kTrue, kTrue, (fun v => v = .bool true), kTrue, kTrue, kVal _]
  · kernel_rfl
  · kernel_rfl
  · rfl
  · rfl
  · exact trivial
  · exact trivial
  refine ⟨?oR1_0, ?oR1_1, ?oR1_2, ?oR1_3, ?oR1_4, ?oR1_5, ?oR1_6, ?oR1_7, ?oR1_8, ?oR1_9, ?oR1_10, ?oR1_11, ?oR1_12, ?oR1_13, ?oR1_14, trivial⟩
  case oR1_0 => intro f lo hi w hb hx hf hk hrg R hR; (try replace hb := BelX.zero hb); (try simp (decide := true) only [go_sem] at hf); (try simp (decide := true) only [go_sem] at hk); go_simp; exact hR _ _ (rpost_val rfl rfl (Below.refl _ _) rfl)
  case oR1_1 => intro f lo hi w hb hx hf hk hrg R hR; (try replace hb := BelX.zero hb); (try simp (decide := true) only [go_sem] at hf); (try simp (decide := true) only [go_sem] at hk); go_simp; exact hR _ _ (rpost_val rfl rfl (Below.refl _ _) rfl)
  case oR1_2 => intro f lo hi w hb hx hf hk hrg R hR; (try replace hb := BelX.zero hb); (try simp (decide := true) only [go_sem] at hf); (try simp (decide := true) only [go_sem] at hk); go_simp; exact hR _ _ (rpost_val rfl rfl (Below.refl _ _) rfl)
  case oR1_3 =>
    intro f lo hi w hb hx hf hk hrg R hR; (try replace hb := BelX.zero hb); (try simp (decide := true) only [go_sem] at hf); (try simp (decide := true) only [go_sem] at hk)
    have q0 := (hb.cell (p := ⟨g, 0, none⟩) kg).trans kx
    go_simp
    exact hR _ _ (rpost_val rfl rfl (Below.refl _ _) rfl)
  case oR1_4 => intro f lo hi w hb hx hf hk hrg R hR; (try replace hb := BelX.zero hb); (try simp (decide := true) only [go_sem] at hf); (try simp (decide := true) only [go_sem] at hk); go_simp; exact hR _ _ (rpost_val rfl rfl (Below.refl _ _) rfl)
  case oR1_5 =>
    intro f lo hi w hb hx hf hk hrg R hR; (try replace hb := BelX.zero hb); (try simp (decide := true) only [go_sem] at hf); (try simp (decide := true) only [go_sem] at hk)
    obtain ⟨-, -, q2, -⟩ := (kS.below hb kS.lt).six
    have q3 := kS.lt
    go_simp
    exact hR _ _ (rpost_val rfl rfl (Below.refl _ _) rfl)
  case oR1_6 => intro f lo hi w hb hx hf hk hrg R hR; (try replace hb := BelX.zero hb); (try simp (decide := true) only [go_sem] at hf); (try simp (decide := true) only [go_sem] at hk); go_simp; exact hR _ _ (rpost_val rfl rfl (Below.refl _ _) rfl)
  case oR1_7 =>
    intro f lo hi w hb hx hf hk hrg R hR; (try replace hb := BelX.zero hb); (try simp (decide := true) only [go_sem] at hf); (try simp (decide := true) only [go_sem] at hk)
    go_simp
    (with_reducible refine (numbersY HR3 HR3L rd _ _ _ rfl _ (brd.below (kbe.trans (hb.mono kbe.size)) (Nat.le_refl _)) hR2.out hrdc HR2M nil3 hq1000).mono ?_)
    rintro e w' ⟨ya, yc, re, rec_, rfl, hrec, own4, sub4, nil4, hb4⟩
    exact ⟨_, rfl, hR _ _ (rpost_none rfl hb4 ⟨ya, yc, re, rec_, rfl, hrec, own4, own4.lt', sub4, nil4⟩)⟩
  case oR1_8 =>
    intro f lo hi w hb hx hf hk hrg R hR; (try replace hb := BelX.zero hb); (try simp (decide := true) only [go_sem] at hf); (try simp (decide := true) only [go_sem] at hk)
    go_simp
    exact hR _ _ (rpost_none rfl (Below.refl _ _) rfl)
  case oR1_9 =>
    intro f lo hi w hb hx hf hk hrg R hR; (try replace hb := BelX.zero hb); (try simp (decide := true) only [go_sem] at hf); (try simp (decide := true) only [go_sem] at hk)
    obtain ⟨⟨ya, yc, re, rec_, h7, -⟩, h8⟩ := hf
    rw [h7] at h8
    go_simp
    refine hR _ _ (rpost_none rfl (Below.refl _ _) ?_)
    (try simp (decide := true) only [go_sem])
    exact ⟨ya, yc, re, rec_, h7, rfl⟩
  case oR1_10 =>
    intro f lo hi w hb hx hf hk hrg R hR; (try replace hb := BelX.zero hb); (try simp (decide := true) only [go_sem] at hf); (try simp (decide := true) only [go_sem] at hk)
    obtain ⟨⟨ya, yc, re, rec_, h7, -⟩, h8⟩ := hf
    rw [h7] at h8
    go_simp
    refine hR _ _ (rpost_none rfl (Below.refl _ _) ?_)
    (try simp (decide := true) only [go_sem])
    exact ⟨ya, yc, re, rec_, h7, rfl⟩
  case oR1_11 =>
    intro f lo hi w hb hx hf hk hrg R hR; (try replace hb := BelX.zero hb); (try simp (decide := true) only [go_sem] at hf); (try simp (decide := true) only [go_sem] at hk)
    obtain ⟨⟨ya, yc, re, rec_, h7, -⟩, h8⟩ := hf
    rw [h7] at h8
    go_simp
    exact hR _ _ (rpost_val rfl rfl (Below.refl _ _) rfl)
  case oR1_12 =>
    intro f lo hi w hb hx hf hk hrg R hR; (try replace hb := BelX.zero hb); (try simp (decide := true) only [go_sem] at hf); (try simp (decide := true) only [go_sem] at hk)
    go_simp
    exact hR _ _ (rpost_none rfl (Below.refl _ _) rfl)
  case oR1_13 =>
    intro f lo hi w hb hx hf hk hrg R hR; (try replace hb := BelX.zero hb); (try simp (decide := true) only [go_sem] at hf); (try simp (decide := true) only [go_sem] at hk)
    go_simp
    exact hR _ _ (rpost_none rfl (Below.refl _ _) rfl)
  case oR1_14 => intro f lo hi w hb hx hf hk hrg R hR; (try replace hb := BelX.zero hb); (try simp (decide := true) only [go_sem] at hf); (try simp (decide := true) only [go_sem] at hk); go_simp; exact hR _ _ (rpost_val rfl rfl (Below.refl _ _) rfl)
  case hcl =>
    refine ⟨Closed.true _ _ _ _, Closed.true _ _ _ _, Closed.true _ _ _ _, Closed.true _ _ _ _, Closed.true _ _ _ _, Closed.true _ _ _ _, Closed.true _ _ _ _, ?cR1_7, ?cR1_8, ?cR1_9, ?cR1_10, Closed.true _ _ _ _, ?cR1_12, ?cR1_13, Closed.true _ _ _ _, trivial⟩
    · intro f lo hi v l h w w' hp _ _ hown _ _
      obtain ⟨ya, yc, re, rec_, rfl, h2, own, lt, h3⟩ := hp
      exact ⟨ya, yc, re, rec_, rfl, h2, own.keep fun b hb hl _ => hown b hl (lt b (by rw [hb]; rfl)), lt, h3⟩
    · exact fun _ _ _ _ _ _ _ _ h _ _ _ _ _ => h
    · exact fun _ _ _ _ _ _ _ _ h _ _ _ _ _ => h
    · exact fun _ _ _ _ _ _ _ _ h _ _ _ _ _ => h
    · exact fun _ _ _ _ _ _ _ _ h _ _ _ _ _ => h
    · exact fun _ _ _ _ _ _ _ _ h _ _ _ _ _ => h
  intro f lo hi w4 hbr hx hf hk hrg; (try replace hbr := BelX.zero hbr); clear hx; (try simp (decide := true) only [go_sem] at hf); (try simp (decide := true) only [go_sem] at hk)
  obtain ⟨⟨ya, yc, re, rec_, h7, hrec, own7, -, sub4, nil4⟩, ⟨ya', yc', re', rec', h7', h9⟩, ⟨ya2, yc2, re2, rec2, h72, h10⟩, h12, h13⟩ := hf
  obtain ⟨rfl, rfl, rfl, rfl⟩ : ya = ya' ∧ yc = yc' ∧ re = re' ∧ rec_ = rec' := by
    rw [h7] at h7'
    injection h7' with e
    have e0 := congrArg (·[0]?) e
    have e1 := congrArg (·[1]?) e
    simp at e0 e1
    exact ⟨e0.1, e0.2, e1.1, e1.2⟩
  obtain ⟨rfl, rfl⟩ : re = re2 ∧ rec_ = rec2 := by
    rw [h7] at h72
    injection h72 with e
    have e1 := congrArg (·[1]?) e
    simp at e1
    exact e1
  rw [h9] at h12
  rw [h10] at h13
  have iy : Ints w4 ya m2 := own7.row
  have bR4 := kR.below hbr kR.lt
  have own4 := kown.below hbr (Nat.le_refl _)
  have own4w := own4.mono (show w.heap.size ≤ w1.heap.size + 1 by omega)
  have be4 : RowKit.Below w.heap.size w w4 := kbe.trans (hbr.mono kbe.size)
  have bS4 := kS.below hbr kS.lt
  have ne4 : xa.map (·.block) ≠ some w.heap.size := fun h => by have := own4.base_le _ h; omega
  have ne5 : ∀ b, xa.map (·.block) = some b → b ≠ w.heap.size := fun b h => by have := own4.base_le _ h; omega
  have hSl : w1.heap.size < w4.heap.size := bS4.lt
  have hm2 : m2.length = q := (rdN_only _ _ _ _ HR3.out).1
  have hlen : l.length = F := (rdN_only _ _ _ _ HR.out).1
  have HM2 := Lib.hid hm2
  have HLN := Lib.hid hlen
  have bre := sub4 w brd
  have hr3l : r3.length ≤ r2.length := by
    have := congrArg List.length (rdN_only _ _ _ _ HR3.out).2.1
    rw [List.length_append] at this
    omega
  have HR3M : r3.length ≤ 1000000 := by omega
  have hxS : xa.map (·.block) ≠ some w1.heap.size := fun h => by have := own4.base_le _ h; omega
  clear hrg h7 h7' h72 h9 h10 hlen hm2 hr3l
  go_simp
  clear e1 h12 h13 hk
  by_cases hd : dt = -1 ∨ (r3.length : Int) = dt
  · have HY := Lib.hid (dec_groups (p := p) (l := l) (r := r) (r2 := r2) (r3 := r3) (m := m2) (x := x) h1 h2 hs (by rw [← hs]; exact shpOf_ok k) hg (by omega) (by simp only; omega) (by simpa using HR.out) HR1.out hx0 hx1 HXQ.out hd)
    simp only [Int.toNat_natCast] at HY
    have HM := Lib.hid HY.out.1.lens
    have btok := hb.take T
    have htl : (p.take T).length = T := by rw [List.length_take]; omega
    have HT := Lib.hid htl
    have ntok : pa = none → T = 0 ∧ pc = 0 := fun h => by have := hnil h; omega
    have apart5 : ∀ {xb : Option Addr} {w5 : World}, Grew w.heap.size w4 w5 xa xb → ∀ b, xb.map (·.block) = some b → b ≠ w.heap.size := fun g b hb => by
      rcases g.2.1 with h | h
      · exact ne5 b (by rw [← h]; exact hb)
      · rw [h] at hb; injection hb with hb; omega
    clear htl
    rcases dat_ok hd with ⟨q', z5⟩ | ⟨q', z5, z6⟩
    all_goals
      (try rw [← HR3L.out] at z6)
      clear hd q'
      go_wp2_with (first | (at_builtin; refine appI rfl _ _ rfl w.heap.size xa F xc l rfl ya q yc m2 rfl own4w iy HM2.out.symm (F + q) rfl (by omega) be4.size ?_; intro xb xcb w5 own5 g5 bl5; (have be5 := bl5 w be4); (have bR5 := bR4.ofGrown g5 ne4); (have bS5 := bS4.ofGrown g5 hxS); obtain ⟨y0, y1, y2, y3⟩ := bR5.four; obtain ⟨t0, t1, t2, t3, t4, t5⟩ := bS5.six; (have lR5 := bR5.lt); (have lS5 := bS5.lt); (have fR5 := bR5.frozen)) | (go_at_call 33; (with_reducible refine (clone_E pa T pc (p.take T) _ (btok.below be5 (Nat.le_refl _)) HT.out.symm (by have := HT.out; omega) ntok).mono ?_); rintro e w6 ⟨ta, tc, rfl, own6, hb6⟩; (have be6 : RowKit.Below w.heap.size w w6 := (by repeat (first | (with_reducible refine Below.setCell ?_ ?_ _) | (with_reducible refine Below.alloc ?_ ?_ _) | (with_reducible refine Below.drew ?_) | (with_reducible refine below_drewN ?_ _) | (with_reducible exact Below.refl _ _) | (with_reducible refine Below.trans ?_ (Below.mono be5 ?_)) | (with_reducible refine Below.trans ?_ (Below.mono hb6 ?_)) | (focus (simp; done)) | (focus (simp; omega)) | (focus omega) | (focus (have q0 := Below.size be5; (try simp at q0); have q1 := Below.size hb6; (try simp at q1); (try simp); omega))))); (have bR6 := bR5.below hb6 bR5.lt)) | (go_at_call 33; (with_reducible refine (clone_E re R3 rec_ r3 _ (bre.below be6 (Nat.le_refl _)) HR3L.out (by omega) nil4).mono ?_); rintro e w7 ⟨da, dc, rfl, own7, hb7⟩; (have be7 : RowKit.Below w.heap.size w w7 := (by repeat (first | (with_reducible refine Below.setCell ?_ ?_ _) | (with_reducible refine Below.alloc ?_ ?_ _) | (with_reducible refine Below.drew ?_) | (with_reducible refine below_drewN ?_ _) | (with_reducible exact Below.refl _ _) | (with_reducible refine Below.trans ?_ (Below.mono be6 ?_)) | (with_reducible refine Below.trans ?_ (Below.mono hb7 ?_)) | (focus (simp; done)) | (focus (simp; omega)) | (focus omega) | (focus (have q0 := Below.size be6; (try simp at q0); have q1 := Below.size hb7; (try simp at q1); (try simp); omega))))); (have bR7 := bR6.below hb7 bR6.lt); obtain ⟨u0, u1, u2, u3⟩ := bR7.four; (have lR7 := bR7.lt); (have fR7 := bR7.frozen)))
      refine bodyPost_ret (v := .tuple #[.agg #[.int .i64 k, .slice ta T tc, .slice xb (F + q) xcb, .slice da R3 dc], .int .i64 0]) (by simp [results, Try.results16, go_sem, u0, u1, u2, u3]) rfl ?_
      have o5 := (own5.below hb6 (Nat.le_refl _)).below hb7 (Nat.le_refl _)
      have o6 := own6.below hb7 (Nat.le_refl _)
      have s6 := be5.size
      have s7 := hb6.size
      refine DecR.yes HY.out rfl HT.out.symm (by have := HLN.out; have := HM2.out; simp; omega) HR3L.out ⟨Row.far4 o6.byt (fun b h => ?_) _ _ _ _, Row.far4 o5.row (fun b h => ?_) _ _ _ _, Row.far4 own7.byt (fun b h => ?_) _ _ _ _, fun h => by have := o6.none_len h; have := HT.out; simp only; omega, HM.out⟩ (by repeat (first | (with_reducible refine Below.setCell ?_ ?_ _) | (with_reducible refine Below.alloc ?_ ?_ _) | (with_reducible refine Below.drew ?_) | (with_reducible refine below_drewN ?_ _) | (with_reducible exact Below.refl _ _) | (with_reducible refine Below.trans ?_ (Below.mono be7 ?_)) | (focus (simp; done)) | (focus (simp; omega)) | (focus omega) | (focus (have q0 := Below.size be7; (try simp at q0); (try simp); omega))))
      · have := o6.base_le b h; omega
      · exact apart5 g5 b h
      · have := own7.base_le b h; omega
  · have HN := Lib.hid (show NoM k p from noM hs (fun ⟨_, _, l', r', q, q2⟩ => by
      simp only [Int.toNat_natCast] at q
      rw [HR.out] at q
      injection q with q
      injection q with q q'
      subst q'
      rcases q2 with ⟨q2, _⟩ | ⟨_, x', r2', q3, q4, q5, m', r3', q6, q7⟩
      · simp only at q2; omega
      · simp only at q4 q5 q6 q7
        rw [HR1.out] at q3
        injection q3 with q3
        injection q3 with q3 q3'
        injection q3 with q3 _
        subst q3 q3'
        rw [HXQ.out] at q6
        injection q6 with q6
        injection q6 with _ q6
        subst q6
        exact hd q7))
    have z5 : (dt != -1) = true := by rw [bne_iff_ne]; exact fun e => hd (.inl e)
    have z6 : ((R3 : Int) != dt) = true := by rw [bne_iff_ne, HR3L.out]; exact fun e => hd (.inr e)
    clear hd
    go_wp2_with (first | (at_builtin; refine appI rfl _ _ rfl w.heap.size xa F xc l rfl ya q yc m2 rfl own4w iy HM2.out.symm (F + q) rfl (by omega) be4.size ?_; intro xb xcb w5 own5 g5 bl5; (have be5 := bl5 w be4); (have bR5 := bR4.ofGrown g5 ne4); (have bS5 := bS4.ofGrown g5 hxS); obtain ⟨y0, y1, y2, y3⟩ := bR5.four; obtain ⟨t0, t1, t2, t3, t4, t5⟩ := bS5.six; (have lR5 := bR5.lt); (have lS5 := bS5.lt); (have fR5 := bR5.frozen)))
    exact bodyPost_ret (v := .tuple #[.agg #[.int .i64 0, .slice none 0 0, .slice none 0 0, .slice none 0 0], .int .i64 6]) (by simp [results, Try.results16, go_sem, y0, y1, y2, y3]) rfl (DecR.no h1 h2 HN.out (by repeat (first | (with_reducible refine Below.setCell ?_ ?_ _) | (with_reducible refine Below.alloc ?_ ?_ _) | (with_reducible refine Below.drew ?_) | (with_reducible refine below_drewN ?_ _) | (with_reducible exact Below.refl _ _) | (with_reducible refine Below.trans ?_ (Below.mono be5 ?_)) | (focus (simp; done)) | (focus (simp; omega)) | (focus omega) | (focus (have q0 := Below.size be5; (try simp at q0); (try simp); omega)))))
end
end Go.Proofs.Ythkoijgobigdnaa
