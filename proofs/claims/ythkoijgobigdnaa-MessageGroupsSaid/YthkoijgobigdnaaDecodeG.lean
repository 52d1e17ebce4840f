/- message.Decode: the kinds with groups -/
import Derived.Test.YthkoijgobigdnaaDecode
namespace Go.Proofs.Ythkoijgobigdnaa
open Go.RowKit Go.Sort
set_option maxRecDepth 20000

section
variable (k : Int) (pa : Option Addr) (p : List UInt8) (pc : Nat) (w : World)
variable {T F : Nat} {gr lo hi dt : Int} (h1 : 1 ≤ k) (h2 : k ≤ 22) (hs : shpOf k = ⟨T, F, gr, lo, hi, dt⟩)
variable (hb : Byt w pa p) (hc : p.length ≤ pc) (hnil : pa = none → p.length = 0 ∧ pc = 0) (hp : p.length ≤ 200) (ht : T ≤ p.length)
variable {l : List Int} {r : List UInt8} (hF : F ≤ 4) (hr : rdN F (p.drop T) = some (l, r)) (hg : 0 < gr)
include h1 h2 hs hb hc hnil hp ht hF hr hg
set_option maxHeartbeats 1000000 in
theorem msg_Decode_gN (hr1 : rdN 1 r = none) : Calls Try.prog 16 #[.int .i64 k, .slice pa p.length pc] w (DecR k p w) := by
  have HN := Lib.hid (show NoM k p from noM hs (fun ⟨_, _, l', r', q, q2⟩ => by
    simp only [Int.toNat_natCast] at q
    rw [hr] at q
    injection q with q
    injection q with q q'
    subst q'
    rcases q2 with ⟨q2, _⟩ | ⟨_, x', r2', q3, q4, q5, m', r3', q6, q7⟩
    · simp only at q2; omega
    · simp only at q4 q5 q6 q7
      rw [hr1] at q3; cases q3))
  have z1 : decide (200 < p.length) = false := decide_eq_false (by omega)
  have i1 : (p.length : Int) ≤ 200 := by omega
  have z2 : decide (p.length < T) = false := decide_eq_false (by omega)
  have zg : decide (0 < gr) = true := decide_eq_true hg
  obtain ⟨R, hR⟩ : ∃ R, Hid (R = r.length) := ⟨_, Lib.hid rfl⟩
  obtain ⟨brest, nrest⟩ := byt_rest hb hc ht hnil
  obtain ⟨ra, hra⟩ : ∃ ra, (if pc = T then pa else Option.map (fun x => x.add T) pa) = ra := ⟨_, rfl⟩
  rw [hra] at brest nrest
  have hld : (p.drop T).length = p.length - T := List.length_drop
  have hrl : r.length ≤ p.length - T := by
    have := congrArg List.length (rdN_only _ _ _ _ hr).2.1
    rw [List.length_append, hld] at this
    omega
  have hRl : R ≤ 200 := by have := hR.out; omega
  have HRL := Lib.hid hrl
  have HL := Lib.hid hld
  have HR := Lib.hid hr
  have HR1 := Lib.hid hr1
  clear hld hrl hr hr1
  go_enter Try.func16, Try.ntmps16
  go_wp2_with (first | (go_at_call 31; (with_reducible refine (msg_shapeOfE _ h1 h2 hs).mono ?_); rintro e w1 ⟨rfl, hb1⟩; (have bR := (Blk.new w 27 #[.int .i64 0, .slice none 0 0, .slice none 0 0, .slice none 0 0]).below hb1 (by simp)); (have lR := bR.lt)))
  go_quiet (fail)
  go_wp2_with (first | (go_at_call 32; (with_reducible refine (numbersY HR hR ra _ _ _ rfl _ (brest.below (by repeat (first | (with_reducible refine Below.setCell ?_ ?_ _) | (with_reducible refine Below.alloc ?_ ?_ _) | (with_reducible refine Below.drew ?_) | (with_reducible refine below_drewN ?_ _) | (with_reducible exact Below.refl _ _) | (with_reducible refine Below.trans ?_ (Below.mono hb1 ?_)) | (focus (simp; done)) | (focus (simp; omega)) | (focus omega) | (focus (have q0 := Below.size hb1; (try simp at q0); (try simp); omega)))) (Nat.le_refl _)) HL.out.symm (by omega) (by have := HL.out; omega) nrest (by omega)).mono ?_); rintro e w2 ⟨xa, xc, rb, rc, rfl, hrc, own2, sub2, nil2, hb2⟩; (have own2 := own2.mono (show w.heap.size + 1 ≤ _ by simp; omega)); (have bR2 := ((bR.alloc _).drewN _).below hb2 (by simp; omega)); (have bS2 := ((Blk.new w1 56 #[.int .i64 T, .int .i64 F, .int .i64 gr, .int .i64 lo, .int .i64 hi, .int .i64 dt]).drewN nq).below hb2 (by simp)); obtain ⟨m0, m1, m2, m3⟩ := bR2.four; obtain ⟨s0, s1, s2, s3, s4, s5⟩ := bS2.six; (have lR2 := bR2.lt); (have lS2 := bS2.lt); (have be2 : RowKit.Below w.heap.size w w2 := (by repeat (first | (with_reducible refine Below.setCell ?_ ?_ _) | (with_reducible refine Below.alloc ?_ ?_ _) | (with_reducible refine Below.drew ?_) | (with_reducible refine below_drewN ?_ _) | (with_reducible exact Below.refl _ _) | (with_reducible refine Below.trans ?_ (Below.mono hb1 ?_)) | (with_reducible refine Below.trans ?_ (Below.mono hb2 ?_)) | (focus (simp; done)) | (focus (simp; omega)) | (focus omega) | (focus (have q0 := Below.size hb1; (try simp at q0); have q1 := Below.size hb2; (try simp at q1); (try simp); omega))))); (have brb := sub2 w brest)) | (go_at_call 32; (with_reducible refine (numbersN1 HR1 rb _ _ _ (brb.below be2 (Nat.le_refl _)) hR.out hrc (by have := HRL.out; omega) nil2).mono ?_); rintro e w3 ⟨rfl, hb3⟩; (have bR3 := bR2.below hb3 bR2.lt); (have bS3 := bS2.below hb3 bS2.lt); obtain ⟨y0, y1, y2, y3⟩ := bR3.four; obtain ⟨t0, t1, t2, t3, t4, t5⟩ := bS3.six; (have lR3 := bR3.lt); (have fR3 := bR3.frozen); (have be3 : RowKit.Below w.heap.size w w3 := (by repeat (first | (with_reducible refine Below.setCell ?_ ?_ _) | (with_reducible refine Below.alloc ?_ ?_ _) | (with_reducible refine Below.drew ?_) | (with_reducible refine below_drewN ?_ _) | (with_reducible exact Below.refl _ _) | (with_reducible refine Below.trans ?_ (Below.mono be2 ?_)) | (with_reducible refine Below.trans ?_ (Below.mono hb3 ?_)) | (focus (simp; done)) | (focus (simp; omega)) | (focus omega) | (focus (have q0 := Below.size be2; (try simp at q0); have q1 := Below.size hb3; (try simp at q1); (try simp); omega)))))))
  go_quiet (fail)
  go_wp2
  exact bodyPost_ret (v := .tuple #[.agg #[.int .i64 0, .slice none 0 0, .slice none 0 0, .slice none 0 0], .int .i64 6]) (by simp [results, Try.results16, go_sem, y0, y1, y2, y3]) rfl (DecR.no h1 h2 HN.out (by repeat (first | (with_reducible refine Below.setCell ?_ ?_ _) | (with_reducible refine Below.alloc ?_ ?_ _) | (with_reducible refine Below.drew ?_) | (with_reducible refine below_drewN ?_ _) | (with_reducible exact Below.refl _ _) | (with_reducible refine Below.trans ?_ (Below.mono be3 ?_)) | (focus (simp; done)) | (focus (simp; omega)) | (focus omega) | (focus (have q0 := Below.size be3; (try simp at q0); (try simp); omega)))))
variable {x : Int} {r2 : List UInt8} (hr1 : rdN 1 r = some ([x], r2))
include hr1
set_option maxHeartbeats 1000000 in
theorem msg_Decode_glo (hx : x < lo) : Calls Try.prog 16 #[.int .i64 k, .slice pa p.length pc] w (DecR k p w) := by
  have HN := Lib.hid (show NoM k p from noM hs (fun ⟨_, _, l', r', q, q2⟩ => by
    simp only [Int.toNat_natCast] at q
    rw [hr] at q
    injection q with q
    injection q with q q'
    subst q'
    rcases q2 with ⟨q2, _⟩ | ⟨_, x', r2', q3, q4, q5, m', r3', q6, q7⟩
    · simp only at q2; omega
    · simp only at q4 q5 q6 q7
      rw [hr1] at q3
      injection q3 with q3
      injection q3 with q3 _
      injection q3 with q3 _
      omega))
  have z1 : decide (200 < p.length) = false := decide_eq_false (by omega)
  have i1 : (p.length : Int) ≤ 200 := by omega
  have z2 : decide (p.length < T) = false := decide_eq_false (by omega)
  have zg : decide (0 < gr) = true := decide_eq_true hg
  obtain ⟨R, hR⟩ : ∃ R, Hid (R = r.length) := ⟨_, Lib.hid rfl⟩
  obtain ⟨brest, nrest⟩ := byt_rest hb hc ht hnil
  obtain ⟨ra, hra⟩ : ∃ ra, (if pc = T then pa else Option.map (fun x => x.add T) pa) = ra := ⟨_, rfl⟩
  rw [hra] at brest nrest
  have hld : (p.drop T).length = p.length - T := List.length_drop
  have hrl : r.length ≤ p.length - T := by
    have := congrArg List.length (rdN_only _ _ _ _ hr).2.1
    rw [List.length_append, hld] at this
    omega
  have hRl : R ≤ 200 := by have := hR.out; omega
  have HRL := Lib.hid hrl
  have HL := Lib.hid hld
  have HR := Lib.hid hr
  have HR1 := Lib.hid hr1
  obtain ⟨R2, hR2⟩ : ∃ R, Hid (R = r2.length) := ⟨_, Lib.hid rfl⟩
  have z3 : decide (x < lo) = true := decide_eq_true hx
  clear hld hrl hr hr1
  go_enter Try.func16, Try.ntmps16
  go_wp2_with (first | (go_at_call 31; (with_reducible refine (msg_shapeOfE _ h1 h2 hs).mono ?_); rintro e w1 ⟨rfl, hb1⟩; (have bR := (Blk.new w 27 #[.int .i64 0, .slice none 0 0, .slice none 0 0, .slice none 0 0]).below hb1 (by simp)); (have lR := bR.lt)))
  go_quiet (fail)
  go_wp2_with (first | (go_at_call 32; (with_reducible refine (numbersY HR hR ra _ _ _ rfl _ (brest.below (by repeat (first | (with_reducible refine Below.setCell ?_ ?_ _) | (with_reducible refine Below.alloc ?_ ?_ _) | (with_reducible refine Below.drew ?_) | (with_reducible refine below_drewN ?_ _) | (with_reducible exact Below.refl _ _) | (with_reducible refine Below.trans ?_ (Below.mono hb1 ?_)) | (focus (simp; done)) | (focus (simp; omega)) | (focus omega) | (focus (have q0 := Below.size hb1; (try simp at q0); (try simp); omega)))) (Nat.le_refl _)) HL.out.symm (by omega) (by have := HL.out; omega) nrest (by omega)).mono ?_); rintro e w2 ⟨xa, xc, rb, rc, rfl, hrc, own2, sub2, nil2, hb2⟩; (have own2 := own2.mono (show w.heap.size + 1 ≤ _ by simp; omega)); (have bR2 := ((bR.alloc _).drewN _).below hb2 (by simp; omega)); (have bS2 := ((Blk.new w1 56 #[.int .i64 T, .int .i64 F, .int .i64 gr, .int .i64 lo, .int .i64 hi, .int .i64 dt]).drewN nq).below hb2 (by simp)); obtain ⟨m0, m1, m2, m3⟩ := bR2.four; obtain ⟨s0, s1, s2, s3, s4, s5⟩ := bS2.six; (have lR2 := bR2.lt); (have lS2 := bS2.lt); (have be2 : RowKit.Below w.heap.size w w2 := (by repeat (first | (with_reducible refine Below.setCell ?_ ?_ _) | (with_reducible refine Below.alloc ?_ ?_ _) | (with_reducible refine Below.drew ?_) | (with_reducible refine below_drewN ?_ _) | (with_reducible exact Below.refl _ _) | (with_reducible refine Below.trans ?_ (Below.mono hb1 ?_)) | (with_reducible refine Below.trans ?_ (Below.mono hb2 ?_)) | (focus (simp; done)) | (focus (simp; omega)) | (focus omega) | (focus (have q0 := Below.size hb1; (try simp at q0); have q1 := Below.size hb2; (try simp at q1); (try simp); omega))))); (have brb := sub2 w brest)) | (go_at_call 32; (with_reducible refine (numbers1 HR1 hR2 rb _ _ _ (brb.below be2 (Nat.le_refl _)) hR.out hrc (by have := HRL.out; omega) nil2).mono ?_); rintro e w3 ⟨g, gc, rd, rdc, rfl, hrdc, cx, g1, g2, gc1, sub3, nil3, hb3⟩; (have bR3 := bR2.below hb3 bR2.lt); (have bS3 := bS2.below hb3 bS2.lt); (have own3 := own2.below hb3 (Nat.le_refl _)); obtain ⟨y0, y1, y2, y3⟩ := bR3.four; obtain ⟨t0, t1, t2, t3, t4, t5⟩ := bS3.six; (have lR3 := bR3.lt); (have fR3 := bR3.frozen); (have be3 : RowKit.Below w.heap.size w w3 := (by repeat (first | (with_reducible refine Below.setCell ?_ ?_ _) | (with_reducible refine Below.alloc ?_ ?_ _) | (with_reducible refine Below.drew ?_) | (with_reducible refine below_drewN ?_ _) | (with_reducible exact Below.refl _ _) | (with_reducible refine Below.trans ?_ (Below.mono be2 ?_)) | (with_reducible refine Below.trans ?_ (Below.mono hb3 ?_)) | (focus (simp; done)) | (focus (simp; omega)) | (focus omega) | (focus (have q0 := Below.size be2; (try simp at q0); have q1 := Below.size hb3; (try simp at q1); (try simp); omega))))); (have brd := sub3 w brb)))
  go_quiet (fail)
  go_wp2
  exact bodyPost_ret (v := .tuple #[.agg #[.int .i64 0, .slice none 0 0, .slice none 0 0, .slice none 0 0], .int .i64 6]) (by simp [results, Try.results16, go_sem, y0, y1, y2, y3]) rfl (DecR.no h1 h2 HN.out (by repeat (first | (with_reducible refine Below.setCell ?_ ?_ _) | (with_reducible refine Below.alloc ?_ ?_ _) | (with_reducible refine Below.drew ?_) | (with_reducible refine below_drewN ?_ _) | (with_reducible exact Below.refl _ _) | (with_reducible refine Below.trans ?_ (Below.mono be3 ?_)) | (focus (simp; done)) | (focus (simp; omega)) | (focus omega) | (focus (have q0 := Below.size be3; (try simp at q0); (try simp); omega)))))
set_option maxHeartbeats 1000000 in
theorem msg_Decode_ghi (hx0 : lo ≤ x) (hx : hi < x) : Calls Try.prog 16 #[.int .i64 k, .slice pa p.length pc] w (DecR k p w) := by
  have HN := Lib.hid (show NoM k p from noM hs (fun ⟨_, _, l', r', q, q2⟩ => by
    simp only [Int.toNat_natCast] at q
    rw [hr] at q
    injection q with q
    injection q with q q'
    subst q'
    rcases q2 with ⟨q2, _⟩ | ⟨_, x', r2', q3, q4, q5, m', r3', q6, q7⟩
    · simp only at q2; omega
    · simp only at q4 q5 q6 q7
      rw [hr1] at q3
      injection q3 with q3
      injection q3 with q3 _
      injection q3 with q3 _
      omega))
  have z1 : decide (200 < p.length) = false := decide_eq_false (by omega)
  have i1 : (p.length : Int) ≤ 200 := by omega
  have z2 : decide (p.length < T) = false := decide_eq_false (by omega)
  have zg : decide (0 < gr) = true := decide_eq_true hg
  obtain ⟨R, hR⟩ : ∃ R, Hid (R = r.length) := ⟨_, Lib.hid rfl⟩
  obtain ⟨brest, nrest⟩ := byt_rest hb hc ht hnil
  obtain ⟨ra, hra⟩ : ∃ ra, (if pc = T then pa else Option.map (fun x => x.add T) pa) = ra := ⟨_, rfl⟩
  rw [hra] at brest nrest
  have hld : (p.drop T).length = p.length - T := List.length_drop
  have hrl : r.length ≤ p.length - T := by
    have := congrArg List.length (rdN_only _ _ _ _ hr).2.1
    rw [List.length_append, hld] at this
    omega
  have hRl : R ≤ 200 := by have := hR.out; omega
  have HRL := Lib.hid hrl
  have HL := Lib.hid hld
  have HR := Lib.hid hr
  have HR1 := Lib.hid hr1
  obtain ⟨R2, hR2⟩ : ∃ R, Hid (R = r2.length) := ⟨_, Lib.hid rfl⟩
  have z3 : decide (x < lo) = false := decide_eq_false (by omega)
  have z4 : decide (hi < x) = true := decide_eq_true hx
  clear hld hrl hr hr1
  go_enter Try.func16, Try.ntmps16
  go_wp2_with (first | (go_at_call 31; (with_reducible refine (msg_shapeOfE _ h1 h2 hs).mono ?_); rintro e w1 ⟨rfl, hb1⟩; (have bR := (Blk.new w 27 #[.int .i64 0, .slice none 0 0, .slice none 0 0, .slice none 0 0]).below hb1 (by simp)); (have lR := bR.lt)))
  go_quiet (fail)
  go_wp2_with (first | (go_at_call 32; (with_reducible refine (numbersY HR hR ra _ _ _ rfl _ (brest.below (by repeat (first | (with_reducible refine Below.setCell ?_ ?_ _) | (with_reducible refine Below.alloc ?_ ?_ _) | (with_reducible refine Below.drew ?_) | (with_reducible refine below_drewN ?_ _) | (with_reducible exact Below.refl _ _) | (with_reducible refine Below.trans ?_ (Below.mono hb1 ?_)) | (focus (simp; done)) | (focus (simp; omega)) | (focus omega) | (focus (have q0 := Below.size hb1; (try simp at q0); (try simp); omega)))) (Nat.le_refl _)) HL.out.symm (by omega) (by have := HL.out; omega) nrest (by omega)).mono ?_); rintro e w2 ⟨xa, xc, rb, rc, rfl, hrc, own2, sub2, nil2, hb2⟩; (have own2 := own2.mono (show w.heap.size + 1 ≤ _ by simp; omega)); (have bR2 := ((bR.alloc _).drewN _).below hb2 (by simp; omega)); (have bS2 := ((Blk.new w1 56 #[.int .i64 T, .int .i64 F, .int .i64 gr, .int .i64 lo, .int .i64 hi, .int .i64 dt]).drewN nq).below hb2 (by simp)); obtain ⟨m0, m1, m2, m3⟩ := bR2.four; obtain ⟨s0, s1, s2, s3, s4, s5⟩ := bS2.six; (have lR2 := bR2.lt); (have lS2 := bS2.lt); (have be2 : RowKit.Below w.heap.size w w2 := (by repeat (first | (with_reducible refine Below.setCell ?_ ?_ _) | (with_reducible refine Below.alloc ?_ ?_ _) | (with_reducible refine Below.drew ?_) | (with_reducible refine below_drewN ?_ _) | (with_reducible exact Below.refl _ _) | (with_reducible refine Below.trans ?_ (Below.mono hb1 ?_)) | (with_reducible refine Below.trans ?_ (Below.mono hb2 ?_)) | (focus (simp; done)) | (focus (simp; omega)) | (focus omega) | (focus (have q0 := Below.size hb1; (try simp at q0); have q1 := Below.size hb2; (try simp at q1); (try simp); omega))))); (have brb := sub2 w brest)) | (go_at_call 32; (with_reducible refine (numbers1 HR1 hR2 rb _ _ _ (brb.below be2 (Nat.le_refl _)) hR.out hrc (by have := HRL.out; omega) nil2).mono ?_); rintro e w3 ⟨g, gc, rd, rdc, rfl, hrdc, cx, g1, g2, gc1, sub3, nil3, hb3⟩; (have bR3 := bR2.below hb3 bR2.lt); (have bS3 := bS2.below hb3 bS2.lt); (have own3 := own2.below hb3 (Nat.le_refl _)); obtain ⟨y0, y1, y2, y3⟩ := bR3.four; obtain ⟨t0, t1, t2, t3, t4, t5⟩ := bS3.six; (have lR3 := bR3.lt); (have fR3 := bR3.frozen); (have be3 : RowKit.Below w.heap.size w w3 := (by repeat (first | (with_reducible refine Below.setCell ?_ ?_ _) | (with_reducible refine Below.alloc ?_ ?_ _) | (with_reducible refine Below.drew ?_) | (with_reducible refine below_drewN ?_ _) | (with_reducible exact Below.refl _ _) | (with_reducible refine Below.trans ?_ (Below.mono be2 ?_)) | (with_reducible refine Below.trans ?_ (Below.mono hb3 ?_)) | (focus (simp; done)) | (focus (simp; omega)) | (focus omega) | (focus (have q0 := Below.size be2; (try simp at q0); have q1 := Below.size hb3; (try simp at q1); (try simp); omega))))); (have brd := sub3 w brb)))
  go_quiet (fail)
  go_wp2
  exact bodyPost_ret (v := .tuple #[.agg #[.int .i64 0, .slice none 0 0, .slice none 0 0, .slice none 0 0], .int .i64 6]) (by simp [results, Try.results16, go_sem, y0, y1, y2, y3]) rfl (DecR.no h1 h2 HN.out (by repeat (first | (with_reducible refine Below.setCell ?_ ?_ _) | (with_reducible refine Below.alloc ?_ ?_ _) | (with_reducible refine Below.drew ?_) | (with_reducible refine below_drewN ?_ _) | (with_reducible exact Below.refl _ _) | (with_reducible refine Below.trans ?_ (Below.mono be3 ?_)) | (focus (simp; done)) | (focus (simp; omega)) | (focus omega) | (focus (have q0 := Below.size be3; (try simp at q0); (try simp); omega)))))
end
end Go.Proofs.Ythkoijgobigdnaa
