/- sessions: copies, opening, receiving -/
import Derived.Test.YtlfccoakodnbaaaKeys
namespace Go.Proofs.Ytlfccoakodnbaaa
set_option linter.unusedVariables false
open Go.RowKit Go.Sort
set_option maxRecDepth 100000

theorem Own.setLow {w : World} {base : Nat} {e : TypeId} {size n cap : Nat} {b : Option Addr} {xs : List Value} (h : Own w base e size b n cap xs) {p : Addr} (hp : p.block < base) (u : Value) : Own (w.setCell p u) base e size b n cap xs :=
  h.far (fun q => by have := h.base_le _ q; omega) u
theorem Blk.four' {w : World} {b : Nat} {t : TypeId} {v0 v1 v2 v3 : Value} (h : Blk w b t #[v0, v1, v2, v3]) : w.cell? ⟨b, 0, none⟩ = some v0 ∧ w.cell? ⟨b, 1, none⟩ = some v1 ∧ w.cell? ⟨b, 2, none⟩ = some v2 ∧ w.cell? ⟨b, 3, none⟩ = some v3 := ⟨h.cell 0, h.cell 1, h.cell 2, h.cell 3⟩
/-- a session -/
structure Ses where
  op : Bool
  dr : Bool
  buf : List UInt8
  gb : Bool
structure SAt (w : World) (l : List UInt8) (a : Option Addr) (n c : Nat) : Prop where
  byt : Byt w a l
  len : n = l.length
  cap : n ≤ c
  nil : a = none → n = 0 ∧ c = 0
  small : n ≤ 1000000
theorem SAt.below {w w' : World} {l : List UInt8} {a : Option Addr} {n c B : Nat} (h : SAt w l a n c) (hb : Below B w w') (hB : w.heap.size ≤ B) : SAt w' l a n c := ⟨h.byt.below hb hB, h.len, h.cap, h.nil, h.small⟩
theorem SAt.alloc {w : World} {l : List UInt8} {a : Option Addr} {n c : Nat} (h : SAt w l a n c) (o : Obj) : SAt (w.alloc o) l a n c := ⟨h.byt.alloc o, h.len, h.cap, h.nil, h.small⟩
def SesR (S : Ses) (w : World) (e : Ending) (w' : World) : Prop :=
  ∃ (a : Option Addr) (c n : Nat), Hid (n = S.buf.length) ∧ e = .returned (.agg #[.bool S.op, .bool S.dr, .slice a n c, .bool S.gb]) ∧ Own w' w.heap.size 5 1 a n c (S.buf.map encB) ∧ Below w.heap.size w w'

set_option maxHeartbeats 2000000 in
theorem copies_Session (o d g : Bool) (l : List UInt8) (a : Option Addr) (n c : Nat) (w : World) (h : SAt w l a n c) :
    Calls Try.prog 30 #[.agg #[.bool o, .bool d, .slice a n c, .bool g]] w (SesR ⟨o, d, l, g⟩ w) := by
  go_enter Try.func30, Try.ntmps30
  go_upto_region 1 with fail
  refine wp_named (fun W => Blk W w.heap.size 30 #[.bool o, .bool d, .slice a n c, .bool g] ∧ Blk W (w.heap.size + 1) 30 #[.bool false, .bool false, .slice none 0 0, .bool false] ∧ w.heap.size + 2 ≤ W.heap.size ∧ RowKit.Below w.heap.size w W) ⟨(Blk.new _ _ _).alloc _, Blk.next _ _ _ _, by simp, (by repeat (first | (with_reducible refine Below.setCell ?_ ?_ _) | (with_reducible refine Below.alloc ?_ ?_ _) | (with_reducible refine Below.drew ?_) | (with_reducible refine below_drewN ?_ _) | (with_reducible exact Below.refl _ _) | (focus (simp; done)) | (focus (simp; omega)) | (focus omega)))⟩ ?_
  rintro W ⟨kS, kR, sz, be⟩
  obtain ⟨c0, c1, c2, c3⟩ := kS.four'
  have sl := kS.lt
  go_wp2_with ((go_at_call 38; (with_reducible refine (clone_E a n c l _ (h.byt.below be (Nat.le_refl _)) h.len (by have := h.len; have := h.small; omega) h.nil).mono ?_); rintro e w1 ⟨a', c', rfl, own, hb1⟩; ((have k1 := kS.below hb1 kS.lt); (have k2 := kR.below hb1 kR.lt); clear c0 c1 c2 c3 sl; (obtain ⟨c0, c1, c2, c3⟩ := k1.four'); (obtain ⟨d0, d1, d2, d3⟩ := k2.four'); (have f1 := k1.frozen); (have f2 := k2.frozen); (have l1 := k1.lt); (have l2 := k2.lt))))
  refine bodyPost_ret (v := .agg #[.bool o, .bool d, .slice a' n c', .bool g]) (by simp [results, Try.results30, go_sem, d0, d1, d2, d3]) rfl ?_
  exact ⟨a', c', n, Lib.hid h.len, rfl, Own.mono (base := W.heap.size) (by show Own _ _ _ _ _ _ _ (l.map encB); repeat (first | (with_reducible exact own) | (with_reducible refine Own.setLow ?_ (by first | (simp; done) | (simp; omega) | omega) _) | (with_reducible refine Own.alloc ?_ _))) (by omega), (by repeat (first | (with_reducible refine Below.setCell ?_ ?_ _) | (with_reducible refine Below.alloc ?_ ?_ _) | (with_reducible refine Below.drew ?_) | (with_reducible refine below_drewN ?_ _) | (with_reducible exact Below.refl _ _) | (with_reducible refine Below.trans ?_ (Below.mono hb1 ?_)) | (with_reducible refine Below.trans ?_ (Below.mono be ?_)) | (focus (simp; done)) | (focus (simp; omega)) | (focus omega) | (focus (have q0 := Below.size hb1; (try simp at q0); have q1 := Below.size be; (try simp at q1); (try simp); omega))))⟩
set_option maxHeartbeats 2000000 in
theorem ref25_Copy (o d g : Bool) (l : List UInt8) (a : Option Addr) (n c : Nat) (w : World) (h : SAt w l a n c) :
    Calls Try.prog 35 #[.agg #[.bool o, .bool d, .slice a n c, .bool g]] w (SesR ⟨o, d, l, g⟩ w) := by
  go_enter Try.func35, Try.ntmps35
  go_upto_region 1 with fail
  refine wp_named (fun W => Blk W w.heap.size 30 #[.bool o, .bool d, .slice a n c, .bool g] ∧ Blk W (w.heap.size + 1) 30 #[.bool false, .bool false, .slice none 0 0, .bool false] ∧ w.heap.size + 2 ≤ W.heap.size ∧ RowKit.Below w.heap.size w W) ⟨(Blk.new _ _ _).alloc _, Blk.next _ _ _ _, by simp, (by repeat (first | (with_reducible refine Below.setCell ?_ ?_ _) | (with_reducible refine Below.alloc ?_ ?_ _) | (with_reducible refine Below.drew ?_) | (with_reducible refine below_drewN ?_ _) | (with_reducible exact Below.refl _ _) | (focus (simp; done)) | (focus (simp; omega)) | (focus omega)))⟩ ?_
  rintro W ⟨kS, kR, sz, be⟩
  obtain ⟨c0, c1, c2, c3⟩ := kS.four'
  have sl := kS.lt
  go_wp2_with ((at_builtin; refine appB rfl _ _ rfl W.heap.size none 0 0 [] rfl a n c l rfl (Own.nil _ _ _ _) (h.byt.below be (Nat.le_refl _)) h.len n (by simp) (by have := h.small; omega) (Nat.le_refl _) ?_; intro a' c' w1 own0 gr bl; (have own : Own w1 W.heap.size 5 1 a' n c' (l.map encB) := own0); (have hb1 := bl _ (Below.refl _ _)); (have k1 := kS.below hb1 kS.lt); (have k2 := kR.below hb1 kR.lt); clear c0 c1 c2 c3 sl; (obtain ⟨c0, c1, c2, c3⟩ := k1.four'); (obtain ⟨d0, d1, d2, d3⟩ := k2.four'); (have f1 := k1.frozen); (have f2 := k2.frozen); (have l1 := k1.lt); (have l2 := k2.lt)))
  refine bodyPost_ret (v := .agg #[.bool o, .bool d, .slice a' n c', .bool g]) (by simp [results, Try.results35, go_sem, d0, d1, d2, d3]) rfl ?_
  exact ⟨a', c', n, Lib.hid h.len, rfl, Own.mono (base := W.heap.size) (by show Own _ _ _ _ _ _ _ (l.map encB); repeat (first | (with_reducible exact own) | (with_reducible refine Own.setLow ?_ (by first | (simp; done) | (simp; omega) | omega) _) | (with_reducible refine Own.alloc ?_ _))) (by omega), (by repeat (first | (with_reducible refine Below.setCell ?_ ?_ _) | (with_reducible refine Below.alloc ?_ ?_ _) | (with_reducible refine Below.drew ?_) | (with_reducible refine below_drewN ?_ _) | (with_reducible exact Below.refl _ _) | (with_reducible refine Below.trans ?_ (Below.mono hb1 ?_)) | (with_reducible refine Below.trans ?_ (Below.mono be ?_)) | (focus (simp; done)) | (focus (simp; omega)) | (focus omega) | (focus (have q0 := Below.size hb1; (try simp at q0); have q1 := Below.size be; (try simp at q1); (try simp); omega))))⟩
def Ses.opn (s : Ses) : Ses := if s.op then s else ⟨true, false, [], false⟩
set_option maxHeartbeats 2000000 in
theorem inbox_Open (o d g : Bool) (l : List UInt8) (a : Option Addr) (n c : Nat) (w : World) (h : SAt w l a n c) :
    Calls Try.prog 10 #[.agg #[.bool o, .bool d, .slice a n c, .bool g]] w (SesR (Ses.opn ⟨o, d, l, g⟩) w) := by
  go_enter Try.func10, Try.ntmps10
  go_upto_region 1 with fail
  refine wp_named (fun W => Blk W w.heap.size 30 #[.bool o, .bool d, .slice a n c, .bool g] ∧ Blk W (w.heap.size + 1) 30 #[.bool false, .bool false, .slice none 0 0, .bool false] ∧ w.heap.size + 2 ≤ W.heap.size ∧ RowKit.Below w.heap.size w W) ⟨(Blk.new _ _ _).alloc _, Blk.next _ _ _ _, by simp, (by repeat (first | (with_reducible refine Below.setCell ?_ ?_ _) | (with_reducible refine Below.alloc ?_ ?_ _) | (with_reducible refine Below.drew ?_) | (with_reducible refine below_drewN ?_ _) | (with_reducible exact Below.refl _ _) | (focus (simp; done)) | (focus (simp; omega)) | (focus omega)))⟩ ?_
  rintro W ⟨kS, kR, sz, be⟩
  obtain ⟨c0, c1, c2, c3⟩ := kS.four'
  have sl := kS.lt
  cases o with
  | true =>
    go_wp2_with ((go_at_call 30; (with_reducible refine (copies_Session true d g l a n c _ (h.below be (Nat.le_refl _))).mono ?_); rintro e w1 ⟨a', c', m, hm, rfl, own, hb1⟩; ((have k2 := kR.below hb1 kR.lt); (obtain ⟨d0, d1, d2, d3⟩ := k2.four'); (have f2 := k2.frozen); (have l2 := k2.lt))))
    refine bodyPost_ret (v := .agg #[.bool true, .bool d, .slice a' m c', .bool g]) (by simp [results, Try.results10, go_sem, d0, d1, d2, d3]) rfl ?_
    exact ⟨a', c', m, hm, rfl, Own.mono (base := W.heap.size) (by show Own _ _ _ _ _ _ _ (l.map encB); repeat (first | (with_reducible exact own) | (with_reducible refine Own.setLow ?_ (by first | (simp; done) | (simp; omega) | omega) _) | (with_reducible refine Own.alloc ?_ _))) (by omega), (by repeat (first | (with_reducible refine Below.setCell ?_ ?_ _) | (with_reducible refine Below.alloc ?_ ?_ _) | (with_reducible refine Below.drew ?_) | (with_reducible refine below_drewN ?_ _) | (with_reducible exact Below.refl _ _) | (with_reducible refine Below.trans ?_ (Below.mono hb1 ?_)) | (with_reducible refine Below.trans ?_ (Below.mono be ?_)) | (focus (simp; done)) | (focus (simp; omega)) | (focus omega) | (focus (have q0 := Below.size hb1; (try simp at q0); have q1 := Below.size be; (try simp at q1); (try simp); omega))))⟩
  | false =>
    obtain ⟨d0, d1, d2, d3⟩ := kR.four'
    have f2 := kR.frozen
    have l2 := kR.lt
    go_wp2_with fail
    refine bodyPost_ret (v := .agg #[.bool true, .bool false, .slice none 0 0, .bool false]) (by simp [results, Try.results10, go_sem, d0, d1, d2, d3]) rfl ?_
    exact ⟨none, 0, 0, Lib.hid rfl, rfl, Own.nil _ _ _ _, (by repeat (first | (with_reducible refine Below.setCell ?_ ?_ _) | (with_reducible refine Below.alloc ?_ ?_ _) | (with_reducible refine Below.drew ?_) | (with_reducible refine below_drewN ?_ _) | (with_reducible exact Below.refl _ _) | (with_reducible refine Below.trans ?_ (Below.mono be ?_)) | (focus (simp; done)) | (focus (simp; omega)) | (focus omega) | (focus (have q0 := Below.size be; (try simp at q0); (try simp); omega))))⟩
theorem ref25_Open (o d g : Bool) (l : List UInt8) (a : Option Addr) (n c : Nat) (w : World) (h : SAt w l a n c) :
    Calls Try.prog 23 #[.agg #[.bool o, .bool d, .slice a n c, .bool g]] w (SesR (Ses.opn ⟨o, d, l, g⟩) w) := by
  go_enter Try.func23, Try.ntmps23
  go_upto_region 1 with fail
  refine wp_named (fun W => Blk W w.heap.size 30 #[.bool o, .bool d, .slice a n c, .bool g] ∧ Blk W (w.heap.size + 1) 30 #[.bool false, .bool false, .slice none 0 0, .bool false] ∧ w.heap.size + 2 ≤ W.heap.size ∧ RowKit.Below w.heap.size w W) ⟨(Blk.new _ _ _).alloc _, Blk.next _ _ _ _, by simp, (by repeat (first | (with_reducible refine Below.setCell ?_ ?_ _) | (with_reducible refine Below.alloc ?_ ?_ _) | (with_reducible refine Below.drew ?_) | (with_reducible refine below_drewN ?_ _) | (with_reducible exact Below.refl _ _) | (focus (simp; done)) | (focus (simp; omega)) | (focus omega)))⟩ ?_
  rintro W ⟨kS, kR, sz, be⟩
  obtain ⟨c0, c1, c2, c3⟩ := kS.four'
  have sl := kS.lt
  cases o with
  | true =>
    go_wp2_with ((go_at_call 35; (with_reducible refine (ref25_Copy true d g l a n c _ (h.below be (Nat.le_refl _))).mono ?_); rintro e w1 ⟨a', c', m, hm, rfl, own, hb1⟩; ((have k2 := kR.below hb1 kR.lt); (obtain ⟨d0, d1, d2, d3⟩ := k2.four'); (have f2 := k2.frozen); (have l2 := k2.lt))))
    refine bodyPost_ret (v := .agg #[.bool true, .bool d, .slice a' m c', .bool g]) (by simp [results, Try.results23, go_sem, d0, d1, d2, d3]) rfl ?_
    exact ⟨a', c', m, hm, rfl, Own.mono (base := W.heap.size) (by show Own _ _ _ _ _ _ _ (l.map encB); repeat (first | (with_reducible exact own) | (with_reducible refine Own.setLow ?_ (by first | (simp; done) | (simp; omega) | omega) _) | (with_reducible refine Own.alloc ?_ _))) (by omega), (by repeat (first | (with_reducible refine Below.setCell ?_ ?_ _) | (with_reducible refine Below.alloc ?_ ?_ _) | (with_reducible refine Below.drew ?_) | (with_reducible refine below_drewN ?_ _) | (with_reducible exact Below.refl _ _) | (with_reducible refine Below.trans ?_ (Below.mono hb1 ?_)) | (with_reducible refine Below.trans ?_ (Below.mono be ?_)) | (focus (simp; done)) | (focus (simp; omega)) | (focus omega) | (focus (have q0 := Below.size hb1; (try simp at q0); have q1 := Below.size be; (try simp at q1); (try simp); omega))))⟩
  | false =>
    obtain ⟨d0, d1, d2, d3⟩ := kR.four'
    have f2 := kR.frozen
    have l2 := kR.lt
    go_wp2_with fail
    refine bodyPost_ret (v := .agg #[.bool true, .bool false, .slice none 0 0, .bool false]) (by simp [results, Try.results23, go_sem, d0, d1, d2, d3]) rfl ?_
    exact ⟨none, 0, 0, Lib.hid rfl, rfl, Own.nil _ _ _ _, (by repeat (first | (with_reducible refine Below.setCell ?_ ?_ _) | (with_reducible refine Below.alloc ?_ ?_ _) | (with_reducible refine Below.drew ?_) | (with_reducible refine below_drewN ?_ _) | (with_reducible exact Below.refl _ _) | (with_reducible refine Below.trans ?_ (Below.mono be ?_)) | (focus (simp; done)) | (focus (simp; omega)) | (focus omega) | (focus (have q0 := Below.size be; (try simp at q0); (try simp); omega))))⟩
set_option maxHeartbeats 2000000 in
theorem inbox_Drop (o d g : Bool) (a : Option Addr) (n c : Nat) (w : World) :
    Calls Try.prog 24 #[.agg #[.bool o, .bool d, .slice a n c, .bool g]] w (SesR ⟨false, false, [], false⟩ w) := by
  go_enter Try.func24, Try.ntmps24
  go_wp2
  refine bodyPost_ret (v := .agg #[.bool false, .bool false, .slice none 0 0, .bool false]) (by simp [results, Try.results24, go_sem]) rfl ?_
  exact ⟨none, 0, 0, Lib.hid rfl, rfl, Own.nil _ _ _ _, (by repeat (first | (with_reducible refine Below.setCell ?_ ?_ _) | (with_reducible refine Below.alloc ?_ ?_ _) | (with_reducible refine Below.drew ?_) | (with_reducible refine below_drewN ?_ _) | (with_reducible exact Below.refl _ _) | (focus (simp; done)) | (focus (simp; omega)) | (focus omega)))⟩
theorem ref25_Drop (o d g : Bool) (a : Option Addr) (n c : Nat) (w : World) :
    Calls Try.prog 25 #[.agg #[.bool o, .bool d, .slice a n c, .bool g]] w (SesR ⟨false, false, [], false⟩ w) := by
  go_enter Try.func25, Try.ntmps25
  go_wp2
  refine bodyPost_ret (v := .agg #[.bool false, .bool false, .slice none 0 0, .bool false]) (by simp [results, Try.results25, go_sem]) rfl ?_
  exact ⟨none, 0, 0, Lib.hid rfl, rfl, Own.nil _ _ _ _, (by repeat (first | (with_reducible refine Below.setCell ?_ ?_ _) | (with_reducible refine Below.alloc ?_ ?_ _) | (with_reducible refine Below.drew ?_) | (with_reducible refine below_drewN ?_ _) | (with_reducible exact Below.refl _ _) | (focus (simp; done)) | (focus (simp; omega)) | (focus omega)))⟩
end Go.Proofs.Ytlfccoakodnbaaa
