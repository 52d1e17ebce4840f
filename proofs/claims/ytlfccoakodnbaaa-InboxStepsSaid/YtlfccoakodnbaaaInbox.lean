/- sessions: receiving, taking, comparing -/
import Derived.Test.YtlfccoakodnbaaaSess
namespace Go.Proofs.Ytlfccoakodnbaaa
set_option linter.unusedVariables false
open Go.RowKit Go.Sort
set_option maxRecDepth 100000

def Ses.rcv (S : Ses) (b : List UInt8) : Ses := if S.op then ⟨true, S.dr || !decide (S.buf.length + b.length ≤ 256), putL S.buf b, S.gb⟩ else S
def Ses.tk (S : Ses) : TS := tRun 4 S.buf ⟨0, S.gb, []⟩
def Ses.nxt (S : Ses) : Ses := if S.op then ⟨true, false, S.buf.drop S.tk.used, S.tk.garb⟩ else S
def Ses.inp (S : Ses) : List Key := if S.op then (if S.dr then [(15, 0, [])] else []) ++ S.tk.keys else []
/-- what Receive hands back -/
def RcvR (S T : Ses) (w : World) (e : Ending) (w' : World) : Prop := Hid (S = T) ∧ SesR T w e w'
/-- what Take hands back -/
def TakS (S : Ses) (w : World) (e : Ending) (w' : World) : Prop :=
  ∃ (T : Ses) (a : Option Addr) (c n : Nat) (its : List It) (xa : Option Addr) (xc m : Nat), Hid (S.nxt = T) ∧ Hid (n = T.buf.length) ∧ Hid (m = its.length) ∧ Hid (its.map It.key = S.inp) ∧
    e = .returned (.tuple #[.agg #[.bool T.op, .bool T.dr, .slice a n c, .bool T.gb], .agg #[.bool S.op, .slice xa m xc]]) ∧
    Own w' w.heap.size 5 1 a n c (T.buf.map encB) ∧ Own w' w.heap.size 49 3 xa m xc (itCells its) ∧ (∀ x ∈ its, Own w' 0 5 1 x.a x.pay.length x.c (x.pay.map encB)) ∧ Below w.heap.size w w'
theorem stream_PutV (a : Option Addr) (s : List UInt8) (n c : Nat) (g : Bool) (ba : Option Addr) (b : List UInt8) (m bc : Nat) (w : World) (hs : Byt w a s) (hn : n = s.length) (hb : Byt w ba b) (hm : m = b.length) (h256 : n ≤ 256) (hcb : m ≤ bc) (hbl : m ≤ 1000000) :
    Calls Try.prog 31 #[.agg #[.slice a n c, .bool g], .slice ba m bc] w (PutR s b g w) := by subst hn hm; exact stream_Put a s c g ba b bc w hs hb h256 hcb hbl
theorem ref04_PutV (a : Option Addr) (s : List UInt8) (n c : Nat) (g : Bool) (ba : Option Addr) (b : List UInt8) (m bc : Nat) (w : World) (hs : Byt w a s) (hn : n = s.length) (hb : Byt w ba b) (hm : m = b.length) (h256 : n ≤ 256) (hcb : m ≤ bc) (hbl : m ≤ 1000000) :
    Calls Try.prog 36 #[.agg #[.slice a n c, .bool g], .slice ba m bc] w (PutR s b g w) := by subst hn hm; exact ref04_Put a s c g ba b bc w hs hb h256 hcb hbl
theorem stream_Take4 (a : Option Addr) (l : List UInt8) (n c : Nat) (g0 : Bool) (w : World) (h : SAt w l a n c) :
    Calls Try.prog 32 #[.agg #[.slice a n c, .bool g0], .int .i64 4] w (TakeR 4 l g0 w) := by
  obtain ⟨hb, rfl, hc, hn, hs⟩ := h
  exact stream_Take a l _ c g0 4 w hb rfl hc (by omega) hn
theorem ref04_Take4 (a : Option Addr) (l : List UInt8) (n c : Nat) (g0 : Bool) (w : World) (h : SAt w l a n c) :
    Calls Try.prog 33 #[.agg #[.slice a n c, .bool g0], .int .i64 4] w (TakeR 4 l g0 w) := by
  obtain ⟨hb, rfl, hc, hn, hs⟩ := h
  exact ref04_Take a l _ c g0 4 w hb rfl hc (by omega) hn (by omega)

set_option maxHeartbeats 4000000 in
theorem inbox_Receive (o d g : Bool) (l : List UInt8) (a : Option Addr) (n c : Nat) (ba : Option Addr) (b : List UInt8) (m bc : Nat) (w : World) (h : SAt w l a n c) (hb : Byt w ba b) (hm : m = b.length) (h256 : n ≤ 256) (hcb : m ≤ bc) (hbl : m ≤ 1000000) :
    Calls Try.prog 9 #[.agg #[.bool o, .bool d, .slice a n c, .bool g], .slice ba m bc] w (SesR (Ses.rcv ⟨o, d, l, g⟩ b) w) := by
  have HM := Lib.hid hm
  obtain ⟨ok, hok⟩ : ∃ ok, decide (l.length + b.length ≤ 256) = ok := ⟨_, rfl⟩
  have HOK := Lib.hid hok
  clear hm hok
  go_enter Try.func9, Try.ntmps9
  go_upto_region 1 with fail
  refine wp_named (fun W => Blk W w.heap.size 30 #[.bool o, .bool d, .slice a n c, .bool g] ∧ Blk W (w.heap.size + 1) 30 #[.bool false, .bool false, .slice none 0 0, .bool false] ∧ w.heap.size + 2 ≤ W.heap.size ∧ RowKit.Below w.heap.size w W) ⟨(Blk.new _ _ _).alloc _, Blk.next _ _ _ _, by simp, (by repeat (first | (with_reducible refine Below.setCell ?_ ?_ _) | (with_reducible refine Below.alloc ?_ ?_ _) | (with_reducible refine Below.drew ?_) | (with_reducible refine below_drewN ?_ _) | (with_reducible exact Below.refl _ _) | (focus (simp; done)) | (focus (simp; omega)) | (focus omega)))⟩ ?_
  rintro W ⟨kS, kR, sz, be⟩
  obtain ⟨c0, c1, c2, c3⟩ := kS.four'
  have sl := kS.lt
  cases o with
  | false =>
    go_wp2_with ((go_at_call 30; (with_reducible refine (copies_Session false d g l a n c _ (h.below be (Nat.le_refl _))).mono ?_); rintro e w1 ⟨a', c', m', hm', rfl, own, hb1⟩; ((have k2 := kR.below hb1 kR.lt); (obtain ⟨d0, d1, d2, d3⟩ := k2.four'); (have f2 := k2.frozen); (have l2 := k2.lt))))
    refine bodyPost_ret (v := .agg #[.bool false, .bool d, .slice a' m' c', .bool g]) (by simp [results, Try.results9, go_sem, d0, d1, d2, d3]) rfl ?_
    exact ⟨a', c', m', hm', rfl, Own.mono (base := W.heap.size) (by show Own _ _ _ _ _ _ _ (l.map encB); repeat (first | (with_reducible exact own) | (with_reducible refine Own.setLow ?_ (by first | (simp; done) | (simp; omega) | omega) _) | (with_reducible refine Own.alloc ?_ _))) (by omega), (by repeat (first | (with_reducible refine Below.setCell ?_ ?_ _) | (with_reducible refine Below.alloc ?_ ?_ _) | (with_reducible refine Below.drew ?_) | (with_reducible refine below_drewN ?_ _) | (with_reducible exact Below.refl _ _) | (with_reducible refine Below.trans ?_ (Below.mono hb1 ?_)) | (with_reducible refine Below.trans ?_ (Below.mono be ?_)) | (focus (simp; done)) | (focus (simp; omega)) | (focus omega) | (focus (have q0 := Below.size hb1; (try simp at q0); have q1 := Below.size be; (try simp at q1); (try simp); omega))))⟩
  | true =>
    cases ok
    all_goals
      go_wp2_with ((go_at_call 31; (with_reducible refine (stream_PutV a l n c g ba b m bc _ (h.byt.below be (Nat.le_refl _)) h.len (hb.below be (Nat.le_refl _)) HM.out h256 hcb hbl).mono ?_); rintro e w1 ⟨a', c', m', ok', rfl, hm', hok', own, hb1⟩; ((obtain rfl := hok'.trans HOK.out); (have HM' := Lib.hid hm'); clear hm' hok'; (have k1 := kS.below hb1 kS.lt); (have k2 := kR.below hb1 kR.lt); clear c0 c1 c2 c3 sl; (obtain ⟨c0, c1, c2, c3⟩ := k1.four'); (obtain ⟨d0, d1, d2, d3⟩ := k2.four'); (have f1 := k1.frozen); (have f2 := k2.frozen); (have l1 := k1.lt); (have l2 := k2.lt))))
    · refine bodyPost_ret (v := .agg #[.bool true, .bool true, .slice a' m' c', .bool g]) (by simp [results, Try.results9, go_sem, d0, d1, d2, d3, l2]) rfl ?_
      have e1 : Ses.rcv ⟨true, d, l, g⟩ b = ⟨true, true, putL l b, g⟩ := by simp only [Ses.rcv, if_true, HOK.out]; simp
      rw [e1]
      exact ⟨a', c', m', HM', rfl, Own.mono (base := W.heap.size) (by show Own _ _ _ _ _ _ _ ((putL l b).map encB); repeat (first | (with_reducible exact own) | (with_reducible refine Own.setLow ?_ (by first | (simp; done) | (simp; omega) | omega) _) | (with_reducible refine Own.alloc ?_ _))) (by omega), (by repeat (first | (with_reducible refine Below.setCell ?_ ?_ _) | (with_reducible refine Below.alloc ?_ ?_ _) | (with_reducible refine Below.drew ?_) | (with_reducible refine below_drewN ?_ _) | (with_reducible exact Below.refl _ _) | (with_reducible refine Below.trans ?_ (Below.mono hb1 ?_)) | (with_reducible refine Below.trans ?_ (Below.mono be ?_)) | (focus (simp; done)) | (focus (simp; omega)) | (focus omega) | (focus (have q0 := Below.size hb1; (try simp at q0); have q1 := Below.size be; (try simp at q1); (try simp); omega))))⟩
    · refine bodyPost_ret (v := .agg #[.bool true, .bool d, .slice a' m' c', .bool g]) (by simp [results, Try.results9, go_sem, d0, d1, d2, d3, l2]) rfl ?_
      have e1 : Ses.rcv ⟨true, d, l, g⟩ b = ⟨true, d, putL l b, g⟩ := by simp only [Ses.rcv, if_true, HOK.out]; simp
      rw [e1]
      exact ⟨a', c', m', HM', rfl, Own.mono (base := W.heap.size) (by show Own _ _ _ _ _ _ _ ((putL l b).map encB); repeat (first | (with_reducible exact own) | (with_reducible refine Own.setLow ?_ (by first | (simp; done) | (simp; omega) | omega) _) | (with_reducible refine Own.alloc ?_ _))) (by omega), (by repeat (first | (with_reducible refine Below.setCell ?_ ?_ _) | (with_reducible refine Below.alloc ?_ ?_ _) | (with_reducible refine Below.drew ?_) | (with_reducible refine below_drewN ?_ _) | (with_reducible exact Below.refl _ _) | (with_reducible refine Below.trans ?_ (Below.mono hb1 ?_)) | (with_reducible refine Below.trans ?_ (Below.mono be ?_)) | (focus (simp; done)) | (focus (simp; omega)) | (focus omega) | (focus (have q0 := Below.size hb1; (try simp at q0); have q1 := Below.size be; (try simp at q1); (try simp); omega))))⟩

set_option maxHeartbeats 4000000 in
theorem ref25_Receive (o d g : Bool) (l : List UInt8) (a : Option Addr) (n c : Nat) (ba : Option Addr) (b : List UInt8) (m bc : Nat) (w : World) (h : SAt w l a n c) (hb : Byt w ba b) (hm : m = b.length) (h256 : n ≤ 256) (hcb : m ≤ bc) (hbl : m ≤ 1000000) :
    Calls Try.prog 26 #[.agg #[.bool o, .bool d, .slice a n c, .bool g], .slice ba m bc] w (SesR (Ses.rcv ⟨o, d, l, g⟩ b) w) := by
  have HM := Lib.hid hm
  obtain ⟨ok, hok⟩ : ∃ ok, decide (l.length + b.length ≤ 256) = ok := ⟨_, rfl⟩
  have HOK := Lib.hid hok
  clear hm hok
  go_enter Try.func26, Try.ntmps26
  go_upto_region 1 with fail
  refine wp_named (fun W => Blk W w.heap.size 30 #[.bool o, .bool d, .slice a n c, .bool g] ∧ Blk W (w.heap.size + 1) 30 #[.bool false, .bool false, .slice none 0 0, .bool false] ∧ w.heap.size + 2 ≤ W.heap.size ∧ RowKit.Below w.heap.size w W) ⟨(Blk.new _ _ _).alloc _, Blk.next _ _ _ _, by simp, (by repeat (first | (with_reducible refine Below.setCell ?_ ?_ _) | (with_reducible refine Below.alloc ?_ ?_ _) | (with_reducible refine Below.drew ?_) | (with_reducible refine below_drewN ?_ _) | (with_reducible exact Below.refl _ _) | (focus (simp; done)) | (focus (simp; omega)) | (focus omega)))⟩ ?_
  rintro W ⟨kS, kR, sz, be⟩
  obtain ⟨c0, c1, c2, c3⟩ := kS.four'
  have sl := kS.lt
  go_upto_region 2 with ((go_at_call 35; (with_reducible refine (ref25_Copy o d g l a n c _ (h.below be (Nat.le_refl _))).mono ?_); rintro e w1 ⟨a', c', m', hm', rfl, own, hb1⟩))
  refine wp_named (fun V => Blk V w.heap.size 30 #[.bool o, .bool d, .slice a n c, .bool g] ∧ Blk V (w.heap.size + 1) 30 #[.bool false, .bool false, .slice none 0 0, .bool false] ∧ Blk V w1.heap.size 30 #[.bool o, .bool d, .slice a' m' c', .bool g] ∧ Own V W.heap.size 5 1 a' m' c' (l.map encB) ∧ RowKit.Below w.heap.size w V ∧ w.heap.size + 2 ≤ w1.heap.size) ⟨(kS.below hb1 kS.lt).alloc _, (kR.below hb1 kR.lt).alloc _, Blk.new _ _ _, own.alloc _, (by repeat (first | (with_reducible refine Below.setCell ?_ ?_ _) | (with_reducible refine Below.alloc ?_ ?_ _) | (with_reducible refine Below.drew ?_) | (with_reducible refine below_drewN ?_ _) | (with_reducible exact Below.refl _ _) | (with_reducible refine Below.trans ?_ (Below.mono hb1 ?_)) | (with_reducible refine Below.trans ?_ (Below.mono be ?_)) | (focus (simp; done)) | (focus (simp; omega)) | (focus omega) | (focus (have q0 := Below.size hb1; (try simp at q0); have q1 := Below.size be; (try simp at q1); (try simp); omega)))), by have := hb1.size; omega⟩ ?_
  clear c0 c1 c2 c3 sl own
  rintro V ⟨kS1, kR1, kO1, own1, be1, sz1⟩
  have ne1 : w.heap.size ≠ w1.heap.size := by omega
  have ne2 : w.heap.size + 1 ≠ w1.heap.size := by omega
  obtain ⟨c0, c1, c2, c3⟩ := kS1.four'
  have sl := kS1.lt
  obtain ⟨o0, o1, o2, o3⟩ := kO1.four'
  obtain ⟨d0, d1, d2, d3⟩ := kR1.four'
  have f2 := kR1.frozen
  have l2 := kR1.lt
  have l3 := kO1.lt
  cases o with
  | false =>
    go_wp2_with fail
    refine bodyPost_ret (v := .agg #[.bool false, .bool d, .slice a' m' c', .bool g]) (by simp [results, Try.results26, go_sem, d0, d1, d2, d3]) rfl ?_
    exact ⟨a', c', m', hm', rfl, Own.mono (base := W.heap.size) (by show Own _ _ _ _ _ _ _ (l.map encB); repeat (first | (with_reducible exact own1) | (with_reducible refine Own.setLow ?_ (by first | (simp; done) | (simp; omega) | omega) _) | (with_reducible refine Own.alloc ?_ _))) (by omega), (by repeat (first | (with_reducible refine Below.setCell ?_ ?_ _) | (with_reducible refine Below.alloc ?_ ?_ _) | (with_reducible refine Below.drew ?_) | (with_reducible refine below_drewN ?_ _) | (with_reducible exact Below.refl _ _) | (with_reducible refine Below.trans ?_ (Below.mono be1 ?_)) | (focus (simp; done)) | (focus (simp; omega)) | (focus omega) | (focus (have q0 := Below.size be1; (try simp at q0); (try simp); omega))))⟩
  | true =>
    have z3 := kO1.frozen
    cases ok <;> cases d
    all_goals
      go_upto_region 5 with ((go_at_call 36; (with_reducible refine (ref04_PutV a l n c g ba b m bc _ (h.byt.below be1 (Nat.le_refl _)) h.len (hb.below be1 (Nat.le_refl _)) HM.out h256 hcb hbl).mono ?_); rintro e w2 ⟨a2, c2', m2, ok', rfl, hm2, hok', own2, hb2⟩; ((obtain rfl := hok'.trans HOK.out); (have HM' := Lib.hid hm2); clear hm2 hok')))
      have sz2 := hb2.size
      have vs2 := be1.size
      refine wp_named (fun Z => (∃ dv, Blk Z w.heap.size 30 #[.bool true, .bool dv, .slice a n c, .bool g] ∧ Z.cell? ⟨w.heap.size, 1, none⟩ = V.cell? ⟨w.heap.size, 1, none⟩) ∧ Blk Z (w.heap.size + 1) 30 #[.bool false, .bool false, .slice none 0 0, .bool false] ∧ (∃ dv, Blk Z w1.heap.size 30 #[.bool true, .bool dv, .slice a' m' c', .bool g]) ∧ Blk Z w2.heap.size 28 #[.slice a2 m2 c2', .bool g] ∧ Own Z V.heap.size 5 1 a2 m2 c2' ((putL l b).map encB) ∧ RowKit.Below w.heap.size w Z ∧ w1.heap.size < w2.heap.size) ⟨⟨_, (kS1.below hb2 kS1.lt).alloc _, by rw [((kS1.below hb2 kS1.lt).alloc _).cell, kS1.cell]⟩, (kR1.below hb2 kR1.lt).alloc _, ⟨_, (kO1.below hb2 kO1.lt).alloc _⟩, Blk.new _ _ _, own2.alloc _, (by repeat (first | (with_reducible refine Below.setCell ?_ ?_ _) | (with_reducible refine Below.alloc ?_ ?_ _) | (with_reducible refine Below.drew ?_) | (with_reducible refine below_drewN ?_ _) | (with_reducible exact Below.refl _ _) | (with_reducible refine Below.trans ?_ (Below.mono hb2 ?_)) | (with_reducible refine Below.trans ?_ (Below.mono be1 ?_)) | (focus (simp; done)) | (focus (simp; omega)) | (focus omega) | (focus (have q0 := Below.size hb2; (try simp at q0); have q1 := Below.size be1; (try simp at q1); (try simp); omega)))), by omega⟩ ?_
      clear c0 c1 c2 c3 sl o0 o1 o2 o3 d0 d1 d2 d3 f2 l2 z3
      rintro Z ⟨⟨dv, kS2, hdv⟩, kR2, ⟨dv', kO2⟩, kP2, own3, be2, sz3⟩
      rw [kS2.cell, kS1.cell] at hdv
      simp at hdv
      subst hdv
      have ne3 : w.heap.size ≠ w2.heap.size := by omega
      have ne4 : w.heap.size + 1 ≠ w2.heap.size := by omega
      have ne5 : w1.heap.size ≠ w2.heap.size := by omega
      obtain ⟨c0, c1, c2, c3⟩ := kS2.four'
      have sl := kS2.lt
      obtain ⟨o0, o1, o2, o3⟩ := kO2.four'
      obtain ⟨d0, d1, d2, d3⟩ := kR2.four'
      have p0 := kP2.cell 0
      have p1 := kP2.cell 1
      have pl := kP2.lt
      have f2 := kR2.frozen
      have f3 := kO2.frozen
      have l2 := kR2.lt
      have l4 := kO2.lt
      go_wp2_with fail
    · refine bodyPost_ret (v := .agg #[.bool true, .bool true, .slice a2 m2 c2', .bool g]) (by simp [results, Try.results26, go_sem, d0, d1, d2, d3]) rfl ?_
      have e1 : Ses.rcv ⟨true, false, l, g⟩ b = ⟨true, true, putL l b, g⟩ := by simp only [Ses.rcv, if_true, HOK.out]; simp
      rw [e1]
      exact ⟨a2, c2', m2, HM', rfl, Own.mono (base := V.heap.size) (by show Own _ _ _ _ _ _ _ ((putL l b).map encB); repeat (first | (with_reducible exact own3) | (with_reducible refine Own.setLow ?_ (by first | (simp; done) | (simp; omega) | omega) _) | (with_reducible refine Own.alloc ?_ _))) (by omega), (by repeat (first | (with_reducible refine Below.setCell ?_ ?_ _) | (with_reducible refine Below.alloc ?_ ?_ _) | (with_reducible refine Below.drew ?_) | (with_reducible refine below_drewN ?_ _) | (with_reducible exact Below.refl _ _) | (with_reducible refine Below.trans ?_ (Below.mono be2 ?_)) | (focus (simp; done)) | (focus (simp; omega)) | (focus omega) | (focus (have q0 := Below.size be2; (try simp at q0); (try simp); omega))))⟩
    · refine bodyPost_ret (v := .agg #[.bool true, .bool true, .slice a2 m2 c2', .bool g]) (by simp [results, Try.results26, go_sem, d0, d1, d2, d3]) rfl ?_
      have e1 : Ses.rcv ⟨true, true, l, g⟩ b = ⟨true, true, putL l b, g⟩ := by simp only [Ses.rcv, if_true, HOK.out]; simp
      rw [e1]
      exact ⟨a2, c2', m2, HM', rfl, Own.mono (base := V.heap.size) (by show Own _ _ _ _ _ _ _ ((putL l b).map encB); repeat (first | (with_reducible exact own3) | (with_reducible refine Own.setLow ?_ (by first | (simp; done) | (simp; omega) | omega) _) | (with_reducible refine Own.alloc ?_ _))) (by omega), (by repeat (first | (with_reducible refine Below.setCell ?_ ?_ _) | (with_reducible refine Below.alloc ?_ ?_ _) | (with_reducible refine Below.drew ?_) | (with_reducible refine below_drewN ?_ _) | (with_reducible exact Below.refl _ _) | (with_reducible refine Below.trans ?_ (Below.mono be2 ?_)) | (focus (simp; done)) | (focus (simp; omega)) | (focus omega) | (focus (have q0 := Below.size be2; (try simp at q0); (try simp); omega))))⟩
    · refine bodyPost_ret (v := .agg #[.bool true, .bool false, .slice a2 m2 c2', .bool g]) (by simp [results, Try.results26, go_sem, d0, d1, d2, d3]) rfl ?_
      have e1 : Ses.rcv ⟨true, false, l, g⟩ b = ⟨true, false, putL l b, g⟩ := by simp only [Ses.rcv, if_true, HOK.out]; simp
      rw [e1]
      exact ⟨a2, c2', m2, HM', rfl, Own.mono (base := V.heap.size) (by show Own _ _ _ _ _ _ _ ((putL l b).map encB); repeat (first | (with_reducible exact own3) | (with_reducible refine Own.setLow ?_ (by first | (simp; done) | (simp; omega) | omega) _) | (with_reducible refine Own.alloc ?_ _))) (by omega), (by repeat (first | (with_reducible refine Below.setCell ?_ ?_ _) | (with_reducible refine Below.alloc ?_ ?_ _) | (with_reducible refine Below.drew ?_) | (with_reducible refine below_drewN ?_ _) | (with_reducible exact Below.refl _ _) | (with_reducible refine Below.trans ?_ (Below.mono be2 ?_)) | (focus (simp; done)) | (focus (simp; omega)) | (focus omega) | (focus (have q0 := Below.size be2; (try simp at q0); (try simp); omega))))⟩
    · refine bodyPost_ret (v := .agg #[.bool true, .bool true, .slice a2 m2 c2', .bool g]) (by simp [results, Try.results26, go_sem, d0, d1, d2, d3]) rfl ?_
      have e1 : Ses.rcv ⟨true, true, l, g⟩ b = ⟨true, true, putL l b, g⟩ := by simp only [Ses.rcv, if_true, HOK.out]; simp
      rw [e1]
      exact ⟨a2, c2', m2, HM', rfl, Own.mono (base := V.heap.size) (by show Own _ _ _ _ _ _ _ ((putL l b).map encB); repeat (first | (with_reducible exact own3) | (with_reducible refine Own.setLow ?_ (by first | (simp; done) | (simp; omega) | omega) _) | (with_reducible refine Own.alloc ?_ _))) (by omega), (by repeat (first | (with_reducible refine Below.setCell ?_ ?_ _) | (with_reducible refine Below.alloc ?_ ?_ _) | (with_reducible refine Below.drew ?_) | (with_reducible refine below_drewN ?_ _) | (with_reducible exact Below.refl _ _) | (with_reducible refine Below.trans ?_ (Below.mono be2 ?_)) | (focus (simp; done)) | (focus (simp; omega)) | (focus omega) | (focus (have q0 := Below.size be2; (try simp at q0); (try simp); omega))))⟩
end Go.Proofs.Ytlfccoakodnbaaa
