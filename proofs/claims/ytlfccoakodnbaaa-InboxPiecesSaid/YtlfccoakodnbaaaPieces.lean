/- law 25: InboxPieces -/
import Derived.Test.YtlfccoakodnbaaaWaits
namespace Go.Proofs.Ytlfccoakodnbaaa
set_option linter.unusedVariables false
open Go.RowKit Go.Sort
set_option maxRecDepth 100000

/-- a session that has been given the first C bytes -/
def pieceS (l : List UInt8) (C : Nat) : Ses := ⟨true, !decide (C ≤ 256), (l.take C).take 256, false⟩
theorem pieceS_next {l : List UInt8} {C n : Nat} (h : C + n ≤ l.length) : (pieceS l C).rcv ((l.drop C).take n) = pieceS l (C + n) := by
  have h1 : ((l.take C).take 256).length = min C 256 := by simp; omega
  have h2 : ((l.drop C).take n).length = n := by simp; omega
  have e1 : (pieceS l C).rcv ((l.drop C).take n) = ⟨true, !decide (C ≤ 256) || !decide (((l.take C).take 256).length + ((l.drop C).take n).length ≤ 256), (l.take C).take 256 ++ ((l.drop C).take n).take (256 - ((l.take C).take 256).length), false⟩ := rfl
  rw [e1]
  have e2 : (!decide (C ≤ 256) || !decide (((l.take C).take 256).length + ((l.drop C).take n).length ≤ 256)) = !decide (C + n ≤ 256) := by
    rw [Bool.eq_iff_iff]; simp; omega
  have e3 : (l.take C).take 256 ++ ((l.drop C).take n).take (256 - ((l.take C).take 256).length) = (l.take (C + n)).take 256 := by
    rw [h1, List.take_add, List.take_append]
    have h3 : (l.take C).length = C := by simp; omega
    rw [h3]
    by_cases hc : C ≤ 256
    · rw [Nat.min_eq_left hc]
    · rw [show 256 - min C 256 = 256 - C by omega]
  rw [e2, e3]
  rfl
theorem pieceS_zero (l : List UInt8) : pieceS l 0 = ⟨true, false, [], false⟩ := by simp [pieceS]
theorem pieceS_len (l : List UInt8) (C : Nat) : (pieceS l C).buf.length ≤ 256 := by simp [pieceS]; omega
/-- a piece comes in -/
theorem inbox_ReceiveP {l : List UInt8} {C C' : Nat} {dr : Bool} {sb : List UInt8} (hp : pieceS l C = ⟨true, dr, sb, false⟩) {dr' : Bool} {sb' : List UInt8} (hp' : pieceS l C' = ⟨true, dr', sb', false⟩) (sa : Option Addr) (sn sc : Nat) (ba : Option Addr) (b : List UInt8) (m bc : Nat) (hC : C + b.length = C') (hl : C' ≤ l.length) (hbl : b = (l.drop C).take b.length) (w : World) (hs : SOwn w sb sa sn sc) (hb : Byt w ba b) (hm : m = b.length) (hcb : m ≤ bc) (h6 : m ≤ 1000000) :
    Calls Try.prog 9 #[.agg #[.bool true, .bool dr, .slice sa sn sc, .bool false], .slice ba m bc] w (SesR ⟨true, dr', sb', false⟩ w) := by
  have hlen := pieceS_len l C
  rw [hp] at hlen
  simp only at hlen
  have hn := hs.len
  have := inbox_Receive true dr false sb sa sn sc ba b m bc w hs.at hb hm (by omega) hcb h6
  have e : Ses.rcv ⟨true, dr, sb, false⟩ b = ⟨true, dr', sb', false⟩ := by
    rw [← hp, ← hp', ← hC, hbl]
    have hl2 : ((l.drop C).take b.length).length = b.length := by simp; omega
    rw [hl2]
    exact pieceS_next (by omega)
  rwa [e] at this
theorem inbox_OpenA (W w : World) (B : Nat) (h : Below B W w) (hB : B ≤ w.heap.size) : Calls Try.prog 10 #[.agg #[.bool false, .bool false, .slice none 0 0, .bool false]] w fun e w' => e = .returned (.agg #[.bool true, .bool false, .slice none 0 0, .bool false]) ∧ Below B W w' ∧ B ≤ w'.heap.size :=
  (inbox_Open0 w).mono fun _ _ ⟨he, hb⟩ => ⟨he, h.trans (hb.mono hB), Nat.le_trans hB hb.size⟩
theorem own_four {Y : World} {p : Nat} {e' : TypeId} {C : Array Value} (kR : Blk Y p e' C) {base : Nat} {e : TypeId} {size n cap : Nat} {a : Option Addr} {xs : List Value} (h : Own Y base e size a n cap xs) (h1 : e ≠ e') (u0 u1 u2 u3 : Value) :
    Own ((((Y.setCell ⟨p, 0, none⟩ u0).setCell ⟨p, 1, none⟩ u1).setCell ⟨p, 2, none⟩ u2).setCell ⟨p, 3, none⟩ u3) base e size a n cap xs := by
  have a1 := h.ne_blk kR h1
  refine Own.far ?_ a1 _
  refine Own.far ?_ a1 _
  refine Own.far ?_ a1 _
  exact Own.far h a1 _
structure CtM (w W : World) (J : Nat) (la : Option Addr) (l : List UInt8) (ca : Option Addr) (cl : List Int) (dr : Bool) (sb : List UInt8) (sa : Option Addr) (sn sc : Nat) (dt : Bool) (tb : List UInt8) (ta : Option Addr) (tn tc : Nat) : Prop where
  blk : Blk W J 30 #[.bool true, .bool dr, .slice sa sn sc, .bool false]
  ses : SOwn W sb sa sn sc
  blt : Blk W (J + 1) 30 #[.bool true, .bool dt, .slice ta tn tc, .bool false]
  set : SOwn W tb ta tn tc
  byt : Byt W la l
  cts : Ints W ca cl
  be : Below w.heap.size w W
  sz : w.heap.size ≤ J
section
variable {w W W' : World} {J : Nat} {la : Option Addr} {l : List UInt8} {ca : Option Addr} {cl : List Int} {dr : Bool} {sb : List UInt8} {sa : Option Addr} {sn sc : Nat} {dt : Bool} {tb : List UInt8} {ta : Option Addr} {tn tc : Nat}
theorem CtM.below (h : CtM w W J la l ca cl dr sb sa sn sc dt tb ta tn tc) (hb : Below W.heap.size W W') : CtM w W' J la l ca cl dr sb sa sn sc dt tb ta tn tc :=
  ⟨h.blk.below hb h.blk.lt, h.ses.below hb (Nat.le_refl _), h.blt.below hb h.blt.lt, h.set.below hb (Nat.le_refl _), h.byt.below hb (Nat.le_refl _), h.cts.below hb (Nat.le_refl _), h.be.trans (hb.mono h.be.size), h.sz⟩
/-- the session's block is given another one -/
theorem CtM.put (h : CtM w W J la l ca cl dr sb sa sn sc dt tb ta tn tc) {dr' : Bool} {sb' : List UInt8} {sa' : Option Addr} {sn' sc' : Nat} (hk : Blk W' J 30 #[.bool true, .bool dr', .slice sa' sn' sc', .bool false]) (hs : SOwn W' sb' sa' sn' sc') (hz : W.heap.size ≤ W'.heap.size) (hh : ∀ q, q < W.heap.size → q ≠ J → W'.heap[q]? = W.heap[q]?)
    (ho : W'.os = W.os ∧ W'.tape = W.tape ∧ W'.output = W.output) (hla : l ≠ [] → la.map (·.block) ≠ some J) (hca : cl ≠ [] → ca.map (·.block) ≠ some J) : CtM w W' J la l ca cl dr' sb' sa' sn' sc' dt tb ta tn tc := by
  have hlt := h.blk.lt
  refine ⟨hk, hs, (hh _ h.blt.lt (by omega)).trans h.blt, ⟨h.set.own.keep fun b e _ q => hh b q (fun e' => h.set.own.ne_blk h.blk (by decide) (by rw [e, ← e']; rfl)), h.set.len, h.set.small⟩, ?_, ?_, ⟨ho.1.trans h.be.os, ho.2.1.trans h.be.tape, ho.2.2.trans h.be.output, Nat.le_trans h.be.size hz, fun q hq => (hh q (by have := h.be.size; omega) (by have := h.sz; omega)).trans (h.be.block q hq)⟩, h.sz⟩
  · by_cases hl : l = []
    · rw [hl]; exact Byt.nil _ _
    · exact Row.keep h.byt fun b off e q => hh b q (fun e' => hla hl (by rw [e, ← e']; rfl))
  · by_cases hl : cl = []
    · rw [hl]; exact Ints.nil _ _
    · exact Row.keep h.cts fun b off e q => hh b q (fun e' => hca hl (by rw [e, ← e']; rfl))
end
set_option maxHeartbeats 8000000 in
theorem inboxPieces_walk (a0 : Option Addr) (c0 : Nat) (l0 : List Int) (a1 : Option Addr) (c1 : Nat) (l1 : List Int) (w : World) (h0 : Ints w a0 l0) (n0 : l0.length ≤ 9223372036854775807) (h1 : Ints w a1 l1) (n1 : l1.length ≤ 9223372036854775807) (m1 : ∀ n ∈ l1, -9223372036854775808 ≤ n ∧ n ≤ 9223372036854775807) :
    Calls Try.prog 4 #[.slice a0 l0.length c0, .slice a1 l1.length c1] w fun e w' => e = .returned (.bool true) ∧ Below w.heap.size w w' := by
  by_cases hs : l1.length ≤ 40
  case neg =>
    have hs' : decide (40 < l1.length) = true := decide_eq_true (by omega)
    have hs2 : (40 : Int) < (l1.length : Int) := by omega
    clear hs
    go_enter Try.func4, Try.ntmps4
    go_wp2_with ((go_at_call 14; (with_reducible refine (awake_yes _).mono ?_); rintro e w20 ⟨rfl, hb20⟩))
    go_ret
    exact ⟨rfl, (by repeat (first | (with_reducible refine Below.setCell ?_ ?_ _) | (with_reducible refine Below.alloc ?_ ?_ _) | (with_reducible refine Below.drew ?_) | (with_reducible refine below_drewN ?_ _) | (with_reducible exact Below.refl _ _) | (with_reducible refine Below.trans ?_ (Below.mono hb20 ?_)) | (focus (simp; done)) | (focus (simp; omega)) | (focus omega) | (focus (have q0 := Below.size hb20; (try simp at q0); (try simp); omega))))⟩
  have hs' : decide (40 < l1.length) = false := decide_eq_false (by omega)
  have hs2 : ¬ (40 : Int) < (l1.length : Int) := by omega
  have HCA0 := Lib.hid (show l1 ≠ [] → ∀ k, a1.map (·.block) = some k → k < w.heap.size from fun hne k hk => by
    rcases h1.open with h | ⟨b, off, rfl, hlt, _⟩
    · exact absurd h hne
    · simp at hk; omega)
  have HM1 := Lib.hid m1
  clear m1
  go_enter Try.func4, Try.ntmps4
  go_upto_region 4 with (first | (go_at_call 8; (with_reducible refine (mk_New a0 c0 l0 _ (h0.below (B := w.heap.size) (by repeat (first | (with_reducible refine Below.setCell ?_ ?_ _) | (with_reducible refine Below.alloc ?_ ?_ _) | (with_reducible refine Below.drew ?_) | (with_reducible refine below_drewN ?_ _) | (with_reducible exact Below.refl _ _) | (focus (simp; done)) | (focus (simp; omega)) | (focus omega))) (Nat.le_refl _)) n0).mono ?_); rintro e w1 ⟨rfl, hd1, hb1⟩) | (go_at_call 7; (with_reducible refine (law_line _ 30 _ _ _ 30 rfl (by omega) (by omega) hd1).mono ?_); rintro e w2 ⟨ll, k2, lm, la, lc, hlm, rfl, hll, own2, hd2, g2⟩; ((have be2 : RowKit.Below w.heap.size w w2 := hb1.grown g2 hb1.size (fun k hk => by injection hk with hk; omega)); (have cp2 := own2.cap_le))))
  have z2 := be2.size
  have hlm' := hlm.out
  have hllL : ll.length ≤ 812 := by omega
  clear hlm'
  have HNL := Lib.hid (fun h : la = none => own2.none_len h)
  have HLA2 := Lib.hid (show ∀ k, la.map (·.block) = some k → k < w2.heap.size from fun k h => own2.lt' k h)
  obtain ⟨dt, tb, hpt⟩ : ∃ dt tb, pieceS ll ll.length = ⟨true, dt, tb, false⟩ := ⟨_, _, rfl⟩
  go_upto_region 5 with (first | (go_at_call 10; (with_reducible refine (inbox_OpenA w2 _ w2.heap.size (by first | exact RowKit.Below.refl _ _ | assumption) (by first | exact Nat.le_refl _ | assumption)).mono ?_); rintro e w3 ⟨rfl, hb3, gb3⟩) | (go_at_call 9; (with_reducible refine (inbox_ReceiveP (pieceS_zero ll) hpt none 0 0 la ll lm lc (by omega) (Nat.le_refl _) (by simp) _ ⟨Own.nil _ _ _ _, rfl, by omega⟩ (own2.byt.below hb3 (Nat.le_refl _)) hlm.out cp2 (by omega)).mono ?_); rintro e w4 ⟨ta, tc, tn, htn, rfl, own4, hb4⟩))
  have z4 := hb4.size
  have b24 : RowKit.Below w2.heap.size w2 w4 := (by repeat (first | (with_reducible refine Below.setCell ?_ ?_ _) | (with_reducible refine Below.alloc ?_ ?_ _) | (with_reducible refine Below.drew ?_) | (with_reducible refine below_drewN ?_ _) | (with_reducible exact Below.refl _ _) | (with_reducible refine Below.trans ?_ (Below.mono hb4 ?_)) | (with_reducible refine Below.trans ?_ (Below.mono hb3 ?_)) | (focus (simp; done)) | (focus (simp; omega)) | (focus omega) | (focus (have q0 := Below.size hb4; (try simp at q0); have q1 := Below.size hb3; (try simp at q1); (try simp); omega))))
  have hlb := own2.byt.below b24 (Nat.le_refl _)
  have hbw : RowKit.Below w.heap.size w w4 := be2.trans (b24.mono z2)
  have htl := pieceS_len ll ll.length
  rw [hpt] at htl
  simp only at htl
  have htn' := htn.out
  have HPT := Lib.hid hpt
  obtain ⟨J, hJJ⟩ : ∃ J, w4.heap.size = J := ⟨_, rfl⟩
  refine wp_named (fun W => CtM w W J la ll a1 l1 false [] none 0 0 dt tb ta tn tc) ⟨by rw [← hJJ]; exact (Blk.new _ _ _).alloc _, ⟨Own.nil _ _ _ _, rfl, by omega⟩, by rw [← hJJ]; exact Blk.next _ _ _ _, ⟨((own4.mono (Nat.zero_le _)).alloc _).alloc _, htn', by omega⟩, (hlb.alloc _).alloc _, ((h1.below hbw (Nat.le_refl _)).alloc _).alloc _, (by repeat (first | (with_reducible refine Below.setCell ?_ ?_ _) | (with_reducible refine Below.alloc ?_ ?_ _) | (with_reducible refine Below.drew ?_) | (with_reducible refine below_drewN ?_ _) | (with_reducible exact Below.refl _ _) | (with_reducible refine Below.trans ?_ (Below.mono hbw ?_)) | (focus (simp; done)) | (focus (simp; omega)) | (focus omega) | (focus (have q0 := Below.size hbw; (try simp at q0); (try simp); omega)))), by omega⟩ ?_
  have HLA : Hid (ll ≠ [] → la.map (·.block) ≠ some J) := Lib.hid (fun _ h => by have := HLA2.out _ h; omega)
  have HCA : Hid (l1 ≠ [] → a1.map (·.block) ≠ some J) := Lib.hid (fun hne h => by have := HCA0.out hne _ h; omega)
  clear hd1 hd2 g2 own2 own4 hb1 hb3 hb4 be2 h0 h1 hlb hbw b24 z2 z4 gb3 htl htn' htn hpt
  rw [hJJ] at *
  clear hJJ HCA0 HLA2
  rintro W wm
  go_wp2_with fail
  go_loopw [8, 32] (fun s8 s32 wr => ∃ (i : Nat) (r : List UInt8) (ra : Option Addr) (rn rc : Nat) (dr : Bool) (sb : List UInt8) (sa : Option Addr) (sn sc C : Nat), s8 = .slice ra rn rc ∧ s32 = .int .i64 i ∧ i ≤ l1.length ∧ CtM w wr J la ll a1 l1 dr sb sa sn sc dt tb ta tn tc ∧ rn = r.length ∧ r = ll.drop C ∧ (∀ w0, Byt w0 la ll → Byt w0 ra r) ∧ rn ≤ rc ∧ (ra = none → rn = 0 ∧ rc = 0) ∧ C ≤ ll.length ∧ pieceS ll C = ⟨true, dr, sb, false⟩) (fun _ s _ => l1.length - (intOf s).toNat)
  case atStart => exact ⟨0, ll, la, lm, lc, false, [], none, 0, 0, 0, rfl, rfl, by omega, wm, hlm.out, rfl, fun _ h => h, cp2, HNL.out, by omega, pieceS_zero ll⟩
  case round =>
    obtain ⟨i, r, ra, rn, rc, dr, sb, sa, sn, sc, C, rfl, rfl, hi, wm, hrn, hr, hsub, hrc, hnil, hC, hp⟩ := hrel
    have hrl : rn + C = ll.length := by rw [hrn, hr, List.length_drop]; omega
    have HRN := Lib.hid hrn
    have HR := Lib.hid hr
    have HSUB := Lib.hid hsub
    have HNIL := Lib.hid hnil
    have HP := Lib.hid hp
    clear hrn hr hsub hnil hp
    obtain ⟨c0', c1', c2', c3'⟩ := wm.blk.four'
    have jl := wm.blk.lt
    by_cases hlt : i < l1.length
    · rcases wm.cts.open with h | ⟨q1, o1, rfl, ql, hc⟩
      · rw [h] at hlt; simp at hlt
      have hcell := hc i hlt
      clear hc
      obtain ⟨Q, Er, Q0, Q1⟩ := modName l1[i] (rn + 1) (by omega)
      obtain ⟨F, rfl⟩ := Int.eq_ofNat_of_zero_le Q0
      have bF : F ≤ rn := by omega
      have hFc : (F : Int) ≤ (rc : Int) := by omega
      go_upto_region 10 with ((go_at_call 15; (with_reducible refine (mk_ModE Er.out _ (by omega) (by omega)).mono ?_); rintro e w' ⟨rfl, rfl⟩))
      have Q1' := Q1
      have hCF : C + F ≤ ll.length := by omega
      obtain ⟨dr2, sb2, hp2⟩ : ∃ dr2 sb2, pieceS ll (C + F) = ⟨true, dr2, sb2, false⟩ := ⟨_, _, rfl⟩
      have HP2 := Lib.hid hp2
      clear hp2
      have hsb2 : sb2.length ≤ 256 := by have := pieceS_len ll (C + F); rw [HP2.out] at this; exact this
      obtain ⟨ra2, hra⟩ : ∃ ra2, (if rc = F then ra else Option.map (fun x => x.add F) ra) = ra2 := ⟨_, rfl⟩
      have HTL := Lib.hid (show (r.take F).length = F by rw [List.length_take, ← HRN.out]; omega)
      have HTK := Lib.hid (show r.take F = (ll.drop C).take (r.take F).length by rw [HTL.out, ← HR.out])
      have hJl := wm.blk.lt
      apply wp_region_tab [(J, (J+1))] 10 82 [some 41, some 42, some 43, some 44, some 45, some 46, some 47, some 48, none, some 8] [⟨[10], [10], [10], []⟩, ⟨[10], [], [], []⟩, ⟨[10], [], [], []⟩, ⟨[1, 2, 10], [1, 2], [1, 2], []⟩, ⟨[0, 1, 2, 3, 10], [0, 3], [0, 3], []⟩, ⟨[10], [], [], []⟩, ⟨[10], [], [], []⟩, ⟨[5, 6, 10], [5, 6], [5, 6], []⟩, ⟨[0, 1, 2, 3, 4, 10], [4, 10], [4, 10], [10]⟩, ⟨[0, 1, 2, 3, 4, 5, 6, 7, 8, 10], [7], [7], []⟩, ⟨[], [], [], []⟩] [0, 1, 2, 3, 4, 5, 6, 7, 8, 9] [4, 8, 9] [psiTrue, psiTrue, psiTrue, psiTrue, (fun f lo hi v b0 b1 W => ∃ (a' : Option Addr) (c' n' : Nat), v = .agg #[.bool true, .bool dr2, .slice a' n' c', .bool false] ∧ n' = sb2.length ∧ Own W 0 5 1 a' n' c' (sb2.map encB) ∧ ∀ k, a'.map (·.block) = some k → b0 ≤ k ∧ k < b1), psiTrue, psiTrue, psiTrue, (fun f lo hi v b0 b1 W => ∃ (a' : Option Addr) (c' n' : Nat), f 4 = .agg #[.bool true, .bool dr2, .slice a' n' c', .bool false] ∧ Blk W J 30 #[.bool true, .bool dr2, .slice a' n' c', .bool false]), psiTrue, (fun f lo hi v b0 b1 W => (b0 = J ∧ b1 = (J+1)) ∧ Blk W J 30 #[.bool true, .bool dr, .slice sa sn sc, .bool false])] [kVal _, kVal _, kVal _, kVal _, kTrue, kVal _, kVal _, kVal _, kTrue, kVal _]
      · kernel_rfl
      · kernel_rfl
      · rfl
      · rfl
      rotate_left 2
      refine ⟨?oR1_0, ?oR1_1, ?oR1_2, ?oR1_3, ?oR1_4, ?oR1_5, ?oR1_6, ?oR1_7, ?oR1_8, ?oR1_9, trivial⟩
      case hx => exact ⟨⟨by omega, by omega⟩, by simp, trivial⟩
      case hX => exact ⟨fun _ _ _ _ => ⟨⟨rfl, rfl⟩, wm.blk⟩, trivial⟩
      case oR1_0 =>
        intro f lo hi w hb hx hf hk hrg R hR; (try replace hb := BelX.zero hb); (try simp (decide := true) only [go_sem] at hf); (try simp (decide := true) only [go_sem] at hk)
        obtain ⟨-, kb⟩ := hf
        obtain ⟨e0, e1, e2, e3⟩ := kb.four'
        go_simp
        exact hR _ _ (rpost_val rfl rfl (Below.refl _ _) rfl)
      case oR1_1 => intro f lo hi w hb hx hf hk hrg R hR; (try replace hb := BelX.zero hb); (try simp (decide := true) only [go_sem] at hf); (try simp (decide := true) only [go_sem] at hk); go_simp; exact hR _ _ (rpost_val rfl rfl (Below.refl _ _) rfl)
      case oR1_2 => intro f lo hi w hb hx hf hk hrg R hR; (try replace hb := BelX.zero hb); (try simp (decide := true) only [go_sem] at hf); (try simp (decide := true) only [go_sem] at hk); go_simp; exact hR _ _ (rpost_val rfl rfl (Below.refl _ _) rfl)
      case oR1_3 => intro f lo hi w hb hx hf hk hrg R hR; (try replace hb := BelX.zero hb); (try simp (decide := true) only [go_sem] at hf); (try simp (decide := true) only [go_sem] at hk); go_simp; exact hR _ _ (rpost_val rfl rfl (Below.refl _ _) rfl)
      case oR1_4 =>
        intro f lo hi w hb hx hf hk hrg R hR; (try replace hb := BelX.zero hb); (try simp (decide := true) only [go_sem] at hf); (try simp (decide := true) only [go_sem] at hk)
        have hold : ∀ q, q < wr.heap.size → q ≠ J → w.heap[q]? = wr.heap[q]? := fun q h1 h2 => hb.2.2.2.2 q ⟨h1, fun r hr => by simp at hr; subst hr; simp only; omega⟩
        have hby : Byt w la ll := by
          by_cases hl : ll = []
          · rw [hl]; exact Byt.nil _ _
          · exact Row.keep wm.byt fun b off e q => hold b q (fun e' => HLA.out hl (by rw [e, ← e']; rfl))
        have hso : SOwn w sb sa sn sc := ⟨wm.ses.own.keep fun b e _ q => hold b q (fun e' => wm.ses.own.ne_blk wm.blk (by decide) (by rw [e, ← e']; rfl)), wm.ses.len, wm.ses.small⟩
        have hbt := (HSUB.out _ hby).take F
        clear hold hby
        go_simp
        (with_reducible refine (inbox_ReceiveP HP.out HP2.out sa sn sc ra (r.take F) F rc (by rw [HTL.out]) hCF HTK.out _ hso hbt HTL.out.symm (by omega) (by omega)).mono ?_)
        rintro e w' ⟨a', c', n', hn', rfl, own5, hb5⟩
        refine ⟨_, rfl, hR _ _ (rpost_none rfl hb5 ?_)⟩
        (try simp (decide := true) only [go_sem])
        exact ⟨a', c', n', rfl, hn'.out, own5.mono (Nat.zero_le _), fun k hk => ⟨own5.base_le k hk, own5.lt' k hk⟩⟩
      case oR1_5 => intro f lo hi w hb hx hf hk hrg R hR; (try replace hb := BelX.zero hb); (try simp (decide := true) only [go_sem] at hf); (try simp (decide := true) only [go_sem] at hk); go_simp; exact hR _ _ (rpost_val rfl rfl (Below.refl _ _) rfl)
      case oR1_6 => intro f lo hi w hb hx hf hk hrg R hR; (try replace hb := BelX.zero hb); (try simp (decide := true) only [go_sem] at hf); (try simp (decide := true) only [go_sem] at hk); go_simp; exact hR _ _ (rpost_val rfl rfl (Below.refl _ _) rfl)
      case oR1_7 => intro f lo hi w hb hx hf hk hrg R hR; (try replace hb := BelX.zero hb); (try simp (decide := true) only [go_sem] at hf); (try simp (decide := true) only [go_sem] at hk); go_simp; exact hR _ _ (rpost_val rfl rfl (Below.refl _ _) rfl)
      case oR1_8 =>
        intro f lo hi w hb hx hf hk hrg R hR; (try replace hb := BelX.zero hb); (try simp (decide := true) only [go_sem] at hf); (try simp (decide := true) only [go_sem] at hk)
        obtain ⟨⟨a', c', n', h45, -⟩, -, kb⟩ := hf
        obtain ⟨e0, e1, e2, e3⟩ := kb.four'
        have fz := kb.frozen
        have p1 : lo 10 = _ := (XOk.get _ _ hx 0 _ rfl).1
        have p2 : hi 10 = _ := (XOk.get _ _ hx 0 _ rfl).2
        go_simp
        refine hR _ _ (rpost_some rfl rfl (Touch.set4 w (List.mem_singleton.2 rfl) (Nat.le_of_eq p1) (by rw [p2]; exact Nat.lt_succ_self _) _ _ _ _) ?_)
        (try simp (decide := true) only [go_sem])
        exact ⟨a', c', n', h45, kb.set4 _ _ _ _⟩
      case oR1_9 => intro f lo hi w hb hx hf hk hrg R hR; (try replace hb := BelX.zero hb); (try simp (decide := true) only [go_sem] at hf); (try simp (decide := true) only [go_sem] at hk); go_simp; exact hR _ _ (rpost_val rfl rfl (Below.refl _ _) rfl)
      case hcl =>
        refine ⟨Closed.true _ _ _ _, Closed.true _ _ _ _, Closed.true _ _ _ _, Closed.true _ _ _ _, ?cR1_4, Closed.true _ _ _ _, Closed.true _ _ _ _, Closed.true _ _ _ _, ?cR1_8, Closed.true _ _ _ _, ?cR1_10, trivial⟩
        all_goals first
          | exact fun f lo hi v b0 b1 w w' h hs hB hown hU hX => by
              obtain ⟨a', c', n', h1, h2, own, lt⟩ := h
              exact ⟨a', c', n', h1, h2, own.keep fun b hb hl _ => by have := lt b (by rw [hb]; rfl); exact hown b this.1 this.2, lt⟩
          | exact fun f lo hi v b0 b1 w w' h hs hB hown hU hX => by
              obtain ⟨a', c', n', h1, h2⟩ := h
              exact ⟨a', c', n', h1, (hX 0 _ rfl (by simp) _ (Nat.le_refl _) (Nat.lt_succ_self _)).trans h2⟩
          | exact fun f lo hi v b0 b1 w w' h hs hB hown hU hX => by
              obtain ⟨⟨rfl, rfl⟩, kb⟩ := h
              exact ⟨⟨rfl, rfl⟩, (hown _ (Nat.le_refl _) (Nat.lt_succ_self _)).trans kb⟩
      intro f lo hi W7 hbr hx hf hk hrg; (try replace hbr := BelX.zero hbr); clear hx; (try simp (decide := true) only [go_sem] at hf); (try simp (decide := true) only [go_sem] at hk)
      obtain ⟨⟨a', c', n', h45, hn', own7, -⟩, b', d', m', h45', k7⟩ := hf
      obtain ⟨rfl, rfl, rfl⟩ : a' = b' ∧ n' = m' ∧ c' = d' := by
        rw [h45] at h45'
        simpa using h45'
      have pm7 := wm.put k7 ⟨own7, hn', by omega⟩ hbr.2.2.2.1 (fun q h1 h2 => hbr.2.2.2.2 q ⟨h1, fun r hr => by simp at hr; subst hr; simp only; omega⟩) ⟨hbr.1, hbr.2.1, hbr.2.2.1⟩ HLA.out HCA.out
      have HD := Lib.hid (show rn - F = (r.drop F).length by rw [List.length_drop, ← HRN.out])
      have HR2 := Lib.hid (show r.drop F = ll.drop (C + F) by rw [HR.out, List.drop_drop])
      have HS2 := Lib.hid (show ∀ w0, Byt w0 la ll → Byt w0 ra2 (r.drop F) from fun w0 h => by
        have := (byt_next (T := F) (HSUB.out w0 h) (by rw [← HRN.out]; exact hrc) (by rw [← HRN.out]; exact bF) (by rw [← HRN.out]; exact HNIL.out)).1
        rwa [hra] at this)
      have HN2 := Lib.hid (show ra2 = none → rn - F = 0 ∧ rc - F = 0 from fun h => by
        rw [← hra] at h
        split at h
        · have := HNIL.out h; omega
        · cases hq : ra with
          | none => have := HNIL.out hq; omega
          | some x => rw [hq] at h; simp at h)
      clear hrg hbr h45' own7 k7 hn' wm c0' c1' c2' c3' hra
      go_simp
      clear hk h45
      go_wp2_with fail
      go_roundw
      case rel => exact ⟨i + 1, r.drop F, ra2, rn - F, rc - F, dr2, sb2, a', n', c', C + F, rfl, by go_num, by omega, pm7, HD.out, HR2.out, HS2.out, by omega, HN2.out, hCF, HP2.out⟩
      case measure => simp [intOf]; omega
    · obtain rfl : i = l1.length := by omega
      have hby := HSUB.out _ wm.byt
      have hD : (dt == decide ((256 : Int) < (lm : Int))) = true := by
        have h1 := congrArg Ses.dr HPT.out
        simp only [pieceS] at h1
        rw [← h1, ← hlm.out]
        by_cases h : lm ≤ 256
        · rw [decide_eq_true h, decide_eq_false (by omega)]; rfl
        · rw [decide_eq_false h, decide_eq_true (by omega)]; rfl
      have htl : tb.length ≤ 256 := by have := pieceS_len ll ll.length; rw [HPT.out] at this; exact this
      have hJw := wm.sz
      go_upto_region 13 with ((go_at_call 9; (with_reducible refine (inbox_ReceiveP HP.out HPT.out sa sn sc ra r rn rc (by rw [← HRN.out]; omega) (Nat.le_refl _) (by rw [← HR.out, List.take_of_length_le (Nat.le_refl _)]) _ wm.ses hby HRN.out hrc (by omega)).mono ?_); rintro e w5 ⟨ua, uc, un, hun, rfl, own5, hb5⟩; ((have k5 := wm.blk.below hb5 jl); clear c0' c1' c2' c3' jl; (obtain ⟨c0', c1', c2', c3'⟩ := k5.four'); (have f5 := k5.frozen); (have jl := k5.lt))))
      refine wp_named (fun V => Blk V J 30 #[.bool true, .bool dt, .slice ua un uc, .bool false] ∧ Blk V (J + 1) 30 #[.bool true, .bool dt, .slice ta tn tc, .bool false] ∧ SOwn V tb ua un uc ∧ SOwn V tb ta tn tc ∧ RowKit.Below w.heap.size w V)
        ⟨k5.set4 _ _ _ _, (wm.blt.below hb5 wm.blt.lt).far (by simp) _ |>.far (by simp) _ |>.far (by simp) _ |>.far (by simp) _, ⟨own_four k5 (own5.mono (Nat.zero_le _)) (by decide) _ _ _ _, hun.out, by have := hun.out; omega⟩, ⟨own_four k5 (wm.set.own.below hb5 (Nat.le_refl _)) (by decide) _ _ _ _, wm.set.len, wm.set.small⟩, (by repeat (first | (with_reducible refine Below.setCell ?_ ?_ _) | (with_reducible refine Below.alloc ?_ ?_ _) | (with_reducible refine Below.drew ?_) | (with_reducible refine below_drewN ?_ _) | (with_reducible exact Below.refl _ _) | (with_reducible refine Below.trans ?_ (Below.mono hb5 ?_)) | (with_reducible refine Below.trans ?_ (Below.mono wm.be ?_)) | (focus (simp; done)) | (focus (simp; omega)) | (focus omega) | (focus (have q0 := Below.size hb5; (try simp at q0); have q1 := Below.size wm.be; (try simp at q1); (try simp); omega))))⟩ ?_
      clear c0' c1' c2' c3' jl f5 k5 own5 hb5 hby hun wm
      rintro V ⟨kJ, kT, sJ, sT, be⟩
      obtain ⟨c0', c1', c2', c3'⟩ := kJ.four'
      have jl := kJ.lt
      go_upto_region 14 with ((go_at_call 11; (with_reducible refine (inbox_TakeO dt false tb ua un uc _ sJ.at).mono ?_); rintro e w6 ⟨st, ra6, rc6, rn6, its, ia, ic, im, hst, hrn6, him, hk6, h56, -, rfl, -, owi, pays, hb6⟩))
      refine wp_named (fun U => Blk U J 30 #[.bool true, .bool dt, .slice ua un uc, .bool false] ∧ Blk U (J + 1) 30 #[.bool true, .bool dt, .slice ta tn tc, .bool false] ∧ SOwn U tb ua un uc ∧ SOwn U tb ta tn tc ∧ Blk U (w6.heap.size + 1) 35 #[.bool true, .slice ia im ic] ∧ Items U ia its ∧ RowKit.Below w.heap.size w U)
        ⟨((kJ.below hb6 jl).alloc _).alloc _, ((kT.below hb6 kT.lt).alloc _).alloc _, ⟨((sJ.own.below hb6 (Nat.le_refl _)).alloc _).alloc _, sJ.len, sJ.small⟩, ⟨((sT.own.below hb6 (Nat.le_refl _)).alloc _).alloc _, sT.len, sT.small⟩, Blk.next _ _ _ _, ((items_of (by rw [← him.out]; exact owi) pays).alloc _).alloc _, (by repeat (first | (with_reducible refine Below.setCell ?_ ?_ _) | (with_reducible refine Below.alloc ?_ ?_ _) | (with_reducible refine Below.drew ?_) | (with_reducible refine below_drewN ?_ _) | (with_reducible exact Below.refl _ _) | (with_reducible refine Below.trans ?_ (Below.mono hb6 ?_)) | (with_reducible refine Below.trans ?_ (Below.mono be ?_)) | (focus (simp; done)) | (focus (simp; omega)) | (focus omega) | (focus (have q0 := Below.size hb6; (try simp at q0); have q1 := Below.size be; (try simp at q1); (try simp); omega))))⟩ ?_
      clear c0' c1' c2' c3' jl kJ kT sJ sT owi pays hb6 be
      rintro U ⟨kJ, kT, sJ, sT, kI, hits, be⟩
      obtain ⟨d0', d1', d2', d3'⟩ := kT.four'
      have tl := kT.lt
      go_upto_region 15 with ((go_at_call 11; (with_reducible refine (inbox_TakeO dt false tb ta tn tc _ sT.at).mono ?_); rintro e w7 ⟨st7, ra7, rc7, rn7, its7, ia7, ic7, im7, hst7, hrn7, him7, hk7, h57, -, rfl, -, owi7, pays7, hb7⟩))
      obtain rfl : st = st7 := hst.out.symm.trans hst7.out
      have HKK := Lib.hid (show its.map It.key = its7.map It.key from hk6.out.trans hk7.out.symm)
      refine wp_named (fun U => Blk U J 30 #[.bool true, .bool dt, .slice ua un uc, .bool false] ∧ Blk U (J + 1) 30 #[.bool true, .bool dt, .slice ta tn tc, .bool false] ∧ Byt U ua tb ∧ Byt U ta tb ∧ Blk U (w6.heap.size + 1) 35 #[.bool true, .slice ia im ic] ∧ Items U ia its ∧ Blk U (w7.heap.size + 1) 35 #[.bool true, .slice ia7 im7 ic7] ∧ Items U ia7 its7 ∧ RowKit.Below w.heap.size w U)
        ⟨((kJ.below hb7 kJ.lt).alloc _).alloc _, ((kT.below hb7 kT.lt).alloc _).alloc _, ((sJ.own.below hb7 (Nat.le_refl _)).byt.alloc _).alloc _, ((sT.own.below hb7 (Nat.le_refl _)).byt.alloc _).alloc _, ((kI.below hb7 kI.lt).alloc _).alloc _, ((hits.below hb7 (Nat.le_refl _)).alloc _).alloc _, Blk.next _ _ _ _, ((items_of (by rw [← him7.out]; exact owi7) pays7).alloc _).alloc _, (by repeat (first | (with_reducible refine Below.setCell ?_ ?_ _) | (with_reducible refine Below.alloc ?_ ?_ _) | (with_reducible refine Below.drew ?_) | (with_reducible refine below_drewN ?_ _) | (with_reducible exact Below.refl _ _) | (with_reducible refine Below.trans ?_ (Below.mono hb7 ?_)) | (with_reducible refine Below.trans ?_ (Below.mono be ?_)) | (focus (simp; done)) | (focus (simp; omega)) | (focus omega) | (focus (have q0 := Below.size hb7; (try simp at q0); have q1 := Below.size be; (try simp at q1); (try simp); omega))))⟩ ?_
      have ljn := sJ.len
      have ltn := sT.len
      have LJ := Lib.hid ljn
      have LT := Lib.hid ltn
      clear d0' d1' d2' d3' tl kJ kT sJ sT kI hits owi7 pays7 hb7 be ljn ltn
      rintro U' ⟨kJ, kT, sJ, sT, kI, hits, kI7, hits7, be⟩
      obtain ⟨c0', c1', c2', c3'⟩ := kJ.four'
      obtain ⟨d0', d1', d2', d3'⟩ := kT.four'
      have i0 := kI.cell 0
      have i1 := kI.cell 1
      have j0 := kI7.cell 0
      have j1 := kI7.cell 1
      have l1 := kJ.lt
      have l2 := kT.lt
      have l3 := kI.lt
      have l4 := kI7.lt
      go_wp2_with (first | (go_at_call 16; (with_reducible refine (ref25_SameY true dt false tb ua ta un tn uc tc _ sJ sT LJ.out LT.out).mono ?_); rintro e w8 ⟨rfl, hb8⟩; ((have k8 := kI.below hb8 l3); (have k9 := kI7.below hb8 l4); (have kj8 := kJ.below hb8 l1); clear i0 i1 j0 j1 c1'; (have c1' := kj8.cell 1); (have i0 := k8.cell 0); (have i1 := k8.cell 1); (have j0 := k9.cell 0); (have j1 := k9.cell 1); (have l8 := kj8.lt))) | (go_at_call 17; (with_reducible refine (ref25_SameInY true its its7 ia ia7 im im7 ic ic7 _ (hits.below hb8 (Nat.le_refl _)) (hits7.below hb8 (Nat.le_refl _)) him.out him7.out (by omega) (by omega) HKK.out).mono ?_); rintro e w9 ⟨rfl, hb9⟩; ((have kj9 := kj8.below hb9 l8); clear c1'; (have c1' := kj9.cell 1))) | (go_at_call 14; (with_reducible refine (awake_yes _).mono ?_); rintro e w20 ⟨rfl, hb20⟩))
      go_ret
      exact ⟨rfl, (by repeat (first | (with_reducible refine Below.setCell ?_ ?_ _) | (with_reducible refine Below.alloc ?_ ?_ _) | (with_reducible refine Below.drew ?_) | (with_reducible refine below_drewN ?_ _) | (with_reducible exact Below.refl _ _) | (with_reducible refine Below.trans ?_ (Below.mono hb20 ?_)) | (with_reducible refine Below.trans ?_ (Below.mono hb9 ?_)) | (with_reducible refine Below.trans ?_ (Below.mono hb8 ?_)) | (with_reducible refine Below.trans ?_ (Below.mono be ?_)) | (focus (simp; done)) | (focus (simp; omega)) | (focus omega) | (focus (have q0 := Below.size hb20; (try simp at q0); have q1 := Below.size hb9; (try simp at q1); have q2 := Below.size hb8; (try simp at q2); have q3 := Below.size be; (try simp at q3); (try simp); omega))))⟩
end Go.Proofs.Ytlfccoakodnbaaa
