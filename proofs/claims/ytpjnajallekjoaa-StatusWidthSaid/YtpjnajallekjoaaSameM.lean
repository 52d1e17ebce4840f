/- signalbrokerref05.Same -/
import Derived.Test.YtpjnajallekjoaaEncode
import Derived.Test.YtpjnajallekjoaaStr
import Derived.Deep.DeepCutAuto
import Derived.Outline
namespace Go.Proofs.Ytpjnajallekjoaa
open Go.RowKit Go.Sort
set_option maxRecDepth 20000

noncomputable def sameM (m n : Msg) : Bool := @decide (m = n) (Classical.propDecidable _)
theorem sameM_iff {m n : Msg} : sameM m n = true ↔ m = n := by unfold sameM; exact @decide_eq_true_iff (m = n) (Classical.propDecidable _)
theorem sameM_yes {m n : Msg} (h : m = n) : sameM m n = true := sameM_iff.2 h
theorem sameM_no {m n : Msg} (h : m ≠ n) : sameM m n = false := by
  rw [← Bool.not_eq_true, sameM_iff]; exact h
theorem MsgAt.below {w w' : World} {m : Msg} {ta : Option Addr} {tc : Nat} {aa da : Option Addr} {B : Nat} (h : MsgAt w m ta tc aa da) (hb : Below B w w') (hB : w.heap.size ≤ B) : MsgAt w' m ta tc aa da :=
  ⟨h.tok.below hb hB, h.args.below hb hB, h.dat.below hb hB, h.nil, h.len⟩

theorem Blk.nextS (w : World) (o : Obj) (e : TypeId) (C : Array Value) : Blk ((w.alloc o).alloc (.cells C e)) (w.heap.size + 1) e C := by
  have h := Blk.new (w.alloc o) e C
  rwa [show (w.alloc o).heap.size = w.heap.size + 1 by simp] at h
set_option maxHeartbeats 4000000 in
theorem ref05_Same (m n : Msg) (ta : Option Addr) (tc : Nat) (aa da : Option Addr) (ac dc : Nat) (sa : Option Addr) (sc : Nat) (ba fa : Option Addr) (bc fc : Nat) (w : World) (hm : MsgAt w m ta tc aa da) (hn : MsgAt w n sa sc ba fa)
    {x0 y0 : Int} {x1 x2 x3 y1 y2 y3 : Nat} (p0 : x0 = m.kind) (p1 : x1 = m.tok.length) (p2 : x2 = m.args.length) (p3 : x3 = m.dat.length) (r0 : y0 = n.kind) (r1 : y1 = n.tok.length) (r2 : y2 = n.args.length) (r3 : y3 = n.dat.length) :
    Calls Try.prog 14 #[.agg #[.int .i64 x0, .slice ta x1 tc, .slice aa x2 ac, .slice da x3 dc], .agg #[.int .i64 y0, .slice sa y1 sc, .slice ba y2 bc, .slice fa y3 fc]] w fun e w' => e = .returned (.bool (sameM m n)) ∧ Below w.heap.size w w' := by
  obtain ⟨k1, t1, a1, d1⟩ := m
  obtain ⟨k2, t2, a2, d2⟩ := n
  simp only at p0 p1 p2 p3 r0 r1 r2 r3
  subst p0 p1 p2 p3 r0 r1 r2 r3
  have L1 := hm.len
  have L2 := hn.len
  simp only at L1 L2
  go_enter Try.func14, Try.ntmps14
  go_upto_region 1 with fail
  refine wp_named (fun W => Blk W w.heap.size 44 #[.int .i64 x0, .slice ta t1.length tc, .slice aa a1.length ac, .slice da d1.length dc] ∧ Blk W (w.heap.size + 1) 44 #[.int .i64 y0, .slice sa t2.length sc, .slice ba a2.length bc, .slice fa d2.length fc] ∧ MsgAt W ⟨x0, t1, a1, d1⟩ ta tc aa da ∧ MsgAt W ⟨y0, t2, a2, d2⟩ sa sc ba fa ∧ RowKit.Below w.heap.size w W) ⟨(Blk.new _ _ _).alloc _, Blk.nextS _ _ _ _, hm.below (by repeat (first | (with_reducible refine Below.setCell ?_ ?_ _) | (with_reducible refine Below.alloc ?_ ?_ _) | (with_reducible refine Below.drew ?_) | (with_reducible refine below_drewN ?_ _) | (with_reducible exact Below.refl _ _) | (focus (simp; done)) | (focus (simp; omega)) | (focus omega))) (Nat.le_refl _), hn.below (by repeat (first | (with_reducible refine Below.setCell ?_ ?_ _) | (with_reducible refine Below.alloc ?_ ?_ _) | (with_reducible refine Below.drew ?_) | (with_reducible refine below_drewN ?_ _) | (with_reducible exact Below.refl _ _) | (focus (simp; done)) | (focus (simp; omega)) | (focus omega))) (Nat.le_refl _), (by repeat (first | (with_reducible refine Below.setCell ?_ ?_ _) | (with_reducible refine Below.alloc ?_ ?_ _) | (with_reducible refine Below.drew ?_) | (with_reducible refine below_drewN ?_ _) | (with_reducible exact Below.refl _ _) | (focus (simp; done)) | (focus (simp; omega)) | (focus omega)))⟩ ?_
  rintro W ⟨kb, kc, hm, hn, kbe⟩
  obtain ⟨q0, q1, q2, q3⟩ := kb.four
  obtain ⟨u0, u1, u2, u3⟩ := kc.four
  have ql := kb.lt
  have ul := kc.lt
  by_cases c1 : x0 ≠ y0
  · have HF := Lib.hid (sameM_no (m := ⟨x0, t1, a1, d1⟩) (n := ⟨y0, t2, a2, d2⟩) (fun q => by injection q with q _ _ _; exact c1 q))
    have z1 : (x0 != y0) = true := by rw [bne_iff_ne]; exact c1
    clear c1
    go_wp2
    go_ret
    exact ⟨ret_bool HF.out.symm, (by repeat (first | (with_reducible refine Below.setCell ?_ ?_ _) | (with_reducible refine Below.alloc ?_ ?_ _) | (with_reducible refine Below.drew ?_) | (with_reducible refine below_drewN ?_ _) | (with_reducible exact Below.refl _ _) | (with_reducible refine Below.trans ?_ (Below.mono kbe ?_)) | (focus (simp; done)) | (focus (simp; omega)) | (focus omega) | (focus (have q0 := Below.size kbe; (try simp at q0); (try simp); omega))))⟩
  obtain rfl : x0 = y0 := Decidable.of_not_not c1
  have z1 : (x0 != x0) = false := by simp
  clear c1
  obtain ⟨S1, hS1⟩ : ∃ s : ByteArray, s = ⟨t1.toArray⟩ := ⟨_, rfl⟩
  obtain ⟨S2, hS2⟩ : ∃ s : ByteArray, s = ⟨t2.toArray⟩ := ⟨_, rfl⟩
  obtain ⟨S3, hS3⟩ : ∃ s : ByteArray, s = ⟨d1.toArray⟩ := ⟨_, rfl⟩
  obtain ⟨S4, hS4⟩ : ∃ s : ByteArray, s = ⟨d2.toArray⟩ := ⟨_, rfl⟩
  have k1 : (convert 40 9 (.slice ta t1.length tc)).run Try.prog W = .ok (.string S1) W := by rw [hS1]; exact conv_str hm.tok rfl
  have k2 : (convert 40 9 (.slice sa t2.length sc)).run Try.prog W = .ok (.string S2) W := by rw [hS2]; exact conv_str hn.tok rfl
  have k3 : (convert 40 9 (.slice da d1.length dc)).run Try.prog W = .ok (.string S3) W := by rw [hS3]; exact conv_str hm.dat rfl
  have k4 : (convert 40 9 (.slice fa d2.length fc)).run Try.prog W = .ok (.string S4) W := by rw [hS4]; exact conv_str hn.dat rfl
  by_cases c2 : t1 ≠ t2
  · have HF := Lib.hid (sameM_no (m := ⟨x0, t1, a1, d1⟩) (n := ⟨x0, t2, a2, d2⟩) (fun q => by injection q with _ q _ _; exact c2 q))
    have z2 : (S1.toList == S2.toList) = false := by rw [hS1, hS2]; exact str_ne c2
    clear c2 hS1 hS2 hS3 hS4 hm hn
    go_wp2
    go_ret
    exact ⟨ret_bool HF.out.symm, (by repeat (first | (with_reducible refine Below.setCell ?_ ?_ _) | (with_reducible refine Below.alloc ?_ ?_ _) | (with_reducible refine Below.drew ?_) | (with_reducible refine below_drewN ?_ _) | (with_reducible exact Below.refl _ _) | (with_reducible refine Below.trans ?_ (Below.mono kbe ?_)) | (focus (simp; done)) | (focus (simp; omega)) | (focus omega) | (focus (have q0 := Below.size kbe; (try simp at q0); (try simp); omega))))⟩
  obtain rfl : t1 = t2 := Decidable.of_not_not c2
  obtain rfl : S1 = S2 := by rw [hS1, hS2]
  clear c2
  by_cases c3 : d1 ≠ d2
  · have HF := Lib.hid (sameM_no (m := ⟨x0, t1, a1, d1⟩) (n := ⟨x0, t1, a2, d2⟩) (fun q => by injection q with _ _ _ q; exact c3 q))
    have z2 : (S3.toList == S4.toList) = false := by rw [hS3, hS4]; exact str_ne c3
    clear c3 hS1 hS2 hS3 hS4 hm hn
    go_wp2
    go_ret
    exact ⟨ret_bool HF.out.symm, (by repeat (first | (with_reducible refine Below.setCell ?_ ?_ _) | (with_reducible refine Below.alloc ?_ ?_ _) | (with_reducible refine Below.drew ?_) | (with_reducible refine below_drewN ?_ _) | (with_reducible exact Below.refl _ _) | (with_reducible refine Below.trans ?_ (Below.mono kbe ?_)) | (focus (simp; done)) | (focus (simp; omega)) | (focus omega) | (focus (have q0 := Below.size kbe; (try simp at q0); (try simp); omega))))⟩
  obtain rfl : d1 = d2 := Decidable.of_not_not c3
  obtain rfl : S3 = S4 := by rw [hS3, hS4]
  clear c3
  by_cases c4 : a1.length ≠ a2.length
  · have HF := Lib.hid (sameM_no (m := ⟨x0, t1, a1, d1⟩) (n := ⟨x0, t1, a2, d1⟩) (fun q => by injection q with _ _ q _; exact c4 (by rw [q])))
    have z2 : ((a1.length : Int) != (a2.length : Int)) = true := by rw [bne_iff_ne]; omega
    clear c4 hS1 hS2 hS3 hS4 hm hn
    go_wp2
    go_ret
    exact ⟨ret_bool HF.out.symm, (by repeat (first | (with_reducible refine Below.setCell ?_ ?_ _) | (with_reducible refine Below.alloc ?_ ?_ _) | (with_reducible refine Below.drew ?_) | (with_reducible refine below_drewN ?_ _) | (with_reducible exact Below.refl _ _) | (with_reducible refine Below.trans ?_ (Below.mono kbe ?_)) | (focus (simp; done)) | (focus (simp; omega)) | (focus omega) | (focus (have q0 := Below.size kbe; (try simp at q0); (try simp); omega))))⟩
  have hlen : a1.length = a2.length := Decidable.of_not_not c4
  have z2 : ((a1.length : Int) != (a2.length : Int)) = false := by rw [bne_eq_false_iff_eq]; omega
  have ia := hm.args
  have ib := hn.args
  clear c4 hS1 hS2 hS3 hS4 hm hn
  go_upto_region 3 with fail
  clear k1 k2 k3 k4 z1
  go_wp2
  go_loop [42] (fun i => ∃ k : Nat, k ≤ a1.length ∧ i = .int .i64 k ∧ a1.take k = a2.take k) (fun i => a1.length - (intOf i).toNat)
  case atStart => exact ⟨0, by omega, rfl, rfl⟩
  case round =>
    obtain ⟨k, hk, rfl, heq⟩ := hrel
    have HE := Lib.hid heq
    clear heq
    by_cases hlt : k < a1.length
    · have h2 : k < a2.length := by omega
      have hi : (k : Int) < (a1.length : Int) := by omega
      have hj : (k : Int) < (a2.length : Int) := by omega
      rcases ia.open with h | ⟨b, off, rfl, hbl, hc⟩
      · rw [h] at hlt; simp at hlt
      rcases ib.open with h | ⟨b2, off2, rfl, hbl2, hc2⟩
      · rw [h] at h2; simp at h2
      have e1 := hc k hlt
      have e2 := hc2 k h2
      obtain ⟨x, hx⟩ : ∃ x, a1[k] = x := ⟨_, rfl⟩
      obtain ⟨y, hy⟩ : ∃ y, a2[k] = y := ⟨_, rfl⟩
      rw [hx] at e1
      rw [hy] at e2
      have HX := Lib.hid hx
      have HY := Lib.hid hy
      clear hx hy hc hc2
      by_cases c : y ≠ x
      · have z : (y != x) = true := by rw [bne_iff_ne]; exact c
        have HF := Lib.hid (sameM_no (m := ⟨x0, t1, a1, d1⟩) (n := ⟨x0, t1, a2, d1⟩) (fun q => by
          injection q with _ _ q _
          apply c
          rw [← HX.out, ← HY.out]
          simp only [q]))
        clear c
        go_wp2
        go_ret
        exact ⟨ret_bool HF.out.symm, (by repeat (first | (with_reducible refine Below.setCell ?_ ?_ _) | (with_reducible refine Below.alloc ?_ ?_ _) | (with_reducible refine Below.drew ?_) | (with_reducible refine below_drewN ?_ _) | (with_reducible exact Below.refl _ _) | (with_reducible refine Below.trans ?_ (Below.mono kbe ?_)) | (focus (simp; done)) | (focus (simp; omega)) | (focus omega) | (focus (have q0 := Below.size kbe; (try simp at q0); (try simp); omega))))⟩
      · obtain rfl : y = x := Decidable.of_not_not c
        have z : (y != y) = false := by simp
        go_wp2
        go_round
        case rel => exact ⟨k + 1, by omega, by go_num, by
          rw [List.take_succ_eq_append_getElem hlt, List.take_succ_eq_append_getElem h2, HE.out, HX.out, HY.out]⟩
        case measure => simp [intOf]; omega
    · have HF := Lib.hid (sameM_yes (m := ⟨x0, t1, a1, d1⟩) (n := ⟨x0, t1, a2, d1⟩) (by
        have := HE.out
        rw [List.take_of_length_le (by omega), List.take_of_length_le (by omega)] at this
        rw [this]))
      have hi : ¬ ((k : Int) < (a1.length : Int)) := by omega
      go_wp2
      go_ret
      exact ⟨ret_bool HF.out.symm, (by repeat (first | (with_reducible refine Below.setCell ?_ ?_ _) | (with_reducible refine Below.alloc ?_ ?_ _) | (with_reducible refine Below.drew ?_) | (with_reducible refine below_drewN ?_ _) | (with_reducible exact Below.refl _ _) | (with_reducible refine Below.trans ?_ (Below.mono kbe ?_)) | (focus (simp; done)) | (focus (simp; omega)) | (focus omega) | (focus (have q0 := Below.size kbe; (try simp at q0); (try simp); omega))))⟩
end Go.Proofs.Ytpjnajallekjoaa
