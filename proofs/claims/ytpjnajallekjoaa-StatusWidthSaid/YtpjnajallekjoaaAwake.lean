/- signalbrokerlaw24.awake -/
import Derived.Test.YtpjnajallekjoaaStMsg
namespace Go.Proofs.Ytpjnajallekjoaa
set_option linter.unusedVariables false
open Go.RowKit Go.Sort
set_option maxRecDepth 100000

theorem status_CodesE {rs : List Rk} {vs : List Vk} {q : Nat} {now : Int} {bs : List UInt8} (hb : Hid (codesM rs q vs now = bs)) {qi : Int} (hqi : qi = (q : Int)) (a : Option Addr) (l : List Rq) (n c : Nat) (va : Option Addr) (its : List Vx) (vn vc : Nat) (w : World) (h : Rqs w a l) (hn : n = l.length) (hv : Vws w va its) (hvn : vn = its.length) (hq : q ≤ 1000) (hl : ∀ r ∈ l, r.legs.length ≤ 1000) (hl9 : l.length ≤ 100000) (hr : Hid (l.map Rq.key = rs)) (hvs : Hid (its.map Vx.key = vs)) :
    Calls Try.prog 12 #[.slice a n c, .int .i64 qi, .slice va vn vc, .int .i64 now] w (CodesR bs w) := by
  have := status_Codes a l n c q va its vn vc now w h hn hv hvn hq hl hl9
  rw [hr.out, hvs.out, hb.out] at this
  rw [hqi]
  exact this
theorem ref24_CodesE {rs : List Rk} {vs : List Vk} {q : Nat} {now : Int} {bs : List UInt8} (hb : Hid (codesM rs q vs now = bs)) {qi : Int} (hqi : qi = (q : Int)) (a : Option Addr) (l : List Rq) (n c : Nat) (va : Option Addr) (its : List Vx) (vn vc : Nat) (w : World) (h : Rqs w a l) (hn : n = l.length) (hv : Vws w va its) (hvn : vn = its.length) (hq : q ≤ 1000) (hl : ∀ r ∈ l, r.legs.length ≤ 1000) (hl9 : l.length ≤ 100000) (hr : Hid (l.map Rq.key = rs)) (hvs : Hid (its.map Vx.key = vs)) :
    Calls Try.prog 13 #[.slice a n c, .int .i64 qi, .slice va vn vc, .int .i64 now] w (CodesR bs w) := by
  have := ref24_Codes a l n c q va its vn vc now w h hn hv hvn hq hl hl9
  rw [hr.out, hvs.out, hb.out] at this
  rw [hqi]
  exact this
theorem ints_one {w : World} {b : Nat} {x : Int} (h : Blk w b 3 #[.int .i64 x]) : Ints w (some ⟨b, 0, none⟩) [x] := Blk.rowL (enc := encI) (l := [x]) h
theorem Blk.rowA {w : World} {g : Nat} {t : TypeId} {cs : Array Value} (h : Blk w g t cs) : Row w (some ⟨g, 0, none⟩) cs.toList := .inr ⟨g, 0, rfl, h.lt, fun i hi => by
  rw [Nat.zero_add, h.cell]
  simp at hi
  simp [hi]⟩
set_option maxHeartbeats 4000000 in
theorem awake_yes (w : World) : Calls Try.prog 11 #[] w fun e w' => e = .returned (.bool true) ∧ Below w.heap.size w w' := by
  have HB : Hid (codesM [(0, 0, 0, 0, [⟨0, 0, 0, 5, 0⟩])] 1 [(false, false, [1], [0])] 3 = [2, 0, 0]) := Lib.hid (by decide)
  obtain ⟨rl, hrl⟩ : ∃ rl : List Rq, [⟨0, 0, 0, 0, [⟨0, 0, 0, 5, 0⟩], some ⟨w.heap.size, 0, none⟩, 1⟩] = rl := ⟨_, rfl⟩
  have HRL := Lib.hid hrl
  clear hrl
  have HRK : Hid (rl.map Rq.key = [(0, 0, 0, 0, [⟨0, 0, 0, 5, 0⟩])]) := Lib.hid (by rw [← HRL.out]; rfl)
  have HR := Lib.hid (show ∀ (W : World) (M : Nat), Row W (some ⟨w.heap.size, 0, none⟩) [.int .i64 0, .int .i64 0, .int .i64 0, .int .i64 5, .int .i64 0] → Row W (some ⟨M, 0, none⟩) [.int .i64 0, .int .i64 0, .int .i64 0, .int .i64 0, .slice (some ⟨w.heap.size, 0, none⟩) 1 1] → Rqs W (some ⟨M, 0, none⟩) rl from fun W M h1 h2 => by
    rw [← HRL.out]
    exact ⟨h2, fun r hr => by rw [List.mem_singleton.1 hr]; exact h1⟩)
  go_enter Try.func11, Try.ntmps11
  go_upto_region 2 with fail
  refine wp_named (fun W => Blk W w.heap.size 34 #[.int .i64 0, .int .i64 0, .int .i64 0, .int .i64 5, .int .i64 0] ∧ Blk W (w.heap.size + 1) 32 #[.int .i64 0, .int .i64 0, .int .i64 0, .int .i64 0, .slice (some ⟨w.heap.size, 0, none⟩) 1 1] ∧ RowKit.Below w.heap.size w W) ⟨(Blk.new _ _ _).alloc _, Blk.next _ _ _ _, (by repeat (first | (with_reducible refine Below.setCell ?_ ?_ _) | (with_reducible refine Below.alloc ?_ ?_ _) | (with_reducible refine Below.drew ?_) | (with_reducible refine below_drewN ?_ _) | (with_reducible exact Below.refl _ _) | (focus (simp; done)) | (focus (simp; omega)) | (focus omega)))⟩ ?_
  rintro W ⟨kL, kR, be⟩
  obtain ⟨v0, v1, v2, v3, v4, vf, vl⟩ := kR.five
  obtain ⟨M, hM⟩ : ∃ M, W.heap.size = M := ⟨_, rfl⟩
  obtain ⟨vs, hvs⟩ : ∃ vs : List Vx, [⟨false, false, [1], [0], some ⟨M + 1, 0, none⟩, 1, some ⟨M + 1 + 1, 0, none⟩, 1⟩] = vs := ⟨_, rfl⟩
  have HVS := Lib.hid hvs
  clear hvs
  have HVK : Hid (vs.map Vx.key = [(false, false, [1], [0])]) := Lib.hid (by rw [← HVS.out]; rfl)
  have HV := Lib.hid (show ∀ W : World, Blk W (M + 1) 3 #[.int .i64 1] → Blk W (M + 1 + 1) 3 #[.int .i64 0] → Row W (some ⟨M + 1 + 1 + 1, 0, none⟩) [.bool false, .bool false, .slice (some ⟨M + 1, 0, none⟩) 1 1, .slice (some ⟨M + 1 + 1, 0, none⟩) 1 1] → Vws W (some ⟨M + 1 + 1 + 1, 0, none⟩) vs from fun W h1 h2 h3 => by
    rw [← HVS.out]
    exact ⟨h3, fun v hv => by rw [List.mem_singleton.1 hv]; exact ints_one h1, fun v hv => by rw [List.mem_singleton.1 hv]; exact ints_one h2⟩)
  have HR1 : Hid (1 = rl.length) := Lib.hid (by rw [← HRL.out]; rfl)
  have HV1 : Hid (1 = vs.length) := Lib.hid (by rw [← HVS.out]; rfl)
  have HRG : Hid (∀ r ∈ rl, r.legs.length ≤ 1000) := Lib.hid (by rw [← HRL.out]; intro r hr; rw [List.mem_singleton.1 hr]; show 1 ≤ 1000; decide)
  obtain ⟨q0, q1, q2, q3, q4⟩ := four_at W #[.int .i64 0, .int .i64 0, .int .i64 0, .int .i64 0, .slice (some ⟨w.heap.size, 0, none⟩) 1 1] #[.int .i64 1] #[.int .i64 0] #[.bool false, .bool false, .slice (some ⟨M + 1, 0, none⟩) 1 1, .slice (some ⟨M + 1 + 1, 0, none⟩) 1 1] 32 3 3 36
  rw [hM] at q0 q1 q2 q3
  have RQ := HR.out _ M ((kL.below (w' := _) q4 (by rw [hM]; exact Nat.lt_of_lt_of_le kL.lt (by omega))).rowA) q0.rowA
  have VW := HV.out _ q1 q2 q3.rowA
  have RQ := Lib.hid RQ
  have VW := Lib.hid VW
  clear q0 q1 q2 q3 q4
  go_upto_region 3 with ((go_at_call 12; (with_reducible refine (status_CodesE HB (q := 1) (qi := 1) rfl (some ⟨M, 0, none⟩) rl 1 1 (some ⟨M + 1 + 1 + 1, 0, none⟩) vs 1 1 _ RQ.out HR1.out VW.out HV1.out (by decide) HRG.out (by have := HR1.out; omega) HRK HVK).mono ?_); rintro e w2 ⟨ca, cc, cn, rfl, hcn, own, hb2⟩))
  obtain rfl : cn = 3 := hcn.out
  have hbyt := own.byt
  have be2 : RowKit.Below w.heap.size w w2 := (by repeat (first | (with_reducible refine Below.setCell ?_ ?_ _) | (with_reducible refine Below.alloc ?_ ?_ _) | (with_reducible refine Below.drew ?_) | (with_reducible refine below_drewN ?_ _) | (with_reducible exact Below.refl _ _) | (with_reducible refine Below.trans ?_ (Below.mono hb2 ?_)) | (with_reducible refine Below.trans ?_ (Below.mono be ?_)) | (focus (simp; done)) | (focus (simp; omega)) | (focus omega) | (focus (have q0 := Below.size hb2; (try simp at q0); have q1 := Below.size be; (try simp at q1); (try simp); omega))))
  clear hcn own
  have kS : ∀ W, RowKit.Below w2.heap.size w2 W → (convert 40 9 (.slice ca 3 cc)).run Try.prog W = .ok (.string ⟨#[2, 0, 0]⟩) W := fun W hW => conv_str (hbyt.below hW (Nat.le_refl _)) rfl
  have FE : Hid (∀ W : World, Calls Try.prog 18 #[.int .i64 7, .slice none 0 0] W (MsgSR 21 7 [] W)) := Lib.hid fun W => status_Feed none [] 0 0 7 W ⟨.inl rfl, by simp, by simp⟩ rfl (by simp) (by decide)
  go_upto_region 4 with ((go_at_call 18; (with_reducible refine (FE.out _).mono ?_); rintro e w3 ⟨aa, da, dn, dc, rfl, hdn, hma, hb3⟩))
  have kS3 := kS _ (hb3.alloc hb3.size (.cells #[.int .i64 21, .slice none 0 0, .slice aa 1 1, .slice da dn dc] 44))
  obtain ⟨ab, ao, rfl, hal, hac⟩ := hma.args.open.resolve_left (by simp)
  have a0 := hac 0 (by simp)
  simp only [Nat.add_zero, List.getElem_cons_zero] at a0
  clear kS hac hma
  go_wp2_with fail
  go_ret
  exact ⟨rfl, (by repeat (first | (with_reducible refine Below.setCell ?_ ?_ _) | (with_reducible refine Below.alloc ?_ ?_ _) | (with_reducible refine Below.drew ?_) | (with_reducible refine below_drewN ?_ _) | (with_reducible exact Below.refl _ _) | (with_reducible refine Below.trans ?_ (Below.mono hb3 ?_)) | (with_reducible refine Below.trans ?_ (Below.mono be2 ?_)) | (focus (simp; done)) | (focus (simp; omega)) | (focus omega) | (focus (have q0 := Below.size hb3; (try simp at q0); have q1 := Below.size be2; (try simp at q1); (try simp); omega))))⟩
end Go.Proofs.Ytpjnajallekjoaa
