/- signalbrokerref23.Parse -/
import Derived.Test.YtdkifkbnkedbpaaRecPar
namespace Go.Proofs.Ytdkifkbnkedbpaa
set_option linter.unusedVariables false
open Go.RowKit Go.Sort
set_option maxRecDepth 100000

/-- the blocks of a row, as a range -/
theorem Own.range {w : World} {base : Nat} {e : TypeId} {size n cap : Nat} {a : Option Addr} {xs : List Value} (h : Own w base e size a n cap xs) : ∃ gl gh, gl ≤ gh ∧ gh ≤ gl + 1 ∧ gh ≤ w.heap.size ∧ ((gl = 0 ∧ gh = 0) ∨ (base ≤ gl ∧ gh = gl + 1)) ∧ ∀ k, a.map (·.block) = some k ↔ gl ≤ k ∧ k < gh := by
  cases haa : a with
  | none => exact ⟨0, 0, Nat.le_refl _, Nat.zero_le _, Nat.zero_le _, .inl ⟨rfl, rfl⟩, fun k => by simp⟩
  | some ad =>
    have q1 := h.base_le ad.block (by rw [haa]; rfl)
    have q2 := h.lt' ad.block (by rw [haa]; rfl)
    exact ⟨ad.block, ad.block + 1, by omega, by omega, by omega, .inr ⟨q1, rfl⟩, fun k => by simp; omega⟩
/-- append of views inside a region -/
theorem obl_appV {ρ : Operand → Value} {R : Value → World → Prop} {w : World} {dst : Option Tmp} {s x : Operand} {ty : TypeId} {pos : String} {after : Array Edge} {guard : Option (Nat × Bool)}
    (B : Nat) (xa : Option Addr) (n xc : Nat) (xs : List Value) (hs : ρ s = .slice xa n xc) (X : Nat) (v0 v1 v2 v3 : Value) (hx : ρ x = .slice (some ⟨X, 0, none⟩) 1 1) (kX : Blk w X 43 #[v0, v1, v2, v3])
    (own : Own w B 43 4 xa n xc xs) (h1 : v0.oneCell' = true ∧ v1.oneCell' = true ∧ v2.oneCell' = true ∧ v3.oneCell' = true) (hbig : n ≤ 1000000000) (hB : B ≤ w.heap.size)
    (h : ∀ b' cap' w', Own w' B 43 4 b' (n + 1) cap' (xs ++ [v0, v1, v2, v3]) → Grew B w w' xa b' → R (.slice b' (n + 1) cap') w') :
    oblUpon Try.prog R ((execOp ρ { dst, op := .call { callee := .builtin .append, args := #[s, x], argTypes := #[28, 28] }, type := ty, pos, after, guard }).run Try.prog w) := by
  obtain ⟨i0, hi, hz0, hz1, hz2⟩ := info_parts info_view
  have hr : Row w (some ⟨X, 0, none⟩) [v0, v1, v2, v3] := .inr ⟨X, 0, rfl, kX.lt, fun i hi => by
    rw [Nat.zero_add, kX.cell]
    have : i = 0 ∨ i = 1 ∨ i = 2 ∨ i = 3 := by simp at hi; omega
    rcases this with rfl | rfl | rfl | rfl <;> rfl⟩
  obtain ⟨b', cap', w', hrun, own', g⟩ := run_append_row (P := Try.prog) w B 28 ty _ i0 _ 4 56 Try.underlying28 hi hz0 hz1 hz2 rfl (by decide) xa n xc _ own (some ⟨X, 0, none⟩) 1 1 [v0, v1, v2, v3] rfl hr (by simp; exact h1) (by simp only [maxLen]; omega) (by omega) hB
  simp only [execOp, resolve, invoke, builtin, Sem.run_bind, Sem.run_pure, Result.andThen_ok, List.map_toArray, List.map_cons, List.map_nil, hs, hx, hrun]
  exact h b' cap' w' own' g
theorem VxL.set {W : World} {B : Nat} {its : List Vx} {xa : Option Addr} {xc VB : Nat} {C : Array Value} (h : VxL W B its xa xc) (kV : Blk W VB 43 C) (hne : ∀ q, xa.map (·.block) = some q → q ≠ VB) (o : Nat) (u : Value) : VxL (W.setCell ⟨VB, o, none⟩ u) B its xa xc :=
  ⟨h.own.far (p := ⟨VB, o, none⟩) (fun e => hne _ e rfl) u, fun v hv => (h.cs v hv).far (p := ⟨VB, o, none⟩) ((h.cs v hv).ne_blk kV (by decide)) u, fun v hv => (h.ns v hv).far (p := ⟨VB, o, none⟩) ((h.ns v hv).ne_blk kV (by decide)) u⟩
set_option maxHeartbeats 8000000 in
theorem ref23_Parse (a : Option Addr) (b : List UInt8) (n c : Nat) (pa : Option Addr) (ps : List Int) (pn pc : Nat) (w : World) (hb : Byt w a b) (hn : n = b.length) (hc : b.length ≤ c) (hb9 : b.length ≤ 1000000) (hp : Ints w pa ps) (hpn : pn = ps.length) (hp9 : ps.length ≤ 1000) :
    Calls Try.prog 17 #[.slice a n c, .slice pa pn pc] w (ParR b ps w) := by
  subst hpn
  have HN := Lib.hid hn
  have hn9 : n ≤ 1000000 := by omega
  clear hn
  go_enter Try.func17, Try.ntmps17
  go_wp2
  go_loopw [0, 6, 16] (fun s0 s6 s16 wr => ∃ (k : Nat) (ra : Option Addr) (rn rc : Nat) (rest : List UInt8) (its : List Vx) (va : Option Addr) (vc : Nat), s0 = .slice ra rn rc ∧ s6 = .slice va k vc ∧ s16 = .int .i64 k ∧ k ≤ ps.length ∧ rn = rest.length ∧ rn ≤ rc ∧ Byt w ra rest ∧ pRun b ps = (pRun rest (ps.drop k)).map ((its.map Vx.key) ++ ·) ∧ its.length = k ∧ VxL wr w.heap.size its va vc ∧ RowKit.Below w.heap.size w wr ∧ rn ≤ 1000000) (fun _ _ s _ => ps.length - (intOf s).toNat)
  case atStart => exact ⟨0, a, n, c, b, [], none, 0, rfl, rfl, rfl, by omega, HN.out, by have := HN.out; omega, hb, by simp, rfl, VxL.nil _ _, (by repeat (first | (with_reducible refine Below.setCell ?_ ?_ _) | (with_reducible refine Below.alloc ?_ ?_ _) | (with_reducible refine Below.drew ?_) | (with_reducible refine below_drewN ?_ _) | (with_reducible exact Below.refl _ _) | (focus (simp; done)) | (focus (simp; omega)) | (focus omega))), by omega⟩
  case round =>
    obtain ⟨k, ra, rn, rc, rest, its, va, vc, rfl, rfl, rfl, hk, hrn, hrc, hrb, hrun, hil, il, be, hr9⟩ := hrel
    have HRN := Lib.hid hrn
    have HRUN := Lib.hid hrun
    have HIL := Lib.hid hil
    clear hrn hrun hil
    by_cases hlt : k < ps.length
    · have h0 : ps ≠ [] := by intro e; rw [e] at hlt; simp at hlt
      obtain ⟨bp, op_, rfl, lp, xp⟩ := (Ints.below hp be (Nat.le_refl _)).open.resolve_left h0
      have x0 := xp k hlt
      rw [List.drop_eq_getElem_cons hlt] at HRUN
      obtain ⟨q, hqq⟩ : ∃ q, ps[k] = q := ⟨_, rfl⟩
      rw [hqq] at x0 HRUN
      clear hqq xp
      have kx : (k : Int) < (ps.length : Int) := by omega
      have HRUN2 : Hid (pRun b ps = (if q < 0 ∨ 8 < q ∨ rest.length < 3 + q.toNat then none else (unV (rest.take (3 + q.toNat))).bind fun v => (pRun (rest.drop (3 + q.toNat)) (ps.drop (k + 1))).map (v :: ·)).map (its.map Vx.key ++ ·)) := Lib.hid (by
        rw [HRUN.out]; rfl)
      clear HRUN
      by_cases q0 : q < 0
      · have HN2 : Hid (pRun b ps = none) := Lib.hid (by rw [HRUN2.out, if_pos (.inl q0)]; rfl)
        go_wp2_with fail
        refine bodyPost_ret (v := .tuple #[.slice none 0 0, .int .i64 6]) (by simp [results, Try.results17, go_sem]) rfl ?_
        exact ParR.no HN2.out (by repeat (first | (with_reducible refine Below.setCell ?_ ?_ _) | (with_reducible refine Below.alloc ?_ ?_ _) | (with_reducible refine Below.drew ?_) | (with_reducible refine below_drewN ?_ _) | (with_reducible exact Below.refl _ _) | (with_reducible refine Below.trans ?_ (Below.mono be ?_)) | (focus (simp; done)) | (focus (simp; omega)) | (focus omega) | (focus (have q0 := Below.size be; (try simp at q0); (try simp); omega))))
      by_cases q8 : 8 < q
      · have HN2 : Hid (pRun b ps = none) := Lib.hid (by rw [HRUN2.out, if_pos (.inr (.inl q8))]; rfl)
        go_wp2_with fail
        refine bodyPost_ret (v := .tuple #[.slice none 0 0, .int .i64 6]) (by simp [results, Try.results17, go_sem]) rfl ?_
        exact ParR.no HN2.out (by repeat (first | (with_reducible refine Below.setCell ?_ ?_ _) | (with_reducible refine Below.alloc ?_ ?_ _) | (with_reducible refine Below.drew ?_) | (with_reducible refine below_drewN ?_ _) | (with_reducible exact Below.refl _ _) | (with_reducible refine Below.trans ?_ (Below.mono be ?_)) | (focus (simp; done)) | (focus (simp; omega)) | (focus omega) | (focus (have q0 := Below.size be; (try simp at q0); (try simp); omega))))
      obtain ⟨nn, rfl⟩ := Int.eq_ofNat_of_zero_le (show 0 ≤ q by omega)
      rw [Int.toNat_natCast] at HRUN2
      have hn8 : nn ≤ 8 := by omega
      clear q0 q8
      by_cases ql : rn < 3 + nn
      · have HN2 : Hid (pRun b ps = none) := Lib.hid (by rw [HRUN2.out, if_pos (.inr (.inr (by have := HRN.out; omega)))]; rfl)
        have ql' : (rn : Int) < 3 + (nn : Int) := by omega
        go_wp2_with ((go_at_call 24; (with_reducible refine (ref23_Size (nn : Int) _ (by omega) (by omega)).mono ?_); rintro e w2 ⟨rfl, rfl⟩))
        refine bodyPost_ret (v := .tuple #[.slice none 0 0, .int .i64 6]) (by simp [results, Try.results17, go_sem]) rfl ?_
        exact ParR.no HN2.out (by repeat (first | (with_reducible refine Below.setCell ?_ ?_ _) | (with_reducible refine Below.alloc ?_ ?_ _) | (with_reducible refine Below.drew ?_) | (with_reducible refine below_drewN ?_ _) | (with_reducible exact Below.refl _ _) | (with_reducible refine Below.trans ?_ (Below.mono be ?_)) | (focus (simp; done)) | (focus (simp; omega)) | (focus omega) | (focus (have q0 := Below.size be; (try simp at q0); (try simp); omega))))
      have ql' : ¬ ((rn : Int) < 3 + (nn : Int)) := by omega
      have HRUN3 : Hid (pRun b ps = ((unV (rest.take (3 + nn))).bind fun v => (pRun (rest.drop (3 + nn)) (ps.drop (k + 1))).map (v :: ·)).map (its.map Vx.key ++ ·)) := Lib.hid (by
        rw [HRUN2.out, if_neg (by have := HRN.out; rintro (h | h | h) <;> omega)])
      clear HRUN2
      have hD := Lib.hid (show Byt w ra rest from hrb)
      have hlen : 3 ≤ rest.length := by have := HRN.out; omega
      match rest, hrb, HRN, HRUN3, hD, hlen with
      | x :: y :: z :: rr, hrb, HRN, HRUN3, hD, hlen =>
        clear hlen
        obtain ⟨ba, oa, rfl, lb, xa⟩ := hrb.open.resolve_left (by simp)
        have hbw := be.size
        have bcw := bcell be
        have y0 : wr.cell? ⟨ba, oa, none⟩ = some (.int .u8 (x.toNat : Int)) := (bcw.1 _ _ lb).trans (xa 0 (by simp))
        have y1 : wr.cell? ⟨ba, oa + 1, none⟩ = some (.int .u8 (y.toNat : Int)) := (bcw.1 _ _ lb).trans (xa 1 (by simp))
        have y2 : wr.cell? ⟨ba, oa + 2, none⟩ = some (.int .u8 (z.toNat : Int)) := (bcw.1 _ _ lb).trans (xa 2 (by simp))
        have HX := Lib.hid (show ∀ i (h : i < rr.length), w.cell? ⟨ba, oa + (3 + i), none⟩ = some (.int .u8 (rr[i].toNat : Int)) from fun i h => by
          have := xa (3 + i) (by simp; omega)
          rw [this]
          simp [show 3 + i = i + 1 + 1 + 1 by omega])
        have hblt : ba < wr.heap.size := by omega
        have hrl : nn ≤ rr.length := by have := HRN.out; simp at this; omega
        clear xa hrb bcw
        rw [show (x :: y :: z :: rr).take (3 + nn) = x :: y :: z :: rr.take nn by rw [show 3 + nn = nn + 1 + 1 + 1 by omega]; rfl] at HRUN3
        obtain ⟨X, hX⟩ : ∃ X : Int, (x.toNat : Int) = X := ⟨_, rfl⟩
        obtain ⟨Y, hY⟩ : ∃ Y : Int, (y.toNat : Int) = Y := ⟨_, rfl⟩
        obtain ⟨Z, hZ⟩ : ∃ Z : Int, (z.toNat : Int) = Z := ⟨_, rfl⟩
        have e3 := or8 y z
        have hx := x.toNat_lt
        have hy := y.toNat_lt
        have hz := z.toNat_lt
        rw [hX] at y0
        rw [hY] at y1 e3
        rw [hZ] at y2 e3
        have hXb : 0 ≤ X ∧ X ≤ 255 := by omega
        have hYb : 0 ≤ Y ∧ Y ≤ 255 := by omega
        have hZb : 0 ≤ Z ∧ Z ≤ 255 := by omega
        have HV : Hid (unV (x :: y :: z :: rr.take nn) = if 3 < X then none else (dig nn (Y * 256 + Z)).map fun cs => ((X % 2 == 1), (decide (1 < X)), cs, (rr.take nn).map fun b => (b.toNat : Int))) := Lib.hid (by
          simp only [unV, hY, hZ]
          have q1 : decide (x.toNat % 2 = 1) = (X % 2 == 1) := by rw [Bool.eq_iff_iff]; simp; omega
          have q2 : decide (1 < x.toNat) = decide (1 < X) := by rw [Bool.eq_iff_iff]; simp; omega
          rw [q1, q2, List.length_take, Nat.min_eq_left hrl]
          by_cases h3 : 3 < x.toNat
          · rw [if_pos h3, if_pos (by omega)]
          · rw [if_neg h3, if_neg (by omega)])
        clear hX hY hZ hx hy hz
        have hnr : (0 : Int) < (rn : Int) ∧ (1 : Int) < (rn : Int) ∧ (2 : Int) < (rn : Int) ∧ 0 < rn ∧ 1 < rn ∧ 2 < rn := by omega
        obtain ⟨i0, i1, i2, n0, n1, n2⟩ := hnr
        by_cases h3 : 3 < X
        · have HN2 : Hid (pRun b ps = none) := Lib.hid (by rw [HRUN3.out, HV.out, if_pos h3]; rfl)
          go_wp2_with ((go_at_call 24; (with_reducible refine (ref23_Size (nn : Int) _ (by omega) (by omega)).mono ?_); rintro e w2 ⟨rfl, rfl⟩))
          refine bodyPost_ret (v := .tuple #[.slice none 0 0, .int .i64 6]) (by simp [results, Try.results17, go_sem]) rfl ?_
          exact ParR.no HN2.out (by repeat (first | (with_reducible refine Below.setCell ?_ ?_ _) | (with_reducible refine Below.alloc ?_ ?_ _) | (with_reducible refine Below.drew ?_) | (with_reducible refine below_drewN ?_ _) | (with_reducible exact Below.refl _ _) | (with_reducible refine Below.trans ?_ (Below.mono be ?_)) | (focus (simp; done)) | (focus (simp; omega)) | (focus omega) | (focus (have q0 := Below.size be; (try simp at q0); (try simp); omega))))
        · have HV2 := Lib.hid (HV.out.trans (if_neg h3))
          go_upto_region 7 with ((go_at_call 24; (with_reducible refine (ref23_Size (nn : Int) _ (by omega) (by omega)).mono ?_); rintro e w2 ⟨rfl, rfl⟩))
          go_region
          obtain ⟨fl, hfl⟩ : ∃ f, (X % 2 == 1) = f := ⟨_, rfl⟩
          obtain ⟨ov, hov⟩ : ∃ f, decide (1 < X) = f := ⟨_, rfl⟩
          rw [hfl, hov] at HV2 ⊢
          clear hfl hov HV
          go_upto_region 8 with fail
          obtain ⟨VB, hVB⟩ : ∃ VB, wr.heap.size = VB := ⟨_, rfl⟩
          refine wp_named (fun Yw => Blk Yw VB 43 #[.bool fl, .bool ov, .slice none 0 0, .slice none 0 0] ∧ VxL Yw w.heap.size its va vc ∧ RowKit.Below VB wr Yw ∧ VB + 1 ≤ Yw.heap.size) ⟨by rw [← hVB]; exact Blk.new _ _ _, (il.alloc _).keep fun _ _ => rfl, by rw [← hVB]; exact (by repeat (first | (with_reducible refine Below.setCell ?_ ?_ _) | (with_reducible refine Below.alloc ?_ ?_ _) | (with_reducible refine Below.drew ?_) | (with_reducible refine below_drewN ?_ _) | (with_reducible exact Below.refl _ _) | (focus (simp; done)) | (focus (simp; omega)) | (focus omega))), by rw [← hVB]; simp⟩ ?_
          rintro Yw ⟨kV, il1, bY, hYz⟩
          have hVl : ba < VB := by omega
          have HVA := Lib.hid (show ∀ q, va.map (·.block) = some q → q ≠ VB from fun q hq => by have := il.own.lt' q hq; omega)
          have hwV : w.heap.size ≤ VB := by omega
          have beY : RowKit.Below w.heap.size w Yw := (by repeat (first | (with_reducible refine Below.setCell ?_ ?_ _) | (with_reducible refine Below.alloc ?_ ?_ _) | (with_reducible refine Below.drew ?_) | (with_reducible refine below_drewN ?_ _) | (with_reducible exact Below.refl _ _) | (with_reducible refine Below.trans ?_ (Below.mono bY ?_)) | (with_reducible refine Below.trans ?_ (Below.mono be ?_)) | (focus (simp; done)) | (focus (simp; omega)) | (focus omega) | (focus (have q0 := Below.size bY; (try simp at q0); have q1 := Below.size be; (try simp at q1); (try simp); omega))))
          have y0 := (bY.cell (p := ⟨ba, oa, none⟩) hVl).trans y0
          have y1 := (bY.cell (p := ⟨ba, oa + 1, none⟩) hVl).trans y1
          have y2 := (bY.cell (p := ⟨ba, oa + 2, none⟩) hVl).trans y2
          have hbY : ba < Yw.heap.size := by omega
          rw [hVB]
          clear hVB il be bY hblt
          go_quiet (fail)
          go_wp2_with fail
          obtain ⟨BB, hBB⟩ : ∃ BB, Yw.heap.size = BB := ⟨_, rfl⟩
          go_loopw [10, 11, 12, 60] (fun s10 s11 s12 s60 wz => ∃ (i : Nat) (Q : Int) (pre : List Int) (ca : Option Addr) (cc : Nat) (da : Option Addr) (dc : Nat), s10 = .int .i64 Q ∧ s11 = .slice ca i cc ∧ s12 = .slice da i dc ∧ s60 = .int .i64 i ∧ i ≤ nn ∧ pre.length = i ∧ 0 ≤ Q ∧ Q ≤ 65535 ∧ dig nn (Y * 256 + Z) = (dig (nn - i) Q).map (pre ++ ·) ∧ Own wz BB 3 1 ca i cc (pre.map encI) ∧ Own wz BB 3 1 da i dc (((rr.take i).map fun b => (b.toNat : Int)).map encI) ∧ Apart ca da ∧ RowKit.Below BB Yw wz) (fun _ _ _ s _ => nn - (intOf s).toNat)
          case atStart => exact ⟨0, Y * 256 + Z, [], none, 0, none, 0, rfl, rfl, rfl, rfl, by omega, rfl, by omega, by omega, by simp, Own.nil _ _ _ _, Own.nil _ _ _ _, Apart.none_left _, by rw [← hBB]; exact (by repeat (first | (with_reducible refine Below.setCell ?_ ?_ _) | (with_reducible refine Below.alloc ?_ ?_ _) | (with_reducible refine Below.drew ?_) | (with_reducible refine below_drewN ?_ _) | (with_reducible exact Below.refl _ _) | (focus (simp; done)) | (focus (simp; omega)) | (focus omega)))⟩
          case round =>
            obtain ⟨i, Q, pre, ca, cc, da, dc, rfl, rfl, rfl, rfl, hi, hpl, hQ0, hQ1, hdig, oc, od, ap, bz⟩ := hrel
            have hBz := bz.size
            by_cases hli : i < nn
            · have im : (i : Int) < (nn : Int) := by omega
              have HD := Lib.hid (show dig nn (Y * 256 + Z) = if Q % 4 = 3 then none else ((dig (nn - (i + 1)) (Q / 4)).map (Q % 4 :: ·)).map (pre ++ ·) by
                rw [hdig, show nn - i = (nn - (i + 1)) + 1 by omega]
                simp only [dig]
                split <;> rfl)
              clear hdig
              obtain ⟨D, hD4⟩ : ∃ D, Q % 4 = D := ⟨_, rfl⟩
              have hDb : 0 ≤ D ∧ D ≤ 3 := by omega
              by_cases hd3 : D = 3
              · subst hd3
                have HN2 : Hid (pRun b ps = none) := Lib.hid (by rw [HRUN3.out, HV2.out, HD.out, if_pos hD4]; rfl)
                go_wp2_with fail
                refine bodyPost_ret (v := .tuple #[.slice none 0 0, .int .i64 6]) (by simp [results, Try.results17, go_sem]) rfl ?_
                exact ParR.no HN2.out (by repeat (first | (with_reducible refine Below.setCell ?_ ?_ _) | (with_reducible refine Below.alloc ?_ ?_ _) | (with_reducible refine Below.drew ?_) | (with_reducible refine below_drewN ?_ _) | (with_reducible exact Below.refl _ _) | (with_reducible refine Below.trans ?_ (Below.mono bz ?_)) | (with_reducible refine Below.trans ?_ (Below.mono beY ?_)) | (focus (simp; done)) | (focus (simp; omega)) | (focus omega) | (focus (have q0 := Below.size bz; (try simp at q0); have q1 := Below.size beY; (try simp at q1); (try simp); omega))))
              · have hd3' : (D == 3) = false := by rw [beq_eq_false_iff_ne]; exact hd3
                have HD2 := Lib.hid (HD.out.trans (if_neg (by rw [hD4]; exact hd3)))
                go_upto_region 15 with fail
                have hir : i < rr.length := by omega
                have hpc : ((rr.take i).map fun b => (b.toNat : Int)).length = i := by simp; omega
                have hBW : w.heap.size ≤ BB := by omega
                have bW : RowKit.Below w.heap.size w wr := (by repeat (first | (with_reducible refine Below.setCell ?_ ?_ _) | (with_reducible refine Below.alloc ?_ ?_ _) | (with_reducible refine Below.drew ?_) | (with_reducible refine below_drewN ?_ _) | (with_reducible exact Below.refl _ _) | (with_reducible refine Below.trans ?_ (Below.mono bz ?_)) | (with_reducible refine Below.trans ?_ (Below.mono beY ?_)) | (focus (simp; done)) | (focus (simp; omega)) | (focus omega) | (focus (have q0 := Below.size bz; (try simp at q0); have q1 := Below.size beY; (try simp at q1); (try simp); omega))))
                have x0 := ((bcell bW).1 _ (oa + (3 + i)) lb).trans (HX.out i hir)
                have hbz2 : ba < wr.heap.size := by omega
                obtain ⟨bi, hbi⟩ : ∃ b : UInt8, rr[i] = b := ⟨_, rfl⟩
                have HBI : Hid (((rr.take (i + 1)).map fun b => (b.toNat : Int)) = ((rr.take i).map fun b => (b.toNat : Int)) ++ [(bi.toNat : Int)]) := Lib.hid (by
                  rw [← List.take_append_getElem hir, List.map_append, hbi]; rfl)
                rw [hbi] at x0
                clear hbi
                have hbib := bi.toNat_lt
                obtain ⟨BI, hBI⟩ : ∃ B : Int, (bi.toNat : Int) = B := ⟨_, rfl⟩
                have hBIb : 0 ≤ BI ∧ BI ≤ 255 := by omega
                rw [hBI] at x0 HBI
                clear hBI hbib bW
                obtain ⟨ns, hns⟩ : ∃ ns, ((rr.take i).map fun b => (b.toNat : Int)) = ns := ⟨_, rfl⟩
                rw [hns] at HBI od hpc
                clear hns
                have i3 : (3 : Int) + (i : Int) < (rn : Int) := by omega
                have i3n : 3 + i < rn := by omega
                obtain ⟨gl, gh, g1, g2, g3, g4, g5⟩ := oc.range
                obtain ⟨kl, kh, k1, k2, k3, k4, k5⟩ := od.range
                have hdis : gh ≤ kl ∨ kh ≤ gl := by
                  rcases Nat.lt_or_ge gl gh with h1 | h1
                  · rcases Nat.lt_or_ge kl kh with h2 | h2
                    · have := ap gl ((g5 gl).2 ⟨by omega, h1⟩)
                      have h3 : kl ≠ gl := fun e => this ((k5 gl).2 ⟨by omega, by omega⟩)
                      omega
                    · omega
                  · omega
                have G5 := Lib.hid g5
                have K5 := Lib.hid k5
                clear g5 k5
                have ew : IntKind.i64.wrap (3 + (i : Int)) = 3 + (i : Int) := by rw [IntKind.wrap_i64]; omega
                have et : ((3 : Int) + (i : Int)).toNat = 3 + i := by omega
                have ew2 : IntKind.i64.wrap BI = BI := by rw [IntKind.wrap_i64]; omega
                have hDt : Q.tmod 4 = D := by rw [← hD4, Int.tmod_eq_emod_of_nonneg hQ0]
                apply wp_region_tab [(gl, gh), (kl, kh)] 16 102 [some 66, some 67, some 68, some 69, some 70, some 71, some 72, some 73, some 74, some 75, some 76, some 77, some 78, some 79, some 11, some 12] [⟨[16, 17], [], [], []⟩, ⟨[16, 17], [], [], []⟩, ⟨[1, 16, 17], [1], [1], []⟩, ⟨[1, 2, 16, 17], [2], [2], []⟩, ⟨[0, 1, 2, 3, 16, 17], [0, 3, 16], [0, 3, 16], [16]⟩, ⟨[16, 17], [], [], []⟩, ⟨[16, 17], [], [], []⟩, ⟨[16, 17], [], [], []⟩, ⟨[7, 16, 17], [7], [7], []⟩, ⟨[6, 7, 8, 16, 17], [6, 8], [6, 8], []⟩, ⟨[6, 7, 8, 9, 16, 17], [9], [9], []⟩, ⟨[6, 7, 8, 9, 10, 16, 17], [10], [10], []⟩, ⟨[6, 7, 8, 9, 10, 11, 16, 17], [11], [11], []⟩, ⟨[0, 1, 2, 3, 4, 5, 6, 7, 8, 9, 10, 11, 12, 16, 17], [5, 12, 17], [5, 12, 17], [17]⟩, ⟨[0, 1, 2, 3, 4, 5, 6, 7, 8, 9, 10, 11, 12, 13, 16, 17], [4], [4], []⟩, ⟨[0, 1, 2, 3, 4, 5, 6, 7, 8, 9, 10, 11, 12, 13, 14, 16, 17], [13], [13], []⟩, ⟨[], [], [], []⟩, ⟨[], [], [], []⟩] [0, 1, 2, 3, 4, 5, 6, 7, 8, 9, 10, 11, 12, 13, 14, 15] [4, 13, 14, 15] [psiTrue, psiTrue, psiTrue, (fun f lo hi v b0 b1 W => ∃ b : Nat, v = .slice (some ⟨b, 0, none⟩) 1 1 ∧ b0 ≤ b ∧ b < b1 ∧ Blk W b 3 #[.int .i64 D]), (fun f lo hi v b0 b1 W => ∃ (a : Option Addr) (c : Nat), v = .slice a (i + 1) c ∧ Own W BB 3 1 a (i + 1) c ((pre ++ [D]).map encI) ∧ ∀ k, a.map (·.block) = some k → (gl ≤ k ∧ k < gh) ∨ (b0 ≤ k ∧ k < b1)), psiTrue, psiTrue, psiTrue, psiTrue, psiTrue, psiTrue, psiTrue, (fun f lo hi v b0 b1 W => ∃ b : Nat, v = .slice (some ⟨b, 0, none⟩) 1 1 ∧ b0 ≤ b ∧ b < b1 ∧ Blk W b 3 #[.int .i64 BI]), (fun f lo hi v b0 b1 W => ∃ (a : Option Addr) (c : Nat), v = .slice a (i + 1) c ∧ Own W BB 3 1 a (i + 1) c ((ns ++ [BI]).map encI) ∧ ∀ k, a.map (·.block) = some k → (kl ≤ k ∧ k < kh) ∨ (b0 ≤ k ∧ k < b1)), (fun f _ _ v _ _ _ => v = f 4), (fun f _ _ v _ _ _ => v = f 13), (fun f lo hi v b0 b1 W => (b0 = gl ∧ b1 = gh) ∧ Own W BB 3 1 ca i cc (pre.map encI)), (fun f lo hi v b0 b1 W => (b0 = kl ∧ b1 = kh) ∧ Own W BB 3 1 da i dc (ns.map encI))] [kVal _, kVal _, kVal _, kTrue, kTrue, kVal _, kVal _, kVal _, kVal _, kVal _, kVal _, kVal _, kTrue, kTrue, kTrue, kTrue]
                · kernel_rfl
                · kernel_rfl
                · rfl
                · rfl
                rotate_left 2
                refine ⟨?oR1_0, ?oR1_1, ?oR1_2, ?oR1_3, ?oR1_4, ?oR1_5, ?oR1_6, ?oR1_7, ?oR1_8, ?oR1_9, ?oR1_10, ?oR1_11, ?oR1_12, ?oR1_13, ?oR1_14, ?oR1_15, trivial⟩
                case hx => exact ⟨⟨by omega, by omega⟩, by simp; omega, ⟨by omega, by omega⟩, by simp, trivial⟩
                case hX => exact ⟨fun _ _ _ _ => ⟨⟨rfl, rfl⟩, oc⟩, fun _ _ _ _ => ⟨⟨rfl, rfl⟩, od⟩, trivial⟩
                case oR1_0 => intro f lo hi w hb hx hf hk hrg R hR; (try replace hb := BelX.zero hb); (try simp (decide := true) only [go_sem] at hf); (try simp (decide := true) only [go_sem] at hk); go_simp; exact hR _ _ (rpost_val rfl rfl (Below.refl _ _) rfl)
                case oR1_1 => intro f lo hi w hb hx hf hk hrg R hR; (try replace hb := BelX.zero hb); (try simp (decide := true) only [go_sem] at hf); (try simp (decide := true) only [go_sem] at hk); go_simp; exact hR _ _ (rpost_val rfl rfl (Below.refl _ _) rfl)
                case oR1_2 => intro f lo hi w hb hx hf hk hrg R hR; (try replace hb := BelX.zero hb); (try simp (decide := true) only [go_sem] at hf); (try simp (decide := true) only [go_sem] at hk); go_simp; exact hR _ _ (rpost_val rfl rfl (Below.refl _ _) rfl)
                case oR1_3 =>
                  intro f lo hi w hb hx hf hk hrg R hR; (try replace hb := BelX.zero hb); (try simp (decide := true) only [go_sem] at hf); (try simp (decide := true) only [go_sem] at hk)
                  go_simp
                  refine hR _ _ (rpost_none rfl ((RowKit.Below.refl _ _).alloc (Nat.le_refl _) _) ?_)
                  (try simp (decide := true) only [go_sem])
                  exact ⟨_, rfl, Nat.le_refl _, by simp, Blk.new _ _ _⟩
                case oR1_4 =>
                  intro f lo hi w hb hx hf hk hrg R hR; (try replace hb := BelX.zero hb); (try simp (decide := true) only [go_sem] at hf); (try simp (decide := true) only [go_sem] at hk)
                  obtain ⟨⟨bq, h69, -, -, kk⟩, ⟨-, -⟩, own⟩ := hf
                  have ix : Ints w (some ⟨bq, 0, none⟩) [D] := kk.rowL (enc := encI) (l := [D])
                  have hsz : wr.heap.size ≤ w.heap.size := hb.2.2.2.1
                  refine obl_appI BB ca i cc pre ?_ (some ⟨bq, 0, none⟩) 1 1 [D] ?_ own ix rfl (i + 1) rfl (by omega) (by omega) ?_
                  · go_simp
                  · go_simp
                  intro b2 c2 w2 own2 gr2
                  refine hR _ _ (rpost_some rfl rfl (Grew.touch gr2 fun k hk' => ⟨16, by simp, ?_⟩) ?_)
                  · obtain ⟨q1, q2⟩ : lo 16 = gl ∧ hi 16 = gh := XOk.get _ _ hx 0 _ rfl
                    have h4 := (G5.out k).1 hk'
                    omega
                  (try simp (decide := true) only [go_sem])
                  refine ⟨_, _, rfl, own2, fun k hk' => ?_⟩
                  rcases gr2.2.1 with e | e
                  · exact .inl ((G5.out k).1 (e ▸ hk'))
                  · rw [e] at hk'
                    exact .inr ⟨by injection hk' with hk'; omega, own2.lt' k (e ▸ hk')⟩
                case oR1_5 => intro f lo hi w hb hx hf hk hrg R hR; (try replace hb := BelX.zero hb); (try simp (decide := true) only [go_sem] at hf); (try simp (decide := true) only [go_sem] at hk); go_simp; exact hR _ _ (rpost_val rfl rfl (Below.refl _ _) rfl)
                case oR1_6 => intro f lo hi w hb hx hf hk hrg R hR; (try replace hb := BelX.zero hb); (try simp (decide := true) only [go_sem] at hf); (try simp (decide := true) only [go_sem] at hk); go_simp; exact hR _ _ (rpost_val rfl rfl (Below.refl _ _) rfl)
                case oR1_7 => intro f lo hi w hb hx hf hk hrg R hR; (try replace hb := BelX.zero hb); (try simp (decide := true) only [go_sem] at hf); (try simp (decide := true) only [go_sem] at hk); go_simp; exact hR _ _ (rpost_val rfl rfl (Below.refl _ _) rfl)
                case oR1_8 => intro f lo hi w hb hx hf hk hrg R hR; (try replace hb := BelX.zero hb); (try simp (decide := true) only [go_sem] at hf); (try simp (decide := true) only [go_sem] at hk); go_simp; exact hR _ _ (rpost_val rfl rfl (Below.refl _ _) rfl)
                case oR1_9 => intro f lo hi w hb hx hf hk hrg R hR; (try replace hb := BelX.zero hb); (try simp (decide := true) only [go_sem] at hf); (try simp (decide := true) only [go_sem] at hk); go_simp; exact hR _ _ (rpost_val rfl rfl (Below.refl _ _) rfl)
                case oR1_10 =>
                  intro f lo hi w hb hx hf hk hrg R hR; (try replace hb := BelX.zero hb); (try simp (decide := true) only [go_sem] at hf); (try simp (decide := true) only [go_sem] at hk)
                  have hb1 : w.heap[ba]? = wr.heap[ba]? := hb.2.2.2.2 ba ⟨hbz2, fun r hr => by simp at hr; rcases hr with rfl | rfl <;> simp only <;> omega⟩
                  have x0 := (World.cell?_of_block (w := wr) (a := ⟨ba, oa + (3 + i), none⟩) hb1).trans x0
                  have hbw := Nat.lt_of_lt_of_le hbz2 hb.2.2.2.1
                  go_simp
                  exact hR _ _ (rpost_val rfl rfl (Below.refl _ _) rfl)
                case oR1_11 => intro f lo hi w hb hx hf hk hrg R hR; (try replace hb := BelX.zero hb); (try simp (decide := true) only [go_sem] at hf); (try simp (decide := true) only [go_sem] at hk); go_simp; exact hR _ _ (rpost_val rfl rfl (Below.refl _ _) rfl)
                case oR1_12 =>
                  intro f lo hi w hb hx hf hk hrg R hR; (try replace hb := BelX.zero hb); (try simp (decide := true) only [go_sem] at hf); (try simp (decide := true) only [go_sem] at hk)
                  go_simp
                  refine hR _ _ (rpost_none rfl ((RowKit.Below.refl _ _).alloc (Nat.le_refl _) _) ?_)
                  (try simp (decide := true) only [go_sem])
                  exact ⟨_, rfl, Nat.le_refl _, by simp, Blk.new _ _ _⟩
                case oR1_13 =>
                  intro f lo hi w hb hx hf hk hrg R hR; (try replace hb := BelX.zero hb); (try simp (decide := true) only [go_sem] at hf); (try simp (decide := true) only [go_sem] at hk)
                  obtain ⟨⟨bq, h69, -, -, kk⟩, ⟨-, -⟩, own⟩ := hf
                  have ix : Ints w (some ⟨bq, 0, none⟩) [BI] := kk.rowL (enc := encI) (l := [BI])
                  have hsz : wr.heap.size ≤ w.heap.size := hb.2.2.2.1
                  refine obl_appI BB da i dc ns ?_ (some ⟨bq, 0, none⟩) 1 1 [BI] ?_ own ix rfl (i + 1) rfl (by omega) (by omega) ?_
                  · go_simp
                  · go_simp
                  intro b2 c2 w2 own2 gr2
                  refine hR _ _ (rpost_some rfl rfl (Grew.touch gr2 fun k hk' => ⟨17, by simp, ?_⟩) ?_)
                  · obtain ⟨q1, q2⟩ : lo 17 = kl ∧ hi 17 = kh := XOk.get _ _ hx 1 _ rfl
                    have h4 := (K5.out k).1 hk'
                    omega
                  (try simp (decide := true) only [go_sem])
                  refine ⟨_, _, rfl, own2, fun k hk' => ?_⟩
                  rcases gr2.2.1 with e | e
                  · exact .inl ((K5.out k).1 (e ▸ hk'))
                  · rw [e] at hk'
                    exact .inr ⟨by injection hk' with hk'; omega, own2.lt' k (e ▸ hk')⟩
                case oR1_14 => intro f lo hi w hb hx hf hk hrg R hR; (try replace hb := BelX.zero hb); (try simp (decide := true) only [go_sem] at hf); (try simp (decide := true) only [go_sem] at hk); go_simp; exact hR _ _ (rpost_none rfl (Below.refl _ _) rfl)
                case oR1_15 => intro f lo hi w hb hx hf hk hrg R hR; (try replace hb := BelX.zero hb); (try simp (decide := true) only [go_sem] at hf); (try simp (decide := true) only [go_sem] at hk); go_simp; exact hR _ _ (rpost_none rfl (Below.refl _ _) rfl)
                case hcl =>
                  refine ⟨Closed.true _ _ _ _, Closed.true _ _ _ _, Closed.true _ _ _ _, ?cR1_3, ?cR1_4, Closed.true _ _ _ _, Closed.true _ _ _ _, Closed.true _ _ _ _, Closed.true _ _ _ _, Closed.true _ _ _ _, Closed.true _ _ _ _, Closed.true _ _ _ _, ?cR1_12, ?cR1_13, ?cR1_14, ?cR1_15, ?cR1_16, ?cR1_17, trivial⟩
                  all_goals first
                    | exact fun f lo hi v b0 b1 w w' h hs hB hown hU hX => by
                        obtain ⟨b, rfl, h2, h3, h6⟩ := h
                        exact ⟨b, rfl, h2, h3, (hown b h2 h3).trans h6⟩
                    | exact fun f lo hi v b0 b1 w w' h hs hB hown hU hX => by
                        obtain ⟨a, c, h1, own, lt⟩ := h
                        exact ⟨a, c, h1, own.keep fun b hb hl _ => (lt b (by rw [hb]; rfl)).elim (fun h => hX 0 _ rfl (by simp) b h.1 h.2) (fun h => hown b h.1 h.2), lt⟩
                    | exact fun f lo hi v b0 b1 w w' h hs hB hown hU hX => by
                        obtain ⟨a, c, h1, own, lt⟩ := h
                        exact ⟨a, c, h1, own.keep fun b hb hl _ => (lt b (by rw [hb]; rfl)).elim (fun h => hX 1 _ rfl (by simp) b h.1 h.2) (fun h => hown b h.1 h.2), lt⟩
                    | exact fun f lo hi v b0 b1 w w' h hs hB hown hU hX => by
                        obtain ⟨⟨rfl, rfl⟩, own⟩ := h
                        exact ⟨⟨rfl, rfl⟩, own.keep fun b hb hl _ => by have := (G5.out b).1 (by rw [hb]; rfl); exact hown b this.1 this.2⟩
                    | exact fun f lo hi v b0 b1 w w' h hs hB hown hU hX => by
                        obtain ⟨⟨rfl, rfl⟩, own⟩ := h
                        exact ⟨⟨rfl, rfl⟩, own.keep fun b hb hl _ => by have := (K5.out b).1 (by rw [hb]; rfl); exact hown b this.1 this.2⟩
                    | exact fun _ _ _ _ _ _ _ _ h _ _ _ _ _ => h
                intro f lo hi W7 hbr hx hf hk hrg; (try replace hbr := BelX.zero hbr); clear hx; (try simp (decide := true) only [go_sem] at hf); (try simp (decide := true) only [go_sem] at hk)
                obtain ⟨⟨ca7, cc7, h70, oc7, cl7⟩, ⟨da7, dc7, h79, od7, dl7⟩, h14, h15⟩ := hf
                rw [h70] at h14
                rw [h79] at h15
                have r4 := hrg.out 4 (by simp)
                have r13 := hrg.out 13 (by simp)
                have ap7 : Apart ca7 da7 := fun q h1 h2 => by
                  have c1 := cl7 q h1
                  have c2 := dl7 q h2
                  have s1 := r4.1
                  have s2 := r13.1
                  rcases r4.2.2.2 13 (by simp) (by decide) with h | h <;> omega
                have bz7 : RowKit.Below BB Yw W7 := ⟨hbr.1.trans bz.os, hbr.2.1.trans bz.tape, hbr.2.2.1.trans bz.output, Nat.le_trans bz.size hbr.2.2.2.1, fun q hq => (hbr.2.2.2.2 q ⟨by omega, fun r hr => by simp at hr; rcases hr with rfl | rfl <;> simp only <;> omega⟩).trans (bz.block q hq)⟩
                clear r4 r13 cl7 dl7 hbr hrg bz ap oc od G5 K5 hdis x0
                go_simp
                clear hk h70 h79 h14 h15
                go_wp2
                go_roundw
                case rel => exact ⟨i + 1, Q / 4, pre ++ [D], ca7, cc7, da7, dc7, rfl, rfl, rfl, by go_num, by omega, by simp [hpl], by omega, by omega, by rw [HD2.out, hD4, Option.map_map]; congr 1; funext q; simp, oc7, by rw [HBI.out]; exact od7, ap7, bz7⟩
                case measure => simp [intOf]; omega
            · obtain rfl : i = nn := by omega
              rw [Nat.sub_self] at hdig
              by_cases hq : Q = 0
              · subst hq
                have HD := Lib.hid (show dig i (Y * 256 + Z) = some pre by rw [hdig]; simp [dig])
                clear hdig
                have hBW : w.heap.size ≤ BB := by omega
                have bz' : RowKit.Below Yw.heap.size Yw wr := by rw [hBB]; exact bz
                have hVBB : VB < BB := by omega
                have kVr := kV.below bz hVBB
                have ilr := il1.below bz'
                have ber : RowKit.Below w.heap.size w wr := (by repeat (first | (with_reducible refine Below.setCell ?_ ?_ _) | (with_reducible refine Below.alloc ?_ ?_ _) | (with_reducible refine Below.drew ?_) | (with_reducible refine below_drewN ?_ _) | (with_reducible exact Below.refl _ _) | (with_reducible refine Below.trans ?_ (Below.mono bz ?_)) | (with_reducible refine Below.trans ?_ (Below.mono beY ?_)) | (focus (simp; done)) | (focus (simp; omega)) | (focus omega) | (focus (have q0 := Below.size bz; (try simp at q0); have q1 := Below.size beY; (try simp at q1); (try simp); omega))))
                clear kV il1 bz bz' ap y0 y1 y2
                obtain ⟨v0, v1, v2, v3⟩ := kVr.four'
                have vf := kVr.frozen
                have vl := kVr.lt
                go_upto_region 21 with fail
                have nec : ∀ o, ca.map (·.block) ≠ some (⟨VB, o, none⟩ : Addr).block := fun o e => by have := oc.base_le _ e; simp only at this; omega
                have ned : ∀ o, da.map (·.block) ≠ some (⟨VB, o, none⟩ : Addr).block := fun o e => by have := od.base_le _ e; simp only at this; omega
                have HN1 : Hid (unV (x :: y :: z :: rr.take i) = some (fl, ov, pre, (rr.take i).map fun b => (b.toNat : Int))) := Lib.hid (by rw [HV2.out, HD.out]; rfl)
                have hpc : ((rr.take i).map fun b => (b.toNat : Int)).length = i := by simp; omega
                obtain ⟨ns, hns⟩ : ∃ ns, ((rr.take i).map fun b => (b.toNat : Int)) = ns := ⟨_, rfl⟩
                rw [hns] at HN1 od hpc
                clear hns
                refine wp_named (fun U => Blk U VB 43 #[.bool fl, .bool ov, .slice ca i cc, .slice da i dc] ∧ Own U BB 3 1 ca i cc (pre.map encI) ∧ Own U BB 3 1 da i dc (ns.map encI) ∧ VxL U w.heap.size its va vc ∧ RowKit.Below w.heap.size w U) ⟨(kVr.set 2 _).set 3 _, (oc.far (nec 2) _).far (nec 3) _, (od.far (ned 2) _).far (ned 3) _, (ilr.set kVr HVA.out 2 _).set (kVr.set 2 _) HVA.out 3 _, (by repeat (first | (with_reducible refine Below.setCell ?_ ?_ _) | (with_reducible refine Below.alloc ?_ ?_ _) | (with_reducible refine Below.drew ?_) | (with_reducible refine below_drewN ?_ _) | (with_reducible exact Below.refl _ _) | (with_reducible refine Below.trans ?_ (Below.mono ber ?_)) | (focus (simp; done)) | (focus (simp; omega)) | (focus omega) | (focus (have q0 := Below.size ber; (try simp at q0); (try simp); omega))))⟩ ?_
                clear kVr ilr ber oc od v0 v1 v2 v3 vf vl nec ned
                rintro U ⟨kV, oc, od, ilU, beU⟩
                obtain ⟨gl, gh, g1, g2, g3, g4, g5⟩ := ilU.own.range
                have G5 := Lib.hid g5
                clear g5
                obtain ⟨ra2, hra⟩ : ∃ r2, (if rc = 3 + i then some (⟨ba, oa, none⟩ : Addr) else some ⟨ba, oa + (3 + i), none⟩) = r2 := ⟨_, rfl⟩
                have hD2 : Hid (Byt w ra2 (rr.drop i)) := Lib.hid (by
                  have := byt_next (pc := rc) (T := 3 + i) hD.out (by have := HRN.out; omega)
                  rw [hra] at this
                  rwa [show (x :: y :: z :: rr).drop (3 + i) = rr.drop i by rw [show 3 + i = i + 1 + 1 + 1 by omega]; rfl] at this)
                have hVl2 := kV.lt
                have hVg : VB < gl ∨ gh ≤ VB := by
                  rcases g4 with ⟨rfl, rfl⟩ | ⟨h1, h2⟩
                  · omega
                  · have := HVA.out gl ((G5.out gl).2 (by omega)); omega
                have ew : IntKind.i64.wrap (3 + (i : Int)) = 3 + (i : Int) := by rw [IntKind.wrap_i64]; omega
                have hle : 3 + i ≤ rn := by omega
                have hrc2 : 3 + i ≤ rc := by omega
                have hic : ((3 : Int) + (i : Int)) ≤ (rc : Int) := by omega
                obtain ⟨B0, hB0⟩ : ∃ B, w.heap.size = B := ⟨_, rfl⟩
                have hB0U := beU.size
                rw [hB0] at ilU hBW hB0U
                have g4' : (gl = 0 ∧ gh = 0) ∨ (B0 ≤ gl ∧ gh = gl + 1) := by rw [← hB0]; exact g4
                apply wp_region_tab [(gl, gh)] 10 102 [some 89, some 90, some 91, some 92, some 93, some 94, some 95, some 96, some 6, some 0] [⟨[10], [], [], []⟩, ⟨[10], [], [], []⟩, ⟨[1, 10], [1], [1], []⟩, ⟨[0, 1, 2, 10], [0, 2, 10], [0, 2, 10], [10]⟩, ⟨[10], [], [], []⟩, ⟨[10], [], [], []⟩, ⟨[0, 1, 2, 3, 5, 10], [5], [5], []⟩, ⟨[0, 1, 2, 3, 4, 5, 6, 10], [4, 6], [4, 6], []⟩, ⟨[0, 1, 2, 3, 5, 6, 10], [3], [3], []⟩, ⟨[0, 1, 2, 3, 4, 5, 6, 7, 8, 10], [7], [7], []⟩, ⟨[], [], [], []⟩] [0, 1, 2, 3, 4, 5, 6, 7, 8, 9] [3, 8] [psiTrue, psiTrue, (fun f lo hi v b0 b1 W => ∃ b : Nat, v = .slice (some ⟨b, 0, none⟩) 1 1 ∧ b0 ≤ b ∧ b < b1 ∧ Blk W b 43 #[.bool fl, .bool ov, .slice ca i cc, .slice da i dc]), (fun f lo hi v b0 b1 W => ∃ (a : Option Addr) (c : Nat), v = .slice a (k + 1) c ∧ Own W B0 43 4 a (k + 1) c (vxCells its ++ [.bool fl, .bool ov, .slice ca i cc, .slice da i dc]) ∧ ∀ k, a.map (·.block) = some k → (gl ≤ k ∧ k < gh) ∨ (b0 ≤ k ∧ k < b1)), psiTrue, psiTrue, psiTrue, psiTrue, (fun f _ _ v _ _ _ => v = f 3), psiTrue, (fun f lo hi v b0 b1 W => (b0 = gl ∧ b1 = gh) ∧ Own W B0 43 4 va k vc (vxCells its))] [kVal _, kVal _, kTrue, kTrue, kVal _, kVal _, kVal _, kVal _, kTrue, kVal _]
                · kernel_rfl
                · kernel_rfl
                · rfl
                · rfl
                rotate_left 2
                refine ⟨?oR2_0, ?oR2_1, ?oR2_2, ?oR2_3, ?oR2_4, ?oR2_5, ?oR2_6, ?oR2_7, ?oR2_8, ?oR2_9, trivial⟩
                case hx => exact ⟨⟨by omega, by omega⟩, by simp, trivial⟩
                case hX => exact ⟨fun _ _ _ _ => ⟨⟨rfl, rfl⟩, by have h := ilU.own; rw [HIL.out] at h; exact h⟩, trivial⟩
                case oR2_0 => intro f lo hi w hb hx hf hk hrg R hR; (try replace hb := BelX.zero hb); (try simp (decide := true) only [go_sem] at hf); (try simp (decide := true) only [go_sem] at hk); go_simp; exact hR _ _ (rpost_val rfl rfl (Below.refl _ _) rfl)
                case oR2_1 =>
                  intro f lo hi w hb hx hf hk hrg R hR; (try replace hb := BelX.zero hb); (try simp (decide := true) only [go_sem] at hf); (try simp (decide := true) only [go_sem] at hk)
                  obtain ⟨e0, e1, e2, e3⟩ := (hb.blk kV (fun r hr => by simp at hr; subst hr; simp only; omega)).four'
                  go_simp
                  exact hR _ _ (rpost_val rfl rfl (Below.refl _ _) rfl)
                case oR2_2 =>
                  intro f lo hi w hb hx hf hk hrg R hR; (try replace hb := BelX.zero hb); (try simp (decide := true) only [go_sem] at hf); (try simp (decide := true) only [go_sem] at hk)
                  go_simp
                  refine hR _ _ (rpost_none rfl ((RowKit.Below.refl _ _).alloc (Nat.le_refl _) _) ?_)
                  (try simp (decide := true) only [go_sem])
                  exact ⟨_, rfl, Nat.le_refl _, by simp, Blk.new _ _ _⟩
                case oR2_3 =>
                  intro f lo hi w hb hx hf hk hrg R hR; (try replace hb := BelX.zero hb); (try simp (decide := true) only [go_sem] at hf); (try simp (decide := true) only [go_sem] at hk)
                  obtain ⟨⟨bq, h69, -, -, kk⟩, ⟨-, -⟩, own⟩ := hf
                  have hsz : U.heap.size ≤ w.heap.size := hb.2.2.2.1
                  refine obl_appV B0 va k vc (vxCells its) ?_ bq (.bool fl) (.bool ov) (.slice ca i cc) (.slice da i dc) ?_ kk own ⟨rfl, rfl, rfl, rfl⟩ (by omega) (by omega) ?_
                  · go_simp
                  · go_simp
                  intro b2 c2 w2 own2 gr2
                  refine hR _ _ (rpost_some rfl rfl (Grew.touch gr2 fun k hk' => ⟨10, by simp, ?_⟩) ?_)
                  · obtain ⟨q1, q2⟩ : lo 10 = gl ∧ hi 10 = gh := XOk.get _ _ hx 0 _ rfl
                    have h4 := (G5.out k).1 hk'
                    omega
                  (try simp (decide := true) only [go_sem])
                  refine ⟨_, _, rfl, own2, fun k hk' => ?_⟩
                  rcases gr2.2.1 with e | e
                  · exact .inl ((G5.out k).1 (e ▸ hk'))
                  · rw [e] at hk'
                    exact .inr ⟨by injection hk' with hk'; omega, own2.lt' k (e ▸ hk')⟩
                case oR2_4 => intro f lo hi w hb hx hf hk hrg R hR; (try replace hb := BelX.zero hb); (try simp (decide := true) only [go_sem] at hf); (try simp (decide := true) only [go_sem] at hk); go_simp; exact hR _ _ (rpost_val rfl rfl (Below.refl _ _) rfl)
                case oR2_5 => intro f lo hi w hb hx hf hk hrg R hR; (try replace hb := BelX.zero hb); (try simp (decide := true) only [go_sem] at hf); (try simp (decide := true) only [go_sem] at hk); go_simp; exact hR _ _ (rpost_val rfl rfl (Below.refl _ _) rfl)
                case oR2_6 => intro f lo hi w hb hx hf hk hrg R hR; (try replace hb := BelX.zero hb); (try simp (decide := true) only [go_sem] at hf); (try simp (decide := true) only [go_sem] at hk); go_simp; (with_reducible refine (ref23_Size (i : Int) _ (by omega) (by omega)).mono ?_); rintro e w' ⟨rfl, rfl⟩; exact ⟨_, rfl, hR _ _ (rpost_val rfl rfl (Below.refl _ _) rfl)⟩
                case oR2_7 => intro f lo hi w hb hx hf hk hrg R hR; (try replace hb := BelX.zero hb); (try simp (decide := true) only [go_sem] at hf); (try simp (decide := true) only [go_sem] at hk); go_simp; exact hR _ _ (rpost_val rfl rfl (Below.refl _ _) rfl)
                case oR2_8 => intro f lo hi w hb hx hf hk hrg R hR; (try replace hb := BelX.zero hb); (try simp (decide := true) only [go_sem] at hf); (try simp (decide := true) only [go_sem] at hk); go_simp; exact hR _ _ (rpost_none rfl (Below.refl _ _) rfl)
                case oR2_9 => intro f lo hi w hb hx hf hk hrg R hR; (try replace hb := BelX.zero hb); (try simp (decide := true) only [go_sem] at hf); (try simp (decide := true) only [go_sem] at hk); go_simp; exact hR _ _ (rpost_val rfl rfl (Below.refl _ _) rfl)
                case hcl =>
                  refine ⟨Closed.true _ _ _ _, Closed.true _ _ _ _, ?cR2_2, ?cR2_3, Closed.true _ _ _ _, Closed.true _ _ _ _, Closed.true _ _ _ _, Closed.true _ _ _ _, ?cR2_8, Closed.true _ _ _ _, ?cR2_10, trivial⟩
                  all_goals first
                    | exact fun f lo hi v b0 b1 w w' h hs hB hown hU hX => by
                        obtain ⟨b, rfl, h2, h3, h6⟩ := h
                        exact ⟨b, rfl, h2, h3, (hown b h2 h3).trans h6⟩
                    | exact fun f lo hi v b0 b1 w w' h hs hB hown hU hX => by
                        obtain ⟨a, c, h1, own, lt⟩ := h
                        exact ⟨a, c, h1, own.keep fun b hb hl _ => (lt b (by rw [hb]; rfl)).elim (fun h => hX 0 _ rfl (by simp) b h.1 h.2) (fun h => hown b h.1 h.2), lt⟩
                    | exact fun f lo hi v b0 b1 w w' h hs hB hown hU hX => by
                        obtain ⟨⟨rfl, rfl⟩, own⟩ := h
                        exact ⟨⟨rfl, rfl⟩, own.keep fun b hb hl _ => by have := (G5.out b).1 (by rw [hb]; rfl); exact hown b this.1 this.2⟩
                    | exact fun _ _ _ _ _ _ _ _ h _ _ _ _ _ => h
                intro f lo hi W8 hbr hx hf hk hrg; (try replace hbr := BelX.zero hbr); clear hx; (try simp (decide := true) only [go_sem] at hf); (try simp (decide := true) only [go_sem] at hk)
                obtain ⟨⟨xb, xd, h92, own7, lt7⟩, h8⟩ := hf
                rw [h92] at h8
                have hout : ∀ q, q < U.heap.size → ¬ (gl ≤ q ∧ q < gh) → W8.heap[q]? = U.heap[q]? := fun q h1 h2 => hbr.2.2.2.2 q ⟨h1, fun r hr => by simp at hr; subst hr; simp only; omega⟩
                have keepI : ∀ {base n c : Nat} {a : Option Addr} {l : List Value}, Own U base 3 1 a n c l → Own W8 base 3 1 a n c l := fun h => h.keep fun b hb _ hl => hout b hl (fun hh => ilU.own.apart2 h (by decide) b ((G5.out b).2 hh) (by rw [hb]; rfl))
                have hsz8 : U.heap.size ≤ W8.heap.size := hbr.2.2.2.1
                have be8 : RowKit.Below B0 w W8 := ⟨hbr.1.trans beU.os, hbr.2.1.trans beU.tape, hbr.2.2.1.trans beU.output, by omega, fun q hq => (hout q (by omega) (by omega)).trans (beU.block q (by omega))⟩
                have il8 : VxL W8 B0 (its ++ [⟨fl, ov, pre, ns, ca, cc, da, dc⟩]) xb xd := by
                  refine ⟨by rw [vxCells_append, List.length_append, HIL.out]; simpa [vxCells, Vx.cells, hpl, hpc] using own7, fun v hv => ?_, fun v hv => ?_⟩
                  · rcases List.mem_append.1 hv with hv | hv
                    · exact keepI (ilU.cs v hv)
                    · rw [List.mem_singleton.1 hv]
                      have := keepI oc
                      simp only [hpl]
                      exact this.mono (Nat.zero_le _)
                  · rcases List.mem_append.1 hv with hv | hv
                    · exact keepI (ilU.ns v hv)
                    · rw [List.mem_singleton.1 hv]
                      have := keepI od
                      simp only [hpc]
                      exact this.mono (Nat.zero_le _)
                have HN2 : Hid (pRun b ps = (pRun (rr.drop i) (ps.drop (k + 1))).map ((its ++ [⟨fl, ov, pre, ns, ca, cc, da, dc⟩] : List Vx).map Vx.key ++ ·)) := Lib.hid (by
                  rw [HRUN3.out, HN1.out, show (x :: y :: z :: rr).drop (3 + i) = rr.drop i by rw [show 3 + i = i + 1 + 1 + 1 by omega]; rfl]
                  simp only [Option.bind_some, Option.map_map]
                  congr 1
                  funext q
                  simp [Vx.key])
                clear hout keepI own7 lt7 hbr hrg oc od ilU beU kV G5
                go_simp
                clear hk h92 h8
                go_wp2
                go_roundw
                case rel => exact ⟨k + 1, ra2, rn - (3 + i), rc - (3 + i), rr.drop i, its ++ [⟨fl, ov, pre, ns, ca, cc, da, dc⟩], xb, xd, by rw [← hra, show ((3 : Int) + (i : Int)).toNat = 3 + i by omega], rfl, by go_num, by omega, by have := HRN.out; simp at this; rw [List.length_drop]; omega, by omega, hD2.out, HN2.out, by rw [List.length_append, HIL.out]; rfl, by rw [hB0]; exact il8, by rw [hB0]; exact be8, by omega⟩
                case measure => simp [intOf]; omega
              · have HN2 : Hid (pRun b ps = none) := Lib.hid (by
                  rw [HRUN3.out, HV2.out, hdig]
                  simp [dig, hq])
                have hq0 : (Q != 0) = true := by rw [bne_iff_ne]; exact hq
                clear hdig hq
                go_wp2_with fail
                refine bodyPost_ret (v := .tuple #[.slice none 0 0, .int .i64 6]) (by simp [results, Try.results17, go_sem]) rfl ?_
                exact ParR.no HN2.out (by repeat (first | (with_reducible refine Below.setCell ?_ ?_ _) | (with_reducible refine Below.alloc ?_ ?_ _) | (with_reducible refine Below.drew ?_) | (with_reducible refine below_drewN ?_ _) | (with_reducible exact Below.refl _ _) | (with_reducible refine Below.trans ?_ (Below.mono bz ?_)) | (with_reducible refine Below.trans ?_ (Below.mono beY ?_)) | (focus (simp; done)) | (focus (simp; omega)) | (focus omega) | (focus (have q0 := Below.size bz; (try simp at q0); have q1 := Below.size beY; (try simp at q1); (try simp); omega))))
    · obtain rfl : k = ps.length := by omega
      rw [List.drop_length] at HRUN
      by_cases hr0 : rn = 0
      · have HE : Hid (pRun b ps = some (its.map Vx.key)) := Lib.hid (by
          have h0 : rest = [] := by have := HRN.out; exact List.eq_nil_of_length_eq_zero (by omega)
          rw [HRUN.out, h0]
          simp [pRun])
        subst hr0
        go_wp2_with fail
        refine bodyPost_ret (v := .tuple #[.slice va ps.length vc, .int .i64 0]) (by simp [results, Try.results17, go_sem]) rfl ?_
        exact ⟨va, ps.length, vc, 0, rfl, (by repeat (first | (with_reducible refine Below.setCell ?_ ?_ _) | (with_reducible refine Below.alloc ?_ ?_ _) | (with_reducible refine Below.drew ?_) | (with_reducible refine below_drewN ?_ _) | (with_reducible exact Below.refl _ _) | (with_reducible refine Below.trans ?_ (Below.mono be ?_)) | (focus (simp; done)) | (focus (simp; omega)) | (focus omega) | (focus (have q0 := Below.size be; (try simp at q0); (try simp); omega)))), .inr ⟨rfl, its, HE.out, HIL.out.symm, il⟩⟩
      · have HN2 : Hid (pRun b ps = none) := Lib.hid (by
          have h0 : rest ≠ [] := by intro e; apply hr0; rw [HRN.out, e]; rfl
          rw [HRUN.out]
          unfold pRun
          rw [if_neg h0]; rfl)
        have hp0 : (0 : Int) < (rn : Int) := by omega
        go_wp2_with fail
        refine bodyPost_ret (v := .tuple #[.slice none 0 0, .int .i64 6]) (by simp [results, Try.results17, go_sem]) rfl ?_
        exact ParR.no HN2.out (by repeat (first | (with_reducible refine Below.setCell ?_ ?_ _) | (with_reducible refine Below.alloc ?_ ?_ _) | (with_reducible refine Below.drew ?_) | (with_reducible refine below_drewN ?_ _) | (with_reducible exact Below.refl _ _) | (with_reducible refine Below.trans ?_ (Below.mono be ?_)) | (focus (simp; done)) | (focus (simp; omega)) | (focus omega) | (focus (have q0 := Below.size be; (try simp at q0); (try simp); omega))))
end Go.Proofs.Ytdkifkbnkedbpaa
