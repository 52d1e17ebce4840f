/- signalbrokerref23.Bytes -/
import Derived.Test.YtpjnajallekjoaaBytes
namespace Go.Proofs.Ytpjnajallekjoaa
set_option linter.unusedVariables false
open Go.RowKit Go.Sort
set_option maxRecDepth 100000

set_option maxHeartbeats 4000000 in
theorem ref23_Bytes (a : Option Addr) (l : List Vx) (n ca : Nat) (w : World) (hl : Vws w a l) (ha : n = l.length) (l9 : l.length ≤ 1000000) (hc : ∀ v ∈ l, OkK v.key) :
    Calls Try.prog 32 #[.slice a n ca] w (BytesR (bytesOf (l.map Vx.key)) w) := by
  subst ha
  go_enter Try.func32, Try.ntmps32
  go_wp2
  go_loopw [3, 14] (fun s3 s15 wr => ∃ (k N c : Nat) (b : Option Addr) (q : List UInt8), s3 = .slice b N c ∧ s15 = .int .i64 k ∧ k ≤ l.length ∧ N = q.length ∧ q = bytesOf ((l.take k).map Vx.key) ∧ Own wr w.heap.size 5 1 b N c (q.map encB) ∧ RowKit.Below w.heap.size w wr) (fun _ i _ => l.length - (intOf i).toNat)
  case atStart => exact ⟨0, 0, 0, none, [], rfl, rfl, by omega, rfl, by simp [bytesOf], Own.nil _ _ _ _, (by repeat (first | (with_reducible refine Below.setCell ?_ ?_ _) | (with_reducible refine Below.alloc ?_ ?_ _) | (with_reducible refine Below.drew ?_) | (with_reducible refine below_drewN ?_ _) | (with_reducible exact Below.refl _ _) | (focus (simp; done)) | (focus (simp; omega)) | (focus omega)))⟩
  case round =>
    obtain ⟨k, N, c, b, q, rfl, rfl, hk, hN, hq, own, be⟩ := hrel
    have hNl : N ≤ 11 * k := by
      have := bytesOf_len ((l.take k).map Vx.key) (fun v hv => by
        obtain ⟨x, hx, rfl⟩ := List.mem_map.1 hv
        exact hc x (List.mem_of_mem_take hx))
      rw [← hq, List.length_map, List.length_take] at this
      omega
    have HN := Lib.hid hN
    have HQ := Lib.hid hq
    clear hN hq
    by_cases hlt : k < l.length
    · obtain ⟨ba, oa, rfl⟩ := hl.open (by omega)
      have il := hl.below be (Nat.le_refl _)
      obtain ⟨x0, x1, x2, x3, xb⟩ := row_view il.row k hlt
      have c1 := il.cs _ (List.getElem_mem hlt)
      have c2 := il.ns _ (List.getElem_mem hlt)
      have hok := hc _ (List.getElem_mem hlt)
      have kx : (k : Int) < (l.length : Int) := by omega
      have HQ2 : Hid (bytesOf ((l.take (k + 1)).map Vx.key) = q ++ vBytes l[k].key) := Lib.hid (by
        rw [← List.take_append_getElem hlt, List.map_append, HQ.out]
        exact bytesOf_snoc _ _)
      obtain ⟨x, hx⟩ : ∃ x, l[k] = x := ⟨_, rfl⟩
      rw [hx] at x0 x1 x2 x3 c1 c2 hok HQ2
      have c2w := hl.ns _ (List.getElem_mem hlt)
      rw [hx] at c2w
      clear hx il
      obtain ⟨xf, xo, xcs, xns, xca, xcc, xna, xnc⟩ := x
      simp only at x0 x1 x2 x3 c1 c2 c2w
      obtain ⟨hk1, hk2, hk3⟩ := hok
      simp only [Vx.key] at hk1 hk2 hk3
      go_upto_if 19 with fail
      refine wp_named (fun Y => Blk Y wr.heap.size 36 #[.bool xf, .bool xo, .slice xca xcs.length xcc, .slice xna xns.length xnc] ∧ RowKit.Below wr.heap.size wr Y) ⟨Blk.new _ _ _, (by repeat (first | (with_reducible refine Below.setCell ?_ ?_ _) | (with_reducible refine Below.alloc ?_ ?_ _) | (with_reducible refine Below.drew ?_) | (with_reducible refine below_drewN ?_ _) | (with_reducible exact Below.refl _ _) | (focus (simp; done)) | (focus (simp; omega)) | (focus omega)))⟩ ?_
      rintro Y ⟨kV, bY⟩
      have own1 := own.below bY (Nat.le_refl _)
      have C1 := c1.below bY (Nat.le_refl _)
      have beY : RowKit.Below w.heap.size w Y := (by repeat (first | (with_reducible refine Below.setCell ?_ ?_ _) | (with_reducible refine Below.alloc ?_ ?_ _) | (with_reducible refine Below.drew ?_) | (with_reducible refine below_drewN ?_ _) | (with_reducible exact Below.refl _ _) | (with_reducible refine Below.trans ?_ (Below.mono bY ?_)) | (with_reducible refine Below.trans ?_ (Below.mono be ?_)) | (focus (simp; done)) | (focus (simp; omega)) | (focus omega) | (focus (have q0 := Below.size bY; (try simp at q0); have q1 := Below.size be; (try simp at q1); (try simp); omega))))
      clear c1 c2 own x0 x1 x2 x3 bY be xb
      obtain ⟨VB, hVB⟩ : ∃ VB, wr.heap.size = VB := ⟨_, rfl⟩
      rw [hVB] at kV ⊢
      clear hVB
      obtain ⟨v0, v1, v2, v3⟩ := kV.four'
      have vl := kV.lt
      go_cut [6] (fun s6 wx => s6 = .int .u8 (if xf then 1 else 0) ∧ Y = wx)
      case first =>
        cases xf <;> (go_wp2_with fail; go_meet; exact ⟨rfl, rfl⟩)
      case rest =>
        obtain ⟨rfl, rfl⟩ := hcut
        obtain ⟨F0, hF0⟩ : ∃ F : Int, (if xf then 1 else 0) = F := ⟨_, rfl⟩
        have hF0b : 0 ≤ F0 ∧ F0 ≤ 1 := by rw [← hF0]; split <;> omega
        rw [hF0]
        have HF0 := Lib.hid hF0
        clear hF0
        go_upto_if 23 with fail
        go_cut [6] (fun s6 wx => s6 = .int .u8 (vHead xf xo) ∧ Y = wx)
        case first =>
          cases xo
          · go_wp2_with fail
            go_meet
            exact ⟨by rw [← HF0.out]; simp [vHead], rfl⟩
          · go_wp2_with fail
            go_meet
            exact ⟨by rw [← HF0.out]; simp [vHead], rfl⟩
        case rest =>
          obtain ⟨rfl, rfl⟩ := hcut
          obtain ⟨F, hF⟩ : ∃ F : Int, vHead xf xo = F := ⟨_, rfl⟩
          have hFb := vHead_bd xf xo
          rw [hF] at hFb ⊢
          have HF := Lib.hid hF
          clear hF HF0 hF0b
          go_wp2_with fail
          go_loopw [7, 29] (fun s7 s30 wx => ∃ (j : Nat) (S : Int), s7 = .int .i64 S ∧ s30 = .int .i64 j ∧ j ≤ xcs.length ∧ Hid (S = colS (xcs.take j)) ∧ Y = wx) (fun _ s _ => xcs.length - (intOf s).toNat)
          case atStart => exact ⟨0, 0, rfl, rfl, by omega, Lib.hid rfl, rfl⟩
          case round =>
            obtain ⟨j, S, rfl, rfl, hj, HS, rfl⟩ := hrel
            have hSb : 0 ≤ S ∧ S + 1 ≤ 4 ^ j := by
              have h1 := colS_bd (xcs.take j) fun c hc => hk3 c (List.mem_of_mem_take hc)
              rw [List.length_take, Nat.min_eq_left hj] at h1
              rw [HS.out]
              exact h1
            have hPb : (1 : Int) ≤ 4 ^ j ∧ (4 : Int) ^ j ≤ 65536 := pow4_bd (by omega)
            by_cases hlj : j < xcs.length
            · have h0 : xcs ≠ [] := by intro e; rw [e] at hlj; simp at hlj
              obtain ⟨bb, oo, rfl, lb, xa⟩ := C1.open.resolve_left h0
              have x0 := xa j hlj
              have hcb := hk3 _ (List.getElem_mem hlj)
              have HS2 : Hid (colS (xcs.take (j + 1)) = S + xcs[j] * 4 ^ j) := Lib.hid (by
                rw [← List.take_append_getElem hlj, colS_snoc, List.length_take, Nat.min_eq_left hj, HS.out])
              obtain ⟨c0, hc0⟩ : ∃ c, xcs[j] = c := ⟨_, rfl⟩
              rw [hc0] at x0 hcb HS2
              clear xa hc0
              have kx : (j : Int) < (xcs.length : Int) := by omega
              have hS2 : 0 ≤ S ∧ S ≤ 65535 := by omega
              clear hSb hPb
              have hj8 : j = 0 ∨ j = 1 ∨ j = 2 ∨ j = 3 ∨ j = 4 ∨ j = 5 ∨ j = 6 ∨ j = 7 := by omega
              rcases hj8 with rfl | rfl | rfl | rfl | rfl | rfl | rfl | rfl
              · simp only [Nat.add_zero] at x0
                go_wp2_with fail
                go_roundw
                case rel => exact ⟨1, _, rfl, by go_num, by omega, Lib.hid (by have h : colS (xcs.take 1) = S + c0 * 1 := HS2.out; omega), by trivial⟩
                case measure => simp [intOf]; omega
              · go_wp2_with fail
                go_roundw
                case rel => exact ⟨2, _, rfl, by go_num, by omega, Lib.hid (by have h : colS (xcs.take 2) = S + c0 * 4 := HS2.out; omega), by trivial⟩
                case measure => simp [intOf]; omega
              · go_wp2_with fail
                go_roundw
                case rel => exact ⟨3, _, rfl, by go_num, by omega, Lib.hid (by have h : colS (xcs.take 3) = S + c0 * 16 := HS2.out; omega), by trivial⟩
                case measure => simp [intOf]; omega
              · go_wp2_with fail
                go_roundw
                case rel => exact ⟨4, _, rfl, by go_num, by omega, Lib.hid (by have h : colS (xcs.take 4) = S + c0 * 64 := HS2.out; omega), by trivial⟩
                case measure => simp [intOf]; omega
              · go_wp2_with fail
                go_roundw
                case rel => exact ⟨5, _, rfl, by go_num, by omega, Lib.hid (by have h : colS (xcs.take 5) = S + c0 * 256 := HS2.out; omega), by trivial⟩
                case measure => simp [intOf]; omega
              · go_wp2_with fail
                go_roundw
                case rel => exact ⟨6, _, rfl, by go_num, by omega, Lib.hid (by have h : colS (xcs.take 6) = S + c0 * 1024 := HS2.out; omega), by trivial⟩
                case measure => simp [intOf]; omega
              · go_wp2_with fail
                go_roundw
                case rel => exact ⟨7, _, rfl, by go_num, by omega, Lib.hid (by have h : colS (xcs.take 7) = S + c0 * 4096 := HS2.out; omega), by trivial⟩
                case measure => simp [intOf]; omega
              · go_wp2_with fail
                go_roundw
                case rel => exact ⟨8, _, rfl, by go_num, by omega, Lib.hid (by have h : colS (xcs.take 8) = S + c0 * 16384 := HS2.out; omega), by trivial⟩
                case measure => simp [intOf]; omega
            · obtain rfl : j = xcs.length := by omega
              rw [List.take_length] at HS
              have hS6 : S ≤ 65535 := by omega
              have hYw := beY.size
              clear hSb hPb
              go_wp2_with ((at_builtin; refine appB rfl _ _ rfl w.heap.size b N c q rfl (some ⟨Y.heap.size, 0, none⟩) 3 3 [toB F, toB (S / 256), toB S] rfl (own1.alloc _) (byt_new (three_enc hFb)) rfl (N + 3) rfl (by omega) (by simp; omega) ?_; intro b2 c2 w2 own2 g2 bl2; (have be2 : RowKit.Below w.heap.size w w2 := bl2 _ (beY.alloc hYw _)); (have kV2 := (kV.alloc _).ofGrown g2 (own1.ne_blk kV (by decide))); (obtain ⟨v0, v1, v2, v3⟩ := kV2.four'); (have vl := kV2.lt)))
              go_loopw [3, 54] (fun s3 s55 wz => ∃ (m N3 c3 : Nat) (b3 : Option Addr), s3 = .slice b3 N3 c3 ∧ s55 = .int .i64 m ∧ m ≤ xns.length ∧ N3 = N + 3 + m ∧ Own wz w.heap.size 5 1 b3 N3 c3 ((q ++ [toB F, toB (S / 256), toB S] ++ (xns.take m).map toB).map encB) ∧ RowKit.Below w.heap.size w wz) (fun _ s _ => xns.length - (intOf s).toNat)
              case atStart => exact ⟨0, N + 3, c2, b2, rfl, rfl, by omega, rfl, by simpa using own2, be2⟩
              case round =>
                clear own2 be2 kV2 v0 v1 v2 v3 vl g2 bl2
                obtain ⟨m, N3, c3, b3, rfl, rfl, hm, hN3, own3, be3⟩ := hrel
                have HN3 := Lib.hid hN3
                have hN3b : N3 ≤ 11 * k + 20 := by omega
                clear hN3
                by_cases hlm : m < xns.length
                · have h0 : xns ≠ [] := by intro e; rw [e] at hlm; simp at hlm
                  obtain ⟨bb, oo, rfl, lb, xa⟩ := (Ints.below c2w be3 (Nat.le_refl _)).open.resolve_left h0
                  have x0 := xa m hlm
                  obtain ⟨c0, hc0⟩ : ∃ c, xns[m] = c := ⟨_, rfl⟩
                  have HM : Hid ((xns.take (m + 1)).map toB = (xns.take m).map toB ++ [toB c0]) := Lib.hid (by
                    rw [← List.take_append_getElem hlm, List.map_append, hc0]; rfl)
                  rw [hc0] at x0
                  clear xa hc0
                  have kx : (m : Int) < (xns.length : Int) := by omega
                  have hwz := be3.size
                  go_wp2_with ((at_builtin; refine app1B rfl _ _ rfl w.heap.size b3 N3 c3 _ rfl (toB c0) _ rfl own3 (toB_val c0).symm (N3 + 1) rfl (by omega) hwz ?_; intro b4 c4 w4 own4 g4 bl4; (have be4 := bl4 _ be3)))
                  go_roundw
                  case rel => exact ⟨m + 1, N3 + 1, c4, b4, rfl, by go_num, by omega, by have := HN3.out; omega, by rw [HM.out, ← List.append_assoc]; exact own4, be4⟩
                  case measure => simp [intOf]; omega
                · obtain rfl : m = xns.length := by omega
                  rw [List.take_length] at own3
                  go_wp2_with fail
                  go_roundw
                  case rel => exact ⟨k + 1, N3, c3, b3, _, rfl, by go_num, by omega, by rw [HQ2.out, List.length_append, vBytes_len, ← HN.out]; simp only [Vx.key]; have := HN3.out; omega, rfl, by rw [HQ2.out]; simp only [vBytes, Vx.key, HF.out, ← HS.out]; simpa using own3, be3⟩
                  case measure => simp [intOf]; omega
    · obtain rfl : k = l.length := by omega
      go_wp2
      go_ret
      exact ⟨b, c, N, Lib.hid (by rw [HN.out, HQ.out, List.take_length]), rfl, by have := HQ.out; rw [List.take_length] at this; rw [← this]; exact own, be⟩
end Go.Proofs.Ytpjnajallekjoaa
