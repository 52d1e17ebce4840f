/- record.Bytes -/
import Derived.Test.YtpjnajallekjoaaViews
namespace Go.Proofs.Ytpjnajallekjoaa
set_option linter.unusedVariables false
open Go.RowKit Go.Sort
set_option maxRecDepth 100000

def colS : List Int → Int
  | [] => 0
  | c :: l => c + 4 * colS l
theorem colS_snoc : ∀ (l : List Int) (c : Int), colS (l ++ [c]) = colS l + c * 4 ^ l.length
  | [], c => by simp [colS]
  | x :: l, c => by
    have := colS_snoc l c
    simp only [List.cons_append, colS, List.length_cons, this, Int.pow_succ]
    rw [Int.mul_add, Int.mul_left_comm, Int.mul_comm 4 (4 ^ l.length)]
    omega
theorem colS_bd : ∀ (l : List Int), (∀ c ∈ l, 0 ≤ c ∧ c ≤ 2) → 0 ≤ colS l ∧ colS l + 1 ≤ 4 ^ l.length
  | [], _ => by simp [colS]
  | x :: l, h => by
    have h1 := colS_bd l fun c hc => h c (List.mem_cons_of_mem _ hc)
    have h2 := h x List.mem_cons_self
    simp only [colS, List.length_cons, Int.pow_succ]
    omega
theorem pow4_bd {k : Nat} (h : k ≤ 8) : (1 : Int) ≤ 4 ^ k ∧ (4 : Int) ^ k ≤ 65536 := by
  have hk : k = 0 ∨ k = 1 ∨ k = 2 ∨ k = 3 ∨ k = 4 ∨ k = 5 ∨ k = 6 ∨ k = 7 ∨ k = 8 := by omega
  rcases hk with rfl | rfl | rfl | rfl | rfl | rfl | rfl | rfl | rfl <;> decide
def vHead (fl ov : Bool) : Int := (if fl then 1 else 0) + (if ov then 2 else 0)
theorem vHead_bd (fl ov : Bool) : 0 ≤ vHead fl ov ∧ vHead fl ov ≤ 3 := by cases fl <;> cases ov <;> decide
def toB (n : Int) : UInt8 := UInt8.ofNat (n % 256).toNat
theorem toB_val (n : Int) : ((toB n).toNat : Int) = n % 256 := by
  unfold toB
  simp
  omega
def vBytes (v : Vk) : List UInt8 := toB (vHead v.1 v.2.1) :: toB (colS v.2.2.1 / 256) :: toB (colS v.2.2.1) :: v.2.2.2.map toB
def bytesOf (l : List Vk) : List UInt8 := l.flatMap vBytes
def OkK (v : Vk) : Prop := v.2.2.1.length ≤ 8 ∧ v.2.2.2.length ≤ 8 ∧ ∀ c ∈ v.2.2.1, 0 ≤ c ∧ c ≤ 2
theorem vBytes_len (v : Vk) : (vBytes v).length = 3 + v.2.2.2.length := by simp [vBytes]; omega
theorem bytesOf_snoc (l : List Vk) (v : Vk) : bytesOf (l ++ [v]) = bytesOf l ++ vBytes v := by simp [bytesOf]
theorem bytesOf_len : ∀ (l : List Vk), (∀ v ∈ l, OkK v) → (bytesOf l).length ≤ 11 * l.length
  | [], _ => by simp [bytesOf]
  | v :: l, h => by
    have h1 := bytesOf_len l fun c hc => h c (List.mem_cons_of_mem _ hc)
    have h2 := (h v List.mem_cons_self).2.1
    have h3 := vBytes_len v
    simp only [bytesOf, List.flatMap_cons, List.length_append, List.length_cons] at h1 ⊢
    omega
theorem three_enc {F S : Int} (hF : 0 ≤ F ∧ F ≤ 3) : (#[Value.int .u8 F, .int .u8 (S / 256 % 256), .int .u8 (S % 256)] : Array Value).toList = [toB F, toB (S / 256), toB S].map encB := by
  simp only [List.map_cons, List.map_nil, encB, toB_val]
  rw [Int.emod_eq_of_lt hF.1 (by omega)]
def BytesR (l : List UInt8) (w : World) (e : Ending) (w' : World) : Prop :=
  ∃ (a : Option Addr) (c n : Nat), Hid (n = l.length) ∧ e = .returned (.slice a n c) ∧ Own w' w.heap.size 5 1 a n c (l.map encB) ∧ Below w.heap.size w w'
set_option maxHeartbeats 4000000 in
theorem rec_Bytes (a : Option Addr) (l : List Vx) (n ca : Nat) (w : World) (hl : Vws w a l) (ha : n = l.length) (l9 : l.length ≤ 1000000) (hc : ∀ v ∈ l, OkK v.key) :
    Calls Try.prog 31 #[.slice a n ca] w (BytesR (bytesOf (l.map Vx.key)) w) := by
  subst ha
  go_enter Try.func31, Try.ntmps31
  go_wp2
  go_loopw [3, 15] (fun s3 s15 wr => ∃ (k N c : Nat) (b : Option Addr) (q : List UInt8), s3 = .slice b N c ∧ s15 = .int .i64 k ∧ k ≤ l.length ∧ N = q.length ∧ q = bytesOf ((l.take k).map Vx.key) ∧ Own wr w.heap.size 5 1 b N c (q.map encB) ∧ RowKit.Below w.heap.size w wr) (fun _ i _ => l.length - (intOf i).toNat)
  case atStart => exact ⟨0, 0, 0, none, [], rfl, rfl, by omega, rfl, by simp [bytesOf], Own.nil _ _ _ _, (by repeat (first | (with_reducible refine Below.setCell ?_ ?_ _) | (with_reducible refine Below.alloc ?_ ?_ _) | (with_reducible refine Below.drew ?_) | (with_reducible refine below_drewN ?_ _) | (with_reducible exact Below.refl _ _) | (focus (simp; done)) | (focus (simp; omega)) | (focus omega)))⟩
  case round =>
    obtain ⟨k, N, c, b, q, rfl, rfl, hk, hN, hq, own, be⟩ := hrel
    have hNl : N ≤ 11 * k := by
      have := bytesOf_len ((l.take k).map Vx.key) (fun v hv => by
        obtain ⟨x, hx, rfl⟩ := List.mem_map.1 hv
        exact hc x (List.mem_of_mem_take hx))
      rw [← hq, List.length_map, List.length_take] at this
      omega
    have HN := Lib.hid hN
    have HQ := Lib.hid hq
    clear hN hq
    by_cases hlt : k < l.length
    · obtain ⟨ba, oa, rfl⟩ := hl.open (by omega)
      have il := hl.below be (Nat.le_refl _)
      obtain ⟨x0, x1, x2, x3, xb⟩ := row_view il.row k hlt
      have c1 := il.cs _ (List.getElem_mem hlt)
      have c2 := il.ns _ (List.getElem_mem hlt)
      have hok := hc _ (List.getElem_mem hlt)
      have kx : (k : Int) < (l.length : Int) := by omega
      have HQ2 : Hid (bytesOf ((l.take (k + 1)).map Vx.key) = q ++ vBytes l[k].key) := Lib.hid (by
        rw [← List.take_append_getElem hlt, List.map_append, HQ.out]
        exact bytesOf_snoc _ _)
      obtain ⟨x, hx⟩ : ∃ x, l[k] = x := ⟨_, rfl⟩
      rw [hx] at x0 x1 x2 x3 c1 c2 hok HQ2
      have c2w := hl.ns _ (List.getElem_mem hlt)
      rw [hx] at c2w
      clear hx il
      obtain ⟨xf, xo, xcs, xns, xca, xcc, xna, xnc⟩ := x
      simp only at x0 x1 x2 x3 c1 c2 c2w
      obtain ⟨hk1, hk2, hk3⟩ := hok
      simp only [Vx.key] at hk1 hk2 hk3
      go_upto_if 20 with fail
      refine wp_named (fun Y => Blk Y wr.heap.size 36 #[.bool xf, .bool xo, .slice xca xcs.length xcc, .slice xna xns.length xnc] ∧ RowKit.Below wr.heap.size wr Y) ⟨Blk.new _ _ _, (by repeat (first | (with_reducible refine Below.setCell ?_ ?_ _) | (with_reducible refine Below.alloc ?_ ?_ _) | (with_reducible refine Below.drew ?_) | (with_reducible refine below_drewN ?_ _) | (with_reducible exact Below.refl _ _) | (focus (simp; done)) | (focus (simp; omega)) | (focus omega)))⟩ ?_
      rintro Y ⟨kV, bY⟩
      have own1 := own.below bY (Nat.le_refl _)
      have C1 := c1.below bY (Nat.le_refl _)
      have beY : RowKit.Below w.heap.size w Y := (by repeat (first | (with_reducible refine Below.setCell ?_ ?_ _) | (with_reducible refine Below.alloc ?_ ?_ _) | (with_reducible refine Below.drew ?_) | (with_reducible refine below_drewN ?_ _) | (with_reducible exact Below.refl _ _) | (with_reducible refine Below.trans ?_ (Below.mono bY ?_)) | (with_reducible refine Below.trans ?_ (Below.mono be ?_)) | (focus (simp; done)) | (focus (simp; omega)) | (focus omega) | (focus (have q0 := Below.size bY; (try simp at q0); have q1 := Below.size be; (try simp at q1); (try simp); omega))))
      clear c1 c2 own x0 x1 x2 x3 bY be xb
      obtain ⟨VB, hVB⟩ : ∃ VB, wr.heap.size = VB := ⟨_, rfl⟩
      rw [hVB] at kV ⊢
      clear hVB
      obtain ⟨v0, v1, v2, v3⟩ := kV.four'
      have vl := kV.lt
      go_cut [6] (fun s6 wx => s6 = .int .i64 (if xf then 1 else 0) ∧ Y = wx)
      case first =>
        cases xf <;> (go_wp2_with fail; go_meet; exact ⟨rfl, rfl⟩)
      case rest =>
        obtain ⟨rfl, rfl⟩ := hcut
        obtain ⟨F0, hF0⟩ : ∃ F : Int, (if xf then 1 else 0) = F := ⟨_, rfl⟩
        have hF0b : 0 ≤ F0 ∧ F0 ≤ 1 := by rw [← hF0]; split <;> omega
        rw [hF0]
        have HF0 := Lib.hid hF0
        clear hF0
        go_upto_if 24 with fail
        go_cut [6] (fun s6 wx => s6 = .int .i64 (vHead xf xo) ∧ Y = wx)
        case first =>
          cases xo
          · go_wp2_with fail
            go_meet
            exact ⟨by rw [← HF0.out]; simp [vHead], rfl⟩
          · go_wp2_with fail
            go_meet
            exact ⟨by rw [← HF0.out]; simp [vHead], rfl⟩
        case rest =>
          obtain ⟨rfl, rfl⟩ := hcut
          obtain ⟨F, hF⟩ : ∃ F : Int, vHead xf xo = F := ⟨_, rfl⟩
          have hFb := vHead_bd xf xo
          rw [hF] at hFb ⊢
          have HF := Lib.hid hF
          clear hF HF0 hF0b
          go_wp2_with fail
          go_loopw [7, 8, 30] (fun s7 s8 s30 wx => ∃ (j : Nat) (S P : Int), s7 = .int .i64 S ∧ s8 = .int .i64 P ∧ s30 = .int .i64 j ∧ j ≤ xcs.length ∧ Hid (S = colS (xcs.take j)) ∧ Hid (P = 4 ^ j) ∧ Y = wx) (fun _ _ s _ => xcs.length - (intOf s).toNat)
          case atStart => exact ⟨0, 0, 1, rfl, rfl, rfl, by omega, Lib.hid rfl, Lib.hid rfl, rfl⟩
          case round =>
            obtain ⟨j, S, P, rfl, rfl, rfl, hj, HS, HP, rfl⟩ := hrel
            have hSb : 0 ≤ S ∧ S + 1 ≤ P := by
              have h1 := colS_bd (xcs.take j) fun c hc => hk3 c (List.mem_of_mem_take hc)
              rw [List.length_take, Nat.min_eq_left hj] at h1
              rw [HS.out, HP.out]
              exact h1
            have hPb : 1 ≤ P ∧ P ≤ 65536 := by rw [HP.out]; exact pow4_bd (by omega)
            by_cases hlj : j < xcs.length
            · have h0 : xcs ≠ [] := by intro e; rw [e] at hlj; simp at hlj
              obtain ⟨bb, oo, rfl, lb, xa⟩ := C1.open.resolve_left h0
              have x0 := xa j hlj
              have hcb := hk3 _ (List.getElem_mem hlj)
              have HS2 : Hid (colS (xcs.take (j + 1)) = S + xcs[j] * P) := Lib.hid (by
                rw [← List.take_append_getElem hlj, colS_snoc, List.length_take, Nat.min_eq_left hj, HS.out, HP.out])
              obtain ⟨c0, hc0⟩ : ∃ c, xcs[j] = c := ⟨_, rfl⟩
              rw [hc0] at x0 hcb HS2
              clear xa hc0
              have kx : (j : Int) < (xcs.length : Int) := by omega
              have hc3 : c0 = 0 ∨ c0 = 1 ∨ c0 = 2 := by omega
              rcases hc3 with rfl | rfl | rfl
              all_goals
                go_wp2_with fail
                go_roundw
                case rel => exact ⟨j + 1, _, _, rfl, rfl, by go_num, by omega, Lib.hid (by rw [HS2.out] <;> omega), Lib.hid (by rw [HP.out, Int.pow_succ]), by trivial⟩
                case measure => simp [intOf]; omega
            · obtain rfl : j = xcs.length := by omega
              rw [List.take_length] at HS
              have hS6 : S ≤ 65535 := by omega
              have hYw := beY.size
              clear HP hSb hPb
              go_wp2_with ((at_builtin; refine appB rfl _ _ rfl w.heap.size b N c q rfl (some ⟨Y.heap.size, 0, none⟩) 3 3 [toB F, toB (S / 256), toB S] rfl (own1.alloc _) (byt_new (three_enc hFb)) rfl (N + 3) rfl (by omega) (by simp; omega) ?_; intro b2 c2 w2 own2 g2 bl2; (have be2 : RowKit.Below w.heap.size w w2 := bl2 _ (beY.alloc hYw _)); (have kV2 := (kV.alloc _).ofGrown g2 (own1.ne_blk kV (by decide))); (obtain ⟨v0, v1, v2, v3⟩ := kV2.four'); (have vl := kV2.lt)))
              go_loopw [3, 55] (fun s3 s55 wz => ∃ (m N3 c3 : Nat) (b3 : Option Addr), s3 = .slice b3 N3 c3 ∧ s55 = .int .i64 m ∧ m ≤ xns.length ∧ N3 = N + 3 + m ∧ Own wz w.heap.size 5 1 b3 N3 c3 ((q ++ [toB F, toB (S / 256), toB S] ++ (xns.take m).map toB).map encB) ∧ RowKit.Below w.heap.size w wz) (fun _ s _ => xns.length - (intOf s).toNat)
              case atStart => exact ⟨0, N + 3, c2, b2, rfl, rfl, by omega, rfl, by simpa using own2, be2⟩
              case round =>
                clear own2 be2 kV2 v0 v1 v2 v3 vl g2 bl2
                obtain ⟨m, N3, c3, b3, rfl, rfl, hm, hN3, own3, be3⟩ := hrel
                have HN3 := Lib.hid hN3
                have hN3b : N3 ≤ 11 * k + 20 := by omega
                clear hN3
                by_cases hlm : m < xns.length
                · have h0 : xns ≠ [] := by intro e; rw [e] at hlm; simp at hlm
                  obtain ⟨bb, oo, rfl, lb, xa⟩ := (Ints.below c2w be3 (Nat.le_refl _)).open.resolve_left h0
                  have x0 := xa m hlm
                  obtain ⟨c0, hc0⟩ : ∃ c, xns[m] = c := ⟨_, rfl⟩
                  have HM : Hid ((xns.take (m + 1)).map toB = (xns.take m).map toB ++ [toB c0]) := Lib.hid (by
                    rw [← List.take_append_getElem hlm, List.map_append, hc0]; rfl)
                  rw [hc0] at x0
                  clear xa hc0
                  have kx : (m : Int) < (xns.length : Int) := by omega
                  have hwz := be3.size
                  go_wp2_with ((at_builtin; refine app1B rfl _ _ rfl w.heap.size b3 N3 c3 _ rfl (toB c0) _ rfl own3 (toB_val c0).symm (N3 + 1) rfl (by omega) hwz ?_; intro b4 c4 w4 own4 g4 bl4; (have be4 := bl4 _ be3)))
                  go_roundw
                  case rel => exact ⟨m + 1, N3 + 1, c4, b4, rfl, by go_num, by omega, by have := HN3.out; omega, by rw [HM.out, ← List.append_assoc]; exact own4, be4⟩
                  case measure => simp [intOf]; omega
                · obtain rfl : m = xns.length := by omega
                  rw [List.take_length] at own3
                  go_wp2_with fail
                  go_roundw
                  case rel => exact ⟨k + 1, N3, c3, b3, _, rfl, by go_num, by omega, by rw [HQ2.out, List.length_append, vBytes_len, ← HN.out]; simp only [Vx.key]; have := HN3.out; omega, rfl, by rw [HQ2.out]; simp only [vBytes, Vx.key, HF.out, ← HS.out]; simpa using own3, be3⟩
                  case measure => simp [intOf]; omega
    · obtain rfl : k = l.length := by omega
      go_wp2
      go_ret
      exact ⟨b, c, N, Lib.hid (by rw [HN.out, HQ.out, List.take_length]), rfl, by have := HQ.out; rw [List.take_length] at this; rw [← this]; exact own, be⟩
end Go.Proofs.Ytpjnajallekjoaa
