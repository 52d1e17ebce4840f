/- law 04: StreamTakes -/
import Derived.Test.YtjnajccobieamaaRefStr
import Derived.Test.YtjnajccobieamaaOnce
import Derived.Test.YtjnajccobieamaaOpenS
namespace Go.Proofs.Ytjnajccobieamaa
set_option linter.unusedVariables false
open Go.RowKit Go.Sort
set_option maxRecDepth 100000

theorem same_E (a b : Option Addr) (l m : List It) (na nb ca cb : Nat) (w : World) (hl : Items w a l) (hm : Items w b m) (ha : na = l.length) (hb : nb = m.length) (l9 : l.length ≤ 1000000000000) (m9 : m.length ≤ 1000000000000) (hk : l.map It.key = m.map It.key) :
    Calls Try.prog 14 #[.slice a na ca, .slice b nb cb] w fun e w' => e = .returned (.bool true) ∧ Below w.heap.size w w' := by
  have := ref03_Same a b l m na nb ca cb w hl hm ha hb l9 m9
  rwa [sameL_yes hk] at this
theorem keys_bd {lim : Nat} {l : List UInt8} {g : Bool} {st : TS} {its : List It} (h : Hid (tRun lim l ⟨0, g, []⟩ = st)) (hk : its.map It.key = st.keys) : its.length ≤ lim := by
  have := tRun_len lim l ⟨0, g, []⟩ (by simp)
  rw [h.out, ← hk, List.length_map] at this
  exact this

set_option maxHeartbeats 4000000 in
theorem streamTakes_walk (a0 : Option Addr) (c0 : Nat) (l0 : List UInt8) (g0 : Bool) (a1 : Option Addr) (c1 : Nat) (l1 : List Int) (n : Int) (w : World) (h0 : Byt w a0 l0) (n0 : l0.length ≤ 9223372036854775807) (k0 : l0.length ≤ c0) (x0 : a0 = none → l0.length = 0 ∧ c0 = 0) (h1 : Ints w a1 l1) (n1 : l1.length ≤ 9223372036854775807) :
    Calls Try.prog 5 #[.agg #[.slice a0 l0.length c0, .bool g0], .slice a1 l1.length c1, .int .i64 n] w fun e w' => e = .returned (.bool true) ∧ Below w.heap.size w w' := by
  by_cases hs : l0.length ≤ 400
  case neg =>
    have hs' : decide (400 < l0.length) = true := decide_eq_true (by omega)
    have hs2 : (400 : Int) < (l0.length : Int) := by omega
    clear hs
    go_enter Try.func5, Try.ntmps5
    go_wp2_with ((go_at_call 16; (with_reducible refine (awake_yes _).mono ?_); rintro e w20 ⟨rfl, hb20⟩))
    go_ret
    exact ⟨rfl, (by repeat (first | (with_reducible refine Below.setCell ?_ ?_ _) | (with_reducible refine Below.alloc ?_ ?_ _) | (with_reducible refine Below.drew ?_) | (with_reducible refine below_drewN ?_ _) | (with_reducible exact Below.refl _ _) | (with_reducible refine Below.trans ?_ (Below.mono hb20 ?_)) | (focus (simp; done)) | (focus (simp; omega)) | (focus omega) | (focus (have q0 := Below.size hb20; (try simp at q0); (try simp); omega))))⟩
  have hs' : decide (400 < l0.length) = false := decide_eq_false (by omega)
  have hs2 : ¬ (400 : Int) < (l0.length : Int) := by omega
  obtain ⟨gb, hgb⟩ : ∃ gb, (bits BinOp.and IntKind.i64 n 1 == 0) = gb := ⟨_, rfl⟩
  go_enter Try.func5, Try.ntmps5
  go_upto_region 5 with (first | (go_at_call 9; (with_reducible refine (mk_New a1 c1 l1 _ (h1.below (B := w.heap.size) (by repeat (first | (with_reducible refine Below.setCell ?_ ?_ _) | (with_reducible refine Below.alloc ?_ ?_ _) | (with_reducible refine Below.drew ?_) | (with_reducible refine below_drewN ?_ _) | (with_reducible exact Below.refl _ _) | (focus (simp; done)) | (focus (simp; omega)) | (focus omega))) (Nat.le_refl _)) n1).mono ?_); rintro e w1 ⟨rfl, hd1, hb1⟩; (have hd1' : DeckAt w1 (w.heap.size + 1) ⟨a1, c1, l1⟩ 0 := by simpa using hd1)) | (go_at_call 17; (with_reducible refine (law_line _ 9 _ _ _ 9 rfl (by omega) (by omega) hd1').mono ?_); rintro e w2 ⟨ll, k2, la, lc, rfl, hll, own2, hd2, g2⟩; ((have hb1' : RowKit.Below w.heap.size w w1 := (by repeat (first | (with_reducible refine Below.setCell ?_ ?_ _) | (with_reducible refine Below.alloc ?_ ?_ _) | (with_reducible refine Below.drew ?_) | (with_reducible refine below_drewN ?_ _) | (with_reducible exact Below.refl _ _) | (with_reducible refine Below.trans ?_ (Below.mono hb1 ?_)) | (focus (simp; done)) | (focus (simp; omega)) | (focus omega) | (focus (have q0 := Below.size hb1; (try simp at q0); (try simp); omega))))); (have be2 : RowKit.Below w.heap.size w w2 := hb1'.grown g2 (by have := hb1'.size; omega) (fun k hk => by injection hk with hk; omega)); (have kr := ((Blk.new w 43 #[.slice a0 l0.length c0, .bool g0]).below hb1 (by simp)).grown g2 (by omega)); (have kr0 := kr.cell 0); (have kr1 := kr.cell 1); (have krl := kr.lt))))
  have cp2 := own2.cap_le
  have hll' : ll.length ≤ 270 := by omega
  refine wp_named (fun W => (∀ i : Nat, i < 2 → ∃ (xa : Option Addr) (xl : List UInt8) (xc : Nat) (g : Bool), W.cell? ⟨w2.heap.size + 1, i * 2, none⟩ = some (.slice xa xl.length xc) ∧ W.cell? ⟨w2.heap.size + 1, i * 2 + 1, none⟩ = some (.bool g) ∧ Byt W xa xl ∧ xl.length ≤ 400 ∧ xl.length ≤ xc ∧ (xa = none → xl.length = 0 ∧ xc = 0)) ∧ w2.heap.size + 1 < W.heap.size ∧ RowKit.Below w.heap.size w W) ⟨?_, by simp, (by repeat (first | (with_reducible refine Below.setCell ?_ ?_ _) | (with_reducible refine Below.alloc ?_ ?_ _) | (with_reducible refine Below.drew ?_) | (with_reducible refine below_drewN ?_ _) | (with_reducible exact Below.refl _ _) | (with_reducible refine Below.trans ?_ (Below.mono be2 ?_)) | (focus (simp; done)) | (focus (simp; omega)) | (focus omega) | (focus (have q0 := Below.size be2; (try simp at q0); (try simp); omega))))⟩ ?_
  · intro i hi
    have kk := Blk.next w2 (.cells #[.slice la ll.length lc, .bool gb] 43) 43 #[.slice a0 l0.length c0, .bool g0, .slice la ll.length lc, .bool gb]
    have hi' : i = 0 ∨ i = 1 := by omega
    rcases hi' with rfl | rfl
    · exact ⟨a0, l0, c0, g0, kk.cell 0, kk.cell 1, ((h0.below be2 (Nat.le_refl _)).alloc _).alloc _, by omega, k0, x0⟩
    · exact ⟨la, ll, lc, gb, kk.cell 2, kk.cell 3, (own2.byt.alloc _).alloc _, by omega, cp2, fun h => own2.none_len h⟩
  rintro W ⟨hx, lB, be⟩
  have HX := Lib.hid hx
  clear hx own2 hd2 hd1 hd1' hb1 hb1' g2 be2 h0 h1 x0 kr kr0 kr1 krl
  go_loopw [32] (fun i wr => ∃ k : Nat, k ≤ 2 ∧ i = .int .i64 k ∧ RowKit.Below W.heap.size W wr) (fun i _ => 2 - (intOf i).toNat)
  case atStart => exact ⟨0, by omega, rfl, RowKit.Below.refl _ _⟩
  case round =>
    obtain ⟨k, hk, rfl, hbr⟩ := hrel
    obtain ⟨wO, rfl⟩ : ∃ W', W' = wr := ⟨_, rfl⟩
    by_cases hlt : k < 2
    · have hi : (k : Int) < 2 := by omega
      obtain ⟨xa, xl, xc, g, hc, hcg, hxb, hxl, hxc, hxn⟩ := HX.out k hlt
      have hcr : wO.cell? ⟨w2.heap.size + 1, k * 2, none⟩ = some (.slice xa xl.length xc) := by rw [(bcell hbr).1 _ _ lB]; exact hc
      have hcgr : wO.cell? ⟨w2.heap.size + 1, k * 2 + 1, none⟩ = some (.bool g) := by rw [(bcell hbr).1 _ _ lB]; exact hcg
      have HXR := Lib.hid (hxb.below hbr (Nat.le_refl _))
      clear hc hcg hxb
      obtain ⟨r, Er, r0, r1⟩ := modName n 6 (by omega)
      go_upto_region 8 with ((go_at_call 18; (with_reducible refine (mk_ModE Er.out _ (by omega) (by omega)).mono ?_); rintro e w' ⟨rfl, rfl⟩))
      refine wp_named (fun W => Blk W wO.heap.size 43 #[.slice xa xl.length xc, .bool g] ∧ (∀ i : Nat, i < 2 → ∃ z : Int, W.cell? ⟨wO.heap.size + 1, i, none⟩ = some (.int .i64 z) ∧ z ≤ 1000) ∧ wO.heap.size + 1 < W.heap.size ∧ RowKit.Below wO.heap.size wO W) ⟨(Blk.new _ _ _).alloc _, ?_, by simp, (by repeat (first | (with_reducible refine Below.setCell ?_ ?_ _) | (with_reducible refine Below.alloc ?_ ?_ _) | (with_reducible refine Below.drew ?_) | (with_reducible refine below_drewN ?_ _) | (with_reducible exact Below.refl _ _) | (focus (simp; done)) | (focus (simp; omega)) | (focus omega)))⟩ ?_
      · intro i hi
        have kk := Blk.next wO (.cells #[.slice xa xl.length xc, .bool g] 43) 3 #[.int .i64 (r - 1), .int .i64 1000]
        have hi' : i = 0 ∨ i = 1 := by omega
        rcases hi' with rfl | rfl
        · exact ⟨_, kk.cell 0, by omega⟩
        · exact ⟨_, kk.cell 1, by omega⟩
      rintro W8 ⟨kS, hz, lz, be8⟩
      have HZ := Lib.hid hz
      have HX8 := Lib.hid (HXR.out.below be8 (Nat.le_refl _))
      clear hz hcr hcgr r0 r1
      go_loopw [41] (fun i wy => ∃ j : Nat, j ≤ 2 ∧ i = .int .i64 j ∧ RowKit.Below W8.heap.size W8 wy) (fun i _ => 2 - (intOf i).toNat)
      case atStart => exact ⟨0, by omega, rfl, RowKit.Below.refl _ _⟩
      case round =>
        obtain ⟨j, hj, rfl, hby⟩ := hrel
        have kS1 := kS.below hby kS.lt
        have u0 := kS1.cell 0
        have u1 := kS1.cell 1
        have ul := kS1.lt
        have hxy := HX8.out.below hby (Nat.le_refl _)
        by_cases hjl : j < 2
        · have hij : (j : Int) < 2 := by omega
          obtain ⟨z, hz, hz1⟩ := HZ.out j hjl
          have hzr : wr.cell? ⟨wO.heap.size + 1, j, none⟩ = some (.int .i64 z) := by rw [(bcell hby).1 _ _ lz]; exact hz
          clear hz
          go_wp2_with (first | (go_at_call 19; (with_reducible refine (stream_Take xa xl _ xc g z _ hxy rfl hxc (by omega) hxn).mono ?_); rintro e w3 ⟨st, its, ia, ic, ra, rc, hst, rfl, hk3, own3, pays3, ownr3, hb3⟩; ((have be3 : RowKit.Below wr.heap.size wr (w3.alloc (.cells #[.slice ra (xl.length - st.used) rc, .bool st.garb] 43)) := (by repeat (first | (with_reducible refine Below.setCell ?_ ?_ _) | (with_reducible refine Below.alloc ?_ ?_ _) | (with_reducible refine Below.drew ?_) | (with_reducible refine below_drewN ?_ _) | (with_reducible exact Below.refl _ _) | (with_reducible refine Below.trans ?_ (Below.mono hb3 ?_)) | (focus (simp; done)) | (focus (simp; omega)) | (focus omega) | (focus (have q0 := Below.size hb3; (try simp at q0); (try simp); omega))))); (have kq := Blk.new w3 43 #[.slice ra (xl.length - st.used) rc, .bool st.garb]); (have it3 := (items_of own3 pays3).alloc (.cells #[.slice ra (xl.length - st.used) rc, .bool st.garb] 43)); (have or3 := ownr3.byt.alloc (.cells #[.slice ra (xl.length - st.used) rc, .bool st.garb] 43)); (have hxy3 := hxy.below be3 (Nat.le_refl _)); (have kS3 := kS1.below be3 ul); clear u0 u1 ul; (have u0 := kS3.cell 0); (have u1 := kS3.cell 1); (have ul := kS3.lt))) | (go_at_call 20; (with_reducible refine (ref04_Take xa xl _ xc g z _ hxy3 rfl hxc (by omega) hxn (by omega)).mono ?_); rintro e w4 ⟨st', its', ia', ic', ra', rc', hst', rfl, hk4, own4, pays4, ownr4, hb4⟩; ((obtain rfl : st = st' := hst.out.symm.trans hst'.out); (have kq4 := kq.below hb4 kq.lt); (have q0 := kq4.cell 0); (have q1 := kq4.cell 1); (have ql := kq4.lt); (have be4 : RowKit.Below w4.heap.size w4 (w4.alloc (.cells #[.slice ra' (xl.length - st.used) rc', .bool st.garb] 43)) := (by repeat (first | (with_reducible refine Below.setCell ?_ ?_ _) | (with_reducible refine Below.alloc ?_ ?_ _) | (with_reducible refine Below.drew ?_) | (with_reducible refine below_drewN ?_ _) | (with_reducible exact Below.refl _ _) | (focus (simp; done)) | (focus (simp; omega)) | (focus omega)))); (have it4 := (items_of own4 pays4).below be4 (Nat.le_refl _)); (have or4 := ownr4.byt.below be4 (Nat.le_refl _)); (have it34 := (it3.below hb4 (Nat.le_refl _)).below be4 (Nat.le_refl _)); (have or34 := (or3.below hb4 (Nat.le_refl _)).below be4 (Nat.le_refl _)))) | (go_at_call 21; (with_reducible refine (ref04_SameY ra ra' (xl.drop st.used) _ _ rc rc' st.garb _ or34 or4 List.length_drop.symm List.length_drop.symm).mono ?_); rintro e w5 ⟨rfl, hb5⟩) | (go_at_call 14; (with_reducible refine (same_E ia ia' its its' _ _ _ _ _ (it34.below hb5 (Nat.le_refl _)) (it4.below hb5 (Nat.le_refl _)) rfl rfl (by have := keys_bd hst hk3; omega) (by have := keys_bd hst' hk4; omega) (hk3.trans hk4.symm)).mono ?_); rintro e w6 ⟨rfl, hb6⟩))
          go_roundw
          case rel => exact ⟨j + 1, by omega, by go_num, (by repeat (first | (with_reducible refine Below.setCell ?_ ?_ _) | (with_reducible refine Below.alloc ?_ ?_ _) | (with_reducible refine Below.drew ?_) | (with_reducible refine below_drewN ?_ _) | (with_reducible exact Below.refl _ _) | (with_reducible refine Below.trans ?_ (Below.mono hb6 ?_)) | (with_reducible refine Below.trans ?_ (Below.mono hb5 ?_)) | (with_reducible refine Below.trans ?_ (Below.mono hb4 ?_)) | (with_reducible refine Below.trans ?_ (Below.mono hb3 ?_)) | (with_reducible refine Below.trans ?_ (Below.mono hby ?_)) | (focus (simp; done)) | (focus (simp; omega)) | (focus omega) | (focus (have q0 := Below.size hb6; (try simp at q0); have q1 := Below.size hb5; (try simp at q1); have q2 := Below.size hb4; (try simp at q2); have q3 := Below.size hb3; (try simp at q3); have q4 := Below.size hby; (try simp at q4); (try simp); omega))))⟩
          case measure => simp [intOf]; omega
        · obtain rfl : j = 2 := by omega
          go_upto_region 15 with fail
          go_cut [75] from 68 to 75 (fun s75 wx => s75 = .bool false ∧ RowKit.Below wr.heap.size wr wx)
          case first =>
            go_region_with (first | (go_at_call 15; (with_reducible refine (stream_All xa xl _ xc _ (hxy.below (show RowKit.Below wr.heap.size wr _ from (by repeat (first | (with_reducible refine Below.setCell ?_ ?_ _) | (with_reducible refine Below.alloc ?_ ?_ _) | (with_reducible refine Below.drew ?_) | (with_reducible refine below_drewN ?_ _) | (with_reducible exact Below.refl _ _) | (focus (simp; done)) | (focus (simp; omega)) | (focus omega)))) (Nat.le_refl _)) rfl hxc (by omega) hxn).mono ?_); rintro e w3 ⟨its, ia, ic, rfl, hk3, it3, hb3⟩; ((have be3 : RowKit.Below wr.heap.size wr w3 := (by repeat (first | (with_reducible refine Below.setCell ?_ ?_ _) | (with_reducible refine Below.alloc ?_ ?_ _) | (with_reducible refine Below.drew ?_) | (with_reducible refine below_drewN ?_ _) | (with_reducible exact Below.refl _ _) | (with_reducible refine Below.trans ?_ (Below.mono hb3 ?_)) | (focus (simp; done)) | (focus (simp; omega)) | (focus omega) | (focus (have q0 := Below.size hb3; (try simp at q0); (try simp); omega))))); (have kS3 := kS1.below be3 ul); clear u0 u1 ul; (have u0 := kS3.cell 0); (have u1 := kS3.cell 1); (have ul := kS3.lt))) | (go_at_call 22; (with_reducible refine (ref04_All xa xl _ xc _ (hxy.below (show RowKit.Below wr.heap.size wr _ from (by repeat (first | (with_reducible refine Below.setCell ?_ ?_ _) | (with_reducible refine Below.alloc ?_ ?_ _) | (with_reducible refine Below.drew ?_) | (with_reducible refine below_drewN ?_ _) | (with_reducible exact Below.refl _ _) | (with_reducible refine Below.trans ?_ (Below.mono be3 ?_)) | (focus (simp; done)) | (focus (simp; omega)) | (focus omega) | (focus (have q0 := Below.size be3; (try simp at q0); (try simp); omega))))) (Nat.le_refl _)) rfl hxc (by omega) hxn).mono ?_); rintro e w4 ⟨its', ia', ic', rfl, hk4, it4, hb4⟩; (have it34 := it3.below (show RowKit.Below w3.heap.size w3 w4 from (by repeat (first | (with_reducible refine Below.setCell ?_ ?_ _) | (with_reducible refine Below.alloc ?_ ?_ _) | (with_reducible refine Below.drew ?_) | (with_reducible refine below_drewN ?_ _) | (with_reducible exact Below.refl _ _) | (with_reducible refine Below.trans ?_ (Below.mono hb4 ?_)) | (focus (simp; done)) | (focus (simp; omega)) | (focus omega) | (focus (have q0 := Below.size hb4; (try simp at q0); (try simp); omega))))) (Nat.le_refl _))) | (go_at_call 14; (with_reducible refine (same_E ia ia' its its' _ _ _ _ _ (it34.below (show RowKit.Below w4.heap.size w4 _ from (by repeat (first | (with_reducible refine Below.setCell ?_ ?_ _) | (with_reducible refine Below.alloc ?_ ?_ _) | (with_reducible refine Below.drew ?_) | (with_reducible refine below_drewN ?_ _) | (with_reducible exact Below.refl _ _) | (focus (simp; done)) | (focus (simp; omega)) | (focus omega)))) (Nat.le_refl _)) (it4.below (show RowKit.Below w4.heap.size w4 _ from (by repeat (first | (with_reducible refine Below.setCell ?_ ?_ _) | (with_reducible refine Below.alloc ?_ ?_ _) | (with_reducible refine Below.drew ?_) | (with_reducible refine below_drewN ?_ _) | (with_reducible exact Below.refl _ _) | (focus (simp; done)) | (focus (simp; omega)) | (focus omega)))) (Nat.le_refl _)) rfl rfl (by have := congrArg List.length hk3; have h2 := allK_len xl; rw [List.length_map] at this; omega) (by have := congrArg List.length hk4; have h2 := allK_len xl; rw [List.length_map] at this; omega) (hk3.trans hk4.symm)).mono ?_); rintro e w6 ⟨rfl, hb6⟩))
            all_goals
              go_wp2_with fail
              go_meet
              exact ⟨rfl, (by repeat (first | (with_reducible refine Below.setCell ?_ ?_ _) | (with_reducible refine Below.alloc ?_ ?_ _) | (with_reducible refine Below.drew ?_) | (with_reducible refine below_drewN ?_ _) | (with_reducible exact Below.refl _ _) | (with_reducible refine Below.trans ?_ (Below.mono hb6 ?_)) | (with_reducible refine Below.trans ?_ (Below.mono hb4 ?_)) | (with_reducible refine Below.trans ?_ (Below.mono hb3 ?_)) | (focus (simp; done)) | (focus (simp; omega)) | (focus omega) | (focus (have q0 := Below.size hb6; (try simp at q0); have q1 := Below.size hb4; (try simp at q1); have q2 := Below.size hb3; (try simp at q2); (try simp); omega))))⟩
          case rest =>
            obtain ⟨rfl, hbc⟩ := hcut
            go_wp2_with fail
            go_roundw
            case rel => exact ⟨k + 1, by omega, by go_num, (by repeat (first | (with_reducible refine Below.setCell ?_ ?_ _) | (with_reducible refine Below.alloc ?_ ?_ _) | (with_reducible refine Below.drew ?_) | (with_reducible refine below_drewN ?_ _) | (with_reducible exact Below.refl _ _) | (with_reducible refine Below.trans ?_ (Below.mono hbc ?_)) | (with_reducible refine Below.trans ?_ (Below.mono hby ?_)) | (with_reducible refine Below.trans ?_ (Below.mono be8 ?_)) | (with_reducible refine Below.trans ?_ (Below.mono hbr ?_)) | (focus (simp; done)) | (focus (simp; omega)) | (focus omega) | (focus (have q0 := Below.size hbc; (try simp at q0); have q1 := Below.size hby; (try simp at q1); have q2 := Below.size be8; (try simp at q2); have q3 := Below.size hbr; (try simp at q3); (try simp); omega))))⟩
            case measure => simp [intOf]; omega
    · obtain rfl : k = 2 := by omega
      go_wp2_with ((go_at_call 16; (with_reducible refine (awake_yes _).mono ?_); rintro e w20 ⟨rfl, hb20⟩))
      go_ret
      exact ⟨rfl, (by repeat (first | (with_reducible refine Below.setCell ?_ ?_ _) | (with_reducible refine Below.alloc ?_ ?_ _) | (with_reducible refine Below.drew ?_) | (with_reducible refine below_drewN ?_ _) | (with_reducible exact Below.refl _ _) | (with_reducible refine Below.trans ?_ (Below.mono hb20 ?_)) | (with_reducible refine Below.trans ?_ (Below.mono hbr ?_)) | (with_reducible refine Below.trans ?_ (Below.mono be ?_)) | (focus (simp; done)) | (focus (simp; omega)) | (focus omega) | (focus (have q0 := Below.size hb20; (try simp at q0); have q1 := Below.size hbr; (try simp at q1); have q2 := Below.size be; (try simp at q2); (try simp); omega))))⟩
end Go.Proofs.Ytjnajccobieamaa
