/- StatusWidth: the walk -/
import Derived.Test.YtpjnajallekjoaaSCodes
import Derived.Test.YtpjnajallekjoaaRefVal
namespace Go.Proofs.Ytpjnajallekjoaa
set_option linter.unusedVariables false
open Go.RowKit Go.Sort
set_option maxRecDepth 100000

theorem bytesOf_sz : ∀ (its : List Vx), (∀ v ∈ its, OkB v.key) → (bytesOf (its.map Vx.key)).length = ((szOf its).map (3 + ·)).sum
  | [], _ => rfl
  | v :: its, h => by
    have ih := bytesOf_sz its fun x hx => h x (List.mem_cons_of_mem _ hx)
    have h1 := (h v (List.mem_cons_self ..)).1
    have h2 : v.cs.length = v.ns.length := h1
    simp only [List.map_cons, szOf, List.sum_cons] at ih ⊢
    rw [show bytesOf (v.key :: its.map Vx.key) = vBytes v.key ++ bytesOf (its.map Vx.key) from rfl, List.length_append, vBytes_len, ih, h2]
    rfl
theorem vxCells_set : ∀ (l : List Vx) (j : Nat) (_ : j < l.length) (y : Vx), vxCells (l.set j y) = ((((vxCells l).set (j * 4) (.bool y.fl)).set (j * 4 + 1) (.bool y.ov)).set (j * 4 + 2) (.slice y.ca y.cs.length y.cc)).set (j * 4 + 3) (.slice y.na y.ns.length y.nc)
  | p :: l, 0, _, y => by simp [vxCells, Vx.cells]
  | p :: l, j + 1, h, y => by
    have := vxCells_set l j (by simpa using h) y
    simp only [vxCells, List.flatMap_cons, List.set_cons_succ] at this ⊢
    rw [this]
    rw [show (j + 1) * 4 = j * 4 + 4 by omega]
    simp only [Vx.cells, List.cons_append, List.nil_append, show ∀ k, j * 4 + 4 + k = (j * 4 + k) + 1 + 1 + 1 + 1 from fun k => by omega, show j * 4 + 4 = j * 4 + 1 + 1 + 1 + 1 by omega, List.set_cons_succ]
theorem msg_okF {K n : Int} {D : List UInt8} (hK : K = 17 ∨ K = 21) (h0 : 0 ≤ n) (h1 : n < 1073741824) (hD : D.length ≤ 100) : Msg.Ok ⟨K, [], [n], D⟩ := by
  have hs : shpOf K = ⟨0, 1, 0, 0, 0, -1⟩ := by rcases hK with rfl | rfl <;> rfl
  have hl : (vEnc n.toNat).length ≤ 5 := vEnc_len5 (by omega)
  have hp : Msg.pay ⟨K, [], [n], D⟩ = vEnc n.toNat ++ D := by
    simp [Msg.pay, hs, encFrom, gCode]
  refine ⟨by show 1 ≤ K ∧ K ≤ 22; omega, by simp [hs], .inl (by simp [hs]), by simp [hs, grpOk], by simp; omega, fun m hm => ?_, ?_⟩
  · rw [List.mem_singleton.1 hm]
    exact ⟨h0, by omega⟩
  · rw [hp, List.length_append]
    omega
theorem ref05_ValidT {K n : Int} {D : List UInt8} {aa da : Option Addr} {dn dc : Nat} {w : World} (hok : Hid (Msg.Ok ⟨K, [], [n], D⟩)) (hm : MsgAt w ⟨K, [], [n], D⟩ none 0 aa da) (h1 : Hid (dn = D.length)) :
    Calls Try.prog 20 #[.agg #[.int .i64 K, .slice none 0 0, .slice aa 1 1, .slice da dn dc]] w fun e w' => e = .returned (.bool true) ∧ Below w.heap.size w w' :=
  (ref05_Valid ⟨K, [], [n], D⟩ none 0 aa da 1 dc w hm (tn := 0) (an := 1) (dn := dn) rfl rfl h1.out).mono fun e w' ⟨h, hb⟩ => ⟨h.elim (fun q => q.2) (fun q => absurd hok.out q.1), hb⟩
theorem zeros_ok {n : Nat} {o1 o2 : Bool} (hn : n ≤ 8) : OkB (o1, o2, List.replicate n 0, List.replicate n 0) := ⟨by simp, by simp; exact hn, by simp, by simp⟩
theorem szOf_set {its : List Vx} {i : Nat} (hi : i < its.length) {x y : Vx} (hx : its[i] = x) (h : y.cs.length = x.cs.length) : szOf (its.set i y) = szOf its := by
  unfold szOf
  rw [List.map_set, h, ← hx]
  have e : (its[i]).cs.length = (its.map fun v => v.cs.length)[i]'(by simpa using hi) := by simp
  rw [e, List.set_getElem_self]
set_option maxHeartbeats 16000000 in
theorem statusWidth_walk (a0 : Option Addr) (c0 : Nat) (l0 : List Int) (a1 : Option Addr) (c1 : Nat) (l1 : List Int) (a2 : Option Addr) (c2 : Nat) (l2 : List Int) (quota now : Int) (w : World) (h0 : Ints w a0 l0) (n0 : l0.length ≤ 9223372036854775807) (h1 : Ints w a1 l1) (n1 : l1.length ≤ 9223372036854775807) (h2 : Ints w a2 l2) (n2 : l2.length ≤ 9223372036854775807) :
    Calls Try.prog 5 #[.slice a0 l0.length c0, .slice a1 l1.length c1, .slice a2 l2.length c2, .int .i64 quota, .int .i64 now] w fun e w' => e = .returned (.bool true) ∧ RowKit.Below w.heap.size w w' := by
  obtain ⟨n, HN, hn0, hn1⟩ := modName now 1073741824 (by decide)
  obtain ⟨qi, HQ, hq0, hq1⟩ := modName quota 5 (by decide)
  obtain ⟨Q, rfl⟩ := Int.eq_ofNat_of_zero_le hq0
  have HO1 := Lib.hid (ints_old h1)
  go_enter Try.func5, Try.ntmps5
  go_upto_region 2 with (first | (go_at_call 6; (with_reducible refine (mk_New a1 c1 l1 _ h1 n1).mono ?_); rintro e w1 ⟨rfl, hd1, hb1⟩) | (go_at_call 7; (with_reducible refine (law_views _ _ _ _ hd1).mono ?_); rintro e w2 ⟨k2, vn, its, va, vc, rfl, hvn, hv4, hsz, vd, -, g2⟩; ((have be2 : RowKit.Below w.heap.size w w2 := below_grown hb1 g2 (Nat.le_refl _) hb1.size); (have h1w := h1.below be2 (Nat.le_refl _)))) | (go_at_call 6; (with_reducible refine (mk_New a1 c1 l1 _ h1w n1).mono ?_); rintro e w3 ⟨rfl, hd3, hb3⟩) | (go_at_call 7; (with_reducible refine (law_views _ _ _ _ hd3).mono ?_); rintro e w4 ⟨k4, xn, its2, xa, xc, rfl, hxn, hx4, hsz2, vd2, -, g4⟩))
  have hs1 := hb1.size
  have hs2 := g2.size
  have hs3 := hb3.size
  have hs4 := g4.size
  have be24 : RowKit.Below w2.heap.size w2 w4 := below_grown hb3 g4 (Nat.le_refl _) hs3
  have be4 : RowKit.Below w.heap.size w w4 := (by repeat (first | (with_reducible refine Below.setCell ?_ ?_ _) | (with_reducible refine Below.alloc ?_ ?_ _) | (with_reducible refine Below.drew ?_) | (with_reducible refine below_drewN ?_ _) | (with_reducible exact Below.refl _ _) | (with_reducible refine Below.trans ?_ (Below.mono be24 ?_)) | (with_reducible refine Below.trans ?_ (Below.mono be2 ?_)) | (focus (simp; done)) | (focus (simp; omega)) | (focus omega) | (focus (have q0 := Below.size be24; (try simp at q0); have q1 := Below.size be2; (try simp at q1); (try simp); omega))))
  have HSZ : Hid (szOf its2 = szOf its) := Lib.hid (by rw [hsz.out, hsz2.out])
  have HOKV := Lib.hid vd.ok
  have HOK2 := Lib.hid vd2.ok
  have vws2 := vd.l.vws
  have vl := vd2.l
  have hB2 : w2.heap.size ≤ w3.heap.size := hs3
  have hww2 : w.heap.size ≤ w2.heap.size := by omega
  obtain ⟨B, hB⟩ : ∃ B, w3.heap.size = B := ⟨_, rfl⟩
  rw [hB] at vl hB2 hs4
  obtain rfl := hxn.out
  obtain rfl := hvn.out
  clear hd1 hb1 hd3 hb3 g2 g4 hsz hsz2 vd vd2 hB hs1 hs2 hs3 h1w h1 n1 hxn hvn be2
  have h0w := h0.below be4 (Nat.le_refl _)
  have h2w := h2.below be4 (Nat.le_refl _)
  go_wp2_with fail
  go_loopw [26] (fun s26 wr => ∃ (i : Nat) (its' : List Vx), s26 = .int .i64 i ∧ i ≤ its2.length ∧ Hid (its'.length = its2.length) ∧ Hid (szOf its' = szOf its2) ∧ Hid (∀ v ∈ its', OkB v.key) ∧ VxL wr B its' xa xc ∧ RowKit.Below B w4 wr) (fun s _ => its2.length - (intOf s).toNat)
  case atStart => exact ⟨0, its2, rfl, by omega, Lib.hid rfl, Lib.hid rfl, HOK2, vl, ⟨rfl, rfl, rfl, Nat.le_refl _, fun _ _ => rfl⟩⟩
  case round =>
    clear vl
    obtain ⟨i, its', rfl, hi, hil, hsz, hok, vl, be⟩ := hrel
    by_cases hlt : i < its2.length
    · have kx : (i : Int) < (its2.length : Int) := by omega
      have hi' : i < its'.length := by rw [hil.out]; exact hlt
      have o := vl.own
      rw [hil.out] at o
      obtain ⟨g, rfl, gB, gl⟩ := o.open_ (by omega)
      obtain ⟨x0, x1, x2, x3, xb⟩ := row_view o.row i hi'
      simp only [Nat.zero_add] at x0 x1 x2 x3
      have gf := o.frozen
      have hbs := be.size
      obtain ⟨x, hx⟩ : ∃ x, its'[i] = x := ⟨_, rfl⟩
      have hokx := hok.out _ (List.getElem_mem hi')
      rw [hx] at x0 x1 x2 x3 hokx
      have HX := Lib.hid hx
      have hcn : x.cs.length = x.ns.length := hokx.1
      have hc8 : x.cs.length ≤ 8 := hokx.2.1
      obtain ⟨n', hn'⟩ : ∃ n', x.cs.length = n' := ⟨_, rfl⟩
      have hm' : x.ns.length = n' := by rw [← hn', hcn]
      rw [hn'] at x2 hc8
      rw [hm'] at x3
      have HN' := Lib.hid hn'
      have HNS := Lib.hid hm'
      clear hx hokx hcn hm' hn'
      go_upto_region 5 with fail
      have VL := Lib.hid vl
      have OW := Lib.hid o
      clear vl o x0 x1
      have HKP := Lib.hid (show ∀ W : World, W.heap[g]? = wr.heap[g]? → Own W B 36 4 (some ⟨g, 0, none⟩) its2.length xc (vxCells its') from fun W h => OW.out.keep fun b hb _ _ => by
        injection hb with hb
        injection hb with hb _ _
        rw [← hb]; exact h)
      apply wp_region_tab [(g, (g+1))] 19 109 [some 29, some 30, some 31, some 32, some 33, some 34, some 35, some 36, some 37, some 38, some 39, some 40, some 41, some 42, some 43, some 44, some 45, some 46, none] [⟨[19], [], [], []⟩, ⟨[19], [], [], []⟩, ⟨[19], [], [], []⟩, ⟨[19], [], [], []⟩, ⟨[2, 3, 19], [2, 3], [2, 3], []⟩, ⟨[2, 3, 4, 19], [4], [4], []⟩, ⟨[2, 3, 4, 5, 19], [5, 19], [5, 19], []⟩, ⟨[2, 3, 4, 5, 6, 19], [6], [6], []⟩, ⟨[2, 3, 4, 5, 6, 7, 19], [7], [7], []⟩, ⟨[19], [], [], []⟩, ⟨[19], [], [], []⟩, ⟨[9, 10, 19], [9, 10], [9, 10], []⟩, ⟨[9, 10, 11, 19], [11], [11], []⟩, ⟨[9, 10, 11, 12, 19], [12, 19], [12, 19], []⟩, ⟨[9, 10, 11, 12, 13, 19], [13], [13], []⟩, ⟨[9, 10, 11, 12, 13, 14, 19], [14], [14], []⟩, ⟨[2, 3, 4, 5, 6, 7, 8, 9, 10, 11, 12, 13, 14, 15, 19], [8, 15], [8, 15], []⟩, ⟨[0, 1, 2, 3, 4, 5, 6, 7, 8, 9, 10, 11, 12, 13, 14, 15, 16, 19], [0, 1], [0, 1], []⟩, ⟨[0, 1, 2, 3, 4, 5, 6, 7, 8, 9, 10, 11, 12, 13, 14, 15, 16, 17, 19], [8, 15, 16, 17, 19], [8, 15, 16, 17, 19], [19]⟩, ⟨[], [], [], []⟩] [0, 1, 2, 3, 4, 5, 6, 7, 8, 9, 10, 11, 12, 13, 14, 15, 16, 17, 18] [8, 15, 18] [psiTrue, psiTrue, psiTrue, psiTrue, psiTrue, psiTrue, psiTrue, psiTrue, (fun f lo hi v b0 b1 W => ∃ b : Nat, v = .slice (some ⟨b, 0, none⟩) n' n' ∧ b0 ≤ b ∧ b < b1 ∧ Blk W b 3 ((List.replicate n' (0 : Int)).map encI).toArray), psiTrue, psiTrue, psiTrue, psiTrue, psiTrue, psiTrue, (fun f lo hi v b0 b1 W => ∃ b : Nat, v = .slice (some ⟨b, 0, none⟩) n' n' ∧ b0 ≤ b ∧ b < b1 ∧ Blk W b 3 ((List.replicate n' (0 : Int)).map encI).toArray), (fun f lo hi v b0 b1 W => v = .agg #[.bool true, .bool false, f 8, f 15]), psiTrue, (fun f lo hi v b0 b1 W => ∃ b c : Nat, f 8 = .slice (some ⟨b, 0, none⟩) n' n' ∧ f 15 = .slice (some ⟨c, 0, none⟩) n' n' ∧ Own W B 36 4 (some ⟨g, 0, none⟩) its2.length xc (vxCells (its'.set i ⟨true, false, List.replicate n' 0, List.replicate n' 0, some ⟨b, 0, none⟩, n', some ⟨c, 0, none⟩, n'⟩))), (fun f lo hi v b0 b1 W => (b0 = g ∧ b1 = (g+1)) ∧ W.heap[g]? = wr.heap[g]?)] [kVal _, kVal _, kVal _, kVal _, kVal _, kVal _, kVal _, kVal _, kTrue, kVal _, kVal _, kVal _, kVal _, kVal _, kVal _, kTrue, kTrue, kVal _, kTrue]
      · kernel_rfl
      · kernel_rfl
      · rfl
      · rfl
      rotate_left 2
      refine ⟨?oR1_0, ?oR1_1, ?oR1_2, ?oR1_3, ?oR1_4, ?oR1_5, ?oR1_6, ?oR1_7, ?oR1_8, ?oR1_9, ?oR1_10, ?oR1_11, ?oR1_12, ?oR1_13, ?oR1_14, ?oR1_15, ?oR1_16, ?oR1_17, ?oR1_18, trivial⟩
      case hx => exact ⟨⟨by omega, by omega⟩, by simp, trivial⟩
      case hX => exact ⟨fun _ _ _ _ => ⟨⟨rfl, rfl⟩, rfl⟩, trivial⟩
      case oR1_0 => intro f lo hi w hb hx hf hk hrg R hR; (try replace hb := BelX.zero hb); (try simp (decide := true) only [go_sem] at hf); (try simp (decide := true) only [go_sem] at hk); go_simp; exact hR _ _ (rpost_val rfl rfl (Below.refl _ _) rfl)
      case oR1_1 => intro f lo hi w hb hx hf hk hrg R hR; (try replace hb := BelX.zero hb); (try simp (decide := true) only [go_sem] at hf); (try simp (decide := true) only [go_sem] at hk); go_simp; exact hR _ _ (rpost_val rfl rfl (Below.refl _ _) rfl)
      case oR1_2 => intro f lo hi w hb hx hf hk hrg R hR; (try replace hb := BelX.zero hb); (try simp (decide := true) only [go_sem] at hf); (try simp (decide := true) only [go_sem] at hk); go_simp; exact hR _ _ (rpost_val rfl rfl (Below.refl _ _) rfl)
      case oR1_3 => intro f lo hi w hb hx hf hk hrg R hR; (try replace hb := BelX.zero hb); (try simp (decide := true) only [go_sem] at hf); (try simp (decide := true) only [go_sem] at hk); go_simp; exact hR _ _ (rpost_val rfl rfl (Below.refl _ _) rfl)
      case oR1_4 => intro f lo hi w hb hx hf hk hrg R hR; (try replace hb := BelX.zero hb); (try simp (decide := true) only [go_sem] at hf); (try simp (decide := true) only [go_sem] at hk); go_simp; exact hR _ _ (rpost_val rfl rfl (Below.refl _ _) rfl)
      case oR1_5 => intro f lo hi w hb hx hf hk hrg R hR; (try replace hb := BelX.zero hb); (try simp (decide := true) only [go_sem] at hf); (try simp (decide := true) only [go_sem] at hk); go_simp; exact hR _ _ (rpost_val rfl rfl (Below.refl _ _) rfl)
      case oR1_6 =>
        intro f lo hi w hb hx hf hk hrg R hR; (try replace hb := BelX.zero hb); (try simp (decide := true) only [go_sem] at hf); (try simp (decide := true) only [go_sem] at hk)
        have o := HKP.out w hf.2
        obtain ⟨x0, x1, x2, x3, xb⟩ := row_view o.row i hi'
        rw [HX.out] at x2
        simp only [Nat.zero_add] at x2
        rw [HN'.out] at x2
        go_simp
        exact hR _ _ (rpost_val rfl rfl (Below.refl _ _) rfl)
      case oR1_7 => intro f lo hi w hb hx hf hk hrg R hR; (try replace hb := BelX.zero hb); (try simp (decide := true) only [go_sem] at hf); (try simp (decide := true) only [go_sem] at hk); go_simp; exact hR _ _ (rpost_val rfl rfl (Below.refl _ _) rfl)
      case oR1_8 =>
        intro f lo hi w hb hx hf hk hrg R hR; (try replace hb := BelX.zero hb); (try simp (decide := true) only [go_sem] at hf); (try simp (decide := true) only [go_sem] at hk)
        refine obl_makeI n' ?_ ?_ (by omega) fun kk => ?_
        · go_simp
        · go_simp
        refine hR _ _ (rpost_none rfl (by repeat (first | (with_reducible refine Below.setCell ?_ ?_ _) | (with_reducible refine Below.alloc ?_ ?_ _) | (with_reducible refine Below.drew ?_) | (with_reducible refine below_drewN ?_ _) | (with_reducible exact Below.refl _ _) | (focus (simp; done)) | (focus (simp; omega)) | (focus omega))) ?_)
        (try simp (decide := true) only [go_sem])
        exact ⟨_, rfl, Nat.le_refl _, by simp, kk⟩
      case oR1_9 => intro f lo hi w hb hx hf hk hrg R hR; (try replace hb := BelX.zero hb); (try simp (decide := true) only [go_sem] at hf); (try simp (decide := true) only [go_sem] at hk); go_simp; exact hR _ _ (rpost_val rfl rfl (Below.refl _ _) rfl)
      case oR1_10 => intro f lo hi w hb hx hf hk hrg R hR; (try replace hb := BelX.zero hb); (try simp (decide := true) only [go_sem] at hf); (try simp (decide := true) only [go_sem] at hk); go_simp; exact hR _ _ (rpost_val rfl rfl (Below.refl _ _) rfl)
      case oR1_11 => intro f lo hi w hb hx hf hk hrg R hR; (try replace hb := BelX.zero hb); (try simp (decide := true) only [go_sem] at hf); (try simp (decide := true) only [go_sem] at hk); go_simp; exact hR _ _ (rpost_val rfl rfl (Below.refl _ _) rfl)
      case oR1_12 => intro f lo hi w hb hx hf hk hrg R hR; (try replace hb := BelX.zero hb); (try simp (decide := true) only [go_sem] at hf); (try simp (decide := true) only [go_sem] at hk); go_simp; exact hR _ _ (rpost_val rfl rfl (Below.refl _ _) rfl)
      case oR1_13 =>
        intro f lo hi w hb hx hf hk hrg R hR; (try replace hb := BelX.zero hb); (try simp (decide := true) only [go_sem] at hf); (try simp (decide := true) only [go_sem] at hk)
        have o := HKP.out w hf.2
        obtain ⟨x0, x1, x2, x3, xb⟩ := row_view o.row i hi'
        rw [HX.out] at x3
        simp only [Nat.zero_add] at x3
        rw [HNS.out] at x3
        go_simp
        exact hR _ _ (rpost_val rfl rfl (Below.refl _ _) rfl)
      case oR1_14 => intro f lo hi w hb hx hf hk hrg R hR; (try replace hb := BelX.zero hb); (try simp (decide := true) only [go_sem] at hf); (try simp (decide := true) only [go_sem] at hk); go_simp; exact hR _ _ (rpost_val rfl rfl (Below.refl _ _) rfl)
      case oR1_15 =>
        intro f lo hi w hb hx hf hk hrg R hR; (try replace hb := BelX.zero hb); (try simp (decide := true) only [go_sem] at hf); (try simp (decide := true) only [go_sem] at hk)
        refine obl_makeI n' ?_ ?_ (by omega) fun kk => ?_
        · go_simp
        · go_simp
        refine hR _ _ (rpost_none rfl (by repeat (first | (with_reducible refine Below.setCell ?_ ?_ _) | (with_reducible refine Below.alloc ?_ ?_ _) | (with_reducible refine Below.drew ?_) | (with_reducible refine below_drewN ?_ _) | (with_reducible exact Below.refl _ _) | (focus (simp; done)) | (focus (simp; omega)) | (focus omega))) ?_)
        (try simp (decide := true) only [go_sem])
        exact ⟨_, rfl, Nat.le_refl _, by simp, kk⟩
      case oR1_16 =>
        intro f lo hi w hb hx hf hk hrg R hR; (try replace hb := BelX.zero hb); (try simp (decide := true) only [go_sem] at hf); (try simp (decide := true) only [go_sem] at hk)
        obtain ⟨⟨b, h8, -⟩, c, h15, -⟩ := hf
        have H8 := Lib.hid h8
        have H15 := Lib.hid h15
        go_simp
        refine hR _ _ (rpost_none rfl (Below.refl _ _) ?_)
        (try simp (decide := true) only [go_sem])
        rw [H8.out, H15.out]
      case oR1_17 => intro f lo hi w hb hx hf hk hrg R hR; (try replace hb := BelX.zero hb); (try simp (decide := true) only [go_sem] at hf); (try simp (decide := true) only [go_sem] at hk); go_simp; exact hR _ _ (rpost_val rfl rfl (Below.refl _ _) rfl)
      case oR1_18 =>
        intro f lo hi w hb hx hf hk hrg R hR; (try replace hb := BelX.zero hb); (try simp (decide := true) only [go_sem] at hf); (try simp (decide := true) only [go_sem] at hk)
        obtain ⟨⟨b, h8, -⟩, ⟨c, h15, -⟩, h16, -, hg⟩ := hf
        have o := HKP.out w hg
        obtain ⟨x0, x1, x2, x3, xb⟩ := row_view o.row i hi'
        simp only [Nat.zero_add] at x0 x1 x2 x3
        have gf := o.frozen
        have H8 := Lib.hid h8
        have H15 := Lib.hid h15
        rw [h8, h15] at h16
        have o4 := (((o.set (i * 4) (.bool true)).set (i * 4 + 1) (.bool false)).set (i * 4 + 2) (.slice (some ⟨b, 0, none⟩) n' n')).set (i * 4 + 3) (.slice (some ⟨c, 0, none⟩) n' n')
        have hst := vxCells_set its' i hi' ⟨true, false, List.replicate n' 0, List.replicate n' 0, some ⟨b, 0, none⟩, n', some ⟨c, 0, none⟩, n'⟩
        simp only [List.length_replicate] at hst
        rw [← hst] at o4
        have O4 := Lib.hid o4
        have hX0 : lo 19 = g ∧ hi 19 = g + 1 := XOk.get _ _ hx 0 _ rfl
        clear hst o4 o hg h8 h15
        go_simp
        exact hR _ _ (rpost_some rfl rfl (touch_grown (((grownBy_set _ g _ _).trans (grownBy_set _ g _ _)).trans ((grownBy_set _ g _ _).trans (grownBy_set _ g _ _))) (List.mem_singleton.2 rfl) hX0.1 hX0.2) ⟨b, c, H8.out, H15.out, O4.out⟩)
      case hcl =>
        refine ⟨Closed.true _ _ _ _, Closed.true _ _ _ _, Closed.true _ _ _ _, Closed.true _ _ _ _, Closed.true _ _ _ _, Closed.true _ _ _ _, Closed.true _ _ _ _, Closed.true _ _ _ _, ?cR1_8, Closed.true _ _ _ _, Closed.true _ _ _ _, Closed.true _ _ _ _, Closed.true _ _ _ _, Closed.true _ _ _ _, Closed.true _ _ _ _, ?cR1_15, ?cR1_16, Closed.true _ _ _ _, ?cR1_18, ?cR1_19, trivial⟩
        all_goals first | (intro f lo hi v b0 b1 w w' h hs hB hown hU hX; obtain ⟨b, h1, h2, h3, h4⟩ := h; exact ⟨b, h1, h2, h3, (hown b h2 h3).trans h4⟩) | (intro f lo hi v b0 b1 w w' h hs hB hown hU hX; obtain ⟨⟨rfl, rfl⟩, h⟩ := h; exact ⟨⟨rfl, rfl⟩, (hown _ (Nat.le_refl _) (Nat.lt_succ_self _)).trans h⟩) | (intro f lo hi v b0 b1 w w' h hs hB hown hU hX; obtain ⟨b, c, h1, h2, own⟩ := h; exact ⟨b, c, h1, h2, own.keep fun q hq _ _ => by
                injection hq with hq
                injection hq with hq _ _
                rw [← hq]
                exact hX 0 _ rfl (by simp) g (Nat.le_refl _) (Nat.lt_succ_self _)⟩) | (exact fun _ _ _ _ _ _ _ _ h _ _ _ _ _ => h)
      intro f lo hi W7 hbr hx hf hk hrg; (try replace hbr := BelX.zero hbr); clear hx; (try simp (decide := true) only [go_sem] at hf); (try simp (decide := true) only [go_sem] at hk)
      obtain ⟨⟨b, h8, q1, q2, kb⟩, ⟨c, h15, q3, q4, kc⟩, b', c', h8', h15', own7⟩ := hf
      obtain rfl : b = b' := by
        rw [h8] at h8'
        simpa using h8'
      obtain rfl : c = c' := by
        rw [h15] at h15'
        simpa using h15'
      have hr8 := (hrg.out 8 (by simp)).1
      have hr15 := (hrg.out 15 (by simp)).1
      have be7 : RowKit.Below B w4 W7 := ⟨hbr.1.trans be.os, hbr.2.1.trans be.tape, hbr.2.2.1.trans be.output, Nat.le_trans be.size hbr.2.2.2.1, fun k hk => (hbr.2.2.2.2 k ⟨by omega, fun r hr => by simp at hr; subst hr; simp only; omega⟩).trans (be.block k hk)⟩
      have hkeep : ∀ q, q < wr.heap.size → q ≠ g → W7.heap[q]? = wr.heap[q]? := fun q h1 h2 => hbr.2.2.2.2 q ⟨h1, fun r hr => by simp at hr; subst hr; simp only; omega⟩
      have vl7 : VxL W7 B (its'.set i ⟨true, false, List.replicate n' 0, List.replicate n' 0, some ⟨b, 0, none⟩, n', some ⟨c, 0, none⟩, n'⟩) (some ⟨g, 0, none⟩) xc := by
        refine ⟨?_, ?_, ?_⟩
        · rw [List.length_set, hil.out]; exact own7
        · intro v hv
          rcases List.mem_or_eq_of_mem_set hv with hv | rfl
          · exact (VL.out.cs v hv).keep fun q hq _ hl => hkeep q hl fun e => VL.out.own.apart2 (VL.out.cs v hv) (by decide) g rfl (by rw [hq, ← e]; rfl)
          · simp only [List.length_replicate]
            exact kb.ownL (Nat.zero_le _) (by simp) (by simp only [maxLen]; omega)
        · intro v hv
          rcases List.mem_or_eq_of_mem_set hv with hv | rfl
          · exact (VL.out.ns v hv).keep fun q hq _ hl => hkeep q hl fun e => VL.out.own.apart2 (VL.out.ns v hv) (by decide) g rfl (by rw [hq, ← e]; rfl)
          · simp only [List.length_replicate]
            exact kc.ownL (Nat.zero_le _) (by simp) (by simp only [maxLen]; omega)
      have HV7 := Lib.hid vl7
      have HSZ7 : Hid (szOf (its'.set i ⟨true, false, List.replicate n' 0, List.replicate n' 0, some ⟨b, 0, none⟩, n', some ⟨c, 0, none⟩, n'⟩) = szOf its2) := Lib.hid (by rw [szOf_set hi' HX.out (by simp [HN'.out]), hsz.out])
      have HOK7 : Hid (∀ v ∈ its'.set i (⟨true, false, List.replicate n' 0, List.replicate n' 0, some ⟨b, 0, none⟩, n', some ⟨c, 0, none⟩, n'⟩ : Vx), OkB v.key) := Lib.hid (fun v hv => by
        rcases List.mem_or_eq_of_mem_set hv with hv | rfl
        · exact hok.out v hv
        · exact zeros_ok hc8)
      have HIL7 : Hid ((its'.set i (⟨true, false, List.replicate n' 0, List.replicate n' 0, some ⟨b, 0, none⟩, n', some ⟨c, 0, none⟩, n'⟩ : Vx)).length = its2.length) := Lib.hid (by rw [List.length_set, hil.out])
      clear hkeep hbr hrg vl7 own7 kb kc h8' h15' hr8 hr15
      go_simp
      clear hk h8 h15
      go_wp2_with fail
      go_roundw
      case rel => exact ⟨i + 1, _, by go_num, by omega, HIL7, HSZ7, HOK7, HV7.out, be7⟩
      case measure => simp [intOf]; omega
    · obtain rfl : i = its2.length := by omega
      have be24r : RowKit.Below w2.heap.size w2 wr := be24.trans (be.mono hB2)
      have ber : RowKit.Below w.heap.size w wr := ⟨be.os.trans be4.os, be.tape.trans be4.tape, be.output.trans be4.output, Nat.le_trans be4.size be.size, fun k hk => (be.block k (by omega)).trans (be4.block k hk)⟩
      have vwsA : Vws wr va its := vws2.below be24r (Nat.le_refl _)
      have vwsB : Vws wr xa its' := vl.vws
      have h0r := h0.below ber (Nat.le_refl _)
      have h2r := h2.below ber (Nat.le_refl _)
      obtain ⟨SZ, hSZ⟩ : ∃ SZ, ((szOf its).map (3 + ·)).sum = SZ := ⟨_, rfl⟩
      have HSZA := Lib.hid hSZ
      have HSZB : Hid (((szOf its').map (3 + ·)).sum = SZ) := Lib.hid (by rw [hsz.out, HSZ.out, hSZ])
      have HSZ9 : Hid (SZ ≤ 44) := Lib.hid (by
        rw [← hSZ, ← bytesOf_sz _ HOKV.out]
        have := bytesOf_len (its.map Vx.key) (by intro v hv; obtain ⟨x, hx, rfl⟩ := List.mem_map.1 hv; exact (HOKV.out x hx).ok)
        rw [List.length_map] at this
        omega)
      have HKA : Hid (∀ v ∈ its, OkK v.key) := Lib.hid fun v hv => (HOKV.out v hv).ok
      have HKB : Hid (∀ v ∈ its', OkK v.key) := Lib.hid fun v hv => (hok.out v hv).ok
      have HI4 : Hid (its'.length ≤ 1000) := Lib.hid (by rw [hil.out]; omega)
      obtain ⟨T3, hT3⟩ : ∃ T3, T3 = Q * 3 := ⟨_, rfl⟩
      have hqz : (Q : Int) * 3 = (T3 : Int) := by omega
      have HT3 := Lib.hid hT3
      clear hT3
      clear hSZ be24r be24 be4 vl be h0w h2w vws2 h0 h2
      go_upto_region 10 with (first | (go_at_call 8; (with_reducible refine (mk_ModE HQ.out _ (by decide) (by decide)).mono ?_); rintro e w4 ⟨rfl, rfl⟩) | (go_at_call 8; (with_reducible refine (mk_ModE HN.out _ (by decide) (by decide)).mono ?_); rintro e w4 ⟨rfl, rfl⟩))
      go_upto_region 11 with (first | (go_at_call 6; (with_reducible refine (mk_New a0 c0 l0 _ h0r n0).mono ?_); rintro e p1a ⟨rfl, dka, bAa⟩) | (go_at_call 9; (with_reducible refine (deck_Requests _ _ 0 (Q : Int) 9 _ dka hq0 (by decide) (by decide)).mono ?_); rintro e p2a ⟨kqa, rna, rla, raa, rca, rfl, hrna, hrla, ila, hdda, gga⟩; ((have bBa : RowKit.Below wr.heap.size wr p2a := below_grown bAa gga (Nat.le_refl _) bAa.size); (have HLa : Hid (∀ r ∈ rla, r.legs.length ≤ 1000) := Lib.hid (by obtain ⟨l00, t1, t2⟩ := hrla.out; intro r hr; have t3 := markM_ok (now := 9) t1 (by decide) (by decide); rw [← t2] at t3; have := t3.legsLen r hr; omega)); (have HRa : Hid (rla.length ≤ 4) := Lib.hid (by obtain ⟨l00, t1, t2⟩ := hrla.out; have t3 := (markM_ok (now := 9) t1 (by decide) (by decide)).n.2; rw [← t2] at t3; simpa using t3)))) | (go_at_call 12; (with_reducible refine (status_Codes raa rla rna rca Q va its its.length vc 9 _ ila.rqs hrna.out (vwsA.below bBa (Nat.le_refl _)) rfl (by omega) HLa.out (by have := HRa.out; omega)).mono ?_); rintro e p3a ⟨caa, cca, cna, rfl, hcna, owna, bCa⟩; ((have bDa : RowKit.Below wr.heap.size wr p3a := (by repeat (first | (with_reducible refine Below.setCell ?_ ?_ _) | (with_reducible refine Below.alloc ?_ ?_ _) | (with_reducible refine Below.drew ?_) | (with_reducible refine below_drewN ?_ _) | (with_reducible exact Below.refl _ _) | (with_reducible refine Below.trans ?_ (Below.mono bCa ?_)) | (with_reducible refine Below.trans ?_ (Below.mono bBa ?_)) | (focus (simp; done)) | (focus (simp; omega)) | (focus omega) | (focus (have q0 := Below.size bCa; (try simp at q0); have q1 := Below.size bBa; (try simp at q1); (try simp); omega))))); (have hc9a : cna ≤ 11000 := by have := hcna.out; rw [codesM_len] at this; omega))) | (go_at_call 15; (with_reducible refine (status_Message va its its.length vc n caa _ cna cca _ (vwsA.below bDa (Nat.le_refl _)) rfl HKA.out (by omega) owna.byt hcna.out hc9a).mono ?_); rintro e p4a ⟨aaa, daa, dna, dca, rfl, hdna, hma, bEa⟩))
      have bFa : RowKit.Below wr.heap.size wr p4a := (by repeat (first | (with_reducible refine Below.setCell ?_ ?_ _) | (with_reducible refine Below.alloc ?_ ?_ _) | (with_reducible refine Below.drew ?_) | (with_reducible refine below_drewN ?_ _) | (with_reducible exact Below.refl _ _) | (with_reducible refine Below.trans ?_ (Below.mono bEa ?_)) | (with_reducible refine Below.trans ?_ (Below.mono bDa ?_)) | (focus (simp; done)) | (focus (simp; omega)) | (focus omega) | (focus (have q0 := Below.size bEa; (try simp at q0); have q1 := Below.size bDa; (try simp at q1); (try simp); omega))))
      obtain ⟨Da, hDa⟩ : ∃ D, bytesOf (its.map Vx.key) ++ codesM (rla.map Rq.key) Q (its.map Vx.key) 9 = D := ⟨_, rfl⟩
      have HDLa : Hid (Da.length = SZ + Q * 3) := Lib.hid (by rw [← hDa, List.length_append, bytesOf_sz _ HOKV.out, codesM_len, HSZA.out])
      rw [hDa] at hdna hma
      have HOKMa : Hid (Msg.Ok ⟨17, [], [n], Da⟩) := Lib.hid (msg_okF (.inl rfl) hn0 hn1 (by have := HDLa.out; have := HSZ9.out; omega))
      clear hDa
      refine wp_named (fun U => Blk U p4a.heap.size 44 #[.int .i64 17, .slice none 0 0, .slice aaa 1 1, .slice daa dna dca] ∧ MsgAt U ⟨17, [], [n], Da⟩ none 0 aaa daa ∧ RowKit.Below wr.heap.size wr U ∧ RowKit.Below w.heap.size w U) ⟨Blk.new _ _ _, hma.below (by repeat (first | (with_reducible refine Below.setCell ?_ ?_ _) | (with_reducible refine Below.alloc ?_ ?_ _) | (with_reducible refine Below.drew ?_) | (with_reducible refine below_drewN ?_ _) | (with_reducible exact Below.refl _ _) | (focus (simp; done)) | (focus (simp; omega)) | (focus omega))) (Nat.le_refl _), (by repeat (first | (with_reducible refine Below.setCell ?_ ?_ _) | (with_reducible refine Below.alloc ?_ ?_ _) | (with_reducible refine Below.drew ?_) | (with_reducible refine below_drewN ?_ _) | (with_reducible exact Below.refl _ _) | (with_reducible refine Below.trans ?_ (Below.mono bFa ?_)) | (focus (simp; done)) | (focus (simp; omega)) | (focus omega) | (focus (have q0 := Below.size bFa; (try simp at q0); (try simp); omega)))), (by repeat (first | (with_reducible refine Below.setCell ?_ ?_ _) | (with_reducible refine Below.alloc ?_ ?_ _) | (with_reducible refine Below.drew ?_) | (with_reducible refine below_drewN ?_ _) | (with_reducible exact Below.refl _ _) | (with_reducible refine Below.trans ?_ (Below.mono bFa ?_)) | (with_reducible refine Below.trans ?_ (Below.mono ber ?_)) | (focus (simp; done)) | (focus (simp; omega)) | (focus omega) | (focus (have q0 := Below.size bFa; (try simp at q0); have q1 := Below.size ber; (try simp at q1); (try simp); omega))))⟩ ?_
      obtain ⟨MA, hMA⟩ : ∃ MA, p4a.heap.size = MA := ⟨_, rfl⟩
      rw [hMA]
      have vwA0 := vwsA
      have vwB0 := vwsB
      have h2r0 := h2r
      clear dka bAa hdda gga bBa owna bCa bDa bEa bFa hma hMA ila
      rintro U ⟨kMA, hma, bWU, beU⟩
      have vwsB : Vws U xa its' := vwB0.below bWU (Nat.le_refl _)
      have vwsA : Vws U va its := vwA0.below bWU (Nat.le_refl _)
      have h2r := h2r0.below bWU (Nat.le_refl _)
      clear vwA0 vwB0 h2r0 h0r
      go_upto_region 12 with (first | (go_at_call 6; (with_reducible refine (mk_New a2 c2 l2 _ h2r n2).mono ?_); rintro e p1b ⟨rfl, dkb, bAb⟩) | (go_at_call 9; (with_reducible refine (deck_Requests _ _ 0 (Q : Int) 9 _ dkb hq0 (by decide) (by decide)).mono ?_); rintro e p2b ⟨kqb, rnb, rlb, rab, rcb, rfl, hrnb, hrlb, ilb, hddb, ggb⟩; ((have bBb : RowKit.Below U.heap.size U p2b := below_grown bAb ggb (Nat.le_refl _) bAb.size); (have HLb : Hid (∀ r ∈ rlb, r.legs.length ≤ 1000) := Lib.hid (by obtain ⟨l00, t1, t2⟩ := hrlb.out; intro r hr; have t3 := markM_ok (now := 9) t1 (by decide) (by decide); rw [← t2] at t3; have := t3.legsLen r hr; omega)); (have HRb : Hid (rlb.length ≤ 4) := Lib.hid (by obtain ⟨l00, t1, t2⟩ := hrlb.out; have t3 := (markM_ok (now := 9) t1 (by decide) (by decide)).n.2; rw [← t2] at t3; simpa using t3)))) | (go_at_call 12; (with_reducible refine (status_Codes rab rlb rnb rcb Q xa its' its2.length xc 9 _ ilb.rqs hrnb.out (vwsB.below bBb (Nat.le_refl _)) hil.out.symm (by omega) HLb.out (by have := HRb.out; omega)).mono ?_); rintro e p3b ⟨cab, ccb, cnb, rfl, hcnb, ownb, bCb⟩; ((have bDb : RowKit.Below U.heap.size U p3b := (by repeat (first | (with_reducible refine Below.setCell ?_ ?_ _) | (with_reducible refine Below.alloc ?_ ?_ _) | (with_reducible refine Below.drew ?_) | (with_reducible refine below_drewN ?_ _) | (with_reducible exact Below.refl _ _) | (with_reducible refine Below.trans ?_ (Below.mono bCb ?_)) | (with_reducible refine Below.trans ?_ (Below.mono bBb ?_)) | (focus (simp; done)) | (focus (simp; omega)) | (focus omega) | (focus (have q0 := Below.size bCb; (try simp at q0); have q1 := Below.size bBb; (try simp at q1); (try simp); omega))))); (have hc9b : cnb ≤ 11000 := by have := hcnb.out; rw [codesM_len] at this; omega))) | (go_at_call 15; (with_reducible refine (status_Message xa its' its2.length xc n cab _ cnb ccb _ (vwsB.below bDb (Nat.le_refl _)) hil.out.symm HKB.out HI4.out ownb.byt hcnb.out hc9b).mono ?_); rintro e p4b ⟨aab, dab, dnb, dcb, rfl, hdnb, hmb, bEb⟩))
      have bFb : RowKit.Below U.heap.size U p4b := (by repeat (first | (with_reducible refine Below.setCell ?_ ?_ _) | (with_reducible refine Below.alloc ?_ ?_ _) | (with_reducible refine Below.drew ?_) | (with_reducible refine below_drewN ?_ _) | (with_reducible exact Below.refl _ _) | (with_reducible refine Below.trans ?_ (Below.mono bEb ?_)) | (with_reducible refine Below.trans ?_ (Below.mono bDb ?_)) | (focus (simp; done)) | (focus (simp; omega)) | (focus omega) | (focus (have q0 := Below.size bEb; (try simp at q0); have q1 := Below.size bDb; (try simp at q1); (try simp); omega))))
      obtain ⟨Db, hDb⟩ : ∃ D, bytesOf (its'.map Vx.key) ++ codesM (rlb.map Rq.key) Q (its'.map Vx.key) 9 = D := ⟨_, rfl⟩
      have HDLb : Hid (Db.length = SZ + Q * 3) := Lib.hid (by rw [← hDb, List.length_append, bytesOf_sz _ hok.out, codesM_len, HSZB.out])
      rw [hDb] at hdnb hmb
      have HOKMb : Hid (Msg.Ok ⟨17, [], [n], Db⟩) := Lib.hid (msg_okF (.inl rfl) hn0 hn1 (by have := HDLb.out; have := HSZ9.out; omega))
      clear hDb
      refine wp_named (fun X => Blk X MA 44 #[.int .i64 17, .slice none 0 0, .slice aaa 1 1, .slice daa dna dca] ∧ Blk X p4b.heap.size 44 #[.int .i64 17, .slice none 0 0, .slice aab 1 1, .slice dab dnb dcb] ∧ MsgAt X ⟨17, [], [n], Da⟩ none 0 aaa daa ∧ MsgAt X ⟨17, [], [n], Db⟩ none 0 aab dab ∧ Vws X va its ∧ RowKit.Below w.heap.size w X) ⟨(kMA.below bFb kMA.lt).alloc _, Blk.new _ _ _, (hma.below bFb (Nat.le_refl _)).below (by repeat (first | (with_reducible refine Below.setCell ?_ ?_ _) | (with_reducible refine Below.alloc ?_ ?_ _) | (with_reducible refine Below.drew ?_) | (with_reducible refine below_drewN ?_ _) | (with_reducible exact Below.refl _ _) | (focus (simp; done)) | (focus (simp; omega)) | (focus omega))) (Nat.le_refl _), hmb.below (by repeat (first | (with_reducible refine Below.setCell ?_ ?_ _) | (with_reducible refine Below.alloc ?_ ?_ _) | (with_reducible refine Below.drew ?_) | (with_reducible refine below_drewN ?_ _) | (with_reducible exact Below.refl _ _) | (focus (simp; done)) | (focus (simp; omega)) | (focus omega))) (Nat.le_refl _), (vwsA.below bFb (Nat.le_refl _)).alloc _, (by repeat (first | (with_reducible refine Below.setCell ?_ ?_ _) | (with_reducible refine Below.alloc ?_ ?_ _) | (with_reducible refine Below.drew ?_) | (with_reducible refine below_drewN ?_ _) | (with_reducible exact Below.refl _ _) | (with_reducible refine Below.trans ?_ (Below.mono bFb ?_)) | (with_reducible refine Below.trans ?_ (Below.mono beU ?_)) | (focus (simp; done)) | (focus (simp; omega)) | (focus omega) | (focus (have q0 := Below.size bFb; (try simp at q0); have q1 := Below.size beU; (try simp at q1); (try simp); omega))))⟩ ?_
      obtain ⟨MB, hMB⟩ : ∃ MB, p4b.heap.size = MB := ⟨_, rfl⟩
      rw [hMB]
      clear dkb bAb hddb ggb bBb ownb bCb bDb bEb bFb hMB ilb kMA hma hmb vwsA vwsB h2r bWU beU
      rintro X ⟨kMA, kMB, hma, hmb, vwsA, beX⟩
      have hdd : dnb = dna := by rw [hdnb.out, hdna.out, HDLa.out, HDLb.out]
      subst hdd
      obtain ⟨x0, x1, x2, x3⟩ := kMA.four
      obtain ⟨y0, y1, y2, y3⟩ := kMB.four
      have xl := kMA.lt
      have yl := kMB.lt
      have FC : Hid (∀ W, Vws W va its → Calls Try.prog 12 #[.slice none 0 0, .int .i64 Q, .slice va its.length vc, .int .i64 9] W fun e w' => ∃ (a : Option Addr) (c : Nat), e = .returned (.slice a T3 c) ∧ RowKit.Below W.heap.size W w') := Lib.hid fun W h => (status_Codes none [] 0 0 Q va its its.length vc 9 W (Rqs.nil _ _) rfl h rfl (by omega) (by simp) (by simp)).mono fun e w' ⟨a, c, m, he, hm, _, hb⟩ => by
        have hm2 : m = T3 := by rw [hm.out, codesM_len, HT3.out]
        subst hm2
        exact ⟨a, c, he, hb⟩
      have HFE : Hid (Msg.Ok ⟨21, [], [n], bytesOf (its.map Vx.key)⟩) := Lib.hid (msg_okF (.inr rfl) hn0 hn1 (by rw [bytesOf_sz _ HOKV.out, HSZA.out]; have := HSZ9.out; omega))
      go_wp2_with (first | (go_at_call 20; (with_reducible refine (ref05_ValidT HOKMa hma hdna).mono ?_); rintro e q1 ⟨rfl, d1⟩; ((have k1 := kMB.below d1 yl); clear y0 y1 y2 y3; (obtain ⟨y0, y1, y2, y3⟩ := k1.four); (have yl2 := k1.lt))) | (go_at_call 20; (with_reducible refine (ref05_ValidT HOKMb (hmb.below d1 (Nat.le_refl _)) hdnb).mono ?_); rintro e q2 ⟨rfl, d2⟩; ((have d12 : RowKit.Below X.heap.size X q2 := (by repeat (first | (with_reducible refine Below.setCell ?_ ?_ _) | (with_reducible refine Below.alloc ?_ ?_ _) | (with_reducible refine Below.drew ?_) | (with_reducible refine below_drewN ?_ _) | (with_reducible exact Below.refl _ _) | (with_reducible refine Below.trans ?_ (Below.mono d2 ?_)) | (with_reducible refine Below.trans ?_ (Below.mono d1 ?_)) | (focus (simp; done)) | (focus (simp; omega)) | (focus omega) | (focus (have q0 := Below.size d2; (try simp at q0); have q1 := Below.size d1; (try simp at q1); (try simp); omega))))))) | (go_at_call 18; (with_reducible refine (status_Feed va its its.length vc n _ (vwsA.below d12 (Nat.le_refl _)) rfl HKA.out (by omega)).mono ?_); rintro e q3 ⟨fa, fd, fdn, fdc, rfl, hfd, hmf, d3⟩) | (go_at_call 20; (with_reducible refine (ref05_ValidT HFE hmf hfd).mono ?_); rintro e q4 ⟨rfl, d4⟩; ((have d14 : RowKit.Below X.heap.size X q4 := (by repeat (first | (with_reducible refine Below.setCell ?_ ?_ _) | (with_reducible refine Below.alloc ?_ ?_ _) | (with_reducible refine Below.drew ?_) | (with_reducible refine below_drewN ?_ _) | (with_reducible exact Below.refl _ _) | (with_reducible refine Below.trans ?_ (Below.mono d4 ?_)) | (with_reducible refine Below.trans ?_ (Below.mono d3 ?_)) | (with_reducible refine Below.trans ?_ (Below.mono d12 ?_)) | (focus (simp; done)) | (focus (simp; omega)) | (focus omega) | (focus (have q0 := Below.size d4; (try simp at q0); have q1 := Below.size d3; (try simp at q1); have q2 := Below.size d12; (try simp at q2); (try simp); omega))))))) | (go_at_call 12; (with_reducible refine (FC.out _ (vwsA.below d14 (Nat.le_refl _))).mono ?_); rintro e q5 ⟨ga, gc, rfl, d5⟩) | (go_at_call 11; (with_reducible refine (awake_yes _).mono ?_); rintro e q6 ⟨rfl, d6⟩))
      go_ret
      exact ⟨rfl, (by repeat (first | (with_reducible refine Below.setCell ?_ ?_ _) | (with_reducible refine Below.alloc ?_ ?_ _) | (with_reducible refine Below.drew ?_) | (with_reducible refine below_drewN ?_ _) | (with_reducible exact Below.refl _ _) | (with_reducible refine Below.trans ?_ (Below.mono d6 ?_)) | (with_reducible refine Below.trans ?_ (Below.mono d5 ?_)) | (with_reducible refine Below.trans ?_ (Below.mono d14 ?_)) | (with_reducible refine Below.trans ?_ (Below.mono beX ?_)) | (focus (simp; done)) | (focus (simp; omega)) | (focus omega) | (focus (have q0 := Below.size d6; (try simp at q0); have q1 := Below.size d5; (try simp at q1); have q2 := Below.size d14; (try simp at q2); have q3 := Below.size beX; (try simp at q3); (try simp); omega))))⟩
end Go.Proofs.Ytpjnajallekjoaa
