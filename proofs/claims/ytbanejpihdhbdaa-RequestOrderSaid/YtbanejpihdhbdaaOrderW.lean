/- signalbrokerlaw19.RequestOrder: the walk (under way) -/
import Derived.Test.YtbanejpihdhbdaaOrder
import Derived.Test.YtbanejpihdhbdaaSame19
import Derived.Maps.Views
import Derived.Maps.OwnOps
namespace Go.Proofs.Ytbanejpihdhbdaa
set_option linter.unusedVariables false
open Go.RowKit Go.Sort Go.Maps
set_option maxRecDepth 100000

theorem lawI : Keyed Try.prog 3 := int_keyed Try.underlying3
theorem zeroB (w : World) : (zeroValue 4).run Try.prog w = .ok (.bool false) w := by kernel_rfl
theorem made_mapB (w : World) (b : Nat) (h : w.heap.size = b) : (w.alloc (.map #[] 0)).ownsMap (H := Unit) Try.prog 3 (plainElem Try.prog 4) b 0 (.map []) := by subst h; exact World.ownsMap_made _ _ _ _
/-- the ids that have been seen -/
structure Seen (D : DataW Unit) (l : List Int) : Prop where
  map : IsMap D
  at_ : ∀ k : Int, D.atKey (.int .i64 k) (.lit (.bool false)) = .lit (.bool (decide (k ∈ l)))
theorem Seen.nil : Seen (.map []) [] := ⟨isMap_empty, fun k => by simp; rfl⟩
theorem Seen.put {D : DataW Unit} {l : List Int} (h : Seen D l) (k : Int) : Seen (D.put (.int .i64 k) (.lit (.bool true))) (l ++ [k]) := by
  obtain ⟨es, e⟩ := h.map
  refine ⟨⟨_, by rw [e]; rfl⟩, fun q => ?_⟩
  by_cases hq : q = k
  · subst hq
    rw [atKey_put_same h.map (by constructor)]
    simp
  · rw [atKey_put_other (by simpa using hq), h.at_]
    simp [hq]
theorem wf9 {k : Int} (k0 : 0 ≤ k) (k1 : k < 9) : (Lit.int .i64 k).wf = true := by
  have : k = 0 ∨ k = 1 ∨ k = 2 ∨ k = 3 ∨ k = 4 ∨ k = 5 ∨ k = 6 ∨ k = 7 ∨ k = 8 := by omega
  rcases this with rfl | rfl | rfl | rfl | rfl | rfl | rfl | rfl | rfl <;> decide
theorem Seen.look {w : World} {b n : Nat} {D : DataW Unit} {l : List Int} (h : Seen D l) (own : w.ownsMap Try.prog 3 (plainElem Try.prog 4) b n D) (k : Int) (k0 : 0 ≤ k) (k1 : k < 9) :
    (Instr.lookup 28 (.map (some b)) (.int .i64 k) false).run Try.prog w = .ok (.bool (decide (k ∈ l))) w := by
  obtain ⟨v, ps, hrun, hv⟩ := own.lookup lawI Try.underlying28 (zeroB w) (plainElem_bool Try.underlying4 false) (keyOf_int_mk Try.underlying3 (wf9 k0 k1) (a := k))
  rw [h.at_] at hv
  unfold plainElem at hv
  rw [Try.underlying4] at hv
  cases v <;> simp at hv
  rw [hrun, hv.1]
/-- append(s, x...) of ints -/
theorem appI {ops : Array Oper} {rest : List Oper} {o : Oper} {a : Act} {Q : Exit → Act → World → Prop} {w : World} (hgd : o.guard = none) (s x : Operand) (ho : o.op = .call { callee := .builtin .append, args := #[s, x], argTypes := #[22, 22] })
    (base : Nat) (b : Option Addr) (n cap : Nat) (l : List Int) (hs : a.eval s = .slice b n cap) (A : Option Addr) (m c : Nat) (k : List Int) (hx : a.eval x = .slice A m c)
    (own : Own w base 3 1 b n cap (l.map encI)) (hr : Ints w A k) (hm : m = k.length) (N : Nat) (hN : N = n + m) (hbig : N ≤ 100000000000) (hbase : base ≤ w.heap.size)
    (h : ∀ b' cap' w', Own w' base 3 1 b' N cap' ((l ++ k).map encI) → Grew base w w' b b' → (∀ W, Below base W w → Below base W w') → wpList Try.prog ops Q rest (a.put o.dst (.slice b' N cap')) w') :
    wpList Try.prog ops Q (o :: rest) a w := by
  obtain ⟨i0, hi, hz0, hz1, hz2⟩ := info_parts info_int
  refine wp_append_row _ hgd s x _ ho base _ i0 _ 1 8 Try.underlying22 hi hz0 hz1 hz2 rfl (by decide) b n cap _ hs A m c hx own (k.map encI) (by simp [hm]) hr (mapI_one _) (by simp only [maxLen]; omega) (by omega) hbase ?_
  intro b' cap' w' own' g
  rw [← hN] at own' ⊢
  rw [← List.map_append] at own'
  exact h b' cap' w' own' g (Grew.step own g)
/-- append(s, x) of one int: it has just been laid in a block of its own -/
theorem app1I {ops : Array Oper} {rest : List Oper} {o : Oper} {a : Act} {Q : Exit → Act → World → Prop} {w : World} (hgd : o.guard = none) (s x : Operand) (ho : o.op = .call { callee := .builtin .append, args := #[s, x], argTypes := #[22, 22] })
    (base : Nat) (b : Option Addr) (n cap : Nat) (l : List Int) (hs : a.eval s = .slice b n cap) (z : Int) (hx : a.eval x = .slice (some ⟨w.heap.size, 0, none⟩) 1 1)
    (own : Own w base 3 1 b n cap (l.map encI)) (N : Nat) (hN : N = n + 1) (hbig : N ≤ 100000000000) (hbase : base ≤ w.heap.size)
    (h : ∀ b' cap' w', Own w' base 3 1 b' N cap' ((l ++ [z]).map encI) → Grew base (w.alloc (.cells #[.int .i64 z] 3)) w' b b' → (∀ W, Below base W w → Below base W w') → wpList Try.prog ops Q rest (a.put o.dst (.slice b' N cap')) w') :
    wpList Try.prog ops Q (o :: rest) a (w.alloc (.cells #[.int .i64 z] 3)) := by
  refine appI hgd s x ho base b n cap l hs _ 1 1 [z] hx (own.alloc _) ?_ rfl N hN hbig (by simp; omega) ?_
  · have := row_new w #[.int .i64 z] 3 (0, 0)
    exact this
  intro b' cap' w' own' g hb
  exact h b' cap' w' own' g (fun W hW => hb W (hW.alloc hbase _))
theorem take_new {l : List Int} (hn : l.Nodup) {i : Nat} (h : i < l.length) : l[i] ∉ l.take i := by
  intro hm
  obtain ⟨k, hk, e⟩ := List.mem_iff_getElem.1 hm
  simp at hk
  rw [List.getElem_take] at e
  exact List.pairwise_iff_getElem.1 hn k i (by omega) h (by omega) e
/-- what a submit of a new id gives -/
theorem Built.step {l l' : List Int} {x : List Rk} (h : Built l x) {k : Int} (hk : k ∉ l) (k0 : 0 ≤ k) (k1 : k < 9) (hl : l.length < 4) (e : l' = l ++ [k]) {er : Int} {y : List Rk} (hs : subM x 4 k k 0 5 oLg 1 = (er, y)) : er = 0 ∧ Built l' y := by
  rw [h.sub hk k0 (by omega) k0 (by omega) hl] at hs
  injection hs with h1 h2
  subst h1 h2 e
  exact ⟨rfl, h.snoc hk k0 (by omega) hl⟩
set_option maxHeartbeats 8000000 in
theorem requestOrder_walk (a0 : Option Addr) (c0 : Nat) (l0 : List Int) (w1v w2v : Int) (w : World) (h0 : Ints w a0 l0) (n0 : l0.length ≤ 9223372036854775807) :
    Calls Try.prog 3 #[.slice a0 l0.length c0, .int .i64 w1v, .int .i64 w2v] w fun e w' => e = .returned (.bool true) ∧ RowKit.Below w.heap.size w w' := by
  go_enter Try.func3, Try.ntmps3
  by_cases h12 : (12 : Int) < (l0.length : Int)
  · go_wp2_with ((go_at_call 8; (with_reducible refine (law_awake _).mono ?_); rintro e w9 ⟨rfl, hb9⟩))
    go_ret
    exact ⟨rfl, hb9⟩
  · have hl12 : l0.length ≤ 12 := by omega
    have hmm := @run_makeMap Try.prog
    go_upto_region 7 with fail
    obtain ⟨V, hV⟩ : ∃ V, w.heap.size = V := ⟨_, rfl⟩
    refine wp_named (fun Y => Blk Y V 25 #[.int .i64 1, .int .i64 1, .int .i64 2, .int .i64 9, .int .i64 (-1)] ∧ Y.ownsMap (H := Unit) Try.prog 3 (plainElem Try.prog 4) (V + 1) 0 (.map []) ∧ RowKit.Below V w Y ∧ Y.heap.size = V + 2) ⟨by rw [← hV]; exact (Blk.new _ _ _).alloc _, made_mapB _ _ (by simp [hV]), by rw [← hV]; exact (by repeat (first | (with_reducible refine Below.setCell ?_ ?_ _) | (with_reducible refine Below.alloc ?_ ?_ _) | (with_reducible refine Below.drew ?_) | (with_reducible refine below_drewN ?_ _) | (with_reducible exact Below.refl _ _) | (focus (simp; done)) | (focus (simp; omega)) | (focus omega))), by simp [hV]⟩ ?_
    rw [hV]
    clear hmm
    rintro Y ⟨kL, own, be, hY⟩
    go_wp2_with fail
    go_loopw [11, 36] (fun s11 s36 wr => ∃ (i N : Nat) (l : List Int) (la : Option Addr) (lc : Nat) (D : DataW Unit), s11 = .slice la l.length lc ∧ s36 = .int .i64 i ∧ i ≤ l0.length ∧ N ≤ i ∧ l.length ≤ 4 ∧ Hid (l.Nodup ∧ ∀ k ∈ l, 0 ≤ k ∧ k < 9) ∧ Seen D l ∧ Own wr (V + 2) 3 1 la l.length lc (l.map encI) ∧ wr.ownsMap Try.prog 3 (plainElem Try.prog 4) (V + 1) N D ∧ Y.grownBy wr (some (V + 1)) ∧ V + 2 ≤ wr.heap.size) (fun _ s _ => l0.length - (intOf s).toNat)
    case atStart => exact ⟨0, 0, [], none, 0, _, rfl, rfl, by omega, by omega, by decide, Lib.hid ⟨by simp, by simp⟩, Seen.nil, Own.nil _ _ _ _, own, ⟨rfl, rfl, rfl, Nat.le_refl _, fun _ _ _ => rfl⟩, by omega⟩
    case round =>
      obtain ⟨i, N, l, la, lc, D, rfl, rfl, hi, hN, hl4, hl, hseen, ol, om, gy, hsz⟩ := hrel
      have bw : RowKit.Below V w wr := ⟨gy.os.trans be.os, gy.tape.trans be.tape, gy.output.trans be.output, Nat.le_trans be.size gy.size, fun k hk => (gy.block k (by omega) (fun e => by injection e with e; omega)).trans (be.block k hk)⟩
      by_cases hlt : i < l0.length
      · rcases (h0.below bw (by omega)).open with rfl | ⟨ba, oa, ea, hba, hc⟩
        · exact absurd hlt (by simp)
        subst ea
        have x0 := hc i hlt
        obtain ⟨z, hz⟩ : ∃ z, l0[i] = z := ⟨_, rfl⟩
        rw [hz] at x0
        clear hc hz
        obtain ⟨k, Ek'⟩ : ∃ k, z % 9 = k := ⟨_, rfl⟩
        have k0 : 0 ≤ k := by omega
        have k1 : k < 9 := by omega
        have Ek := Lib.hid Ek'
        clear Ek'
        have kx : (i : Int) < (l0.length : Int) := by omega
        have hlook := hseen.look om k k0 k1
        by_cases hk : k ∈ l
        · rw [decide_eq_true hk] at hlook
          clear hk
          go_wp2_with ((go_at_call 9; (with_reducible refine (mk_ModE Ek.out _ (by decide) (by decide)).mono ?_); rintro e wz ⟨rfl, rfl⟩))
          go_roundw
          case rel => exact ⟨i + 1, N, l, la, lc, D, rfl, by go_num, by omega, by omega, hl4, hl, hseen, ol, om, gy, hsz⟩
          case measure => simp [intOf]; omega
        · rw [decide_eq_false hk] at hlook
          have HK := Lib.hid hk
          clear hk
          by_cases h4 : l.length < 4
          · have h4i : (l.length : Int) < 4 := by omega
            go_wp2_with (first | (go_at_call 9; (with_reducible refine (mk_ModE Ek.out _ (by decide) (by decide)).mono ?_); rintro e wz ⟨rfl, rfl⟩) | (at_builtin; refine app1I rfl _ _ rfl (V + 2) la l.length lc l rfl k rfl ol (l.length + 1) rfl (by omega) hsz ?_; intro lb ld w5 ol5 g5 bl5; clear hlook; (obtain ⟨w6, hrun, om6, g6⟩ := World.ownsMap.update (H := Unit) (val := .bool true) (key := .int .i64 k) ((om.alloc _).kept g5.1 (fun e => by have := ol.base_le _ e.symm; omega)) lawI Try.underlying28 (by unfold maxLen; omega) (keyOf_int_mk Try.underlying3 (wf9 k0 k1)) (plainElem_bool Try.underlying4 true))))
            have b5 : RowKit.Below (V + 2) wr w5 := bl5 _ (RowKit.Below.refl _ _)
            have s5 := b5.size
            have s6 := g6.size
            have gy6 : Y.grownBy w6 (some (V + 1)) := ⟨g6.os.trans (b5.os.trans gy.os), g6.tape.trans (b5.tape.trans gy.tape), g6.output.trans (b5.output.trans gy.output), by omega, fun b hb hne => (g6.block b (by omega) hne).trans ((b5.block b (by omega)).trans (gy.block b hb hne))⟩
            go_roundw
            case rel => exact ⟨i + 1, N + 1, l ++ [k], lb, ld, _, by simp, by go_num, by omega, by omega, by simp; omega, Lib.hid ⟨List.nodup_append.2 ⟨hl.out.1, by simp, fun x hx y hy e => HK.out (by rw [List.mem_singleton.1 hy] at e; exact e ▸ hx)⟩, fun q hq => by
              rcases List.mem_append.1 hq with h | h
              · exact hl.out.2 q h
              · rw [List.mem_singleton.1 h]; exact ⟨k0, k1⟩⟩, hseen.put k, by rw [show (l ++ [k]).length = l.length + 1 by simp]; exact ol5.grown g6 (by omega), om6, gy6, by omega⟩
            case measure => simp [intOf]; omega
          · have h4i : ¬ (l.length : Int) < 4 := by omega
            go_wp2_with ((go_at_call 9; (with_reducible refine (mk_ModE Ek.out _ (by decide) (by decide)).mono ?_); rintro e wz ⟨rfl, rfl⟩))
            go_roundw
            case rel => exact ⟨i + 1, N, l, la, lc, D, rfl, by go_num, by omega, by omega, hl4, hl, hseen, ol, om, gy, hsz⟩
            case measure => simp [intOf]; omega
      · obtain rfl : i = l0.length := by omega
        have kL3 : Blk wr V 25 #[.int .i64 1, .int .i64 1, .int .i64 2, .int .i64 9, .int .i64 (-1)] := (gy.block V (by omega) (fun e => by injection e with e; omega)).trans kL
        have li3 := ol.ints
        have hn0 := hl.out.1
        have HL := Lib.hid hl.out
        clear gy om hseen ol kL own be hn0 hl h0 hi hN
        obtain ⟨t, ht⟩ : ∃ t : Nat, t = (w1v % (l.length : Int)).toNat := ⟨_, rfl⟩
        have HT := Lib.hid ht
        clear ht
        go_wp2_with fail
        go_loopw [8, 9, 60] (fun s8 s9 s60 wy => ∃ (i nx xc ny yc : Nat) (xa ya : Option Addr) (lx ly : List Rq), s8 = .slice xa nx xc ∧ s9 = .slice ya ny yc ∧ s60 = .int .i64 i ∧ i ≤ l.length ∧ Hid (nx = lx.length) ∧ Hid (ny = ly.length) ∧ Hid (Built (l.take i) (lx.map Rq.key)) ∧ Hid (Built (rot l t i) (ly.map Rq.key)) ∧ RqL wy wr.heap.size lx xa xc ∧ RqL wy wr.heap.size ly ya yc ∧ RowKit.Below wr.heap.size wr wy) (fun _ _ s _ => l.length - (intOf s).toNat)
        case atStart => exact ⟨0, 0, 0, 0, 0, none, none, [], [], rfl, rfl, rfl, by omega, Lib.hid rfl, Lib.hid rfl, Lib.hid Built.nil, Lib.hid Built.nil, RqL.nil _ _, RqL.nil _ _, (by repeat (first | (with_reducible refine Below.setCell ?_ ?_ _) | (with_reducible refine Below.alloc ?_ ?_ _) | (with_reducible refine Below.drew ?_) | (with_reducible refine below_drewN ?_ _) | (with_reducible exact Below.refl _ _) | (focus (simp; done)) | (focus (simp; omega)) | (focus omega)))⟩
        case round =>
          obtain ⟨i, nx, xc, ny, yc, xa, ya, lx, ly, rfl, rfl, rfl, hi, hnx, hny, bx, by_, ilx, ily, bz⟩ := hrel
          by_cases hlt : i < l.length
          · have hne : (w1v % (l.length : Int)) = t := by
              have h1 := Int.emod_nonneg w1v (show (l.length : Int) ≠ 0 by omega)
              rw [HT.out]; omega
            have htl : t < l.length := by
              have h1 := Int.emod_lt_of_pos w1v (show (0 : Int) < (l.length : Int) by omega)
              omega
            have HNE := Lib.hid hne
            clear hne
            rcases (li3.below bz (Nat.le_refl _)).open with rfl | ⟨ba, oa, ea, hba, hc⟩
            · exact absurd hlt (by simp)
            subst ea
            obtain ⟨p, hp⟩ : ∃ p, (i + t) % l.length = p := ⟨_, rfl⟩
            have hpl : p < l.length := by rw [← hp]; exact Nat.mod_lt _ (by omega)
            have hrem : Int.tmod ((i : Int) + (t : Int)) (l.length : Int) = (p : Int) := by rw [← hp]; rfl
            have x0 := hc i hlt
            have x1 := hc p hpl
            have HI := Lib.hid (HL.out.2 _ (List.getElem_mem hlt))
            have HP := Lib.hid (HL.out.2 _ (List.getElem_mem hpl))
            obtain ⟨k, hk⟩ : ∃ k, l[i] = k := ⟨_, rfl⟩
            obtain ⟨m, hm⟩ : ∃ m, l[p] = m := ⟨_, rfl⟩
            rw [hk] at x0 HI
            rw [hm] at x1 HP
            have kx : (i : Int) < (l.length : Int) := by omega
            have px : (p : Int) < (l.length : Int) := by omega
            have zl : (l.length : Int) ≠ 0 := by omega
            have HKI := Lib.hid hk
            have HMP := Lib.hid hm
            clear hk hm hc
            go_upto_region 18 with ((go_at_call 9; (with_reducible refine (mk_ModE HNE.out _ (by omega) (by omega)).mono ?_); rintro e wz ⟨rfl, rfl⟩))
            have kLw := kL3.below bz kL3.lt
            have rL : Row wr (some ⟨V, 0, none⟩) (lgCells oLg) := one_leg kLw
            have HLn : Hid (1 = oLg.length) := Lib.hid rfl
            have hbx3 := bx.out.ok.legsLen
            have hby3 := by_.out.ok.legsLen
            have hokx := ilx.lgOk (fun r hr => by have := hbx3 r hr; omega)
            have hoky := ily.lgOk (fun r hr => by have := hby3 r hr; omega)
            have hnx4 : nx ≤ 4 := by have := bx.out.len; rw [List.length_map, ← hnx.out] at this; simp at this; omega
            have hny4 : ny ≤ 4 := by have := by_.out.len; rw [List.length_map, ← hny.out, rot_len] at this; omega
            have HTK := Lib.hid (show l.take (i + 1) = l.take i ++ [k] by rw [← HKI.out]; exact (List.take_append_getElem hlt).symm)
            have HTN := Lib.hid (show k ∉ l.take i by rw [← HKI.out]; exact take_new HL.out.1 hlt)
            have HGD := Lib.hid (show l.getD ((i + t) % l.length) 0 = m by rw [hp, ← HMP.out, List.getD_eq_getElem?_getD, List.getElem?_eq_getElem hpl]; rfl)
            have HRK := Lib.hid (show rot l t (i + 1) = rot l t i ++ [m] by rw [rot_succ, HGD.out])
            have HRN := Lib.hid (show m ∉ rot l t i by rw [← HGD.out]; exact rot_new HL.out.1 htl hlt)
            go_upto_region 19 with ((go_at_call 10; (with_reducible refine (request_Submit xa lx nx xc 4 k k 0 5 (some ⟨V, 0, none⟩) oLg 1 1 1 _ ilx.rqs hnx.out (by omega) hokx rL HLn.out (by decide) (by decide) (by simp)).mono ?_); rintro e w4 ⟨xa2, nx2, xc2, lx2, er, rfl, hm4, hn4, il4, hb4⟩))
            obtain ⟨rfl, hb4x⟩ := bx.out.step HTN.out HI.out.1 HI.out.2 (by simp; omega) HTK.out hm4.out
            have HB4 := Lib.hid hb4x
            clear hb4x hm4
            have kL4 := kLw.below hb4 kLw.lt
            have rL4 : Row w4 (some ⟨V, 0, none⟩) (lgCells oLg) := one_leg kL4
            have ily4 := ily.below hb4
            have bz4 : RowKit.Below _ _ w4 := bz.trans (hb4.mono bz.size)
            have hz := bz.size
            go_upto_region 20 with ((go_at_call 10; (with_reducible refine (request_Submit ya ly ny yc 4 m m 0 5 (some ⟨V, 0, none⟩) oLg 1 1 1 _ ily4.rqs hny.out (by omega) hoky rL4 HLn.out (by decide) (by decide) (by simp)).mono ?_); rintro e w5 ⟨ya2, ny2, yc2, ly2, er, rfl, hm5, hn5, il5, hb5⟩))
            obtain ⟨rfl, hb5x⟩ := by_.out.step HRN.out HP.out.1 HP.out.2 (by rw [rot_len]; omega) HRK.out hm5.out
            have HB5 := Lib.hid hb5x
            clear hb5x hm5
            go_wp2_with fail
            go_roundw
            case rel => exact ⟨i + 1, nx2, xc2, ny2, yc2, xa2, ya2, lx2, ly2, rfl, rfl, by go_num, by omega, hn4, hn5, HB4, HB5, (il4.below hb5).mono hz, il5.mono (by have := hb4.size; omega), (by repeat (first | (with_reducible refine Below.setCell ?_ ?_ _) | (with_reducible refine Below.alloc ?_ ?_ _) | (with_reducible refine Below.drew ?_) | (with_reducible refine below_drewN ?_ _) | (with_reducible exact Below.refl _ _) | (with_reducible refine Below.trans ?_ (Below.mono hb5 ?_)) | (with_reducible refine Below.trans ?_ (Below.mono bz4 ?_)) | (focus (simp; done)) | (focus (simp; omega)) | (focus omega) | (focus (have q0 := Below.size hb5; (try simp at q0); have q1 := Below.size bz4; (try simp at q1); (try simp); omega))))⟩
            case measure => simp [intOf]; omega
          · obtain rfl : i = l.length := by omega
            have hbx := bx.out
            rw [List.take_length] at hbx
            have hke : lx.map Rq.key = ly.map Rq.key := hbx.eq by_.out fun k => by
              rcases Nat.eq_zero_or_pos l.length with h | h
              · rw [h, List.length_eq_zero_iff.1 h]; simp [rot]
              · have h1 := Int.emod_nonneg w1v (show (l.length : Int) ≠ 0 by omega)
                have h2 := Int.emod_lt_of_pos w1v (show (0 : Int) < (l.length : Int) by omega)
                exact rot_all (by rw [HT.out]; omega) k
            have hlx := hbx.len
            rw [List.length_map, ← hnx.out] at hlx
            have hlegs := hbx.ok.legsLen
            have HKE := Lib.hid hke
            have HBX := Lib.hid hbx
            have HLX := Lib.hid hlx
            have hokx := ilx.lgOk (fun r hr => by have := hlegs r hr; omega)
            clear hke hbx
            obtain ⟨n, hn'⟩ : ∃ n, w2v % 100 = n := ⟨_, rfl⟩
            have n0' : 0 ≤ n := by omega
            have n1' : n < 100 := by omega
            have HN := Lib.hid hn'
            have HNL := Lib.hid (show 9 + n ∉ l from fun h => by have := HL.out.2 _ h; omega)
            have kLw := kL3.below bz kL3.lt
            have hx4 : nx ≤ 4 := by omega
            clear hn' hlx
            go_upto_region 27 with (first | (go_at_call 9; (with_reducible refine (mk_ModE HN.out _ (by decide) (by decide)).mono ?_); rintro e wz ⟨rfl, rfl⟩) | (go_at_call 11; (with_reducible refine (ref19_Same xa ya lx ly nx xc ny yc _ ilx.rqs ily.rqs hnx.out hny.out HKE.out (by omega) (fun r hr => by have := hlegs r hr; omega)).mono ?_); rintro e w4 ⟨rfl, hb4⟩) | (go_at_call 12; (with_reducible refine (Says.y (request_Valid xa lx nx xc 4 _ (ilx.below hb4).rqs hnx.out (by omega) (fun r hr => ⟨(hokx r hr).2, by have := hlegs r hr; omega⟩)) HBX.out.ok).mono ?_); rintro e w5 ⟨rfl, hb5⟩))
            have kL5 := (kLw.below hb4 kLw.lt).below hb5 (kLw.below hb4 kLw.lt).lt
            have rL5 : Row w5 (some ⟨V, 0, none⟩) (lgCells oLg) := one_leg kL5
            have HLn : Hid (1 = oLg.length) := Lib.hid rfl
            have il5 := (ilx.below hb4).below hb5
            have bz5 : RowKit.Below V w w5 := (by repeat (first | (with_reducible refine Below.setCell ?_ ?_ _) | (with_reducible refine Below.alloc ?_ ?_ _) | (with_reducible refine Below.drew ?_) | (with_reducible refine below_drewN ?_ _) | (with_reducible exact Below.refl _ _) | (with_reducible refine Below.trans ?_ (Below.mono hb5 ?_)) | (with_reducible refine Below.trans ?_ (Below.mono hb4 ?_)) | (with_reducible refine Below.trans ?_ (Below.mono bz ?_)) | (with_reducible refine Below.trans ?_ (Below.mono bw ?_)) | (focus (simp; done)) | (focus (simp; omega)) | (focus omega) | (focus (have q0 := Below.size hb5; (try simp at q0); have q1 := Below.size hb4; (try simp at q1); have q2 := Below.size bz; (try simp at q2); have q3 := Below.size bw; (try simp at q3); (try simp); omega))))
            have hsx := HBX.out.sub (k := 9 + n) (v := 1) HNL.out (by omega) (by omega) (by decide) (by decide)
            by_cases h4 : l.length < 4
            · go_upto_region 28 with ((go_at_call 10; (with_reducible refine (request_Submit xa lx nx xc 4 (9 + n) 1 0 5 (some ⟨V, 0, none⟩) oLg 1 1 1 _ il5.rqs hnx.out (by omega) hokx rL5 HLn.out (by decide) (by decide) (by simp)).mono ?_); rintro e w6 ⟨xa2, nx2, xc2, lx2, er, rfl, hm6, hn6, il6, hb6⟩))
              have hs6 := hm6.out
              rw [hsx h4] at hs6
              injection hs6 with h1 h2
              subst h1
              have hok6 : RqsOk (lx2.map Rq.key) 4 := by rw [← h2]; exact (subM_ok (hsx h4)).1
              have HU : Hid (cancM (lx2.map Rq.key) (9 + n) = (0, lx.map Rq.key)) := Lib.hid (by rw [← h2]; exact HBX.out.undo HNL.out (by omega) (by omega) (by decide) (by decide) h4)
              have hlg6 := hok6.legsLen
              have hok6' := il6.lgOk (fun r hr => by have := hlg6 r hr; omega)
              have hn6' : nx2 ≤ 4 := by have := hok6.n.2; rw [List.length_map, ← hn6.out] at this; exact this
              clear hm6 h2 hok6 hsx
              have il56 := il5.below hb6
              go_upto_region 31 with ((go_at_call 13; (with_reducible refine (request_Cancel xa2 lx2 nx2 xc2 (9 + n) _ il6.rqs hn6.out (by omega) hok6').mono ?_); rintro e w7 ⟨xa3, nx3, xc3, lx3, er3, rfl, hm7, hn7, il7, hb7⟩))
              have hs7 := hm7.out
              rw [HU.out] at hs7
              injection hs7 with h1 h2
              subst h1
              have HE := Lib.hid h2.symm
              have hlg7 := legs_le h2.symm (N := 100000) (fun r hr => by have := hlegs r hr; omega)
              have hn7' : nx3 ≤ 100000 := by
                have := congrArg List.length h2
                simp only [List.length_map] at this
                rw [hn7.out, ← this, ← hnx.out]; omega
              have il57 := il56.below hb7
              clear hm7 h2
              go_wp2_with (first | (go_at_call 11; (with_reducible refine (ref19_Same xa3 xa lx3 lx nx3 xc3 nx xc _ il7.rqs il57.rqs hn7.out hnx.out HE.out hn7' hlg7).mono ?_); rintro e w8 ⟨rfl, hb8⟩) | (go_at_call 8; (with_reducible refine (law_awake _).mono ?_); rintro e w9 ⟨rfl, hb9⟩))
              go_ret
              rw [hV]
              exact ⟨rfl, (by repeat (first | (with_reducible refine Below.setCell ?_ ?_ _) | (with_reducible refine Below.alloc ?_ ?_ _) | (with_reducible refine Below.drew ?_) | (with_reducible refine below_drewN ?_ _) | (with_reducible exact Below.refl _ _) | (with_reducible refine Below.trans ?_ (Below.mono hb9 ?_)) | (with_reducible refine Below.trans ?_ (Below.mono hb8 ?_)) | (with_reducible refine Below.trans ?_ (Below.mono hb7 ?_)) | (with_reducible refine Below.trans ?_ (Below.mono hb6 ?_)) | (with_reducible refine Below.trans ?_ (Below.mono bz5 ?_)) | (focus (simp; done)) | (focus (simp; omega)) | (focus omega) | (focus (have q0 := Below.size hb9; (try simp at q0); have q1 := Below.size hb8; (try simp at q1); have q2 := Below.size hb7; (try simp at q2); have q3 := Below.size hb6; (try simp at q3); have q4 := Below.size bz5; (try simp at q4); (try simp); omega))))⟩
            · have hf := HBX.out.full (k := 9 + n) (v := 1) HNL.out (by omega) (by omega) (by decide) (by decide) h4
              obtain rfl : nx = 4 := by have := HLX.out; omega
              clear hsx
              go_upto_region 28 with ((go_at_call 10; (with_reducible refine (request_Submit xa lx 4 xc 4 (9 + n) 1 0 5 (some ⟨V, 0, none⟩) oLg 1 1 1 _ il5.rqs hnx.out (by omega) hokx rL5 HLn.out (by decide) (by decide) (by simp)).mono ?_); rintro e w6 ⟨xa2, nx2, xc2, lx2, er, rfl, hm6, hn6, il6, hb6⟩))
              have hs6 := hm6.out
              rw [hf] at hs6
              injection hs6 with h1 h2
              subst h1
              clear hm6 h2 hf hn6 il6
              go_wp2_with ((go_at_call 8; (with_reducible refine (law_awake _).mono ?_); rintro e w9 ⟨rfl, hb9⟩))
              go_ret
              rw [hV]
              exact ⟨rfl, (by repeat (first | (with_reducible refine Below.setCell ?_ ?_ _) | (with_reducible refine Below.alloc ?_ ?_ _) | (with_reducible refine Below.drew ?_) | (with_reducible refine below_drewN ?_ _) | (with_reducible exact Below.refl _ _) | (with_reducible refine Below.trans ?_ (Below.mono hb9 ?_)) | (with_reducible refine Below.trans ?_ (Below.mono hb6 ?_)) | (with_reducible refine Below.trans ?_ (Below.mono bz5 ?_)) | (focus (simp; done)) | (focus (simp; omega)) | (focus omega) | (focus (have q0 := Below.size hb9; (try simp at q0); have q1 := Below.size hb6; (try simp at q1); have q2 := Below.size bz5; (try simp at q2); (try simp); omega))))⟩
end Go.Proofs.Ytbanejpihdhbdaa
