/- stream.take, at most some items -/
import Derived.Test.YtlfccoakodnbaaaTake
namespace Go.Proofs.Ytlfccoakodnbaaa
set_option linter.unusedVariables false
open Go.RowKit Go.Sort Go.Shelf
set_option maxRecDepth 100000
attribute [local go_sem] Oper.semAt_some
set_option maxHeartbeats 4000000 in
theorem take_some (a : Option Addr) (l : List UInt8) (c : Nat) (g0 : Bool) (w : World) (hb : Byt w a l) (hcap : l.length ≤ c) (hl : l.length ≤ 1000000000) (hnil0 : a = none → l.length = 0 ∧ c = 0) (lim : Nat) (hlim : 0 < lim) (nb : Nat) (hnb : nb < w.heap.size) (hnc : w.cell? ⟨nb, 0, none⟩ = some (.int .i64 (lim : Int))) : Calls Try.prog 39 #[.agg #[.slice a l.length c, .bool g0], .func (.func 40) #[] #[.pointer (some ⟨nb, 0, none⟩)]] w (TakeR lim l g0 w) := by
  have ha : l ≠ [] → ∀ k, a.map (·.block) = some k → k < w.heap.size := fun hne k hk => by
    rcases hb.open with h | ⟨b, off, rfl, hlt, _⟩
    · exact absurd h hne
    · simp at hk; omega
  refine callsIn_wide.1 (callsIn_of_wp_marks (n := 6) Try.func39 rfl trivial (wpIn_wide.2 ?_) rfl)
  simp only [Try.ntmps39, List.size_toArray, List.length_cons, List.length_nil, Nat.reduceAdd, Nat.reduceSub, Array.replicate_succ, Array.replicate_zero, List.push_toArray, List.append_toArray, List.nil_append, List.cons_append]
  go_wp2
  go_step3
  go_upto_region 2 with fail
  refine wp_named (fun W => Blk W w.heap.size 28 #[.slice a l.length c, .bool g0] ∧ Blk W (w.heap.size + 1) 68 #[.func (.func 40) #[] #[.pointer (some ⟨nb, 0, none⟩)]] ∧ Blk W (w.heap.size + 1 + 1) 28 #[.slice none 0 0, .bool false] ∧ Blk W (w.heap.size + 1 + 1 + 1) 33 #[.slice none 0 0] ∧ W.heap.size = w.heap.size + 4 ∧ RowKit.Below w.heap.size w W) ⟨?_, ?_, ?_, ?_, by simp, (by repeat (first | (with_reducible refine Below.setCell ?_ ?_ _) | (with_reducible refine Below.alloc ?_ ?_ _) | (with_reducible refine Below.drew ?_) | (with_reducible refine below_drewN ?_ _) | (with_reducible exact Below.refl _ _) | (focus (simp; done)) | (focus (simp; omega)) | (focus omega)))⟩ ?_
  · exact (((Blk.new w _ _).alloc _).alloc _).alloc _
  · have := ((Blk.new (w.alloc (.cells #[.slice a l.length c, .bool g0] 28)) 68 #[.func (.func 40) #[] #[.pointer (some ⟨nb, 0, none⟩)]]).alloc (.cells #[.slice none 0 0, .bool false] 28)).alloc (.cells #[.slice none 0 0] 33)
    simpa using this
  · have := (Blk.new ((w.alloc (.cells #[.slice a l.length c, .bool g0] 28)).alloc (.cells #[.func (.func 40) #[] #[.pointer (some ⟨nb, 0, none⟩)]] 68)) 28 #[.slice none 0 0, .bool false]).alloc (.cells #[.slice none 0 0] 33)
    simpa using this
  · have := Blk.new (((w.alloc (.cells #[.slice a l.length c, .bool g0] 28)).alloc (.cells #[.func (.func 40) #[] #[.pointer (some ⟨nb, 0, none⟩)]] 68)).alloc (.cells #[.slice none 0 0, .bool false] 28)) 33 #[.slice none 0 0]
    simpa using this
  rintro W4 ⟨kS, kF, kR, kI, z4, be4⟩
  have c0 := kS.cell 0
  have c1 := kS.cell 1
  have cl := kS.lt
  have HZ := Lib.hid z4
  clear z4
  go_cut [7, 8] from 11 to 12 (fun s7 s8 wx => ∃ U G : Nat, s7 = .pointer (some ⟨U, 0, none⟩) ∧ s8 = .pointer (some ⟨G, 0, none⟩) ∧ Blk wx U 3 #[.int .i64 0] ∧ Blk wx G 4 #[.bool g0] ∧ U ≠ G ∧ W4.heap.size ≤ U ∧ W4.heap.size ≤ G ∧ RowKit.Below W4.heap.size W4 wx)
  case first =>
    go_region
    · go_wp2_with fail
      go_meet
      exact ⟨W4.heap.size, W4.heap.size + 1, rfl, rfl, (Blk.new W4 _ _).alloc _, by have := Blk.new (W4.alloc (.cells #[.int .i64 0] 3)) 4 #[.bool g0]; simp only [World.size_alloc] at this; exact this, by omega, by omega, by omega, (by repeat (first | (with_reducible refine Below.setCell ?_ ?_ _) | (with_reducible refine Below.alloc ?_ ?_ _) | (with_reducible refine Below.drew ?_) | (with_reducible refine below_drewN ?_ _) | (with_reducible exact Below.refl _ _) | (focus (simp; done)) | (focus (simp; omega)) | (focus omega)))⟩
    · go_wp2_with fail
      go_meet
      exact ⟨W4.heap.size + 1, W4.heap.size, rfl, rfl, by have := Blk.new (W4.alloc (.cells #[.bool g0] 4)) 3 #[.int .i64 0]; simp only [World.size_alloc] at this; exact this, (Blk.new W4 _ _).alloc _, by omega, by omega, by omega, (by repeat (first | (with_reducible refine Below.setCell ?_ ?_ _) | (with_reducible refine Below.alloc ?_ ?_ _) | (with_reducible refine Below.drew ?_) | (with_reducible refine below_drewN ?_ _) | (with_reducible exact Below.refl _ _) | (focus (simp; done)) | (focus (simp; omega)) | (focus omega)))⟩
  case rest =>
    obtain ⟨U, G, rfl, rfl, kU, kG, hUG, hU, hG, hbw⟩ := hcut
    have kS1 := kS.below hbw cl
    have s0 := kS1.cell 0
    have sl := kS1.lt
    go_wp2_with fail
    go_step3
    go_wp2_with (go_at_call 43; (with_reducible refine (stream_parsed _ _ _ _).mono ?_); rintro e w' ⟨rfl, rfl⟩)
    have z4 := HZ.out
    have sb := hbw.size
    have lU := kU.lt
    have lG := kG.lt
    have kF1 := kF.below hbw kF.lt
    have kR1 := kR.below hbw kR.lt
    have kI1 := kI.below hbw kI.lt
    have be0 : RowKit.Below w.heap.size w (wc.alloc (.cells #[.slice a l.length c] 23)) := (by repeat (first | (with_reducible refine Below.setCell ?_ ?_ _) | (with_reducible refine Below.alloc ?_ ?_ _) | (with_reducible refine Below.drew ?_) | (with_reducible refine below_drewN ?_ _) | (with_reducible exact Below.refl _ _) | (with_reducible refine Below.trans ?_ (Below.mono be4 ?_)) | (with_reducible refine Below.trans ?_ (Below.mono hbw ?_)) | (focus (simp; done)) | (focus (simp; omega)) | (focus omega) | (focus (have q0 := Below.size be4; (try simp at q0); have q1 := Below.size hbw; (try simp at q1); (try simp); omega))))
    have hN : TkN w U G (wc.heap.size + 1) := ⟨hUG, by omega, by omega, by omega, by omega⟩
    refine (wpIn_wide (n := 6)).1 ?_
    refine wp_rangeV (F := Fence.wide) rfl (by omega) (gf := 44) (lb := #[.pointer (some ⟨wc.heap.size, 0, none⟩)]) rfl trivial (enters_of Try.func44 (by kernel_rfl) rfl)
      (parsed_seq 5 (by omega) a l c wc.heap.size w.heap.size (wc.alloc (.cells #[.slice a l.length c] 23)) (by simp) ((Blk.new wc _ _).cell 0) (hb.below be0 (Nat.le_refl _)) hcap (by omega) be0.size ha) belowK_t (belowK_b be0.size) (Below.refl _ _) (fun _ => rfl)
      (TkI w a l c g0 (.func (.func 40) #[] #[.pointer (some ⟨nb, 0, none⟩)]) U G (wc.heap.size + 1) (fun st => tRun lim l ⟨0, g0, []⟩ = tRun lim l st ∧ st.keys.length < lim))
      (fun cd pre W => cd = .exit 0 ∧ TkI w a l c g0 (.func (.func 40) #[] #[.pointer (some ⟨nb, 0, none⟩)]) U G (wc.heap.size + 1) (fun st => tRun lim l ⟨0, g0, []⟩ = st) pre W)
      (tkI_own be0.size) (fun cd => OwnFrom.and (ownFrom_pure _ _) (tkI_own be0.size))
      ⟨⟨⟨rfl, by simp [tFold]; omega⟩, .nil⟩, [], none, 0, ⟨kS1.alloc _, kF1.alloc _, kR1.alloc _, kI1.alloc _, kU.alloc _, kG.alloc _, Own.nil _ _ _ _, by simp, be0, by simp⟩, rfl⟩
      (fun pre x a' W => (NextOk l pre x ∧ Own W 0 5 1 x.it.a x.it.pay.length x.it.c (x.it.pay.map encB)) ∧ ∃ Bx, wc.heap.size + 1 ≤ Bx ∧ Blk W Bx 49 #[.int .i64 x.it.code, .int .i64 x.it.kind, .slice x.it.a x.it.pay.length x.it.c] ∧
        a' = { tmps := #[.agg #[.slice a l.length c, .bool g0], .func (.func 40) #[] #[.pointer (some ⟨nb, 0, none⟩)], .pointer (some ⟨w.heap.size, 0, none⟩), .pointer (some ⟨w.heap.size + 1, 0, none⟩), .pointer (some ⟨w.heap.size + 1 + 1, 0, none⟩), .slice none 0 0, .pointer (some ⟨w.heap.size + 1 + 1 + 1, 0, none⟩), .pointer (some ⟨U, 0, none⟩), .pointer (some ⟨G, 0, none⟩), .pointer (some ⟨Bx, 0, none⟩), .int .i64 (x.size : Int), u11, u12, .pointer (some ⟨w.heap.size, 0, none⟩), .slice a l.length c, .func (.func 44) #[] #[.pointer (some ⟨wc.heap.size, 0, none⟩)], .agg #[.int .i64 x.it.code, .int .i64 x.it.kind, .slice x.it.a x.it.pay.length x.it.c], .int .i64 (x.size : Int), undef, undef, undef, undef, undef, undef, undef, undef, undef, undef, undef, undef, undef, undef, undef, undef, undef, undef, undef, undef, undef, undef, undef, undef, undef, undef, undef], defers := [] })
      (by
        rintro pre x a' _ W W' row ⟨⟨h1, h2⟩, Bx, h3, h4, h5⟩ hg hr
        have hr2 : ∀ r, row = some r → ∃ o : Obj, W.heap[r]? = some o ∧ o.isCells = false := fun r e => (hr r e).2
        exact ⟨⟨h1, h2.turn hg hr2⟩, Bx, h3, h4.turn hg hr2, h5⟩) ?assign ?body ?done ?stop
    case assign =>
      rintro L pre ⟨⟨q1, q2, q3, q4, q5⟩, q6⟩ W K ⟨hi, its, xa, xc, tk, hk⟩ ⟨hch, hnx, hov⟩ hK
      simp only [PIt.vals] at hov ⊢
      gi_wp2
      exact hK _ _ ((KeepsOthers.alloc _ _).from _) ((Below.refl _ W).alloc tk.bel.size _) ⟨hi, its, xa, xc, tk.alloc _, hk⟩ ⟨⟨hnx, hov.alloc _⟩, W.heap.size, tk.sz, Blk.new _ _ _, rfl⟩
    case body =>
      rintro L pre ⟨⟨q1, q2, q3, q4, q5⟩, q6⟩ a' W hL hrec ⟨⟨⟨hok, hklt⟩, hch⟩, its, xa, xc, tk, hk⟩ ⟨⟨hnx, hov⟩, Bx, hBx, kX, rfl⟩
      simp only at hov kX
      have x0 := kX.cell 0
      have x1 := kX.cell 1
      have x2 := kX.cell 2
      have xl := kX.lt
      have u0 := tk.kU.cell 0
      have u1 := tk.kU.frozen 0
      have g0' := tk.kG.cell 0
      have g1 := tk.kG.frozen 0
      have i0 := tk.kI.cell 0
      have i1 := tk.kI.frozen 0
      have f0 := tk.kF.cell 0
      obtain ⟨S, hS⟩ : ∃ S, sumSz pre = S := ⟨_, rfl⟩
      have HS := Lib.hid hS
      rw [hS] at u0 tk
      have hle := hnx.2.1
      have hit : its.length ≤ S := by
        have := fold_keys_le (g0 := g0) hch
        rw [← hk, List.length_map, hS] at this
        exact this
      rw [hS] at hle
      simp only at hle
      have hsI : (S : Int) + (q6 : Int) ≤ 9223372036854775807 := by omega
      obtain ⟨bg, hbg⟩ : ∃ bg, (tFold g0 pre).garb = bg := ⟨_, rfl⟩
      have HBG := Lib.hid hbg
      rw [hbg] at g0' tk
      have HGO := Lib.hid (fold_go (g0 := g0) (lim := lim) hnx hklt)
      have HNX := Lib.hid hnx
      have HCH := Lib.hid hch
      have HOK := Lib.hid hok
      have HK := Lib.hid hk
      have HLT := Lib.hid hklt
      obtain ⟨i0, hi, hz0, hz1, hz2⟩ := info_parts info_item
      have hone : ∀ u ∈ ([.int .i64 q1, .int .i64 q2, .slice q4 q3.length q5] : List Value), u.oneCell' = true := by simp [Value.oneCell']
      have hmx : its.length + 1 ≤ maxLen := by simp only [maxLen]; omega
      have hby : (its.length + 1) * 40 ≤ 140737488355328 := by omega
      have hitl : its.length + 1 ≤ l.length := by have := hnx.2.2; simp only at this; omega
      clear hS hbg hnx hch hok hk hle hklt
      by_cases b2 : (q1 == 2) = true
      · have e2 : q1 = 2 := by simpa using b2
        cases bg with
        | true =>
          have FN := Lib.hid (fold_no (g0 := g0) (pre := pre) (x := ⟨⟨q1, q2, q3, q4, q5⟩, q6⟩) e2 HBG.out)
          clear e2
          gi_wp2
          exact ⟨(KeepsOthers.setCell _ _ _).from _, (Below.refl _ W).setCell (by simp only; omega) _, ⟨⟨HOK.out.trans HGO.out, by rw [FN.out.2]; exact HLT.out⟩, HCH.out.snoc HNX.out⟩, its, xa, xc, by rw [sumSz_snoc, HS.out, FN.out.1]; exact tk.setU hN (S + q6) (by omega), by rw [FN.out.2]; exact HK.out⟩
        | false =>
          have FN := Lib.hid (fold_yes2 (g0 := g0) (pre := pre) (x := ⟨⟨q1, q2, q3, q4, q5⟩, q6⟩) e2 HBG.out)
          clear e2
          have hov1 := hov.far (p := ⟨U, 0, none⟩) (hov.ne_blk tk.kU (by decide)) (.int .i64 ((S : Int) + (q6 : Int)))
          have tk1 := tk.setU hN (S + q6) (z := (S : Int) + (q6 : Int)) (by omega)
          have hov2 := hov1.far (p := ⟨G, 0, none⟩) (hov1.ne_blk tk1.kG (by decide)) (.bool true)
          have tk2 := tk1.setG hN true
          have hrow : Row (((W.setCell ⟨U, 0, none⟩ (.int .i64 ((S : Int) + (q6 : Int)))).setCell ⟨G, 0, none⟩ (.bool true)).alloc (.cells #[.int .i64 q1, .int .i64 q2, .slice q4 q3.length q5] 49)) (some ⟨W.heap.size, 0, none⟩) [.int .i64 q1, .int .i64 q2, .slice q4 q3.length q5] := by
            have := row_new ((W.setCell ⟨U, 0, none⟩ (.int .i64 ((S : Int) + (q6 : Int)))).setCell ⟨G, 0, none⟩ (.bool true)) #[.int .i64 q1, .int .i64 q2, .slice q4 q3.length q5] 49 (0, 0)
            simpa [World.setCell] using this
          have hsz2 : wc.heap.size + 1 ≤ (((W.setCell ⟨U, 0, none⟩ (.int .i64 ((S : Int) + (q6 : Int)))).setCell ⟨G, 0, none⟩ (.bool true)).alloc (.cells #[.int .i64 q1, .int .i64 q2, .slice q4 q3.length q5] 49)).heap.size := by
            have := tk2.sz
            simp only [World.size_alloc]; omega
          have kp2 : RowKit.Below w.heap.size W (((W.setCell ⟨U, 0, none⟩ (.int .i64 ((S : Int) + (q6 : Int)))).setCell ⟨G, 0, none⟩ (.bool true)).alloc (.cells #[.int .i64 q1, .int .i64 q2, .slice q4 q3.length q5] 49)) := (((Below.refl _ W).setCell (by simp only; omega) _).setCell (by simp only; omega) _).alloc (by have := tk2.bel.size; omega) _
          have kp6 := fun {xb : Option Addr} {xd : Nat} {w6 : World} (gr6 : Grew (wc.heap.size + 1) (((W.setCell ⟨U, 0, none⟩ (.int .i64 ((S : Int) + (q6 : Int)))).setCell ⟨G, 0, none⟩ (.bool true)).alloc (.cells #[.int .i64 q1, .int .i64 q2, .slice q4 q3.length q5] 49)) w6 xa xb) => (kp2.grown gr6.1 (by have := (tk2.bel.size); simp only [World.size_alloc]; omega) (fun k hk => by have := (tk2.own).base_le k hk; omega)).setCell (p := ⟨w.heap.size + 1 + 1 + 1, 0, none⟩) (by simp only; omega) (.slice xb (its.length + 1) xd)
          have ko6 := fun {xb : Option Addr} {xd : Nat} {w6 : World} (gr6 : Grew (wc.heap.size + 1) (((W.setCell ⟨U, 0, none⟩ (.int .i64 ((S : Int) + (q6 : Int)))).setCell ⟨G, 0, none⟩ (.bool true)).alloc (.cells #[.int .i64 q1, .int .i64 q2, .slice q4 q3.length q5] 49)) w6 xa xb) => ((((KeepsOthers.setCell W ⟨U, 0, none⟩ (.int .i64 ((S : Int) + (q6 : Int)))).trans (KeepsOthers.setCell _ ⟨G, 0, none⟩ (.bool true))).trans ((KeepsOthers.alloc _ (.cells #[.int .i64 q1, .int .i64 q2, .slice q4 q3.length q5] 49)).trans ((grew_keeps (tk2.own.alloc _) gr6).trans (KeepsOthers.setCell _ ⟨w.heap.size + 1 + 1 + 1, 0, none⟩ (.slice xb (its.length + 1) xd)))))).from (wc.heap.size + 1)
          have hkl : (tFold g0 (pre ++ [⟨⟨q1, q2, q3, q4, q5⟩, q6⟩])).keys.length = its.length + 1 := by rw [FN.out.2, ← HK.out]; simp
          have HKL := Lib.hid hkl
          clear hkl
          by_cases hlm : its.length + 1 < lim
          · have HZB := Lib.hid (show decide ((lim : Int) ≤ (its.length : Int) + 1) = false from decide_eq_false (by omega))
            gi_wp2_with (first | (gi_at_builtin; refine wpIn_append_row rfl _ _ _ rfl (wc.heap.size + 1) 49 i0 _ 3 40 Try.underlying33 hi hz0 hz1 hz2 rfl (by decide) xa its.length xc _ rfl (some ⟨W.heap.size, 0, none⟩) 1 1 rfl (tk2.own.alloc _) [.int .i64 q1, .int .i64 q2, .slice q4 q3.length q5] rfl hrow hone hmx hby hsz2 ?_; intro xb xd w6 own6 gr6; (have ne6 := fun q (hq : q < wc.heap.size + 1) => tk2.own.ne_lt hq); (have kI6 := (tk2.kI.alloc _).ofGrown gr6 (ne6 _ (by omega))); (have kF6 := (tk2.kF.alloc _).ofGrown gr6 (ne6 _ (by omega))); (have v0 := kI6.cell 0); (have v1 := kI6.frozen 0); (have v2 := kF6.cell 0); (have v3 := kI6.lt); (have tk6 := (tk2.alloc (.cells #[.int .i64 q1, .int .i64 q2, .slice q4 q3.length q5] 49)).push hN (x := ⟨q1, q2, q3, q4, q5⟩) rfl own6 gr6 (hov2.alloc _))) | (refine ⟨trivial, ?_⟩; gi_at_call 40; refine (CallsIn.inRound L (callsIn_wide.2 (take1_c lim _ nb HZB _ ((tk6.bel.cell (p := ⟨nb, 0, none⟩) hnb).trans hnc)))).mono ?_; rintro e w' ⟨rfl, rfl⟩))
            exact ⟨by simpa using ko6 gr6, kp6 gr6, ⟨⟨HOK.out.trans HGO.out, by rw [HKL.out]; exact hlm⟩, HCH.out.snoc HNX.out⟩, _, xb, xd, by rw [sumSz_snoc, HS.out, FN.out.1]; exact tk6, by rw [FN.out.2, List.map_append, HK.out]; rfl⟩
          · have HZB := Lib.hid (show decide ((lim : Int) ≤ (its.length : Int) + 1) = true from decide_eq_true (by omega))
            gi_wp2_with (first | (gi_at_builtin; refine wpIn_append_row rfl _ _ _ rfl (wc.heap.size + 1) 49 i0 _ 3 40 Try.underlying33 hi hz0 hz1 hz2 rfl (by decide) xa its.length xc _ rfl (some ⟨W.heap.size, 0, none⟩) 1 1 rfl (tk2.own.alloc _) [.int .i64 q1, .int .i64 q2, .slice q4 q3.length q5] rfl hrow hone hmx hby hsz2 ?_; intro xb xd w6 own6 gr6; (have ne6 := fun q (hq : q < wc.heap.size + 1) => tk2.own.ne_lt hq); (have kI6 := (tk2.kI.alloc _).ofGrown gr6 (ne6 _ (by omega))); (have kF6 := (tk2.kF.alloc _).ofGrown gr6 (ne6 _ (by omega))); (have v0 := kI6.cell 0); (have v1 := kI6.frozen 0); (have v2 := kF6.cell 0); (have v3 := kI6.lt); (have tk6 := (tk2.alloc (.cells #[.int .i64 q1, .int .i64 q2, .slice q4 q3.length q5] 49)).push hN (x := ⟨q1, q2, q3, q4, q5⟩) rfl own6 gr6 (hov2.alloc _))) | (refine ⟨trivial, ?_⟩; gi_at_call 40; refine (CallsIn.inRound L (callsIn_wide.2 (take1_c lim _ nb HZB _ ((tk6.bel.cell (p := ⟨nb, 0, none⟩) hnb).trans hnc)))).mono ?_; rintro e w' ⟨rfl, rfl⟩))
            exact ⟨by simpa using ko6 gr6, rfl, ⟨by rw [HOK.out, HGO.out]; exact tRun_stop (fun h => by have := h.1; rw [HKL.out] at this; omega), HCH.out.snoc HNX.out⟩, _, xb, xd, by rw [sumSz_snoc, HS.out, FN.out.1]; exact tk6, by rw [FN.out.2, List.map_append, HK.out]; rfl⟩
      · have e2 : q1 ≠ 2 := by simpa using b2
        have b2' : (q1 == 2) = false := by simpa using b2
        clear b2
        by_cases b7 : (q1 == 7) = true
        · have e7 : decide (q1 = 7 ∨ q1 = 4) = true := decide_eq_true (.inl (by simpa using b7))
          have FN := Lib.hid (fold_yes (g0 := g0) (pre := pre) (x := ⟨⟨q1, q2, q3, q4, q5⟩, q6⟩) e2 e7)
          have hov1 := hov.far (p := ⟨U, 0, none⟩) (hov.ne_blk tk.kU (by decide)) (.int .i64 ((S : Int) + (q6 : Int)))
          have tk1 := tk.setU hN (S + q6) (z := (S : Int) + (q6 : Int)) (by omega)
          have hov2 := hov1.far (p := ⟨G, 0, none⟩) (hov1.ne_blk tk1.kG (by decide)) (.bool true)
          have tk2 := tk1.setG hN true
          have hrow : Row (((W.setCell ⟨U, 0, none⟩ (.int .i64 ((S : Int) + (q6 : Int)))).setCell ⟨G, 0, none⟩ (.bool true)).alloc (.cells #[.int .i64 q1, .int .i64 q2, .slice q4 q3.length q5] 49)) (some ⟨W.heap.size, 0, none⟩) [.int .i64 q1, .int .i64 q2, .slice q4 q3.length q5] := by
            have := row_new ((W.setCell ⟨U, 0, none⟩ (.int .i64 ((S : Int) + (q6 : Int)))).setCell ⟨G, 0, none⟩ (.bool true)) #[.int .i64 q1, .int .i64 q2, .slice q4 q3.length q5] 49 (0, 0)
            simpa [World.setCell] using this
          have hsz2 : wc.heap.size + 1 ≤ (((W.setCell ⟨U, 0, none⟩ (.int .i64 ((S : Int) + (q6 : Int)))).setCell ⟨G, 0, none⟩ (.bool true)).alloc (.cells #[.int .i64 q1, .int .i64 q2, .slice q4 q3.length q5] 49)).heap.size := by
            have := tk2.sz
            simp only [World.size_alloc]; omega
          have kp2 : RowKit.Below w.heap.size W (((W.setCell ⟨U, 0, none⟩ (.int .i64 ((S : Int) + (q6 : Int)))).setCell ⟨G, 0, none⟩ (.bool true)).alloc (.cells #[.int .i64 q1, .int .i64 q2, .slice q4 q3.length q5] 49)) := (((Below.refl _ W).setCell (by simp only; omega) _).setCell (by simp only; omega) _).alloc (by have := tk2.bel.size; omega) _
          have kp6 := fun {xb : Option Addr} {xd : Nat} {w6 : World} (gr6 : Grew (wc.heap.size + 1) (((W.setCell ⟨U, 0, none⟩ (.int .i64 ((S : Int) + (q6 : Int)))).setCell ⟨G, 0, none⟩ (.bool true)).alloc (.cells #[.int .i64 q1, .int .i64 q2, .slice q4 q3.length q5] 49)) w6 xa xb) => (kp2.grown gr6.1 (by have := (tk2.bel.size); simp only [World.size_alloc]; omega) (fun k hk => by have := (tk2.own).base_le k hk; omega)).setCell (p := ⟨w.heap.size + 1 + 1 + 1, 0, none⟩) (by simp only; omega) (.slice xb (its.length + 1) xd)
          have ko6 := fun {xb : Option Addr} {xd : Nat} {w6 : World} (gr6 : Grew (wc.heap.size + 1) (((W.setCell ⟨U, 0, none⟩ (.int .i64 ((S : Int) + (q6 : Int)))).setCell ⟨G, 0, none⟩ (.bool true)).alloc (.cells #[.int .i64 q1, .int .i64 q2, .slice q4 q3.length q5] 49)) w6 xa xb) => ((((KeepsOthers.setCell W ⟨U, 0, none⟩ (.int .i64 ((S : Int) + (q6 : Int)))).trans (KeepsOthers.setCell _ ⟨G, 0, none⟩ (.bool true))).trans ((KeepsOthers.alloc _ (.cells #[.int .i64 q1, .int .i64 q2, .slice q4 q3.length q5] 49)).trans ((grew_keeps (tk2.own.alloc _) gr6).trans (KeepsOthers.setCell _ ⟨w.heap.size + 1 + 1 + 1, 0, none⟩ (.slice xb (its.length + 1) xd)))))).from (wc.heap.size + 1)
          have hkl : (tFold g0 (pre ++ [⟨⟨q1, q2, q3, q4, q5⟩, q6⟩])).keys.length = its.length + 1 := by rw [FN.out.2, ← HK.out]; simp
          have HKL := Lib.hid hkl
          clear hkl
          by_cases hlm : its.length + 1 < lim
          · have HZB := Lib.hid (show decide ((lim : Int) ≤ (its.length : Int) + 1) = false from decide_eq_false (by omega))
            gi_wp2_with (first | (gi_at_builtin; refine wpIn_append_row rfl _ _ _ rfl (wc.heap.size + 1) 49 i0 _ 3 40 Try.underlying33 hi hz0 hz1 hz2 rfl (by decide) xa its.length xc _ rfl (some ⟨W.heap.size, 0, none⟩) 1 1 rfl (tk2.own.alloc _) [.int .i64 q1, .int .i64 q2, .slice q4 q3.length q5] rfl hrow hone hmx hby hsz2 ?_; intro xb xd w6 own6 gr6; (have ne6 := fun q (hq : q < wc.heap.size + 1) => tk2.own.ne_lt hq); (have kI6 := (tk2.kI.alloc _).ofGrown gr6 (ne6 _ (by omega))); (have kF6 := (tk2.kF.alloc _).ofGrown gr6 (ne6 _ (by omega))); (have v0 := kI6.cell 0); (have v1 := kI6.frozen 0); (have v2 := kF6.cell 0); (have v3 := kI6.lt); (have tk6 := (tk2.alloc (.cells #[.int .i64 q1, .int .i64 q2, .slice q4 q3.length q5] 49)).push hN (x := ⟨q1, q2, q3, q4, q5⟩) rfl own6 gr6 (hov2.alloc _))) | (refine ⟨trivial, ?_⟩; gi_at_call 40; refine (CallsIn.inRound L (callsIn_wide.2 (take1_c lim _ nb HZB _ ((tk6.bel.cell (p := ⟨nb, 0, none⟩) hnb).trans hnc)))).mono ?_; rintro e w' ⟨rfl, rfl⟩))
            exact ⟨by simpa using ko6 gr6, kp6 gr6, ⟨⟨HOK.out.trans HGO.out, by rw [HKL.out]; exact hlm⟩, HCH.out.snoc HNX.out⟩, _, xb, xd, by rw [sumSz_snoc, HS.out, FN.out.1]; exact tk6, by rw [FN.out.2, List.map_append, HK.out]; rfl⟩
          · have HZB := Lib.hid (show decide ((lim : Int) ≤ (its.length : Int) + 1) = true from decide_eq_true (by omega))
            gi_wp2_with (first | (gi_at_builtin; refine wpIn_append_row rfl _ _ _ rfl (wc.heap.size + 1) 49 i0 _ 3 40 Try.underlying33 hi hz0 hz1 hz2 rfl (by decide) xa its.length xc _ rfl (some ⟨W.heap.size, 0, none⟩) 1 1 rfl (tk2.own.alloc _) [.int .i64 q1, .int .i64 q2, .slice q4 q3.length q5] rfl hrow hone hmx hby hsz2 ?_; intro xb xd w6 own6 gr6; (have ne6 := fun q (hq : q < wc.heap.size + 1) => tk2.own.ne_lt hq); (have kI6 := (tk2.kI.alloc _).ofGrown gr6 (ne6 _ (by omega))); (have kF6 := (tk2.kF.alloc _).ofGrown gr6 (ne6 _ (by omega))); (have v0 := kI6.cell 0); (have v1 := kI6.frozen 0); (have v2 := kF6.cell 0); (have v3 := kI6.lt); (have tk6 := (tk2.alloc (.cells #[.int .i64 q1, .int .i64 q2, .slice q4 q3.length q5] 49)).push hN (x := ⟨q1, q2, q3, q4, q5⟩) rfl own6 gr6 (hov2.alloc _))) | (refine ⟨trivial, ?_⟩; gi_at_call 40; refine (CallsIn.inRound L (callsIn_wide.2 (take1_c lim _ nb HZB _ ((tk6.bel.cell (p := ⟨nb, 0, none⟩) hnb).trans hnc)))).mono ?_; rintro e w' ⟨rfl, rfl⟩))
            exact ⟨by simpa using ko6 gr6, rfl, ⟨by rw [HOK.out, HGO.out]; exact tRun_stop (fun h => by have := h.1; rw [HKL.out] at this; omega), HCH.out.snoc HNX.out⟩, _, xb, xd, by rw [sumSz_snoc, HS.out, FN.out.1]; exact tk6, by rw [FN.out.2, List.map_append, HK.out]; rfl⟩
        · have b7' : (q1 == 7) = false := by simpa using b7
          clear b7
          by_cases b4 : (q1 == 4) = true
          · have e7 : decide (q1 = 7 ∨ q1 = 4) = true := decide_eq_true (.inr (by simpa using b4))
            have FN := Lib.hid (fold_yes (g0 := g0) (pre := pre) (x := ⟨⟨q1, q2, q3, q4, q5⟩, q6⟩) e2 e7)
            have hov1 := hov.far (p := ⟨U, 0, none⟩) (hov.ne_blk tk.kU (by decide)) (.int .i64 ((S : Int) + (q6 : Int)))
            have tk1 := tk.setU hN (S + q6) (z := (S : Int) + (q6 : Int)) (by omega)
            have hov2 := hov1.far (p := ⟨G, 0, none⟩) (hov1.ne_blk tk1.kG (by decide)) (.bool true)
            have tk2 := tk1.setG hN true
            have hrow : Row (((W.setCell ⟨U, 0, none⟩ (.int .i64 ((S : Int) + (q6 : Int)))).setCell ⟨G, 0, none⟩ (.bool true)).alloc (.cells #[.int .i64 q1, .int .i64 q2, .slice q4 q3.length q5] 49)) (some ⟨W.heap.size, 0, none⟩) [.int .i64 q1, .int .i64 q2, .slice q4 q3.length q5] := by
              have := row_new ((W.setCell ⟨U, 0, none⟩ (.int .i64 ((S : Int) + (q6 : Int)))).setCell ⟨G, 0, none⟩ (.bool true)) #[.int .i64 q1, .int .i64 q2, .slice q4 q3.length q5] 49 (0, 0)
              simpa [World.setCell] using this
            have hsz2 : wc.heap.size + 1 ≤ (((W.setCell ⟨U, 0, none⟩ (.int .i64 ((S : Int) + (q6 : Int)))).setCell ⟨G, 0, none⟩ (.bool true)).alloc (.cells #[.int .i64 q1, .int .i64 q2, .slice q4 q3.length q5] 49)).heap.size := by
              have := tk2.sz
              simp only [World.size_alloc]; omega
            have kp2 : RowKit.Below w.heap.size W (((W.setCell ⟨U, 0, none⟩ (.int .i64 ((S : Int) + (q6 : Int)))).setCell ⟨G, 0, none⟩ (.bool true)).alloc (.cells #[.int .i64 q1, .int .i64 q2, .slice q4 q3.length q5] 49)) := (((Below.refl _ W).setCell (by simp only; omega) _).setCell (by simp only; omega) _).alloc (by have := tk2.bel.size; omega) _
            have kp6 := fun {xb : Option Addr} {xd : Nat} {w6 : World} (gr6 : Grew (wc.heap.size + 1) (((W.setCell ⟨U, 0, none⟩ (.int .i64 ((S : Int) + (q6 : Int)))).setCell ⟨G, 0, none⟩ (.bool true)).alloc (.cells #[.int .i64 q1, .int .i64 q2, .slice q4 q3.length q5] 49)) w6 xa xb) => (kp2.grown gr6.1 (by have := (tk2.bel.size); simp only [World.size_alloc]; omega) (fun k hk => by have := (tk2.own).base_le k hk; omega)).setCell (p := ⟨w.heap.size + 1 + 1 + 1, 0, none⟩) (by simp only; omega) (.slice xb (its.length + 1) xd)
            have ko6 := fun {xb : Option Addr} {xd : Nat} {w6 : World} (gr6 : Grew (wc.heap.size + 1) (((W.setCell ⟨U, 0, none⟩ (.int .i64 ((S : Int) + (q6 : Int)))).setCell ⟨G, 0, none⟩ (.bool true)).alloc (.cells #[.int .i64 q1, .int .i64 q2, .slice q4 q3.length q5] 49)) w6 xa xb) => ((((KeepsOthers.setCell W ⟨U, 0, none⟩ (.int .i64 ((S : Int) + (q6 : Int)))).trans (KeepsOthers.setCell _ ⟨G, 0, none⟩ (.bool true))).trans ((KeepsOthers.alloc _ (.cells #[.int .i64 q1, .int .i64 q2, .slice q4 q3.length q5] 49)).trans ((grew_keeps (tk2.own.alloc _) gr6).trans (KeepsOthers.setCell _ ⟨w.heap.size + 1 + 1 + 1, 0, none⟩ (.slice xb (its.length + 1) xd)))))).from (wc.heap.size + 1)
            have hkl : (tFold g0 (pre ++ [⟨⟨q1, q2, q3, q4, q5⟩, q6⟩])).keys.length = its.length + 1 := by rw [FN.out.2, ← HK.out]; simp
            have HKL := Lib.hid hkl
            clear hkl
            by_cases hlm : its.length + 1 < lim
            · have HZB := Lib.hid (show decide ((lim : Int) ≤ (its.length : Int) + 1) = false from decide_eq_false (by omega))
              gi_wp2_with (first | (gi_at_builtin; refine wpIn_append_row rfl _ _ _ rfl (wc.heap.size + 1) 49 i0 _ 3 40 Try.underlying33 hi hz0 hz1 hz2 rfl (by decide) xa its.length xc _ rfl (some ⟨W.heap.size, 0, none⟩) 1 1 rfl (tk2.own.alloc _) [.int .i64 q1, .int .i64 q2, .slice q4 q3.length q5] rfl hrow hone hmx hby hsz2 ?_; intro xb xd w6 own6 gr6; (have ne6 := fun q (hq : q < wc.heap.size + 1) => tk2.own.ne_lt hq); (have kI6 := (tk2.kI.alloc _).ofGrown gr6 (ne6 _ (by omega))); (have kF6 := (tk2.kF.alloc _).ofGrown gr6 (ne6 _ (by omega))); (have v0 := kI6.cell 0); (have v1 := kI6.frozen 0); (have v2 := kF6.cell 0); (have v3 := kI6.lt); (have tk6 := (tk2.alloc (.cells #[.int .i64 q1, .int .i64 q2, .slice q4 q3.length q5] 49)).push hN (x := ⟨q1, q2, q3, q4, q5⟩) rfl own6 gr6 (hov2.alloc _))) | (refine ⟨trivial, ?_⟩; gi_at_call 40; refine (CallsIn.inRound L (callsIn_wide.2 (take1_c lim _ nb HZB _ ((tk6.bel.cell (p := ⟨nb, 0, none⟩) hnb).trans hnc)))).mono ?_; rintro e w' ⟨rfl, rfl⟩))
              exact ⟨by simpa using ko6 gr6, kp6 gr6, ⟨⟨HOK.out.trans HGO.out, by rw [HKL.out]; exact hlm⟩, HCH.out.snoc HNX.out⟩, _, xb, xd, by rw [sumSz_snoc, HS.out, FN.out.1]; exact tk6, by rw [FN.out.2, List.map_append, HK.out]; rfl⟩
            · have HZB := Lib.hid (show decide ((lim : Int) ≤ (its.length : Int) + 1) = true from decide_eq_true (by omega))
              gi_wp2_with (first | (gi_at_builtin; refine wpIn_append_row rfl _ _ _ rfl (wc.heap.size + 1) 49 i0 _ 3 40 Try.underlying33 hi hz0 hz1 hz2 rfl (by decide) xa its.length xc _ rfl (some ⟨W.heap.size, 0, none⟩) 1 1 rfl (tk2.own.alloc _) [.int .i64 q1, .int .i64 q2, .slice q4 q3.length q5] rfl hrow hone hmx hby hsz2 ?_; intro xb xd w6 own6 gr6; (have ne6 := fun q (hq : q < wc.heap.size + 1) => tk2.own.ne_lt hq); (have kI6 := (tk2.kI.alloc _).ofGrown gr6 (ne6 _ (by omega))); (have kF6 := (tk2.kF.alloc _).ofGrown gr6 (ne6 _ (by omega))); (have v0 := kI6.cell 0); (have v1 := kI6.frozen 0); (have v2 := kF6.cell 0); (have v3 := kI6.lt); (have tk6 := (tk2.alloc (.cells #[.int .i64 q1, .int .i64 q2, .slice q4 q3.length q5] 49)).push hN (x := ⟨q1, q2, q3, q4, q5⟩) rfl own6 gr6 (hov2.alloc _))) | (refine ⟨trivial, ?_⟩; gi_at_call 40; refine (CallsIn.inRound L (callsIn_wide.2 (take1_c lim _ nb HZB _ ((tk6.bel.cell (p := ⟨nb, 0, none⟩) hnb).trans hnc)))).mono ?_; rintro e w' ⟨rfl, rfl⟩))
              exact ⟨by simpa using ko6 gr6, rfl, ⟨by rw [HOK.out, HGO.out]; exact tRun_stop (fun h => by have := h.1; rw [HKL.out] at this; omega), HCH.out.snoc HNX.out⟩, _, xb, xd, by rw [sumSz_snoc, HS.out, FN.out.1]; exact tk6, by rw [FN.out.2, List.map_append, HK.out]; rfl⟩
          · have b4' : (q1 == 4) = false := by simpa using b4
            have e7 : decide (q1 = 7 ∨ q1 = 4) = false := decide_eq_false (by simp at b7' b4'; omega)
            clear b4
            have FN := Lib.hid (fold_yes (g0 := g0) (pre := pre) (x := ⟨⟨q1, q2, q3, q4, q5⟩, q6⟩) e2 e7)
            have hov1 := hov.far (p := ⟨U, 0, none⟩) (hov.ne_blk tk.kU (by decide)) (.int .i64 ((S : Int) + (q6 : Int)))
            have tk1 := tk.setU hN (S + q6) (z := (S : Int) + (q6 : Int)) (by omega)
            have hov2 := hov1.far (p := ⟨G, 0, none⟩) (hov1.ne_blk tk1.kG (by decide)) (.bool false)
            have tk2 := tk1.setG hN false
            have hrow : Row (((W.setCell ⟨U, 0, none⟩ (.int .i64 ((S : Int) + (q6 : Int)))).setCell ⟨G, 0, none⟩ (.bool false)).alloc (.cells #[.int .i64 q1, .int .i64 q2, .slice q4 q3.length q5] 49)) (some ⟨W.heap.size, 0, none⟩) [.int .i64 q1, .int .i64 q2, .slice q4 q3.length q5] := by
              have := row_new ((W.setCell ⟨U, 0, none⟩ (.int .i64 ((S : Int) + (q6 : Int)))).setCell ⟨G, 0, none⟩ (.bool false)) #[.int .i64 q1, .int .i64 q2, .slice q4 q3.length q5] 49 (0, 0)
              simpa [World.setCell] using this
            have hsz2 : wc.heap.size + 1 ≤ (((W.setCell ⟨U, 0, none⟩ (.int .i64 ((S : Int) + (q6 : Int)))).setCell ⟨G, 0, none⟩ (.bool false)).alloc (.cells #[.int .i64 q1, .int .i64 q2, .slice q4 q3.length q5] 49)).heap.size := by
              have := tk2.sz
              simp only [World.size_alloc]; omega
            have kp2 : RowKit.Below w.heap.size W (((W.setCell ⟨U, 0, none⟩ (.int .i64 ((S : Int) + (q6 : Int)))).setCell ⟨G, 0, none⟩ (.bool false)).alloc (.cells #[.int .i64 q1, .int .i64 q2, .slice q4 q3.length q5] 49)) := (((Below.refl _ W).setCell (by simp only; omega) _).setCell (by simp only; omega) _).alloc (by have := tk2.bel.size; omega) _
            have kp6 := fun {xb : Option Addr} {xd : Nat} {w6 : World} (gr6 : Grew (wc.heap.size + 1) (((W.setCell ⟨U, 0, none⟩ (.int .i64 ((S : Int) + (q6 : Int)))).setCell ⟨G, 0, none⟩ (.bool false)).alloc (.cells #[.int .i64 q1, .int .i64 q2, .slice q4 q3.length q5] 49)) w6 xa xb) => (kp2.grown gr6.1 (by have := (tk2.bel.size); simp only [World.size_alloc]; omega) (fun k hk => by have := (tk2.own).base_le k hk; omega)).setCell (p := ⟨w.heap.size + 1 + 1 + 1, 0, none⟩) (by simp only; omega) (.slice xb (its.length + 1) xd)
            have ko6 := fun {xb : Option Addr} {xd : Nat} {w6 : World} (gr6 : Grew (wc.heap.size + 1) (((W.setCell ⟨U, 0, none⟩ (.int .i64 ((S : Int) + (q6 : Int)))).setCell ⟨G, 0, none⟩ (.bool false)).alloc (.cells #[.int .i64 q1, .int .i64 q2, .slice q4 q3.length q5] 49)) w6 xa xb) => ((((KeepsOthers.setCell W ⟨U, 0, none⟩ (.int .i64 ((S : Int) + (q6 : Int)))).trans (KeepsOthers.setCell _ ⟨G, 0, none⟩ (.bool false))).trans ((KeepsOthers.alloc _ (.cells #[.int .i64 q1, .int .i64 q2, .slice q4 q3.length q5] 49)).trans ((grew_keeps (tk2.own.alloc _) gr6).trans (KeepsOthers.setCell _ ⟨w.heap.size + 1 + 1 + 1, 0, none⟩ (.slice xb (its.length + 1) xd)))))).from (wc.heap.size + 1)
            have hkl : (tFold g0 (pre ++ [⟨⟨q1, q2, q3, q4, q5⟩, q6⟩])).keys.length = its.length + 1 := by rw [FN.out.2, ← HK.out]; simp
            have HKL := Lib.hid hkl
            clear hkl
            by_cases hlm : its.length + 1 < lim
            · have HZB := Lib.hid (show decide ((lim : Int) ≤ (its.length : Int) + 1) = false from decide_eq_false (by omega))
              gi_wp2_with (first | (gi_at_builtin; refine wpIn_append_row rfl _ _ _ rfl (wc.heap.size + 1) 49 i0 _ 3 40 Try.underlying33 hi hz0 hz1 hz2 rfl (by decide) xa its.length xc _ rfl (some ⟨W.heap.size, 0, none⟩) 1 1 rfl (tk2.own.alloc _) [.int .i64 q1, .int .i64 q2, .slice q4 q3.length q5] rfl hrow hone hmx hby hsz2 ?_; intro xb xd w6 own6 gr6; (have ne6 := fun q (hq : q < wc.heap.size + 1) => tk2.own.ne_lt hq); (have kI6 := (tk2.kI.alloc _).ofGrown gr6 (ne6 _ (by omega))); (have kF6 := (tk2.kF.alloc _).ofGrown gr6 (ne6 _ (by omega))); (have v0 := kI6.cell 0); (have v1 := kI6.frozen 0); (have v2 := kF6.cell 0); (have v3 := kI6.lt); (have tk6 := (tk2.alloc (.cells #[.int .i64 q1, .int .i64 q2, .slice q4 q3.length q5] 49)).push hN (x := ⟨q1, q2, q3, q4, q5⟩) rfl own6 gr6 (hov2.alloc _))) | (refine ⟨trivial, ?_⟩; gi_at_call 40; refine (CallsIn.inRound L (callsIn_wide.2 (take1_c lim _ nb HZB _ ((tk6.bel.cell (p := ⟨nb, 0, none⟩) hnb).trans hnc)))).mono ?_; rintro e w' ⟨rfl, rfl⟩))
              exact ⟨by simpa using ko6 gr6, kp6 gr6, ⟨⟨HOK.out.trans HGO.out, by rw [HKL.out]; exact hlm⟩, HCH.out.snoc HNX.out⟩, _, xb, xd, by rw [sumSz_snoc, HS.out, FN.out.1]; exact tk6, by rw [FN.out.2, List.map_append, HK.out]; rfl⟩
            · have HZB := Lib.hid (show decide ((lim : Int) ≤ (its.length : Int) + 1) = true from decide_eq_true (by omega))
              gi_wp2_with (first | (gi_at_builtin; refine wpIn_append_row rfl _ _ _ rfl (wc.heap.size + 1) 49 i0 _ 3 40 Try.underlying33 hi hz0 hz1 hz2 rfl (by decide) xa its.length xc _ rfl (some ⟨W.heap.size, 0, none⟩) 1 1 rfl (tk2.own.alloc _) [.int .i64 q1, .int .i64 q2, .slice q4 q3.length q5] rfl hrow hone hmx hby hsz2 ?_; intro xb xd w6 own6 gr6; (have ne6 := fun q (hq : q < wc.heap.size + 1) => tk2.own.ne_lt hq); (have kI6 := (tk2.kI.alloc _).ofGrown gr6 (ne6 _ (by omega))); (have kF6 := (tk2.kF.alloc _).ofGrown gr6 (ne6 _ (by omega))); (have v0 := kI6.cell 0); (have v1 := kI6.frozen 0); (have v2 := kF6.cell 0); (have v3 := kI6.lt); (have tk6 := (tk2.alloc (.cells #[.int .i64 q1, .int .i64 q2, .slice q4 q3.length q5] 49)).push hN (x := ⟨q1, q2, q3, q4, q5⟩) rfl own6 gr6 (hov2.alloc _))) | (refine ⟨trivial, ?_⟩; gi_at_call 40; refine (CallsIn.inRound L (callsIn_wide.2 (take1_c lim _ nb HZB _ ((tk6.bel.cell (p := ⟨nb, 0, none⟩) hnb).trans hnc)))).mono ?_; rintro e w' ⟨rfl, rfl⟩))
              exact ⟨by simpa using ko6 gr6, rfl, ⟨by rw [HOK.out, HGO.out]; exact tRun_stop (fun h => by have := h.1; rw [HKL.out] at this; omega), HCH.out.snoc HNX.out⟩, _, xb, xd, by rw [sumSz_snoc, HS.out, FN.out.1]; exact tk6, by rw [FN.out.2, List.map_append, HK.out]; rfl⟩
    case done =>
      rintro D pre W hD ⟨hch, hpn⟩ ⟨⟨⟨hok, -⟩, -⟩, its, xa, xc, tk, hk⟩ hK
      have hst : tRun lim l ⟨0, g0, []⟩ = tFold g0 pre := hok.trans (tRun_stop (fun h => by have := h.2; rw [tFold_used, hpn] at this; cases this))
      obtain ⟨S, hS⟩ : ∃ S, sumSz pre = S := ⟨_, rfl⟩
      obtain ⟨bg, hbg⟩ : ∃ bg, (tFold g0 pre).garb = bg := ⟨_, rfl⟩
      have hle := hch.le
      have hus := tFold_used g0 pre
      rw [hS] at hle hus
      rw [hS, hbg] at tk
      have HST := Lib.hid hst
      have HUS := Lib.hid hus
      have HBG := Lib.hid hbg
      have HKK := Lib.hid hk
      have HD := Lib.hid hK
      have hbW := hb.below tk.bel (Nat.le_refl _)
      have hnil : a = none → l.length = 0 ∧ c = 0 := hnil0
      have hrest := byt_next hbW hcap hle hnil
      obtain ⟨rb, hrb⟩ : ∃ rb, (if c = S then a else Option.map (fun x => x.add S) a) = rb := ⟨_, rfl⟩
      rw [hrb] at hrest
      have rbb : l.drop S ≠ [] → ∀ k, rb.map (·.block) = some k → k < w.heap.size := fun hne k hk' => by
        have hne : l ≠ [] := fun e => hne (by rw [e]; simp)
        rw [← hrb] at hk'
        split at hk'
        · exact ha hne k hk'
        · cases ha' : a with
          | none => rw [ha'] at hk'; simp at hk'
          | some ad => rw [ha'] at hk'; exact ha hne k (by rw [ha']; simpa [add_block] using hk')
      have hld : (l.drop S).length = l.length - S := List.length_drop
      have HLD := Lib.hid hld
      have q0 : (0 : Int) ≤ (S : Int) := by omega
      have q1 : (S : Int) ≤ (l.length : Int) := by omega
      have nu := hN.u
      have ng := hN.g
      clear hS hbg hst hus hk hld hok hK
      go_wp2
      apply wp_region_tab [((w.heap.size+1+1), (w.heap.size+1+1+1))] 10 45 [some 37, some 38, some 39, some 40, some 41, some 42, some 43, some 44, none, some 5] [⟨[10], [], [], []⟩, ⟨[0, 10], [0], [0], []⟩, ⟨[10], [], [], []⟩, ⟨[0, 1, 2, 10], [1, 2], [1, 2], []⟩, ⟨[0, 1, 2, 3, 10], [3], [3], []⟩, ⟨[10], [], [], []⟩, ⟨[0, 1, 2, 3, 4, 5, 10], [4, 5], [4, 5], []⟩, ⟨[10], [], [], []⟩, ⟨[0, 1, 2, 3, 4, 5, 6, 10], [4, 6, 10], [4, 6, 10], [10]⟩, ⟨[0, 1, 2, 3, 4, 5, 6, 7, 8, 10], [7], [7], []⟩, ⟨[], [], [], []⟩] [0, 1, 2, 3, 4, 5, 6, 7, 8, 9] [4, 8, 7, 9] [psiTrue, psiTrue, psiTrue, psiTrue, (fun f lo hi v b0 b1 W => ∃ a' c', v = .slice a' (l.length - S) c' ∧ Own W b0 5 1 a' (l.length - S) c' ((l.drop S).map encB) ∧ ∀ x, a'.map (·.block) = some x → x < b1), psiTrue, (fun f lo hi v b0 b1 W => v = .agg #[f 4, .bool bg]), psiTrue, (fun f lo hi v b0 b1 W => ∃ a' c', f 4 = .slice a' (l.length - S) c' ∧ Blk W (w.heap.size+1+1) 28 #[.slice a' (l.length - S) c', .bool bg]), psiTrue, (fun f lo hi v b0 b1 W => (b0 = (w.heap.size+1+1) ∧ b1 = (w.heap.size+1+1+1)) ∧ Blk W (w.heap.size+1+1) 28 #[.slice none 0 0, .bool false])] [kVal _, kVal _, kVal _, kVal _, kTrue, kVal _, kTrue, kVal _, kTrue, kVal _]
      · kernel_rfl
      · kernel_rfl
      · rfl
      · rfl
      rotate_left 2
      refine ⟨?oR1_0, ?oR1_1, ?oR1_2, ?oR1_3, ?oR1_4, ?oR1_5, ?oR1_6, ?oR1_7, ?oR1_8, ?oR1_9, trivial⟩
      case hx => exact ⟨⟨by omega, by have := tk.kR.lt; omega⟩, by simp, trivial⟩
      case hX => exact ⟨fun _ _ _ _ => ⟨⟨rfl, rfl⟩, tk.kR⟩, trivial⟩
      case oR1_0 => intro f lo hi w hb hx hf hk hrg R hR; (try replace hb := BelX.zero hb); (try simp (decide := true) only [go_sem] at hf); (try simp (decide := true) only [go_sem] at hk); go_simp; exact hR _ _ (rpost_val rfl rfl (Below.refl _ _) rfl)
      case oR1_1 =>
        intro f lo hi w hb hx hf hk hrg R hR; (try replace hb := BelX.zero hb); (try simp (decide := true) only [go_sem] at hf); (try simp (decide := true) only [go_sem] at hk)
        have e := (hb.blk tk.kS (by first | (simp; done) | (simp; omega))).cell 0
        go_simp
        exact hR _ _ (rpost_val rfl rfl (Below.refl _ _) rfl)
      case oR1_2 =>
        intro f lo hi w hb hx hf hk hrg R hR; (try replace hb := BelX.zero hb); (try simp (decide := true) only [go_sem] at hf); (try simp (decide := true) only [go_sem] at hk)
        have e := (hb.blk tk.kU (by first | (simp; done) | (simp; omega))).cell 0
        go_simp
        exact hR _ _ (rpost_val rfl rfl (Below.refl _ _) rfl)
      case oR1_3 => intro f lo hi w hb hx hf hk hrg R hR; (try replace hb := BelX.zero hb); (try simp (decide := true) only [go_sem] at hf); (try simp (decide := true) only [go_sem] at hk); go_simp; exact hR _ _ (rpost_val rfl rfl (Below.refl _ _) rfl)
      case oR1_4 =>
        intro f lo hi w hb hx hf hk hrg R hR; (try replace hb := BelX.zero hb); (try simp (decide := true) only [go_sem] at hf); (try simp (decide := true) only [go_sem] at hk)
        go_simp
        have bw : Byt w rb (l.drop S) := by
          by_cases hne : l.drop S = []
          · rw [hne]; exact Byt.nil _ _
          · exact hb.row (show Row _ _ _ from hrest.1) (fun b hb' r hr => by have := rbb hne b hb'; simp at hr; subst hr; simp only; omega)
        (with_reducible refine (clone_E rb (l.length - S) (c - S) (l.drop S) _ bw HLD.out.symm (by have := HLD.out; omega) hrest.2).mono ?_)
        rintro e w' ⟨a', c', rfl, own', hb'⟩
        exact ⟨_, rfl, hR _ _ (rpost_none rfl hb' ⟨a', c', rfl, own', own'.lt'⟩)⟩
      case oR1_5 =>
        intro f lo hi w hb hx hf hk hrg R hR; (try replace hb := BelX.zero hb); (try simp (decide := true) only [go_sem] at hf); (try simp (decide := true) only [go_sem] at hk)
        have e := (hb.blk tk.kG (by first | (simp; done) | (simp; omega))).cell 0
        go_simp
        exact hR _ _ (rpost_val rfl rfl (Below.refl _ _) rfl)
      case oR1_6 =>
        intro f lo hi w hb hx hf hk hrg R hR; (try replace hb := BelX.zero hb); (try simp (decide := true) only [go_sem] at hf); (try simp (decide := true) only [go_sem] at hk)
        obtain ⟨a', c', h4, -⟩ := hf
        go_simp
        refine hR _ _ (rpost_none rfl (Below.refl _ _) ?_)
        (try simp (decide := true) only [go_sem])
        rw [h4]
      case oR1_7 =>
        intro f lo hi w hb hx hf hk hrg R hR; (try replace hb := BelX.zero hb); (try simp (decide := true) only [go_sem] at hf); (try simp (decide := true) only [go_sem] at hk)
        have e := (hb.blk tk.kI (by first | (simp; done) | (simp; omega))).cell 0
        go_simp
        exact hR _ _ (rpost_val rfl rfl (Below.refl _ _) rfl)
      case oR1_8 =>
        intro f lo hi w hb hx hf hk hrg R hR; (try replace hb := BelX.zero hb); (try simp (decide := true) only [go_sem] at hf); (try simp (decide := true) only [go_sem] at hk)
        obtain ⟨⟨a', c', h4, own4, lt4⟩, h6, -, kb⟩ := hf
        rw [h4] at h6
        have e0 := kb.cell 0
        have e1 := kb.cell 1
        have fz := kb.frozen
        have p1 : lo 10 = _ := (XOk.get _ _ hx 0 _ rfl).1
        have p2 : hi 10 = _ := (XOk.get _ _ hx 0 _ rfl).2
        go_simp
        refine hR _ _ (rpost_some rfl rfl ((Touch.set w (List.mem_singleton.2 rfl) (Nat.le_of_eq p1) (by rw [p2]; exact Nat.lt_succ_self _) 0 _).trans (Touch.set _ (List.mem_singleton.2 rfl) (Nat.le_of_eq p1) (by rw [p2]; exact Nat.lt_succ_self _) 1 _)) ?_)
        (try simp (decide := true) only [go_sem])
        exact ⟨a', c', h4, (kb.set 0 _).set 1 _⟩
      case oR1_9 => intro f lo hi w hb hx hf hk hrg R hR; (try replace hb := BelX.zero hb); (try simp (decide := true) only [go_sem] at hf); (try simp (decide := true) only [go_sem] at hk); go_simp; exact hR _ _ (rpost_val rfl rfl (Below.refl _ _) rfl)
      case hcl =>
        refine ⟨Closed.true _ _ _ _, Closed.true _ _ _ _, Closed.true _ _ _ _, Closed.true _ _ _ _, ?cR1_4, Closed.true _ _ _ _, ?cR1_6, Closed.true _ _ _ _, ?cR1_8, Closed.true _ _ _ _, ?cR1_10, trivial⟩
        all_goals first
          | exact fun f lo hi v b0 b1 w w' h hs hB hown hU hX => by
              obtain ⟨a', c', h1, own, lt⟩ := h
              exact ⟨a', c', h1, own.keep fun b hb hl _ => hown b hl (lt b (by rw [hb]; rfl)), lt⟩
          | exact fun f lo hi v b0 b1 w w' h hs hB hown hU hX => by
              obtain ⟨a', c', h1, h2⟩ := h
              exact ⟨a', c', h1, (hX 0 _ rfl (by simp) _ (Nat.le_refl _) (Nat.lt_succ_self _)).trans h2⟩
          | exact fun f lo hi v b0 b1 w w' h hs hB hown hU hX => by
              obtain ⟨⟨rfl, rfl⟩, kb⟩ := h
              exact ⟨⟨rfl, rfl⟩, (hown _ (Nat.le_refl _) (Nat.lt_succ_self _)).trans kb⟩
          | exact fun _ _ _ _ _ _ _ _ h _ _ _ _ _ => h
      intro f lo hi W7 hbr hx hf hk hrg; (try replace hbr := BelX.zero hbr); clear hx; (try simp (decide := true) only [go_sem] at hf); (try simp (decide := true) only [go_sem] at hk)
      obtain ⟨⟨a', c', h4, own4, -⟩, a2, c2, h4', k8⟩ := hf
      obtain ⟨rfl, rfl⟩ : a' = a2 ∧ c' = c2 := by
        rw [h4] at h4'
        injection h4' with e1 _ e2
        exact ⟨e1, e2⟩
      have hr4 := hrg.out 4 (by simp)
      have hrg4 : W.heap.size ≤ lo 4 := hr4.1
      have bs := tk.bel.size
      have hDl : D < W.heap.size := (Array.getElem?_eq_some_iff.1 HD.out).1
      simp only [World.size_alloc] at hD
      have hout : ∀ q, q < W.heap.size → q ≠ w.heap.size + 1 + 1 → W7.heap[q]? = W.heap[q]? := fun q h1 h2 => hbr.2.2.2.2 q ⟨h1, fun r hr => by simp at hr; subst hr; simp only; omega⟩
      have hD7 : W7.heap[D]? = some (.deferred (some [])) := (hout D hDl (by omega)).trans HD.out
      have bel7 : RowKit.Below w.heap.size w W7 := ⟨hbr.1.trans tk.bel.os, hbr.2.1.trans tk.bel.tape, hbr.2.2.1.trans tk.bel.output, Nat.le_trans bs hbr.2.2.2.1, fun q hq => (hout q (by omega) (by omega)).trans (tk.bel.block q hq)⟩
      have own7 := tk.own.keep (w' := W7) fun q _ h1 h2 => hout q h2 (by omega)
      have pays7 : ∀ x ∈ its, Own W7 0 5 1 x.a x.pay.length x.c (x.pay.map encB) := fun x hx => (tk.pays x hx).keep fun q hq h1 h2 => hout q h2 (fun e => (tk.pays x hx).ne_blk tk.kR (by decide) (by rw [hq, ← e]; rfl))
      have hput := grownBy_putObj' W7 D (.deferred none)
      have hrow : ∀ r, some D = some r → ∃ o : Obj, W7.heap[r]? = some o ∧ o.isCells = false := fun r e => by cases e; exact ⟨_, hD7, rfl⟩
      have k9 := k8.turn hput hrow
      have y0 := k9.cell 0
      have y1 := k9.cell 1
      clear hout hrg hbr h4' hr4
      go_simp
      clear hk h4
      go_wp2
      rw [Exit.noGoto_ret]
      refine ⟨by simp, .inl ⟨_, _, rfl, run_takeDeferred hD7, ?_⟩⟩
      refine ⟨.tuple #[.agg #[.slice a' (l.length - S) c', .bool bg], .slice xa its.length xc], by simp [results, Try.results39, go_sem, y0, y1], ?_⟩
      refine ⟨tFold g0 pre, its, xa, xc, a', c', HST, by rw [HUS.out, HBG.out], HKK.out, (own7.turn hput hrow).mono (by omega), fun x hx => (pays7 x hx).turn hput hrow, by rw [HUS.out]; exact (own4.turn hput hrow).mono (by have := hrg4; omega), bel7.grown hput (by have := bel7.size; omega) (fun r e => by cases e; omega)⟩
    case stop =>
      rintro D cd pre W hD - ⟨rfl, ⟨hst, hch⟩, its, xa, xc, tk, hk⟩ hK
      obtain ⟨S, hS⟩ : ∃ S, sumSz pre = S := ⟨_, rfl⟩
      obtain ⟨bg, hbg⟩ : ∃ bg, (tFold g0 pre).garb = bg := ⟨_, rfl⟩
      have hle := hch.le
      have hus := tFold_used g0 pre
      rw [hS] at hle hus
      rw [hS, hbg] at tk
      have HST := Lib.hid hst
      have HUS := Lib.hid hus
      have HBG := Lib.hid hbg
      have HKK := Lib.hid hk
      have HD := Lib.hid hK
      have hbW := hb.below tk.bel (Nat.le_refl _)
      have hnil : a = none → l.length = 0 ∧ c = 0 := hnil0
      have hrest := byt_next hbW hcap hle hnil
      obtain ⟨rb, hrb⟩ : ∃ rb, (if c = S then a else Option.map (fun x => x.add S) a) = rb := ⟨_, rfl⟩
      rw [hrb] at hrest
      have rbb : l.drop S ≠ [] → ∀ k, rb.map (·.block) = some k → k < w.heap.size := fun hne k hk' => by
        have hne : l ≠ [] := fun e => hne (by rw [e]; simp)
        rw [← hrb] at hk'
        split at hk'
        · exact ha hne k hk'
        · cases ha' : a with
          | none => rw [ha'] at hk'; simp at hk'
          | some ad => rw [ha'] at hk'; exact ha hne k (by rw [ha']; simpa [add_block] using hk')
      have hld : (l.drop S).length = l.length - S := List.length_drop
      have HLD := Lib.hid hld
      have q0 : (0 : Int) ≤ (S : Int) := by omega
      have q1 : (S : Int) ≤ (l.length : Int) := by omega
      have nu := hN.u
      have ng := hN.g
      clear hS hbg hst hus hk hld hK
      refine wpIn_wide.2 ?_
      go_wp2
      apply wp_region_tab [((w.heap.size+1+1), (w.heap.size+1+1+1))] 10 45 [some 37, some 38, some 39, some 40, some 41, some 42, some 43, some 44, none, some 5] [⟨[10], [], [], []⟩, ⟨[0, 10], [0], [0], []⟩, ⟨[10], [], [], []⟩, ⟨[0, 1, 2, 10], [1, 2], [1, 2], []⟩, ⟨[0, 1, 2, 3, 10], [3], [3], []⟩, ⟨[10], [], [], []⟩, ⟨[0, 1, 2, 3, 4, 5, 10], [4, 5], [4, 5], []⟩, ⟨[10], [], [], []⟩, ⟨[0, 1, 2, 3, 4, 5, 6, 10], [4, 6, 10], [4, 6, 10], [10]⟩, ⟨[0, 1, 2, 3, 4, 5, 6, 7, 8, 10], [7], [7], []⟩, ⟨[], [], [], []⟩] [0, 1, 2, 3, 4, 5, 6, 7, 8, 9] [4, 8, 7, 9] [psiTrue, psiTrue, psiTrue, psiTrue, (fun f lo hi v b0 b1 W => ∃ a' c', v = .slice a' (l.length - S) c' ∧ Own W b0 5 1 a' (l.length - S) c' ((l.drop S).map encB) ∧ ∀ x, a'.map (·.block) = some x → x < b1), psiTrue, (fun f lo hi v b0 b1 W => v = .agg #[f 4, .bool bg]), psiTrue, (fun f lo hi v b0 b1 W => ∃ a' c', f 4 = .slice a' (l.length - S) c' ∧ Blk W (w.heap.size+1+1) 28 #[.slice a' (l.length - S) c', .bool bg]), psiTrue, (fun f lo hi v b0 b1 W => (b0 = (w.heap.size+1+1) ∧ b1 = (w.heap.size+1+1+1)) ∧ Blk W (w.heap.size+1+1) 28 #[.slice none 0 0, .bool false])] [kVal _, kVal _, kVal _, kVal _, kTrue, kVal _, kTrue, kVal _, kTrue, kVal _]
      · kernel_rfl
      · kernel_rfl
      · rfl
      · rfl
      rotate_left 2
      refine ⟨?oR2_0, ?oR2_1, ?oR2_2, ?oR2_3, ?oR2_4, ?oR2_5, ?oR2_6, ?oR2_7, ?oR2_8, ?oR2_9, trivial⟩
      case hx => exact ⟨⟨by omega, by have := tk.kR.lt; omega⟩, by simp, trivial⟩
      case hX => exact ⟨fun _ _ _ _ => ⟨⟨rfl, rfl⟩, tk.kR⟩, trivial⟩
      case oR2_0 => intro f lo hi w hb hx hf hk hrg R hR; (try replace hb := BelX.zero hb); (try simp (decide := true) only [go_sem] at hf); (try simp (decide := true) only [go_sem] at hk); go_simp; exact hR _ _ (rpost_val rfl rfl (Below.refl _ _) rfl)
      case oR2_1 =>
        intro f lo hi w hb hx hf hk hrg R hR; (try replace hb := BelX.zero hb); (try simp (decide := true) only [go_sem] at hf); (try simp (decide := true) only [go_sem] at hk)
        have e := (hb.blk tk.kS (by first | (simp; done) | (simp; omega))).cell 0
        go_simp
        exact hR _ _ (rpost_val rfl rfl (Below.refl _ _) rfl)
      case oR2_2 =>
        intro f lo hi w hb hx hf hk hrg R hR; (try replace hb := BelX.zero hb); (try simp (decide := true) only [go_sem] at hf); (try simp (decide := true) only [go_sem] at hk)
        have e := (hb.blk tk.kU (by first | (simp; done) | (simp; omega))).cell 0
        go_simp
        exact hR _ _ (rpost_val rfl rfl (Below.refl _ _) rfl)
      case oR2_3 => intro f lo hi w hb hx hf hk hrg R hR; (try replace hb := BelX.zero hb); (try simp (decide := true) only [go_sem] at hf); (try simp (decide := true) only [go_sem] at hk); go_simp; exact hR _ _ (rpost_val rfl rfl (Below.refl _ _) rfl)
      case oR2_4 =>
        intro f lo hi w hb hx hf hk hrg R hR; (try replace hb := BelX.zero hb); (try simp (decide := true) only [go_sem] at hf); (try simp (decide := true) only [go_sem] at hk)
        go_simp
        have bw : Byt w rb (l.drop S) := by
          by_cases hne : l.drop S = []
          · rw [hne]; exact Byt.nil _ _
          · exact hb.row (show Row _ _ _ from hrest.1) (fun b hb' r hr => by have := rbb hne b hb'; simp at hr; subst hr; simp only; omega)
        (with_reducible refine (clone_E rb (l.length - S) (c - S) (l.drop S) _ bw HLD.out.symm (by have := HLD.out; omega) hrest.2).mono ?_)
        rintro e w' ⟨a', c', rfl, own', hb'⟩
        exact ⟨_, rfl, hR _ _ (rpost_none rfl hb' ⟨a', c', rfl, own', own'.lt'⟩)⟩
      case oR2_5 =>
        intro f lo hi w hb hx hf hk hrg R hR; (try replace hb := BelX.zero hb); (try simp (decide := true) only [go_sem] at hf); (try simp (decide := true) only [go_sem] at hk)
        have e := (hb.blk tk.kG (by first | (simp; done) | (simp; omega))).cell 0
        go_simp
        exact hR _ _ (rpost_val rfl rfl (Below.refl _ _) rfl)
      case oR2_6 =>
        intro f lo hi w hb hx hf hk hrg R hR; (try replace hb := BelX.zero hb); (try simp (decide := true) only [go_sem] at hf); (try simp (decide := true) only [go_sem] at hk)
        obtain ⟨a', c', h4, -⟩ := hf
        go_simp
        refine hR _ _ (rpost_none rfl (Below.refl _ _) ?_)
        (try simp (decide := true) only [go_sem])
        rw [h4]
      case oR2_7 =>
        intro f lo hi w hb hx hf hk hrg R hR; (try replace hb := BelX.zero hb); (try simp (decide := true) only [go_sem] at hf); (try simp (decide := true) only [go_sem] at hk)
        have e := (hb.blk tk.kI (by first | (simp; done) | (simp; omega))).cell 0
        go_simp
        exact hR _ _ (rpost_val rfl rfl (Below.refl _ _) rfl)
      case oR2_8 =>
        intro f lo hi w hb hx hf hk hrg R hR; (try replace hb := BelX.zero hb); (try simp (decide := true) only [go_sem] at hf); (try simp (decide := true) only [go_sem] at hk)
        obtain ⟨⟨a', c', h4, own4, lt4⟩, h6, -, kb⟩ := hf
        rw [h4] at h6
        have e0 := kb.cell 0
        have e1 := kb.cell 1
        have fz := kb.frozen
        have p1 : lo 10 = _ := (XOk.get _ _ hx 0 _ rfl).1
        have p2 : hi 10 = _ := (XOk.get _ _ hx 0 _ rfl).2
        go_simp
        refine hR _ _ (rpost_some rfl rfl ((Touch.set w (List.mem_singleton.2 rfl) (Nat.le_of_eq p1) (by rw [p2]; exact Nat.lt_succ_self _) 0 _).trans (Touch.set _ (List.mem_singleton.2 rfl) (Nat.le_of_eq p1) (by rw [p2]; exact Nat.lt_succ_self _) 1 _)) ?_)
        (try simp (decide := true) only [go_sem])
        exact ⟨a', c', h4, (kb.set 0 _).set 1 _⟩
      case oR2_9 => intro f lo hi w hb hx hf hk hrg R hR; (try replace hb := BelX.zero hb); (try simp (decide := true) only [go_sem] at hf); (try simp (decide := true) only [go_sem] at hk); go_simp; exact hR _ _ (rpost_val rfl rfl (Below.refl _ _) rfl)
      case hcl =>
        refine ⟨Closed.true _ _ _ _, Closed.true _ _ _ _, Closed.true _ _ _ _, Closed.true _ _ _ _, ?cR2_4, Closed.true _ _ _ _, ?cR2_6, Closed.true _ _ _ _, ?cR2_8, Closed.true _ _ _ _, ?cR2_10, trivial⟩
        all_goals first
          | exact fun f lo hi v b0 b1 w w' h hs hB hown hU hX => by
              obtain ⟨a', c', h1, own, lt⟩ := h
              exact ⟨a', c', h1, own.keep fun b hb hl _ => hown b hl (lt b (by rw [hb]; rfl)), lt⟩
          | exact fun f lo hi v b0 b1 w w' h hs hB hown hU hX => by
              obtain ⟨a', c', h1, h2⟩ := h
              exact ⟨a', c', h1, (hX 0 _ rfl (by simp) _ (Nat.le_refl _) (Nat.lt_succ_self _)).trans h2⟩
          | exact fun f lo hi v b0 b1 w w' h hs hB hown hU hX => by
              obtain ⟨⟨rfl, rfl⟩, kb⟩ := h
              exact ⟨⟨rfl, rfl⟩, (hown _ (Nat.le_refl _) (Nat.lt_succ_self _)).trans kb⟩
          | exact fun _ _ _ _ _ _ _ _ h _ _ _ _ _ => h
      intro f lo hi W7 hbr hx hf hk hrg; (try replace hbr := BelX.zero hbr); clear hx; (try simp (decide := true) only [go_sem] at hf); (try simp (decide := true) only [go_sem] at hk)
      obtain ⟨⟨a', c', h4, own4, -⟩, a2, c2, h4', k8⟩ := hf
      obtain ⟨rfl, rfl⟩ : a' = a2 ∧ c' = c2 := by
        rw [h4] at h4'
        injection h4' with e1 _ e2
        exact ⟨e1, e2⟩
      have hr4 := hrg.out 4 (by simp)
      have hrg4 : W.heap.size ≤ lo 4 := hr4.1
      have bs := tk.bel.size
      have hDl : D < W.heap.size := (Array.getElem?_eq_some_iff.1 HD.out).1
      simp only [World.size_alloc] at hD
      have hout : ∀ q, q < W.heap.size → q ≠ w.heap.size + 1 + 1 → W7.heap[q]? = W.heap[q]? := fun q h1 h2 => hbr.2.2.2.2 q ⟨h1, fun r hr => by simp at hr; subst hr; simp only; omega⟩
      have hD7 : W7.heap[D]? = some (.deferred (some [])) := (hout D hDl (by omega)).trans HD.out
      have bel7 : RowKit.Below w.heap.size w W7 := ⟨hbr.1.trans tk.bel.os, hbr.2.1.trans tk.bel.tape, hbr.2.2.1.trans tk.bel.output, Nat.le_trans bs hbr.2.2.2.1, fun q hq => (hout q (by omega) (by omega)).trans (tk.bel.block q hq)⟩
      have own7 := tk.own.keep (w' := W7) fun q _ h1 h2 => hout q h2 (by omega)
      have pays7 : ∀ x ∈ its, Own W7 0 5 1 x.a x.pay.length x.c (x.pay.map encB) := fun x hx => (tk.pays x hx).keep fun q hq h1 h2 => hout q h2 (fun e => (tk.pays x hx).ne_blk tk.kR (by decide) (by rw [hq, ← e]; rfl))
      have hput := grownBy_putObj' W7 D (.deferred none)
      have hrow : ∀ r, some D = some r → ∃ o : Obj, W7.heap[r]? = some o ∧ o.isCells = false := fun r e => by cases e; exact ⟨_, hD7, rfl⟩
      have k9 := k8.turn hput hrow
      have y0 := k9.cell 0
      have y1 := k9.cell 1
      clear hout hrg hbr h4' hr4
      go_simp
      clear hk h4
      go_wp2
      rw [Exit.noGoto_ret]
      refine ⟨by simp, .inl ⟨_, _, rfl, run_takeDeferred hD7, ?_⟩⟩
      refine ⟨.tuple #[.agg #[.slice a' (l.length - S) c', .bool bg], .slice xa its.length xc], by simp [results, Try.results39, go_sem, y0, y1], ?_⟩
      refine ⟨tFold g0 pre, its, xa, xc, a', c', HST, by rw [HUS.out, HBG.out], HKK.out, (own7.turn hput hrow).mono (by omega), fun x hx => (pays7 x hx).turn hput hrow, by rw [HUS.out]; exact (own4.turn hput hrow).mono (by have := hrg4; omega), bel7.grown hput (by have := bel7.size; omega) (fun r e => by cases e; omega)⟩
end Go.Proofs.Ytlfccoakodnbaaa
