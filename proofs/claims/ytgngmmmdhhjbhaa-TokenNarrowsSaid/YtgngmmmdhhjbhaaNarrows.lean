/- signalbrokerlaw14.TokenNarrows -/
import Derived.Test.YtgngmmmdhhjbhaaTkExp
import Derived.Test.YtgngmmmdhhjbhaaKills
import Derived.Deep.CutBlock
namespace Go.Proofs.Ytgngmmmdhhjbhaa
set_option linter.unusedVariables false
open Go.RowKit Go.Sort
set_option maxRecDepth 100000

theorem mk_Few (a : Option Addr) (n cap : Nat) (w : World) (hn : n ≤ 9223372036854775807) :
    Calls Try.prog 25 #[.slice a n cap] w fun e w' => e = .returned (.bool (decide (n ≤ 300))) ∧ w = w' := by
  go_enter Try.func25, Try.ntmps25
  go_wp2
  go_ret
  exact ⟨ret_bool (by first | rfl | (rw [Bool.eq_iff_iff]; simp; done) | (rw [Bool.eq_iff_iff]; simp; omega)), rfl⟩
set_option maxHeartbeats 1000000 in
theorem deck_Left {lf : Bool} (p : Nat) (w : World) (d : Dk) (k : Nat) (hd : DeckAt w p d k) (hl : Hid (decide (k < d.l.length) = lf)) :
    Calls Try.prog 27 #[.pointer (some ⟨p, 0, none⟩)] w fun e w' => e = .returned (.bool lf) ∧ Below w.heap.size w w' := by
  obtain ⟨a, c, l⟩ := d
  obtain ⟨hblk, hi, hlen, hk, hap⟩ := hd
  simp only at hblk hi hlen hk hap
  have c0 : w.cell? ⟨p, 0, none⟩ = some (.slice a l.length c) := hblk.cell 0
  have c1 : w.cell? ⟨p, 1, none⟩ = some (.int .i64 k) := hblk.cell 1
  go_enter Try.func27, Try.ntmps27
  go_wp2
  go_quiet (fail)
  go_wp2
  go_ret
  exact ⟨ret_bool hl.out, (by repeat (first | (with_reducible refine Below.setCell ?_ ?_ _) | (with_reducible refine Below.alloc ?_ ?_ _) | (with_reducible refine Below.drew ?_) | (with_reducible refine below_drewN ?_ _) | (with_reducible exact Below.refl _ _) | (focus (simp; done)) | (focus (simp; omega)) | (focus omega)))⟩
theorem within_trans {a b c : Int} (h1 : rWithin a b = true) (h2 : rWithin b c = true) : rWithin a c = true := by
  have key : ∀ x y : Nat, x < 64 → y < 64 → rWithin (x : Int) (y : Int) = decide (x &&& y = x) := fun x y hx hy => by
    have hh : ∀ x : Fin 64, ∀ y : Fin 64, rWithin (x.val : Int) (y.val : Int) = decide (x.val &&& y.val = x.val) := by decide +kernel
    exact hh ⟨x, hx⟩ ⟨y, hy⟩
  have b1 : 0 ≤ a ∧ a ≤ 63 ∧ 0 ≤ b ∧ b ≤ 63 := by
    simp only [rWithin, Bool.and_eq_true] at h1
    have p := rV_iff.1 h1.1.1
    have q := rV_iff.1 h1.1.2
    omega
  have b2 : 0 ≤ c ∧ c ≤ 63 := by
    simp only [rWithin, Bool.and_eq_true] at h2
    exact rV_iff.1 h2.1.2
  obtain ⟨x, rfl⟩ : ∃ x : Nat, a = x := ⟨a.toNat, by omega⟩
  obtain ⟨y, rfl⟩ : ∃ x : Nat, b = x := ⟨b.toNat, by omega⟩
  obtain ⟨z, rfl⟩ : ∃ x : Nat, c = x := ⟨c.toNat, by omega⟩
  rw [key x y (by omega) (by omega)] at h1
  rw [key y z (by omega) (by omega)] at h2
  rw [key x z (by omega) (by omega)]
  simp only [decide_eq_true_eq] at h1 h2 ⊢
  rw [← h1, Nat.and_assoc, h2]
/-- a token's rights, class and end lie within another's -/
def leK (t p : TkK) : Prop := rWithin t.rt p.rt = true ∧ t.cl ≤ p.cl ∧ latB t.un p.un = false
theorem leK_up {t p : TkK} (h : upK t p = true) : leK t p := by
  simp only [upK, Bool.and_eq_true, decide_eq_true_eq] at h
  exact ⟨h.1, h.2.1, by simpa using h.2.2⟩
theorem latB_iff {a b : Int} : latB a b = false ↔ b = 0 ∨ (a ≠ 0 ∧ a ≤ b) := by
  unfold latB
  by_cases hb : b = 0
  · simp [hb]
  · by_cases ha : a = 0
    · simp [hb, ha]
    · simp [hb, ha]
theorem leK.trans {t p q : TkK} (h1 : leK t p) (h2 : leK p q) : leK t q := by
  refine ⟨within_trans h1.1 h2.1, Int.le_trans h1.2.1 h2.2.1, ?_⟩
  have a1 := latB_iff.1 h1.2.2
  have a2 := latB_iff.1 h2.2.2
  rw [latB_iff]
  omega
/-- the parent of a used slot that is not the root: used, and it bounds the slot -/
theorem val_leK {k : List TkK} (h : valK k = true) {s : Int} (hu : tU k s = true) : tP k s < 0 ∨ (tU k (tP k s) = true ∧ leK (gK k s) (gK k (tP k s))) := by
  rcases val_par h hu with ⟨-, hp⟩ | ⟨h0, hp⟩
  · exact .inl (by omega)
  · obtain ⟨i, rfl, hi⟩ := tU_nat hu
    refine .inr ⟨hp, ?_⟩
    have hus : k[i].us = true := by rw [← tU_get hi]; exact hu
    have h3 := (val_used h hi hus).2.2.resolve_left (by omega)
    rw [gK_get hi, tP_get hi]
    exact leK_up h3
/-- what the law's loop keeps -/
structure NarM (w W : World) (d : Dk) (kd : Nat) (l : List Tk) (xa : Option Addr) (xc : Nat) : Prop where
  n : l.length = 8
  v : valK (l.map Tk.key) = true
  il : TkL W (w.heap.size + 1) l xa xc
  dk : DeckAt W w.heap.size d kd
  be : Below w.heap.size w W
section
variable {w W W' : World} {d : Dk} {kd : Nat} {l : List Tk} {xa : Option Addr} {xc : Nat}
theorem NarM.below (h : NarM w W d kd l xa xc) (hb : Below W.heap.size W W') : NarM w W' d kd l xa xc :=
  ⟨h.n, h.v, h.il.below hb, h.dk.below hb, h.be.trans (hb.mono h.be.size)⟩
theorem NarM.draw (h : NarM w W d kd l xa xc) {k' : Nat} (g : W.grownBy W' (some w.heap.size)) (hd : DeckAt W' w.heap.size d k') : NarM w W' d k' l xa xc :=
  ⟨h.n, h.v, h.il.grown g (Nat.lt_succ_self _), hd, h.be.grown g h.be.size fun k e => by injection e with e; omega⟩
theorem NarM.g (h : NarM w W d kd l xa xc) : TkG W xa l xc := h.il.g (Lib.hid h.v)
theorem NarM.new (h : NarM w W d kd l xa xc) (hb : Below W.heap.size W W') {l' : List Tk} {ya : Option Addr} {yc : Nat} (hn : l'.length = 8) (hv : valK (l'.map Tk.key) = true) (il : TkL W' W.heap.size l' ya yc) : NarM w W' d kd l' ya yc :=
  ⟨hn, hv, il.mono (by have := h.dk.lt; omega), h.dk.below hb, h.be.trans (hb.mono h.be.size)⟩
end
theorem dPos_le (l : List Int) (k : Nat) : k ≤ dPos l k := by unfold dPos; split <;> omega
set_option maxHeartbeats 8000000 in
theorem tokenNarrows_walk (a0 : Option Addr) (c0 : Nat) (l0 : List Int) (w : World) (h0 : Ints w a0 l0) (n0 : l0.length ≤ 9223372036854775807) :
    Calls Try.prog 4 #[.slice a0 l0.length c0] w fun e w' => e = .returned (.bool true) ∧ RowKit.Below w.heap.size w w' := by
  by_cases h300 : l0.length ≤ 300
  case neg =>
    have d300 : decide (l0.length ≤ 300) = false := decide_eq_false h300
    go_enter Try.func4, Try.ntmps4
    go_wp2_with (first | (go_at_call 25; (with_reducible refine (mk_Few _ _ _ _ n0).mono ?_); rintro e w' ⟨rfl, rfl⟩) | (go_at_call 11; (with_reducible refine (law_awake _).mono ?_); rintro e w1 ⟨rfl, hb1⟩))
    go_ret
    exact ⟨rfl, hb1⟩
  have d300 : decide (l0.length ≤ 300) = true := decide_eq_true h300
  have HR63 : ∀ r : Int, r = 63 ∨ r = 47 ∨ r = 7 → rV r = true := fun r h => by rcases h with rfl | rfl | rfl <;> decide
  have HRV := Lib.hid HR63
  have HS8 : Hid (8 = (secX 1000).length) := Lib.hid rfl
  clear HR63
  go_enter Try.func4, Try.ntmps4
  go_upto_region 4 with (first | (go_at_call 25; (with_reducible refine (mk_Few _ _ _ _ n0).mono ?_); rintro e w' ⟨rfl, rfl⟩) | (go_at_call 12; (with_reducible refine (mk_New a0 c0 l0 _ h0 n0).mono ?_); rintro e w1 ⟨rfl, hd1, hb1⟩))
  go_upto_region 5 with (first | (go_at_call 14; (with_reducible refine (law_agency 0 _).mono ?_); rintro e w2 ⟨sa, sc, rt, cl, rfl, hrt, cl0, cl1, own2, hb2⟩; ((have hd2 := hd1.below hb2); (have hrv := HRV.out rt hrt); (have n2 := Lib.hid own2.none_len))) | (go_at_call 26; (with_reducible refine (token_New sa (secX 1000) 8 sc rt cl none 0 0 0 0 0 0 _ own2.byt HS8.out (by decide) n2.out).mono ?_); rintro e w3 ⟨xa, xc, l, rfl, hk3, hn3, il3, hb3⟩))
  have M3 : NarM w w3 ⟨a0, c0, l0⟩ 0 l xa xc := ⟨hn3.out.symm, by rw [hk3.out]; exact new_val (secX_len 1000) hrv cl0 cl1, il3.mono (by have := hb1.size; have := hb2.size; have := hd1.lt; omega), hd2.below hb3, (by repeat (first | (with_reducible refine Below.setCell ?_ ?_ _) | (with_reducible refine Below.alloc ?_ ?_ _) | (with_reducible refine Below.drew ?_) | (with_reducible refine below_drewN ?_ _) | (with_reducible exact Below.refl _ _) | (with_reducible refine Below.trans ?_ (Below.mono hb3 ?_)) | (with_reducible refine Below.trans ?_ (Below.mono hb2 ?_)) | (with_reducible refine Below.trans ?_ (Below.mono hb1 ?_)) | (focus (simp; done)) | (focus (simp; omega)) | (focus omega) | (focus (have q0 := Below.size hb3; (try simp at q0); have q1 := Below.size hb2; (try simp at q1); have q2 := Below.size hb1; (try simp at q2); (try simp); omega))))⟩
  clear hb1 hb2 hb3 hd1 hd2 hrt hrv cl0 cl1 own2 n2 il3 hk3 hn3 HRV HS8 h0 d300
  go_wp2_with fail
  go_loopw [4, 5] (fun s4 s5 wr => ∃ (kd : Nat) (now : Int) (l : List Tk) (xa : Option Addr) (xc : Nat), s4 = .slice xa 8 xc ∧ s5 = .int .i64 now ∧ 0 ≤ now ∧ now ≤ 2 * kd ∧ kd ≤ l0.length ∧ NarM w wr ⟨a0, c0, l0⟩ kd l xa xc) (fun _ _ wr => l0.length - (intOf ((wr.cell? ⟨w.heap.size, 1, none⟩).getD undef)).toNat)
  case atStart => exact ⟨0, 0, l, xa, xc, rfl, rfl, by omega, by omega, by omega, M3⟩
  case round =>
    clear M3
    obtain ⟨kd, now, l, xa, xc, rfl, rfl, hn0, hn1, hkd, M⟩ := hrel
    have HME : Hid (w.heap.size < wr.heap.size ∧ l0.length - (intOf ((wr.cell? ⟨w.heap.size, 1, none⟩).getD undef)).toNat = l0.length - kd) := Lib.hid ⟨M.dk.lt, by
      have := M.dk.1.cell 1
      rw [this]
      simp [intOf]⟩
    by_cases hleft : kd < l0.length
    · have HLF : Hid (decide (kd < (Dk.mk a0 c0 l0).l.length) = true) := Lib.hid (decide_eq_true hleft)
      have HPOS : Hid (dPos l0 kd = kd + 1) := Lib.hid (by unfold dPos; rw [if_pos hleft])
      go_upto_region 7 with ((go_at_call 27; (with_reducible refine (deck_Left _ _ _ kd M.dk HLF).mono ?_); rintro e w4 ⟨rfl, hb4⟩; (have M4 := M.below hb4)))
      clear M hb4
      go_upto_region 8 with ((go_at_call 28; (with_reducible refine (deck_Next w.heap.size 3 _ ⟨a0, c0, l0⟩ _ M4.dk (by decide) (by decide)).mono ?_); rintro e w5 ⟨v5, rfl, p5, q5, -, hd5, gg5⟩; (have M5 := M4.draw gg5 hd5)))
      rw [show dPos (Dk.mk a0 c0 l0).l kd = kd + 1 from HPOS.out] at M5
      clear M4 hd5 gg5
      go_upto_block 2 with ((go_at_call 28; (with_reducible refine (deck_Next w.heap.size 6 _ ⟨a0, c0, l0⟩ _ M5.dk (by decide) (by decide)).mono ?_); rintro e w6 ⟨v6, rfl, p6, q6, -, hd6, gg6⟩; (have M6 := M5.draw gg6 hd6)))
      obtain ⟨K6, hK6⟩ : ∃ K, dPos (Dk.mk a0 c0 l0).l (kd + 1) = K := ⟨_, rfl⟩
      have hK6a : kd + 1 ≤ K6 := by rw [← hK6]; exact dPos_le _ _
      rw [hK6] at M6
      clear M5 hd6 gg6 hK6
      have hnw : now + v5 ≤ 2 * ((kd + 1 : Nat) : Int) := by omega
      obtain ⟨nw, hnwe⟩ : ∃ nw, now + v5 = nw := ⟨_, rfl⟩
      have nw0 : 0 ≤ nw := by omega
      rw [hnwe] at hnw ⊢
      have nw1 : nw ≤ 1000 := by omega
      clear hnwe hn0 hn1 p5 q5
      go_cut [4] (fun s4 wx => ∃ (kx : Nat) (l : List Tk) (xa : Option Addr) (xc : Nat), s4 = .slice xa 8 xc ∧ kd + 1 ≤ kx ∧ NarM w wx ⟨a0, c0, l0⟩ kx l xa xc)
      case first =>
        have h8 : Hid (8 = l.length) := Lib.hid M6.n.symm
        by_cases h0 : v6 = 0
        · subst h0
          go_wp2_with (first | (go_at_call 28; (with_reducible refine (deck_Next w.heap.size 8 _ ⟨a0, c0, l0⟩ _ M6.dk (by decide) (by decide)).mono ?_); rintro e w7 ⟨v7, rfl, p7, q7, -, hd7, gg7⟩; ((have M7 := M6.draw gg7 hd7); (have G7 := M7.g))) | (go_at_call 21; (with_reducible refine (token_Revoke xa l 8 xc _ _ G7 h8.out).mono ?_); rintro e w8 ⟨ya, m, yc, l2, er, rfl, hm, hm2, il2, hb8⟩; ((have M8 := M7.below hb8); by_cases her : er = 0)))
          · subst her
            have hv2 := (rev_val hm.out rfl).2.1
            have hl2 : l2.length = 8 := by have := (valK_iff.1 hv2).1; rw [List.length_map] at this; exact this
            have M9 := M7.new hb8 hl2 hv2 il2
            obtain rfl : m = 8 := by rw [hm2.out]; exact hl2
            go_wp2_with fail
            go_meet
            exact ⟨_, l2, ya, yc, rfl, Nat.le_trans hK6a (dPos_le _ _), M9⟩
          · have zer : (er == 0) = false := by rw [beq_eq_false_iff_ne]; exact her
            go_wp2_with fail
            go_meet
            exact ⟨_, l, xa, xc, rfl, Nat.le_trans hK6a (dPos_le _ _), M8⟩
        · have z0 : (v6 == 0) = false := by rw [beq_eq_false_iff_ne]; exact h0
          by_cases h1 : v6 = 1
          · subst h1
            have G6 := M6.g
            have hl8 : l.length = 8 := M6.n
            have HV := Lib.hid M6.v
            go_wp2_with ((go_at_call 23; (with_reducible refine (token_Expire xa l 8 xc nw _ G6 h8.out hl8).mono ?_); rintro e w7 ⟨ya, yc, l2, rfl, hk2, hn2, il2, hb7⟩))
            have M7 := M6.new hb7 hn2.out.symm (by rw [hk2.out]; exact exp_val nw HV.out) il2
            go_meet
            exact ⟨_, l2, ya, yc, rfl, hK6a, M7⟩
          · have z1 : (v6 == 1) = false := by rw [beq_eq_false_iff_ne]; exact h1
            go_wp2_with (first | (go_at_call 28; (with_reducible refine (deck_Next w.heap.size 5 _ ⟨a0, c0, l0⟩ _ M6.dk (by decide) (by decide)).mono ?_); rintro e w7 ⟨v7, rfl, p7, q7, -, hd7, gg7⟩; (have M7 := M6.draw gg7 hd7)) | (go_at_call 28; (with_reducible refine (deck_Next w.heap.size 64 _ ⟨a0, c0, l0⟩ _ M7.dk (by decide) (by decide)).mono ?_); rintro e w8 ⟨v8, rfl, p8, q8, -, hd8, gg8⟩; (have M8 := M7.draw gg8 hd8)) | (go_at_call 28; (with_reducible refine (deck_Next w.heap.size 4 _ ⟨a0, c0, l0⟩ _ M8.dk (by decide) (by decide)).mono ?_); rintro e w9 ⟨v9, rfl, p9, q9, -, hd9, gg9⟩; (have M9 := M8.draw gg9 hd9)) | (go_at_call 28; (with_reducible refine (deck_Next w.heap.size 12 _ ⟨a0, c0, l0⟩ _ M9.dk (by decide) (by decide)).mono ?_); rintro e w10 ⟨v10, rfl, p10, q10, -, hd10, gg10⟩; (have M10 := M9.draw gg10 hd10)) | (go_at_call 28; (with_reducible refine (deck_Next w.heap.size 99 _ ⟨a0, c0, l0⟩ _ M10.dk (by decide) (by decide)).mono ?_); rintro e w11 ⟨v11, rfl, p11, q11, -, hd11, gg11⟩; (have M11 := M10.draw gg11 hd11)) | (go_at_call 16; (with_reducible refine (mk_Secret _ _).mono ?_); rintro e w12 ⟨sb, sd, rfl, own12, hb12⟩; ((have n12 := Lib.hid own12.none_len); (have hs12 := Lib.hid (secX_len v11).symm); (have M12 := M11.below hb12); (have G12 := M12.g))) | (go_at_call 18; (with_reducible refine (token_Derive xa l 8 xc v7 v8 v9 v10 sb (secX v11) 8 sd nw _ G12 h8.out own12.byt hs12.out (by decide) n12.out).mono ?_); rintro e w13 ⟨ya, m, yc, l2, sl, er, rfl, hm, hm2, il2, hb13⟩; ((have M13 := M12.below hb13); by_cases her : er = 0)))
            · subst her
              have hv2 := (der_val hm.out rfl).2.1
              have hl2 : l2.length = 8 := by have := (valK_iff.1 hv2).1; rw [List.length_map] at this; exact this
              have M14 := M12.new hb13 hl2 hv2 il2
              obtain rfl : m = 8 := by rw [hm2.out]; exact hl2
              go_wp2_with fail
              go_meet
              exact ⟨_, l2, ya, yc, rfl, Nat.le_trans hK6a (Nat.le_trans (dPos_le _ _) (Nat.le_trans (dPos_le _ _) (Nat.le_trans (dPos_le _ _) (Nat.le_trans (dPos_le _ _) (dPos_le _ _))))), M14⟩
            · have zer : (er == 0) = false := by rw [beq_eq_false_iff_ne]; exact her
              go_wp2_with fail
              go_meet
              exact ⟨_, l, xa, xc, rfl, Nat.le_trans hK6a (Nat.le_trans (dPos_le _ _) (Nat.le_trans (dPos_le _ _) (Nat.le_trans (dPos_le _ _) (Nat.le_trans (dPos_le _ _) (dPos_le _ _))))), M13⟩
      case rest =>
        clear M6
        obtain ⟨kx, l, xa, xc, rfl, hkx, M⟩ := hcut
        have h8 : Hid (8 = l.length) := Lib.hid M.n.symm
        have HV : Hid (valK (l.map Tk.key) = true) := Lib.hid M.v
        have T0 := M.il.tks
        go_upto_region 20 with ((go_at_call 29; (with_reducible refine (token_ValidE HV xa 8 xc _ T0 h8.out).mono ?_); rintro e w7 ⟨rfl, hb7⟩))
        have M7 := M.below hb7
        clear M hb7 T0
        go_wp2_with fail
        go_loopw [80] (fun s80 wr => ∃ i : Nat, s80 = .int .i64 i ∧ i ≤ 8 ∧ NarM w wr ⟨a0, c0, l0⟩ kx l xa xc) (fun s _ => 8 - (intOf s).toNat)
        case atStart => exact ⟨0, rfl, by omega, M7⟩
        case round =>
          clear M7
          obtain ⟨i, rfl, hi, M⟩ := hrel
          by_cases hlt : i < 8
          · have i8 : (i : Int) < 8 := by omega
            have hil : i < l.length := by rw [← h8.out]; exact hlt
            have ht := M.il.tks
            obtain ⟨ba, oa, rfl⟩ := ht.open (by omega)
            obtain ⟨x0, x1, x2, x3, x4, x5, xl⟩ := row_tok ht.row i hil
            have HU := Lib.hid (tU_at hil)
            have HG := Lib.hid (gK_at hil)
            have HP := Lib.hid (tP_at hil)
            obtain ⟨x, hx⟩ : ∃ x, l[i] = x := ⟨_, rfl⟩
            rw [hx] at x0 x1 x2 x3 x4 x5 HU HG HP
            clear hx
            obtain ⟨us, sec, par, rt, cl', un, la, lc⟩ := x
            simp only at x0 x1 x2 x3 x4 x5 HU HP
            go_upto_region 23 with fail
            obtain ⟨X, hX⟩ : ∃ X, wr.heap.size = X := ⟨_, rfl⟩
            refine wp_named (fun Y => Blk Y X 52 #[.bool us, .slice la sec.length lc, .int .i64 par, .int .i64 rt, .int .i64 cl', .int .i64 un] ∧ NarM w Y ⟨a0, c0, l0⟩ kx l (some ⟨ba, oa, none⟩) xc) ⟨by rw [← hX]; exact Blk.new _ _ _, M.below (by repeat (first | (with_reducible refine Below.setCell ?_ ?_ _) | (with_reducible refine Below.alloc ?_ ?_ _) | (with_reducible refine Below.drew ?_) | (with_reducible refine below_drewN ?_ _) | (with_reducible exact Below.refl _ _) | (focus (simp; done)) | (focus (simp; omega)) | (focus omega)))⟩ ?_
            rw [hX]
            clear hX x0 x1 x2 x3 x4 x5 xl ht M
            rintro Y ⟨kX, M⟩
            obtain ⟨v0, v1, v2, v3, v4, v5', vf, vl⟩ := kX.six
            have HSTART : Hid (us = true → par < 0 ∨ (tU (l.map Tk.key) par = true ∧ leK ⟨us, sec, par, rt, cl', un⟩ (gK (l.map Tk.key) par))) := Lib.hid (fun h => by
              have := val_leK HV.out (s := (i : Int)) (by rw [HU.out, h])
              rw [HP.out, HG.out] at this
              exact this)
            go_wp2_with fail
            go_loopw [13, 14] (fun s13 s14 wz => ∃ (p : Int) (n : Nat), s13 = .int .i64 p ∧ s14 = .int .i64 n ∧ n ≤ 9 ∧ Hid (us = true → p < 0 ∨ (tU (l.map Tk.key) p = true ∧ leK ⟨us, sec, par, rt, cl', un⟩ (gK (l.map Tk.key) p))) ∧ Blk wz X 52 #[.bool us, .slice la sec.length lc, .int .i64 par, .int .i64 rt, .int .i64 cl', .int .i64 un] ∧ NarM w wz ⟨a0, c0, l0⟩ kx l (some ⟨ba, oa, none⟩) xc) (fun _ s _ => 9 - (intOf s).toNat)
            case atStart => exact ⟨par, 0, rfl, rfl, by omega, HSTART, kX, M⟩
            case round =>
              clear kX M v0 v1 v2 v3 v4 v5' vf vl
              obtain ⟨p, n, rfl, rfl, hn9, hP, kX, M⟩ := hrel
              obtain ⟨v0, v1, v2, v3, v4, v5', vf, vl⟩ := kX.six
              cases us with
              | false =>
                go_wp2_with fail
                go_roundw
                case rel => exact ⟨i + 1, by go_num, by omega, M⟩
                case measure => simp [intOf]; omega
              | true =>
                by_cases hp0 : p < 0
                · go_wp2_with fail
                  go_roundw
                  case rel => exact ⟨i + 1, by go_num, by omega, M⟩
                  case measure => simp [intOf]; omega
                · obtain ⟨hu, hle⟩ := (hP.out rfl).resolve_left hp0
                  obtain ⟨j, rfl, hj⟩ := tU_in hu
                  have j8 : (j : Int) < 8 := by rw [← h8.out] at hj; omega
                  by_cases hn : n < 9
                  · have hn9' : (n : Int) < 9 := by omega
                    have ht := M.il.tks
                    obtain ⟨y0, y1, y2, y3, y4, y5, yl⟩ := row_tok ht.row j hj
                    have huj : l[j].us = true := by rw [← tU_at hj]; exact hu
                    have HNEXT : Hid (l[j].par < 0 ∨ (tU (l.map Tk.key) l[j].par = true ∧ leK ⟨true, sec, par, rt, cl', un⟩ (gK (l.map Tk.key) l[j].par))) := Lib.hid (by
                      have := val_leK HV.out hu
                      rw [tP_at hj] at this
                      exact this.imp id fun h => ⟨h.1, hle.trans h.2⟩)
                    rw [gK_at hj] at hle
                    obtain ⟨x, hx⟩ : ∃ x, l[j] = x := ⟨_, rfl⟩
                    rw [hx] at y0 y1 y2 y3 y4 y5 huj HNEXT hle
                    clear hx
                    obtain ⟨us2, sec2, par2, rt2, cl2, un2, la2, lc2⟩ := x
                    simp only [Tk.key] at y0 y1 y2 y3 y4 y5 huj HNEXT hle
                    subst huj
                    obtain ⟨hw, hc, hun⟩ := hle
                    simp only at hw hc hun
                    have HW := Lib.hid hw
                    have hc2 : decide (cl2 < cl') = false := decide_eq_false (by omega)
                    have hc3 : ¬ cl2 < cl' := by omega
                    have hun2 := latB_iff.1 hun
                    clear hw hun hP HP HG HU hp0
                    go_upto_region 28 with fail
                    obtain ⟨V, hV⟩ : ∃ V, wr.heap.size = V := ⟨_, rfl⟩
                    refine wp_named (fun U => Blk U V 52 #[.bool true, .slice la2 sec2.length lc2, .int .i64 par2, .int .i64 rt2, .int .i64 cl2, .int .i64 un2] ∧ Blk U X 52 #[.bool true, .slice la sec.length lc, .int .i64 par, .int .i64 rt, .int .i64 cl', .int .i64 un] ∧ NarM w U ⟨a0, c0, l0⟩ kx l (some ⟨ba, oa, none⟩) xc) ⟨by rw [← hV]; exact Blk.new _ _ _, kX.alloc _, M.below (by repeat (first | (with_reducible refine Below.setCell ?_ ?_ _) | (with_reducible refine Below.alloc ?_ ?_ _) | (with_reducible refine Below.drew ?_) | (with_reducible refine below_drewN ?_ _) | (with_reducible exact Below.refl _ _) | (focus (simp; done)) | (focus (simp; omega)) | (focus omega)))⟩ ?_
                    rw [hV]
                    clear hV y0 y1 y2 y3 y4 y5 yl ht M kX v0 v1 v2 v3 v4 v5' vf vl
                    rintro U ⟨kV, kX, M⟩
                    obtain ⟨v0, v1, v2, v3, v4, v5', vf, vl⟩ := kX.six
                    obtain ⟨y0, y1, y2, y3, y4, y5, yf, yl⟩ := kV.six
                    by_cases hz : un2 = 0
                    · subst hz
                      go_wp2_with ((go_at_call 30; (with_reducible refine (ref13_WithinE HW _).mono ?_); rintro e wy ⟨rfl, rfl⟩))
                      go_roundw
                      case rel => exact ⟨par2, n + 1, rfl, by go_num, by omega, Lib.hid fun _ => HNEXT.out, kX, M⟩
                      case measure => simp [intOf]; omega
                    · obtain ⟨hu1, hu2⟩ := hun2.resolve_left hz
                      have hz2 : (un2 == 0) = false := by rw [beq_eq_false_iff_ne]; exact hz
                      have hz3 : (un2 != 0) = true := by rw [bne, hz2]; rfl
                      have hz4 : (un == 0) = false := by rw [beq_eq_false_iff_ne]; exact hu1
                      have hz5 : decide (un2 < un) = false := decide_eq_false (by omega)
                      have hz6 : ¬ un2 < un := by omega
                      go_wp2_with ((go_at_call 30; (with_reducible refine (ref13_WithinE HW _).mono ?_); rintro e wy ⟨rfl, rfl⟩))
                      go_roundw
                      case rel => exact ⟨par2, n + 1, rfl, by go_num, by omega, Lib.hid fun _ => HNEXT.out, kX, M⟩
                      case measure => simp [intOf]; omega
                  · obtain rfl : n = 9 := by omega
                    go_wp2_with fail
                    go_roundw
                    case rel => exact ⟨i + 1, by go_num, by omega, M⟩
                    case measure => simp [intOf]; omega
          · obtain rfl : i = 8 := by omega
            go_wp2_with fail
            go_roundw
            case rel => exact ⟨kx, nw, l, xa, xc, rfl, rfl, nw0, by omega, M.dk.2.2.2.1, M⟩
            case measure =>
              have h1 := HME.out.2
              have h2 := M.dk.1.cell 1
              have h3 := M.dk.2.2.2.1
              simp only at h3
              rw [h1, h2]
              simp [intOf]
              omega
    · have HLF : Hid (decide (kd < (Dk.mk a0 c0 l0).l.length) = false) := Lib.hid (decide_eq_false hleft)
      go_wp2_with (first | (go_at_call 27; (with_reducible refine (deck_Left _ _ _ kd M.dk HLF).mono ?_); rintro e w4 ⟨rfl, hb4⟩; (have M4 := M.below hb4)) | (go_at_call 11; (with_reducible refine (law_awake _).mono ?_); rintro e w5 ⟨rfl, hb5⟩))
      go_ret
      exact ⟨rfl, (M4.below hb5).be⟩
end Go.Proofs.Ytgngmmmdhhjbhaa
