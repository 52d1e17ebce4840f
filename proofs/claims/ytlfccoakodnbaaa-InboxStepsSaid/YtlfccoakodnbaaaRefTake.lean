/- the reference's Take and All -/
import Derived.Test.YtlfccoakodnbaaaStream
import Derived.Test.YtlfccoakodnbaaaRefParse
namespace Go.Proofs.Ytlfccoakodnbaaa
set_option linter.unusedVariables false
open Go.RowKit Go.Sort
set_option maxRecDepth 100000

theorem refparse_O {l : List UInt8} {rc rk : Int} {rp : List UInt8} {rn : Nat} {ro : Bool} (h : Hid (fParse l = ⟨rc, rk, rp, rn, ro⟩)) (a : Option Addr) (n c : Nat) (w : World) (hb : Byt w a l) (hn : n = l.length) (hl : l.length ≤ 9223372036854775807) (hc : l.length ≤ c) :
    Calls Try.prog 41 #[.slice a n c] w fun e w' => ∃ a' c', e = .returned (.tuple #[.agg #[.int .i64 rc, .int .i64 rk, .slice a' rp.length c'], .int .i64 rn, .bool ro]) ∧ Own w' w.heap.size 5 1 a' rp.length c' (rp.map encB) ∧ Below w.heap.size w w' := by
  subst hn
  have := ref03_Parse a l c w hb hl hc
  rw [h.out] at this
  exact this
theorem Blk.next (w : World) (o : Obj) (e : TypeId) (C : Array Value) : Blk ((w.alloc o).alloc (.cells C e)) (w.heap.size + 1) e C := by
  have h := Blk.new (w.alloc o) e C
  rwa [show (w.alloc o).heap.size = w.heap.size + 1 by simp] at h
/-- a list of items that the call makes -/
structure ItL (w W : World) (B : Nat) (its : List It) (xa : Option Addr) (xc : Nat) : Prop where
  own : Own W B 49 3 xa its.length xc (itCells its)
  pays : ∀ x ∈ its, Own W 0 5 1 x.a x.pay.length x.c (x.pay.map encB)
  be : Below w.heap.size w W
  sz : w.heap.size ≤ B ∧ B ≤ W.heap.size
section
variable {w W W' : World} {B : Nat} {its : List It} {xa : Option Addr} {xc : Nat}
theorem ItL.below (h : ItL w W B its xa xc) (hb : Below W.heap.size W W') : ItL w W' B its xa xc :=
  ⟨h.own.below hb (Nat.le_refl _), fun x hx => (h.pays x hx).below hb (Nat.le_refl _), h.be.trans (hb.mono h.be.size), h.sz.1, Nat.le_trans h.sz.2 hb.size⟩
theorem ItL.push (h : ItL w W B its xa xc) {x : It} {xb : Option Addr} {N xd : Nat} (hN : N = its.length + 1) (own : Own W' B 49 3 xb N xd (itCells its ++ x.cells)) (gr : Grew B W W' xa xb) (hp : Own W 0 5 1 x.a x.pay.length x.c (x.pay.map encB)) : ItL w W' B (its ++ [x]) xb xd := by
  subst hN
  have ob := h.own.base_le
  have pw : ∀ y ∈ its ++ [x], Own W 0 5 1 y.a y.pay.length y.c (y.pay.map encB) := fun y hy => by
    rcases List.mem_append.1 hy with hy | hy
    · exact h.pays y hy
    · rw [List.mem_singleton.1 hy]; exact hp
  refine ⟨by rw [itCells_append, List.length_append]; exact own, fun y hy => (pw y hy).grew gr (h.own.apart (pw y hy) (by decide)), h.be.grown gr.1 h.be.size (fun q hq => by have := ob q hq; have := h.sz.1; omega), h.sz.1, Nat.le_trans h.sz.2 gr.1.size⟩
end
/-- append of one item that has just been laid -/
theorem app1It {ops : Array Oper} {rest : List Oper} {o : Oper} {a : Act} {Q : Exit → Act → World → Prop} {w0 w : World} (hgd : o.guard = none) (s x : Operand) (ho : o.op = .call { callee := .builtin .append, args := #[s, x], argTypes := #[33, 33] })
    (B : Nat) (xa : Option Addr) (n xc : Nat) (its : List It) (hs : a.eval s = .slice xa n xc) (hn : n = its.length) (c k : Int) (p : List UInt8) (pa : Option Addr) (pn pc : Nat) (hpn : pn = p.length) (X : Nat) (hx : a.eval x = .slice (some ⟨X, 0, none⟩) 1 1) (hX : X = w.heap.size)
    (il : ItL w0 w B its xa xc) (hp : Own w 0 5 1 pa p.length pc (p.map encB)) (hbig : its.length ≤ 1000000000)
    (h : ∀ xb xd w', ItL w0 w' B (its ++ [⟨c, k, p, pa, pc⟩]) xb xd → Grew B (w.alloc (.cells #[.int .i64 c, .int .i64 k, .slice pa pn pc] 49)) w' xa xb → wpList Try.prog ops Q rest (a.put o.dst (.slice xb (n + 1) xd)) w') :
    wpList Try.prog ops Q (o :: rest) a (w.alloc (.cells #[.int .i64 c, .int .i64 k, .slice pa pn pc] 49)) := by
  subst hn hpn hX
  obtain ⟨i0, hi, hz0, hz1, hz2⟩ := info_parts info_item
  have il1 := il.below (show Below w.heap.size w (w.alloc (.cells #[.int .i64 c, .int .i64 k, .slice pa p.length pc] 49)) from (by repeat (first | (with_reducible refine Below.setCell ?_ ?_ _) | (with_reducible refine Below.alloc ?_ ?_ _) | (with_reducible refine Below.drew ?_) | (with_reducible refine below_drewN ?_ _) | (with_reducible exact Below.refl _ _) | (focus (simp; done)) | (focus (simp; omega)) | (focus omega))))
  have hrow : Row (w.alloc (.cells #[.int .i64 c, .int .i64 k, .slice pa p.length pc] 49)) (some ⟨w.heap.size, 0, none⟩) [.int .i64 c, .int .i64 k, .slice pa p.length pc] := by
    have := row_new w #[.int .i64 c, .int .i64 k, .slice pa p.length pc] 49 (0, 0)
    exact this
  refine wp_append_row _ hgd s x _ ho B _ i0 _ 3 40 Try.underlying33 hi hz0 hz1 hz2 rfl (by decide) xa its.length xc _ hs (some ⟨w.heap.size, 0, none⟩) 1 1 hx il1.own [.int .i64 c, .int .i64 k, .slice pa p.length pc] rfl hrow (by simp [Value.oneCell']) (by simp only [maxLen]; omega) (by omega) il1.sz.2 ?_
  intro xb xd w' own' gr
  exact h xb xd w' (il1.push (x := ⟨c, k, p, pa, pc⟩) rfl own' gr (hp.alloc _)) gr

theorem tStep_2g {u : Nat} {ks : List Key} {r : PR} (h : r.code = 2) : tStep ⟨u, true, ks⟩ r = ⟨u + r.size, true, ks⟩ := by unfold tStep; rw [if_pos h]; rfl
theorem tStep_2n {u : Nat} {ks : List Key} {r : PR} (h : r.code = 2) : tStep ⟨u, false, ks⟩ r = ⟨u + r.size, true, ks ++ [r.key]⟩ := by unfold tStep; rw [if_pos h]; rfl
theorem tStep_o {u : Nat} {g : Bool} {ks : List Key} {r : PR} {b : Bool} (h : r.code ≠ 2) (hb : decide (r.code = 7 ∨ r.code = 4) = b) : tStep ⟨u, g, ks⟩ r = ⟨u + r.size, b, ks ++ [r.key]⟩ := by unfold tStep; rw [if_neg h, hb]

theorem fParse_payT (l : List UInt8) : (fParse l).pay.length ≤ l.length := by
  unfold fParse
  repeat' split
  all_goals first | (show ([] : List UInt8).length ≤ _; simp; done) | (show ((l.drop 6).take (fLen l)).length ≤ _; rw [List.length_take, List.length_drop]; omega)
theorem take_fin {w w2 : World} {lim : Nat} {g0 : Bool} {l : List UInt8} {U : Nat} {G : Bool} {ks : List Key} {its : List It} {xa : Option Addr} {xc B : Nat} {b2 : Option Addr} {c2 : Nat} {v0 v1 u0 u1 : Value} (hst : Hid (tRun lim l ⟨0, g0, []⟩ = ⟨U, G, ks⟩)) (hk : its.map It.key = ks) (kR : Blk w2 (w.heap.size + 1) 28 #[v0, v1]) (il : ItL w w2 B its xa xc) (hB : w.heap.size + 2 ≤ B)
    (own : Own w2 B 5 1 b2 (l.length - U) c2 ((l.drop U).map encB)) :
    TakeR lim l g0 w (.returned (.tuple #[.agg #[.slice b2 (l.length - U) c2, .bool G], .slice xa its.length xc])) ((w2.setCell ⟨w.heap.size + 1, 0, none⟩ u0).setCell ⟨w.heap.size + 1, 1, none⟩ u1) := by
  have two : ∀ (base : Nat) (e : TypeId) (sz n cp : Nat) (x : Option Addr) (xs : List Value), Own w2 base e sz x n cp xs → (w.heap.size + 2 ≤ base ∨ e ≠ 28) → Own ((w2.setCell ⟨w.heap.size + 1, 0, none⟩ u0).setCell ⟨w.heap.size + 1, 1, none⟩ u1) base e sz x n cp xs := fun base e sz n cp x xs h hd => by
    have ne : ∀ i, x.map (·.block) ≠ some (⟨w.heap.size + 1, i, none⟩ : Addr).block := fun i e => by
      rcases hd with hd | hd
      · have := h.base_le _ e; simp only at this; omega
      · exact h.ne_blk kR hd e
    exact (h.far (ne 0) _).far (ne 1) _
  exact ⟨⟨U, G, ks⟩, its, xa, xc, b2, c2, hst, rfl, hk, (two _ _ _ _ _ _ _ il.own (.inl hB)).mono (by omega), fun x hx => two _ _ _ _ _ _ _ (il.pays x hx) (.inr (by decide)), (two _ _ _ _ _ _ _ own (.inl hB)).mono (by omega), (by repeat (first | (with_reducible refine Below.setCell ?_ ?_ _) | (with_reducible refine Below.alloc ?_ ?_ _) | (with_reducible refine Below.drew ?_) | (with_reducible refine below_drewN ?_ _) | (with_reducible exact Below.refl _ _) | (with_reducible refine Below.trans ?_ (Below.mono il.be ?_)) | (focus (simp; done)) | (focus (simp; omega)) | (focus omega) | (focus (have q0 := Below.size il.be; (try simp at q0); (try simp); omega))))⟩
set_option maxHeartbeats 4000000 in
theorem ref04_Take (a : Option Addr) (l : List UInt8) (n c : Nat) (g0 : Bool) (N : Int) (w : World) (hb : Byt w a l) (hn : n = l.length) (hcap : l.length ≤ c) (hl : l.length ≤ 1000000000) (hnil : a = none → l.length = 0 ∧ c = 0) (hN : N ≤ 1000000000) :
    Calls Try.prog 33 #[.agg #[.slice a n c, .bool g0], .int .i64 N] w (TakeR N.toNat l g0 w) := by
  subst hn
  obtain ⟨lim, hlim⟩ : ∃ lim, N.toNat = lim := ⟨_, rfl⟩
  rw [hlim]
  go_enter Try.func33, Try.ntmps33
  go_upto_region 2 with fail
  refine wp_named (fun W => Blk W w.heap.size 28 #[.slice a l.length c, .bool g0] ∧ Blk W (w.heap.size + 1) 28 #[.slice none 0 0, .bool false] ∧ w.heap.size + 2 ≤ W.heap.size ∧ RowKit.Below w.heap.size w W) ⟨(Blk.new _ _ _).alloc _, Blk.next _ _ _ _, by simp, (by repeat (first | (with_reducible refine Below.setCell ?_ ?_ _) | (with_reducible refine Below.alloc ?_ ?_ _) | (with_reducible refine Below.drew ?_) | (with_reducible refine below_drewN ?_ _) | (with_reducible exact Below.refl _ _) | (focus (simp; done)) | (focus (simp; omega)) | (focus omega)))⟩ ?_
  rintro W ⟨kS, kR, sz, be⟩
  have s0 := kS.cell 0
  have s1 := kS.cell 1
  have sl := kS.lt
  go_quiet (fail)
  go_wp2
  go_loopw [6, 7, 8] (fun s6 s7 s8 wr => ∃ (U : Nat) (G : Bool) (ks : List Key) (its : List It) (xa : Option Addr) (xc : Nat), s6 = .slice xa its.length xc ∧ s7 = .int .i64 U ∧ s8 = .bool G ∧ its.map It.key = ks ∧ ItL w wr W.heap.size its xa xc ∧ tRun lim l ⟨0, g0, []⟩ = tRun lim l ⟨U, G, ks⟩ ∧ U ≤ l.length ∧ its.length ≤ U ∧ Blk wr w.heap.size 28 #[.slice a l.length c, .bool g0] ∧ Blk wr (w.heap.size + 1) 28 #[.slice none 0 0, .bool false]) (fun _ u _ _ => l.length - (intOf u).toNat)
  case atStart => exact ⟨0, g0, [], [], none, 0, rfl, rfl, rfl, rfl, ⟨Own.nil _ _ _ _, by simp, (by repeat (first | (with_reducible refine Below.setCell ?_ ?_ _) | (with_reducible refine Below.alloc ?_ ?_ _) | (with_reducible refine Below.drew ?_) | (with_reducible refine below_drewN ?_ _) | (with_reducible exact Below.refl _ _) | (with_reducible refine Below.trans ?_ (Below.mono be ?_)) | (focus (simp; done)) | (focus (simp; omega)) | (focus omega) | (focus (have q0 := Below.size be; (try simp at q0); (try simp); omega)))), by have := be.size; exact ⟨by omega, by simp⟩⟩, rfl, by omega, by simp, kS.drewN _, kR.drewN _⟩
  case round =>
    obtain ⟨U, G, ks, its, xa, xc, rfl, rfl, rfl, hk, il, hst, hU, hlen, kSr, kRr⟩ := hrel
    have s0 := kSr.cell 0
    have sl := kSr.lt
    obtain ⟨bR, nR⟩ := byt_next (hb.below il.be (Nat.le_refl _)) hcap hU hnil
    obtain ⟨ra, hra⟩ : ∃ ra, (if c = U then a else Option.map (fun x => x.add U) a) = ra := ⟨_, rfl⟩
    rw [hra] at bR nR
    have HLD := Lib.hid (show (l.drop U).length = l.length - U from List.length_drop)
    have ic : (U : Int) ≤ (c : Int) := by omega
    have icn : U ≤ c := by omega
    have iU : (U : Int) ≤ (l.length : Int) := by omega
    have HST := Lib.hid hst
    have hkl : ks.length = its.length := by rw [← hk, List.length_map]
    clear hst
    by_cases hgo : (its.length : Int) < N
    · have hklim : ks.length < lim := by omega
      have zgo : decide ((its.length : Int) < N) = true := decide_eq_true hgo
      obtain ⟨q, hq⟩ : ∃ q, fParse (l.drop U) = q := ⟨_, rfl⟩
      obtain ⟨rc, rk, rp, rn, ro⟩ := q
      have HQ := Lib.hid hq
      have hrp : rp.length ≤ l.length := by have := fParse_payT (l.drop U); rw [hq, List.length_drop] at this; simp only at this; omega
      cases ro with
      | false =>
        have hstop : Hid (tRun lim l ⟨0, g0, []⟩ = ⟨U, G, ks⟩) := Lib.hid (HST.out.trans (tRun_stop (fun h => by have := h.2; simp only at this; rw [hq] at this; cases this)))
        clear hq
        go_wp2_with (first | (go_at_call 41; (with_reducible refine (refparse_O HQ ra _ _ _ bR HLD.out.symm (by have := HLD.out; omega) (by have := HLD.out; omega)).mono ?_); rintro e w3 ⟨pa, pc, rfl, ownp, hb3⟩; ((have be3 : RowKit.Below wr.heap.size wr (w3.alloc (.cells #[.int .i64 rc, .int .i64 rk, .slice pa rp.length pc] 49)) := (by repeat (first | (with_reducible refine Below.setCell ?_ ?_ _) | (with_reducible refine Below.alloc ?_ ?_ _) | (with_reducible refine Below.drew ?_) | (with_reducible refine below_drewN ?_ _) | (with_reducible exact Below.refl _ _) | (with_reducible refine Below.trans ?_ (Below.mono hb3 ?_)) | (focus (simp; done)) | (focus (simp; omega)) | (focus omega) | (focus (have q0 := Below.size hb3; (try simp at q0); (try simp); omega))))); (have il3 := il.below be3); (have bR3 := bR.below be3 (Nat.le_refl _)); (have kS3 := kSr.below be3 kSr.lt); (have kR3 := kRr.below be3 kRr.lt); clear s0 sl; (have s0 := kS3.cell 0); (have sl := kS3.lt))) | (at_builtin; refine appB rfl _ _ rfl W.heap.size none 0 0 [] rfl ra _ (c - U) (l.drop U) rfl (Own.nil _ _ _ _) bR3 HLD.out.symm (l.length - U) (by omega) (by omega) il3.sz.2 ?_; intro b2 c2 w2 own2 gr2 bl2; (have il2 := il3.below gr2.below0); (have kR2 := kR3.below gr2.below0 kR3.lt); (have y0 := kR2.cell 0); (have y1 := kR2.cell 1); (have yf := kR2.frozen); (have yl := kR2.lt)))
        exact bodyPost_ret (v := .tuple #[.agg #[.slice b2 (l.length - U) c2, .bool G], .slice xa its.length xc]) (by simp [results, Try.results33, go_sem, y0, y1]) rfl (take_fin hstop hk kR2 il2 (by have := il2.sz; omega) own2)
      | true =>
        obtain ⟨r1, r2⟩ := fParse_size (l := l.drop U) (by rw [hq])
        rw [hq, List.length_drop] at r2
        rw [hq] at r1
        simp only at r1 r2
        have HGO : Hid (tRun lim l ⟨0, g0, []⟩ = tRun lim l (tStep ⟨U, G, ks⟩ ⟨rc, rk, rp, rn, true⟩)) := Lib.hid (by
          have := tRun_go (lim := lim) (l := l) (st := ⟨U, G, ks⟩) ⟨hklim, by simp only; rw [hq]⟩
          simp only [hq] at this
          exact HST.out.trans this)
        have ne3 : ∀ {w3 : World} {q : Nat}, ItL w w3 W.heap.size its xa xc → q < W.heap.size → xa.map (·.block) ≠ some q := fun h hq e => by have := h.own.base_le _ e; omega
        have hUr : U + rn ≤ l.length := by omega
        have iUr : (U : Int) + (rn : Int) ≤ 9223372036854775807 := by omega
        have hra2 : Option.map (fun x => x.add U) a = ra := by rw [← hra, if_neg (by omega)]
        clear hq r2
        by_cases e2 : rc = 2
        · cases G with
          | true =>
            have HN : Hid (tRun lim l ⟨0, g0, []⟩ = tRun lim l ⟨U + rn, true, ks⟩) := Lib.hid (by rw [HGO.out, tStep_2g e2])
            subst e2
            go_wp2_with ((go_at_call 41; (with_reducible refine (refparse_O HQ ra _ _ _ bR HLD.out.symm (by have := HLD.out; omega) (by have := HLD.out; omega)).mono ?_); rintro e w3 ⟨pa, pc, rfl, ownp, hb3⟩; ((have be3 : RowKit.Below wr.heap.size wr (w3.alloc (.cells #[.int .i64 2, .int .i64 rk, .slice pa rp.length pc] 49)) := (by repeat (first | (with_reducible refine Below.setCell ?_ ?_ _) | (with_reducible refine Below.alloc ?_ ?_ _) | (with_reducible refine Below.drew ?_) | (with_reducible refine below_drewN ?_ _) | (with_reducible exact Below.refl _ _) | (with_reducible refine Below.trans ?_ (Below.mono hb3 ?_)) | (focus (simp; done)) | (focus (simp; omega)) | (focus omega) | (focus (have q0 := Below.size hb3; (try simp at q0); (try simp); omega))))); (have il3 := il.below be3); (have kS3 := kSr.below be3 kSr.lt); (have kR3 := kRr.below be3 kRr.lt); (have op3 := (ownp.alloc (.cells #[.int .i64 2, .int .i64 rk, .slice pa rp.length pc] 49)).mono (Nat.zero_le _)))))
            go_roundw
            case rel => exact ⟨U + rn, true, ks, its, xa, xc, rfl, by go_num, rfl, hk, il3, HN.out, by omega, by omega, kS3, kR3⟩
            case measure => simp [intOf]; omega
          | false =>
            have HN : Hid (tRun lim l ⟨0, g0, []⟩ = tRun lim l ⟨U + rn, true, ks ++ [(rc, rk, rp)]⟩) := Lib.hid (by rw [HGO.out, tStep_2n e2]; rfl)
            subst e2
            go_wp2_with (first | (go_at_call 41; (with_reducible refine (refparse_O HQ ra _ _ _ bR HLD.out.symm (by have := HLD.out; omega) (by have := HLD.out; omega)).mono ?_); rintro e w3 ⟨pa, pc, rfl, ownp, hb3⟩; ((have be3 : RowKit.Below wr.heap.size wr (w3.alloc (.cells #[.int .i64 2, .int .i64 rk, .slice pa rp.length pc] 49)) := (by repeat (first | (with_reducible refine Below.setCell ?_ ?_ _) | (with_reducible refine Below.alloc ?_ ?_ _) | (with_reducible refine Below.drew ?_) | (with_reducible refine below_drewN ?_ _) | (with_reducible exact Below.refl _ _) | (with_reducible refine Below.trans ?_ (Below.mono hb3 ?_)) | (focus (simp; done)) | (focus (simp; omega)) | (focus omega) | (focus (have q0 := Below.size hb3; (try simp at q0); (try simp); omega))))); (have il3 := il.below be3); (have kS3 := kSr.below be3 kSr.lt); (have kR3 := kRr.below be3 kRr.lt); (have op3 := (ownp.alloc (.cells #[.int .i64 2, .int .i64 rk, .slice pa rp.length pc] 49)).mono (Nat.zero_le _)))) | (at_builtin; refine app1It rfl _ _ rfl W.heap.size xa _ xc its rfl rfl 2 rk rp pa _ pc rfl (w3.heap.size + 1) rfl (by simp) il3 op3 (by omega) ?_; intro xb xd w6 il6 gr6; (have kS6 := (kS3.alloc _).ofGrown gr6 (ne3 il3 (by omega))); (have kR6 := (kR3.alloc _).ofGrown gr6 (ne3 il3 (by omega)))))
            go_roundw
            case rel => exact ⟨U + rn, true, ks ++ [(2, rk, rp)], its ++ [⟨2, rk, rp, pa, pc⟩], xb, xd, by simp, by go_num, rfl, by rw [List.map_append, hk]; rfl, il6, HN.out, by omega, by simp; omega, kS6, kR6⟩
            case measure => simp [intOf]; omega
        · have z2 : (rc == 2) = false := by rw [beq_eq_false_iff_ne]; exact e2
          have y2 : (rc != 2) = true := by rw [bne_iff_ne]; exact e2
          by_cases e7 : rc = 7 ∨ rc = 4
          · have HN : Hid (tRun lim l ⟨0, g0, []⟩ = tRun lim l ⟨U + rn, true, ks ++ [(rc, rk, rp)]⟩) := Lib.hid (by rw [HGO.out, tStep_o e2 (decide_eq_true e7)]; rfl)
            have z7 : (rc == 7) = true ∨ ((rc == 7) = false ∧ (rc == 4) = true) := by
              by_cases h7 : rc = 7
              · left; simp [h7]
              · right; simp [h7]; omega
            clear e2 e7
            rcases z7 with z7 | ⟨z7, z4⟩
            all_goals
              go_wp2_with (first | (go_at_call 41; (with_reducible refine (refparse_O HQ ra _ _ _ bR HLD.out.symm (by have := HLD.out; omega) (by have := HLD.out; omega)).mono ?_); rintro e w3 ⟨pa, pc, rfl, ownp, hb3⟩; ((have be3 : RowKit.Below wr.heap.size wr (w3.alloc (.cells #[.int .i64 rc, .int .i64 rk, .slice pa rp.length pc] 49)) := (by repeat (first | (with_reducible refine Below.setCell ?_ ?_ _) | (with_reducible refine Below.alloc ?_ ?_ _) | (with_reducible refine Below.drew ?_) | (with_reducible refine below_drewN ?_ _) | (with_reducible exact Below.refl _ _) | (with_reducible refine Below.trans ?_ (Below.mono hb3 ?_)) | (focus (simp; done)) | (focus (simp; omega)) | (focus omega) | (focus (have q0 := Below.size hb3; (try simp at q0); (try simp); omega))))); (have il3 := il.below be3); (have kS3 := kSr.below be3 kSr.lt); (have kR3 := kRr.below be3 kRr.lt); (have op3 := (ownp.alloc (.cells #[.int .i64 rc, .int .i64 rk, .slice pa rp.length pc] 49)).mono (Nat.zero_le _)))) | (at_builtin; refine app1It rfl _ _ rfl W.heap.size xa _ xc its rfl rfl rc rk rp pa _ pc rfl (w3.heap.size + 1) rfl (by simp) il3 op3 (by omega) ?_; intro xb xd w6 il6 gr6; (have kS6 := (kS3.alloc _).ofGrown gr6 (ne3 il3 (by omega))); (have kR6 := (kR3.alloc _).ofGrown gr6 (ne3 il3 (by omega)))))
              go_roundw
              case rel => exact ⟨U + rn, true, ks ++ [(rc, rk, rp)], its ++ [⟨rc, rk, rp, pa, pc⟩], xb, xd, by simp, by go_num, rfl, by rw [List.map_append, hk]; rfl, il6, HN.out, by omega, by simp; omega, kS6, kR6⟩
              case measure => simp [intOf]; omega
          · have HN : Hid (tRun lim l ⟨0, g0, []⟩ = tRun lim l ⟨U + rn, false, ks ++ [(rc, rk, rp)]⟩) := Lib.hid (by rw [HGO.out, tStep_o e2 (decide_eq_false e7)]; rfl)
            have z7 : (rc == 7) = false := by rw [beq_eq_false_iff_ne]; omega
            have z4 : (rc == 4) = false := by rw [beq_eq_false_iff_ne]; omega
            clear e2 e7
            go_wp2_with (first | (go_at_call 41; (with_reducible refine (refparse_O HQ ra _ _ _ bR HLD.out.symm (by have := HLD.out; omega) (by have := HLD.out; omega)).mono ?_); rintro e w3 ⟨pa, pc, rfl, ownp, hb3⟩; ((have be3 : RowKit.Below wr.heap.size wr (w3.alloc (.cells #[.int .i64 rc, .int .i64 rk, .slice pa rp.length pc] 49)) := (by repeat (first | (with_reducible refine Below.setCell ?_ ?_ _) | (with_reducible refine Below.alloc ?_ ?_ _) | (with_reducible refine Below.drew ?_) | (with_reducible refine below_drewN ?_ _) | (with_reducible exact Below.refl _ _) | (with_reducible refine Below.trans ?_ (Below.mono hb3 ?_)) | (focus (simp; done)) | (focus (simp; omega)) | (focus omega) | (focus (have q0 := Below.size hb3; (try simp at q0); (try simp); omega))))); (have il3 := il.below be3); (have kS3 := kSr.below be3 kSr.lt); (have kR3 := kRr.below be3 kRr.lt); (have op3 := (ownp.alloc (.cells #[.int .i64 rc, .int .i64 rk, .slice pa rp.length pc] 49)).mono (Nat.zero_le _)))) | (at_builtin; refine app1It rfl _ _ rfl W.heap.size xa _ xc its rfl rfl rc rk rp pa _ pc rfl (w3.heap.size + 1) rfl (by simp) il3 op3 (by omega) ?_; intro xb xd w6 il6 gr6; (have kS6 := (kS3.alloc _).ofGrown gr6 (ne3 il3 (by omega))); (have kR6 := (kR3.alloc _).ofGrown gr6 (ne3 il3 (by omega)))))
            go_roundw
            case rel => exact ⟨U + rn, false, ks ++ [(rc, rk, rp)], its ++ [⟨rc, rk, rp, pa, pc⟩], xb, xd, by simp, by go_num, rfl, by rw [List.map_append, hk]; rfl, il6, HN.out, by omega, by simp; omega, kS6, kR6⟩
            case measure => simp [intOf]; omega
    · have hstop : Hid (tRun lim l ⟨0, g0, []⟩ = ⟨U, G, ks⟩) := Lib.hid (HST.out.trans (tRun_stop (fun h => by have := h.1; simp only at this; omega)))
      have hbR : RowKit.Below wr.heap.size wr wr := RowKit.Below.refl _ _
      go_wp2_with (at_builtin; refine appB rfl _ _ rfl wr.heap.size none 0 0 [] rfl ra _ (c - U) (l.drop U) rfl (Own.nil _ _ _ _) (bR.below hbR (Nat.le_refl _)) HLD.out.symm (l.length - U) (by omega) (by omega) (Nat.le_refl _) ?_; intro b2 c2 w2 own2 gr2 bl2; (have hb2 := bl2 wr (RowKit.Below.refl _ _)); (have il2 := il.below hb2); (have kR2 := kRr.below hb2 kRr.lt); (have y0 := kR2.cell 0); (have y1 := kR2.cell 1); (have yf := kR2.frozen); (have yl := kR2.lt))
      exact bodyPost_ret (v := .tuple #[.agg #[.slice b2 (l.length - U) c2, .bool G], .slice xa its.length xc]) (by simp [results, Try.results33, go_sem, y0, y1]) rfl (take_fin hstop hk kR2 il2 (by have := il2.sz; omega) (own2.mono il.sz.2))
end Go.Proofs.Ytlfccoakodnbaaa
