/- record.Of, signalbrokerref23.Of -/
import Derived.Test.YtdkifkbnkedbpaaFlash
namespace Go.Proofs.Ytdkifkbnkedbpaa
set_option linter.unusedVariables false
open Go.RowKit Go.Sort
set_option maxRecDepth 100000

def vCol (a : Int) : Int := if a = 1 ∨ a = 2 then a else 0
def vCols (ls : List (Int × Int)) : List Int := ls.map fun l => vCol l.1
def vCnts (ps : List Ph) (ls : List (Int × Int)) : List Int := List.zipWith (fun p l => lCount p l.1 l.2) ps ls
theorem vCols_len (ls : List (Int × Int)) : (vCols ls).length = ls.length := by simp [vCols]
theorem vCnts_len {ps : List Ph} {ls : List (Int × Int)} (h : ls.length = ps.length) : (vCnts ps ls).length = ps.length := by simp [vCnts, h]
/-- the first i numbers, and noughts -/
def fillTo (l : List Int) (n i : Nat) : List Int := l.take i ++ List.replicate (n - i) 0
theorem fillTo_zero (l : List Int) (n : Nat) : fillTo l n 0 = List.replicate n 0 := by simp [fillTo]
theorem fillTo_all {l : List Int} {n : Nat} (h : l.length = n) : fillTo l n n = l := by simp [fillTo, ← h]
theorem fillTo_len {l : List Int} {n i : Nat} (h : l.length = n) (hi : i ≤ n) : (fillTo l n i).length = n := by simp [fillTo]; omega
theorem fillTo_set {l : List Int} {n i : Nat} (h : l.length = n) (hi : i < n) (x : Int) (hx : l[i]'(by omega) = x) : (fillTo l n i).set i x = fillTo l n (i + 1) := by
  subst hx
  unfold fillTo
  have h1 : (l.take i).length = i := by simp; omega
  rw [List.set_append_right _ _ (by omega), h1, Nat.sub_self, show n - i = (n - (i + 1)) + 1 by omega, List.replicate_succ, List.set_cons_zero, ← List.take_append_getElem (by omega), List.append_assoc]
  rfl
theorem fill_one {w : World} {B : Nat} {l : List Int} {n i : Nat} (h : Blk w B 3 ((fillTo l n i).map encI).toArray) (hl : l.length = n) (hi : i < n) (x : Int) (hx : l[i]'(by omega) = x) : Blk (w.setCell ⟨B, i, none⟩ (.int .i64 x)) B 3 ((fillTo l n (i + 1)).map encI).toArray := by
  rw [← fillTo_set hl hi x hx]
  exact h.setL i x rfl
theorem fill_two {w : World} {B : Nat} {l : List Int} {n i : Nat} (h : Blk w B 3 ((fillTo l n i).map encI).toArray) (hl : l.length = n) (hi : i < n) (x : Int) (hx : l[i]'(by omega) = x) : Blk ((w.setCell ⟨B, i, none⟩ (.int .i64 0)).setCell ⟨B, i, none⟩ (.int .i64 x)) B 3 ((fillTo l n (i + 1)).map encI).toArray := by
  have h2 := (h.setL i 0 (u := .int .i64 0) rfl).setL i x (u := .int .i64 x) rfl
  rw [List.set_set, fillTo_set hl hi x hx] at h2
  exact h2
theorem fill_cell {w : World} {B : Nat} {l : List Int} {n i : Nat} (h : Blk w B 3 ((fillTo l n i).map encI).toArray) (hl : l.length = n) (hi : i < n) : w.cell? ⟨B, i, none⟩ = some (.int .i64 0) := by
  have hk : (fillTo l n i).length = n := fillTo_len hl (by omega)
  rw [h.cellL i (by omega)]
  congr 1
  show Value.int .i64 _ = _
  congr 1
  simp only [fillTo]
  rw [List.getElem_append_right (by simp; omega)]
  simp
theorem Blk.bel {w W w' : World} {g : Nat} {t : TypeId} {cs : Array Value} {B : Nat} (h : Blk w g t cs) (hb : Below B W w') (hg : g < B) (e : W.heap = w.heap := by rfl) : Blk w' g t cs := by
  have := hb.block g hg
  rw [e] at this
  exact this.trans h
@[reducible] def sAgg (la : Option Addr) (n lc : Nat) (g : Int) (na : Option Addr) (nn nc : Nat) (wt : Int) (lat : Bool) : Value := .agg #[.slice la n lc, .int .i64 g, .slice na nn nc, .int .i64 wt, .bool lat]
/-- a view of n phases, made by the call -/
def VwR (fl ov : Bool) (n : Nat) (cs ns : List Int) (w : World) (e : Ending) (w' : World) : Prop :=
  ∃ (ca : Option Addr) (cc : Nat) (na : Option Addr) (nc : Nat), e = .returned (vAgg fl ov n ca cc na nc) ∧ Own w' w.heap.size 3 1 ca n cc (cs.map encI) ∧ Own w' w.heap.size 3 1 na n nc (ns.map encI) ∧ Below w.heap.size w w'
/-- what views are made of -/
structure Lts (w : World) (lb : Nat) (ps : List Ph) (ls : List (Int × Int)) (la : Option Addr) (lc : Nat) : Prop where
  own : Own w lb 67 2 la ps.length lc (liCells ls)
  ll : ls.length = ps.length
  lok : ∀ i (h : i < ps.length) (h' : i < ls.length), LiOk ps[i] ls[i].1 ls[i].2
def ofC (lat : Bool) (ls : List (Int × Int)) : List Int := if lat then List.replicate ls.length 0 else vCols ls
def ofN (lat : Bool) (ps : List Ph) (ls : List (Int × Int)) : List Int := if lat then List.replicate ls.length 0 else vCnts ps ls
theorem LiOk.tb {p : Ph} {a t : Int} (hp : PhOk p) (h : LiOk p a t) : -1000000000000 ≤ t ∧ t ≤ 1000000000000 := by
  have h1 := hp.yellow
  have h2 := hp.red
  unfold LiOk at h
  omega
theorem four_at (w : World) (c1 c2 c3 c4 : Array Value) (t1 t2 t3 t4 : TypeId) : Blk ((((w.alloc (.cells c1 t1)).alloc (.cells c2 t2)).alloc (.cells c3 t3)).alloc (.cells c4 t4)) w.heap.size t1 c1 ∧ Blk ((((w.alloc (.cells c1 t1)).alloc (.cells c2 t2)).alloc (.cells c3 t3)).alloc (.cells c4 t4)) (w.heap.size + 1) t2 c2 ∧ Blk ((((w.alloc (.cells c1 t1)).alloc (.cells c2 t2)).alloc (.cells c3 t3)).alloc (.cells c4 t4)) (w.heap.size + 2) t3 c3 ∧ Blk ((((w.alloc (.cells c1 t1)).alloc (.cells c2 t2)).alloc (.cells c3 t3)).alloc (.cells c4 t4)) (w.heap.size + 3) t4 c4 ∧ Below w.heap.size w ((((w.alloc (.cells c1 t1)).alloc (.cells c2 t2)).alloc (.cells c3 t3)).alloc (.cells c4 t4)) := by
  obtain ⟨q1, q2, q3, q4⟩ := three_at w c1 c2 c3 t1 t2 t3
  refine ⟨q2.alloc _, q3.alloc _, q4.alloc _, ?_, (by repeat (first | (with_reducible refine Below.setCell ?_ ?_ _) | (with_reducible refine Below.alloc ?_ ?_ _) | (with_reducible refine Below.drew ?_) | (with_reducible refine below_drewN ?_ _) | (with_reducible exact Below.refl _ _) | (focus (simp; done)) | (focus (simp; omega)) | (focus omega)))⟩
  have := Blk.new (((w.alloc (.cells c1 t1)).alloc (.cells c2 t2)).alloc (.cells c3 t3)) t4 c4
  simpa using this
theorem lamp_CountE {r g mg xg y rd wk cl a t N : Int} (h : Hid (lCount ⟨r, g, mg, xg, y, rd, wk, cl⟩ a t = N)) (w : World) (hp : PhOk ⟨r, g, mg, xg, y, rd, wk, cl⟩) (hx : -1000000000000 ≤ t ∧ t ≤ 1000000000000) :
    Calls Try.prog 35 #[.agg #[.int .i64 r, .int .i64 g, .int .i64 mg, .int .i64 xg, .int .i64 y, .int .i64 rd, .int .i64 wk, .int .i64 cl], .agg #[.int .i64 a, .int .i64 t]] w fun e w' => e = .returned (.int .i64 N) ∧ Below w.heap.size w w' := by
  have := lamp_Count ⟨r, g, mg, xg, y, rd, wk, cl⟩ a t w hp hx
  rw [h.out] at this
  exact this
theorem ref08_CountE {r g mg xg y rd wk cl a t N : Int} (h : Hid (lCount ⟨r, g, mg, xg, y, rd, wk, cl⟩ a t = N)) (w : World) (hp : PhOk ⟨r, g, mg, xg, y, rd, wk, cl⟩) (hx : -1000000000000 ≤ t ∧ t ≤ 1000000000000) :
    Calls Try.prog 32 #[.agg #[.int .i64 r, .int .i64 g, .int .i64 mg, .int .i64 xg, .int .i64 y, .int .i64 rd, .int .i64 wk, .int .i64 cl], .agg #[.int .i64 a, .int .i64 t]] w fun e w' => e = .returned (.int .i64 N) ∧ Below w.heap.size w w' := by
  have := ref08_Count ⟨r, g, mg, xg, y, rd, wk, cl⟩ a t w hp hx
  rw [h.out] at this
  exact this
set_option maxHeartbeats 8000000 in
theorem rec_Of (base jb jc jb2 jc2 : Nat) (ps : List Ph) (cs : List Int) (s : Int) (lb : Nat) (ls : List (Int × Int)) (la : Option Addr) (lc : Nat) (g wt : Int) (na : Option Addr) (nn nc : Nat) (lat : Bool) (ph gr : Int) (ea : Option Addr) (en ec : Nat) (w : World) (hj : JAt w base jb jc jb2 jc2 ps cs s) (hl : Lts w lb ps ls la lc) :
    Calls Try.prog 19 #[jAgg jb jc jb2 jc2 ps.length s, sAgg la ps.length lc g na nn nc wt lat, .agg #[.int .i64 ph, .int .i64 gr, .slice ea en ec]] w (VwR lat (!lat && (ph != -1)) ps.length (ofC lat ls) (ofN lat ps ls) w) := by
  have hn := hj.n1
  have hlw := hj.lw
  obtain ⟨hl, hll, hlok⟩ := hl
  go_enter Try.func19, Try.ntmps19
  go_upto_region 1 with fail
  refine wp_named (fun W => Blk W w.heap.size 32 #[.slice (some ⟨jb, 0, none⟩) ps.length jc, .slice (some ⟨jb2, 0, none⟩) ps.length jc2, .int .i64 s] ∧ Blk W (w.heap.size + 1) 37 #[.slice la ps.length lc, .int .i64 g, .slice na nn nc, .int .i64 wt, .bool lat] ∧ Blk W (w.heap.size + 2) 39 #[.int .i64 ph, .int .i64 gr, .slice ea en ec] ∧ Blk W (w.heap.size + 3) 43 #[.bool false, .bool false, .slice none 0 0, .slice none 0 0] ∧ RowKit.Below w.heap.size w W) (four_at w _ _ _ _ _ _ _ _) ?_
  rintro W ⟨kj, ks, kv, kr, be⟩
  have hWl := kr.lt
  obtain ⟨j0, j1, j2⟩ : W.cell? ⟨w.heap.size, 0, none⟩ = _ ∧ W.cell? ⟨w.heap.size, 1, none⟩ = _ ∧ W.cell? ⟨w.heap.size, 2, none⟩ = _ := ⟨kj.cell 0, kj.cell 1, kj.cell 2⟩
  have jl := kj.lt
  go_upto_region 2 with ((go_at_call 20; (with_reducible refine (rec_Flashing jb jc jb2 jc2 ps.length s _ (by omega)).mono ?_); rintro e w1 ⟨B, C, rfl, hB, hC, hBC, kB, kC, hb1⟩))
  obtain ⟨V, hVV⟩ : ∃ V, w1.heap.size = V := ⟨_, rfl⟩
  have HVV := Lib.hid hVV
  have hW1 := hb1.size
  refine wp_named (fun U => Blk U V 43 #[.bool true, .bool false, .slice (some ⟨B, 0, none⟩) ps.length ps.length, .slice (some ⟨C, 0, none⟩) ps.length ps.length] ∧ Blk U B 3 ((List.replicate ps.length (0 : Int)).map encI).toArray ∧ Blk U C 3 ((List.replicate ps.length (0 : Int)).map encI).toArray ∧ RowKit.Below W.heap.size W U) ⟨by rw [← hVV]; exact Blk.new _ _ _, kB.alloc _, kC.alloc _, hb1.alloc hW1 _⟩ ?_
  have hBV : B < V := by have := kB.lt; omega
  have hCV : C < V := by have := kC.lt; omega
  have hWV : W.heap.size ≤ V := by omega
  rw [hVV]
  clear hVV hb1 kB kC hW1 HVV j0 j1 j2 jl
  rintro U ⟨kV, kB, kC, hb1⟩
  have kj1 := kj.below hb1 kj.lt
  have ks1 := ks.below hb1 ks.lt
  have kv1 := kv.below hb1 kv.lt
  have kr1 := kr.below hb1 kr.lt
  clear kj ks kv kr
  obtain ⟨j0, j1, j2⟩ : U.cell? ⟨w.heap.size, 0, none⟩ = _ ∧ U.cell? ⟨w.heap.size, 1, none⟩ = _ ∧ U.cell? ⟨w.heap.size, 2, none⟩ = _ := ⟨kj1.cell 0, kj1.cell 1, kj1.cell 2⟩
  obtain ⟨s0, s1, s2, s3, s4, sf, sl⟩ := ks1.five
  have t0 : U.cell? ⟨w.heap.size + 2, 0, none⟩ = _ := kv1.cell 0
  have tl := kv1.lt
  have jl := kj1.lt
  obtain ⟨v0, v1, v2, v3⟩ := kV.four'
  have vf := kV.frozen
  have vl := kV.lt
  cases lat with
  | true =>
    obtain ⟨r0, r1, r2, r3⟩ := kr1.four'
    have rf := kr1.frozen
    have rl := kr1.lt
    go_wp2_with fail
    refine bodyPost_ret (v := vAgg true false ps.length (some ⟨B, 0, none⟩) ps.length (some ⟨C, 0, none⟩) ps.length) (by simp [results, Try.results19, go_sem, r0, r1, r2, r3]) rfl ?_
    have e1 : ofC true ls = List.replicate ps.length 0 := by simp [ofC, hll]
    have e2 : ofN true ps ls = List.replicate ps.length 0 := by simp [ofN, hll]
    rw [e1, e2]
    exact ⟨_, _, _, _, rfl, own_four kr1 (kB.ownL (by omega) (by simp) (by simp only [maxLen]; omega)) (by decide) _ _ _ _, own_four kr1 (kC.ownL (by omega) (by simp) (by simp only [maxLen]; omega)) (by decide) _ _ _ _, (by repeat (first | (with_reducible refine Below.setCell ?_ ?_ _) | (with_reducible refine Below.alloc ?_ ?_ _) | (with_reducible refine Below.drew ?_) | (with_reducible refine below_drewN ?_ _) | (with_reducible exact Below.refl _ _) | (with_reducible refine Below.trans ?_ (Below.mono hb1 ?_)) | (with_reducible refine Below.trans ?_ (Below.mono be ?_)) | (focus (simp; done)) | (focus (simp; omega)) | (focus omega) | (focus (have q0 := Below.size hb1; (try simp at q0); have q1 := Below.size be; (try simp at q1); (try simp); omega))))⟩
  | false =>
    have hcl := vCols_len ls
    have hnl := vCnts_len hll
    rw [hll] at hcl
    go_wp2_with fail
    go_loopw [24] (fun s24 wr => ∃ i : Nat, s24 = .int .i64 i ∧ i ≤ ps.length ∧ Blk wr V 43 #[.bool false, .bool (ph != -1), .slice (some ⟨B, 0, none⟩) ps.length ps.length, .slice (some ⟨C, 0, none⟩) ps.length ps.length] ∧ Blk wr B 3 ((fillTo (vCols ls) ps.length i).map encI).toArray ∧ Blk wr C 3 ((fillTo (vCnts ps ls) ps.length i).map encI).toArray ∧ Blk wr (w.heap.size + 1) 37 #[.slice la ps.length lc, .int .i64 g, .slice na nn nc, .int .i64 wt, .bool false] ∧ Blk wr (w.heap.size + 3) 43 #[.bool false, .bool false, .slice none 0 0, .slice none 0 0] ∧ RowKit.Below w.heap.size w wr) (fun s _ => ps.length - (intOf s).toNat)
    case atStart => exact ⟨0, rfl, by omega, (kV.set 0 _).set 1 _, by rw [fillTo_zero]; exact (kB.far (by simp only; omega) _).far (by simp only; omega) _, by rw [fillTo_zero]; exact (kC.far (by simp only; omega) _).far (by simp only; omega) _, (ks1.far (by simp only; omega) _).far (by simp only; omega) _, (kr1.far (by simp only; omega) _).far (by simp only; omega) _, (by repeat (first | (with_reducible refine Below.setCell ?_ ?_ _) | (with_reducible refine Below.alloc ?_ ?_ _) | (with_reducible refine Below.drew ?_) | (with_reducible refine below_drewN ?_ _) | (with_reducible exact Below.refl _ _) | (with_reducible refine Below.trans ?_ (Below.mono hb1 ?_)) | (with_reducible refine Below.trans ?_ (Below.mono be ?_)) | (focus (simp; done)) | (focus (simp; omega)) | (focus omega) | (focus (have q0 := Below.size hb1; (try simp at q0); have q1 := Below.size be; (try simp at q1); (try simp); omega))))⟩
    case round =>
      clear kV kB kC ks1 kr1 kj1 kv1 s0 s1 s2 s3 s4 sf sl v0 v1 v2 v3 vf vl t0 tl j0 j1 j2 jl
      obtain ⟨i, rfl, hi, kV, kB, kC, ks, kr, ber⟩ := hrel
      by_cases hlt : i < ps.length
      · have hil : i < ls.length := by omega
        obtain ⟨G, rfl, hG, hGl, y0, y1, -, -⟩ := light_cell (hl.below ber (Nat.le_refl _)) hll i hil
        obtain ⟨x0, x1, x2, x3, x4, x5, x6, x7⟩ := row_phase (hj.below (ber.mono hlw)).ph i hlt
        have hjb : jb < wr.heap.size := by have := hj.lb; have := ber.size; omega
        have hpok := hj.ok _ (List.getElem_mem hlt)
        have hlk := (hlok i hlt hil).tb hpok
        have hcnt : (vCnts ps ls)[i]'(by omega) = lCount ps[i] ls[i].1 ls[i].2 := by simp [vCnts]
        have hcol : (vCols ls)[i]'(by omega) = vCol ls[i].1 := by simp [vCols]
        obtain ⟨la1, hla1⟩ : ∃ a, ls[i].1 = a := ⟨_, rfl⟩
        obtain ⟨lt1, hlt1⟩ : ∃ a, ls[i].2 = a := ⟨_, rfl⟩
        obtain ⟨p, hp⟩ : ∃ p, ps[i] = p := ⟨_, rfl⟩
        rw [hla1, hlt1, hp] at hcnt
        rw [hla1] at hcol y0
        rw [hlt1] at hlk y1
        rw [hp] at x0 x1 x2 x3 x4 x5 x6 x7 hpok
        obtain ⟨N, hN⟩ : ∃ N, lCount p la1 lt1 = N := ⟨_, rfl⟩
        rw [hN] at hcnt
        have HCN := Lib.hid hcnt
        have HN := Lib.hid hN
        clear hN
        have HCO := Lib.hid hcol
        clear hp hla1 hlt1 hcnt hcol
        obtain ⟨r, gg, mg, xg, yw, rd, wk, cx⟩ := p
        simp only at x0 x1 x2 x3 x4 x5 x6 x7
        obtain ⟨s0, s1, s2, s3, s4, sf, sl⟩ := ks.five
        obtain ⟨v0, v1, v2, v3⟩ := kV.four'
        have vl := kV.lt
        have bl := kB.lt
        have bf := kB.frozen
        have b0 := fill_cell kB hcl hlt
        have cl := kC.lt
        have cf := kC.frozen
        have c0 := fill_cell kC hnl hlt
        have hq : la1 = 1 ∨ la1 = 2 ∨ (vCol la1 = 0 ∧ la1 ≠ 1 ∧ la1 ≠ 2) := by unfold vCol; split <;> omega
        go_upto_region 11 with fail
        refine wp_named (fun X => Blk X wr.heap.size 70 #[.int .i64 r, .int .i64 gg, .int .i64 mg, .int .i64 xg, .int .i64 yw, .int .i64 rd, .int .i64 wk, .int .i64 cx] ∧ Blk X (wr.heap.size + 1) 67 #[.int .i64 la1, .int .i64 lt1] ∧ X.heap.size = wr.heap.size + 2 ∧ RowKit.Below wr.heap.size wr X) ⟨(Blk.new _ _ _).alloc _, Blk.next _ _ _ _, by simp, (by repeat (first | (with_reducible refine Below.setCell ?_ ?_ _) | (with_reducible refine Below.alloc ?_ ?_ _) | (with_reducible refine Below.drew ?_) | (with_reducible refine below_drewN ?_ _) | (with_reducible exact Below.refl _ _) | (focus (simp; done)) | (focus (simp; omega)) | (focus omega)))⟩ ?_
        rintro X ⟨kP, kL, hXz, bX⟩
        have kV := kV.below bX kV.lt
        have kB := kB.below bX kB.lt
        have kC := kC.below bX kC.lt
        have ks := ks.below bX ks.lt
        have kr := kr.below bX kr.lt
        have beX : RowKit.Below w.heap.size w X := (by repeat (first | (with_reducible refine Below.setCell ?_ ?_ _) | (with_reducible refine Below.alloc ?_ ?_ _) | (with_reducible refine Below.drew ?_) | (with_reducible refine below_drewN ?_ _) | (with_reducible exact Below.refl _ _) | (with_reducible refine Below.trans ?_ (Below.mono bX ?_)) | (with_reducible refine Below.trans ?_ (Below.mono ber ?_)) | (focus (simp; done)) | (focus (simp; omega)) | (focus omega) | (focus (have q0 := Below.size bX; (try simp at q0); have q1 := Below.size ber; (try simp at q1); (try simp); omega))))
        have hVr : V < wr.heap.size := vl
        have hBr : B < wr.heap.size := bl
        have hCr : C < wr.heap.size := cl
        clear x0 x1 x2 x3 x4 x5 x6 x7 y0 y1 s0 s1 s2 s3 s4 sf sl v0 v1 v2 v3 vl bl bf b0 cl cf c0 bX ber
        obtain ⟨x0, x1, x2, x3, x4, x5, x6, x7⟩ := kP.eight
        have xl := kP.lt
        have y0 : X.cell? ⟨wr.heap.size + 1, 0, none⟩ = _ := kL.cell 0
        have y1 : X.cell? ⟨wr.heap.size + 1, 1, none⟩ = _ := kL.cell 1
        have yl := kL.lt
        obtain ⟨v0, v1, v2, v3⟩ := kV.four'
        have vl := kV.lt
        have bl := kB.lt
        have bf := kB.frozen
        have b0 := fill_cell kB hcl hlt
        have hq3 : ((la1 == 1) = true ∧ vCol la1 = la1) ∨ ((la1 == 1) = false ∧ (la1 == 2) = true ∧ vCol la1 = la1) ∨ ((la1 == 1) = false ∧ (la1 == 2) = false ∧ vCol la1 = 0) := by
          rcases hq with rfl | rfl | ⟨hz, hz1, hz2⟩
          · exact .inl ⟨rfl, rfl⟩
          · exact .inr (.inl ⟨rfl, rfl, rfl⟩)
          · exact .inr (.inr ⟨beq_eq_false_iff_ne.2 hz1, beq_eq_false_iff_ne.2 hz2, hz⟩)
        clear hq
        rcases hq3 with ⟨z1, hz⟩ | ⟨z1, z2, hz⟩ | ⟨z1, z2, hz⟩
        · rw [hz] at HCO
          clear hz
          go_upto_region 14 with fail
          refine wp_named (fun Y => Blk Y wr.heap.size 70 #[.int .i64 r, .int .i64 gg, .int .i64 mg, .int .i64 xg, .int .i64 yw, .int .i64 rd, .int .i64 wk, .int .i64 cx] ∧ Blk Y (wr.heap.size + 1) 67 #[.int .i64 la1, .int .i64 lt1] ∧ Blk Y V 43 #[.bool false, .bool (ph != -1), .slice (some ⟨B, 0, none⟩) ps.length ps.length, .slice (some ⟨C, 0, none⟩) ps.length ps.length] ∧ Blk Y B 3 ((fillTo (vCols ls) ps.length (i + 1)).map encI).toArray ∧ Blk Y C 3 ((fillTo (vCnts ps ls) ps.length i).map encI).toArray ∧ Blk Y (w.heap.size + 1) 37 #[.slice (some ⟨G, 0, none⟩) ps.length lc, .int .i64 g, .slice na nn nc, .int .i64 wt, .bool false] ∧ Blk Y (w.heap.size + 3) 43 #[.bool false, .bool false, .slice none 0 0, .slice none 0 0] ∧ RowKit.Below w.heap.size w Y) ⟨((kP.far (by simp only; omega) _).far (by simp only; omega) _), ((kL.far (by simp only; omega) _).far (by simp only; omega) _), ((kV.far (by simp only; omega) _).far (by simp only; omega) _), fill_two kB hcl hlt _ HCO.out, ((kC.far (by simp only; omega) _).far (by simp only; omega) _), ((ks.far (by simp only; omega) _).far (by simp only; omega) _), ((kr.far (by simp only; omega) _).far (by simp only; omega) _), (by repeat (first | (with_reducible refine Below.setCell ?_ ?_ _) | (with_reducible refine Below.alloc ?_ ?_ _) | (with_reducible refine Below.drew ?_) | (with_reducible refine below_drewN ?_ _) | (with_reducible exact Below.refl _ _) | (with_reducible refine Below.trans ?_ (Below.mono beX ?_)) | (focus (simp; done)) | (focus (simp; omega)) | (focus omega) | (focus (have q0 := Below.size beX; (try simp at q0); (try simp); omega))))⟩ ?_
          clear kP kL kV kB kC ks kr beX x0 x1 x2 x3 x4 x5 x6 x7 xl y0 y1 yl v0 v1 v2 v3 vl bl bf b0
          rintro Y ⟨kP, kL, kV, kB, kC, ks, kr, beY⟩
          have cl := kC.lt
          apply wp_region_tab [(C, (C+1))] 8 68 [some 59, some 60, some 61, some 62, some 63, some 64, some 65, none] [⟨[8], [], [], []⟩, ⟨[0, 8], [0], [0], []⟩, ⟨[8], [], [], []⟩, ⟨[8], [], [], []⟩, ⟨[8], [], [], []⟩, ⟨[3, 4, 8], [3, 4], [3, 4], []⟩, ⟨[0, 1, 2, 3, 4, 5, 8], [1, 2], [1, 2], []⟩, ⟨[0, 1, 2, 3, 4, 5, 6, 8], [5, 6, 8], [5, 6, 8], [8]⟩, ⟨[], [], [], []⟩] [0, 1, 2, 3, 4, 5, 6, 7] [7] [psiTrue, psiTrue, psiTrue, psiTrue, psiTrue, psiTrue, psiTrue, (fun f lo hi v b0 b1 W => Blk W C 3 ((fillTo (vCnts ps ls) ps.length (i + 1)).map encI).toArray), (fun f lo hi v b0 b1 W => (b0 = C ∧ b1 = (C+1)) ∧ Blk W C 3 ((fillTo (vCnts ps ls) ps.length i).map encI).toArray)] [kVal _, kVal _, kVal _, kVal _, kVal _, kVal _, kVal _, kTrue]
          · kernel_rfl
          · kernel_rfl
          · rfl
          · rfl
          rotate_left 2
          refine ⟨?oR1_0, ?oR1_1, ?oR1_2, ?oR1_3, ?oR1_4, ?oR1_5, ?oR1_6, ?oR1_7, trivial⟩
          case hx => exact ⟨⟨by omega, by omega⟩, by simp, trivial⟩
          case hX => exact ⟨fun _ _ _ _ => ⟨⟨rfl, rfl⟩, kC⟩, trivial⟩
          case oR1_0 => intro f lo hi w hb hx hf hk hrg R hR; (try replace hb := BelX.zero hb); (try simp (decide := true) only [go_sem] at hf); (try simp (decide := true) only [go_sem] at hk); go_simp; exact hR _ _ (rpost_val rfl rfl (Below.refl _ _) rfl)
          case oR1_1 =>
            intro f lo hi w hb hx hf hk hrg R hR; (try replace hb := BelX.zero hb); (try simp (decide := true) only [go_sem] at hf); (try simp (decide := true) only [go_sem] at hk)
            have e0 := (hb.blk kV (fun r hr => by simp at hr; subst hr; simp only; omega)).cell 3
            go_simp
            exact hR _ _ (rpost_val rfl rfl (Below.refl _ _) rfl)
          case oR1_2 => intro f lo hi w hb hx hf hk hrg R hR; (try replace hb := BelX.zero hb); (try simp (decide := true) only [go_sem] at hf); (try simp (decide := true) only [go_sem] at hk); go_simp; exact hR _ _ (rpost_val rfl rfl (Below.refl _ _) rfl)
          case oR1_3 =>
            intro f lo hi w hb hx hf hk hrg R hR; (try replace hb := BelX.zero hb); (try simp (decide := true) only [go_sem] at hf); (try simp (decide := true) only [go_sem] at hk)
            obtain ⟨x0, x1, x2, x3, x4, x5, x6, x7⟩ := (hb.blk kP (fun r hr => by simp at hr; subst hr; simp only; omega)).eight
            go_simp
            exact hR _ _ (rpost_val rfl rfl (Below.refl _ _) rfl)
          case oR1_4 =>
            intro f lo hi w hb hx hf hk hrg R hR; (try replace hb := BelX.zero hb); (try simp (decide := true) only [go_sem] at hf); (try simp (decide := true) only [go_sem] at hk)
            have kk := hb.blk kL (fun r hr => by simp at hr; subst hr; simp only; omega)
            have e0 : w.cell? ⟨wr.heap.size + 1, 0, none⟩ = _ := kk.cell 0
            have e1 : w.cell? ⟨wr.heap.size + 1, 1, none⟩ = _ := kk.cell 1
            go_simp
            exact hR _ _ (rpost_val rfl rfl (Below.refl _ _) rfl)
          case oR1_5 =>
            intro f lo hi w hb hx hf hk hrg R hR; (try replace hb := BelX.zero hb); (try simp (decide := true) only [go_sem] at hf); (try simp (decide := true) only [go_sem] at hk)
            go_simp
            (with_reducible refine (lamp_CountE HN _ hpok hlk).mono ?_)
            rintro e w' ⟨rfl, hb2⟩
            exact ⟨_, rfl, hR _ _ (rpost_val rfl rfl hb2 rfl)⟩
          case oR1_6 => intro f lo hi w hb hx hf hk hrg R hR; (try replace hb := BelX.zero hb); (try simp (decide := true) only [go_sem] at hf); (try simp (decide := true) only [go_sem] at hk); go_simp; exact hR _ _ (rpost_val rfl rfl (Below.refl _ _) rfl)
          case oR1_7 =>
            intro f lo hi w hb hx hf hk hrg R hR; (try replace hb := BelX.zero hb); (try simp (decide := true) only [go_sem] at hf); (try simp (decide := true) only [go_sem] at hk)
            obtain ⟨⟨-, -⟩, kk⟩ := hf
            have e0 := fill_cell kk hnl hlt
            have fz := kk.frozen
            have p1 : lo 8 = _ := (XOk.get _ _ hx 0 _ rfl).1
            have p2 : hi 8 = _ := (XOk.get _ _ hx 0 _ rfl).2
            go_simp
            refine hR _ _ (rpost_some rfl rfl (Touch.set w (List.mem_singleton.2 rfl) (Nat.le_of_eq p1) (by rw [p2]; exact Nat.lt_succ_self _) _ _) ?_)
            (try simp (decide := true) only [go_sem])
            exact fill_one kk hnl hlt _ HCN.out
          case hcl =>
            refine ⟨Closed.true _ _ _ _, Closed.true _ _ _ _, Closed.true _ _ _ _, Closed.true _ _ _ _, Closed.true _ _ _ _, Closed.true _ _ _ _, Closed.true _ _ _ _, ?cR1_7, ?cR1_8, trivial⟩
            all_goals first
              | exact fun f lo hi v b0 b1 w w' h hs hB hown hU hX => (hX 0 _ rfl (by simp) _ (Nat.le_refl _) (Nat.lt_succ_self _)).trans h
              | exact fun f lo hi v b0 b1 w w' h hs hB hown hU hX => by
                  obtain ⟨⟨rfl, rfl⟩, kb⟩ := h
                  exact ⟨⟨rfl, rfl⟩, (hown _ (Nat.le_refl _) (Nat.lt_succ_self _)).trans kb⟩
              | exact fun _ _ _ _ _ _ _ _ h _ _ _ _ _ => h
          intro f lo hi W7 hbr hx hf hk hrg; (try replace hbr := BelX.zero hbr); clear hx; (try simp (decide := true) only [go_sem] at hf); (try simp (decide := true) only [go_sem] at hk)
          have hout : ∀ q, q < Y.heap.size → q ≠ C → W7.heap[q]? = Y.heap[q]? := fun q h1 h2 => hbr.2.2.2.2 q ⟨h1, fun r hr => by simp at hr; subst hr; simp only; omega⟩
          have be7 : RowKit.Below w.heap.size w W7 := ⟨hbr.1.trans beY.os, hbr.2.1.trans beY.tape, hbr.2.2.1.trans beY.output, Nat.le_trans beY.size hbr.2.2.2.1, fun q hq => (hout q (by have := beY.size; omega) (by omega)).trans (beY.block q hq)⟩
          have kV7 := (hout V kV.lt (by omega)).trans kV
          have kB7 := (hout B kB.lt hBC).trans kB
          have ks7 := (hout _ ks.lt (by omega)).trans ks
          have kr7 := (hout _ kr.lt (by omega)).trans kr
          clear hout hbr hrg
          go_simp
          clear hk
          go_wp2
          go_roundw
          case rel => exact ⟨i + 1, by go_num, by omega, kV7, kB7, hf, ks7, kr7, be7⟩
          case measure => simp [intOf]; omega
        · rw [hz] at HCO
          clear hz
          go_upto_region 14 with fail
          refine wp_named (fun Y => Blk Y wr.heap.size 70 #[.int .i64 r, .int .i64 gg, .int .i64 mg, .int .i64 xg, .int .i64 yw, .int .i64 rd, .int .i64 wk, .int .i64 cx] ∧ Blk Y (wr.heap.size + 1) 67 #[.int .i64 la1, .int .i64 lt1] ∧ Blk Y V 43 #[.bool false, .bool (ph != -1), .slice (some ⟨B, 0, none⟩) ps.length ps.length, .slice (some ⟨C, 0, none⟩) ps.length ps.length] ∧ Blk Y B 3 ((fillTo (vCols ls) ps.length (i + 1)).map encI).toArray ∧ Blk Y C 3 ((fillTo (vCnts ps ls) ps.length i).map encI).toArray ∧ Blk Y (w.heap.size + 1) 37 #[.slice (some ⟨G, 0, none⟩) ps.length lc, .int .i64 g, .slice na nn nc, .int .i64 wt, .bool false] ∧ Blk Y (w.heap.size + 3) 43 #[.bool false, .bool false, .slice none 0 0, .slice none 0 0] ∧ RowKit.Below w.heap.size w Y) ⟨((kP.far (by simp only; omega) _).far (by simp only; omega) _), ((kL.far (by simp only; omega) _).far (by simp only; omega) _), ((kV.far (by simp only; omega) _).far (by simp only; omega) _), fill_two kB hcl hlt _ HCO.out, ((kC.far (by simp only; omega) _).far (by simp only; omega) _), ((ks.far (by simp only; omega) _).far (by simp only; omega) _), ((kr.far (by simp only; omega) _).far (by simp only; omega) _), (by repeat (first | (with_reducible refine Below.setCell ?_ ?_ _) | (with_reducible refine Below.alloc ?_ ?_ _) | (with_reducible refine Below.drew ?_) | (with_reducible refine below_drewN ?_ _) | (with_reducible exact Below.refl _ _) | (with_reducible refine Below.trans ?_ (Below.mono beX ?_)) | (focus (simp; done)) | (focus (simp; omega)) | (focus omega) | (focus (have q0 := Below.size beX; (try simp at q0); (try simp); omega))))⟩ ?_
          clear kP kL kV kB kC ks kr beX x0 x1 x2 x3 x4 x5 x6 x7 xl y0 y1 yl v0 v1 v2 v3 vl bl bf b0
          rintro Y ⟨kP, kL, kV, kB, kC, ks, kr, beY⟩
          have cl := kC.lt
          apply wp_region_tab [(C, (C+1))] 8 68 [some 59, some 60, some 61, some 62, some 63, some 64, some 65, none] [⟨[8], [], [], []⟩, ⟨[0, 8], [0], [0], []⟩, ⟨[8], [], [], []⟩, ⟨[8], [], [], []⟩, ⟨[8], [], [], []⟩, ⟨[3, 4, 8], [3, 4], [3, 4], []⟩, ⟨[0, 1, 2, 3, 4, 5, 8], [1, 2], [1, 2], []⟩, ⟨[0, 1, 2, 3, 4, 5, 6, 8], [5, 6, 8], [5, 6, 8], [8]⟩, ⟨[], [], [], []⟩] [0, 1, 2, 3, 4, 5, 6, 7] [7] [psiTrue, psiTrue, psiTrue, psiTrue, psiTrue, psiTrue, psiTrue, (fun f lo hi v b0 b1 W => Blk W C 3 ((fillTo (vCnts ps ls) ps.length (i + 1)).map encI).toArray), (fun f lo hi v b0 b1 W => (b0 = C ∧ b1 = (C+1)) ∧ Blk W C 3 ((fillTo (vCnts ps ls) ps.length i).map encI).toArray)] [kVal _, kVal _, kVal _, kVal _, kVal _, kVal _, kVal _, kTrue]
          · kernel_rfl
          · kernel_rfl
          · rfl
          · rfl
          rotate_left 2
          refine ⟨?oR2_0, ?oR2_1, ?oR2_2, ?oR2_3, ?oR2_4, ?oR2_5, ?oR2_6, ?oR2_7, trivial⟩
          case hx => exact ⟨⟨by omega, by omega⟩, by simp, trivial⟩
          case hX => exact ⟨fun _ _ _ _ => ⟨⟨rfl, rfl⟩, kC⟩, trivial⟩
          case oR2_0 => intro f lo hi w hb hx hf hk hrg R hR; (try replace hb := BelX.zero hb); (try simp (decide := true) only [go_sem] at hf); (try simp (decide := true) only [go_sem] at hk); go_simp; exact hR _ _ (rpost_val rfl rfl (Below.refl _ _) rfl)
          case oR2_1 =>
            intro f lo hi w hb hx hf hk hrg R hR; (try replace hb := BelX.zero hb); (try simp (decide := true) only [go_sem] at hf); (try simp (decide := true) only [go_sem] at hk)
            have e0 := (hb.blk kV (fun r hr => by simp at hr; subst hr; simp only; omega)).cell 3
            go_simp
            exact hR _ _ (rpost_val rfl rfl (Below.refl _ _) rfl)
          case oR2_2 => intro f lo hi w hb hx hf hk hrg R hR; (try replace hb := BelX.zero hb); (try simp (decide := true) only [go_sem] at hf); (try simp (decide := true) only [go_sem] at hk); go_simp; exact hR _ _ (rpost_val rfl rfl (Below.refl _ _) rfl)
          case oR2_3 =>
            intro f lo hi w hb hx hf hk hrg R hR; (try replace hb := BelX.zero hb); (try simp (decide := true) only [go_sem] at hf); (try simp (decide := true) only [go_sem] at hk)
            obtain ⟨x0, x1, x2, x3, x4, x5, x6, x7⟩ := (hb.blk kP (fun r hr => by simp at hr; subst hr; simp only; omega)).eight
            go_simp
            exact hR _ _ (rpost_val rfl rfl (Below.refl _ _) rfl)
          case oR2_4 =>
            intro f lo hi w hb hx hf hk hrg R hR; (try replace hb := BelX.zero hb); (try simp (decide := true) only [go_sem] at hf); (try simp (decide := true) only [go_sem] at hk)
            have kk := hb.blk kL (fun r hr => by simp at hr; subst hr; simp only; omega)
            have e0 : w.cell? ⟨wr.heap.size + 1, 0, none⟩ = _ := kk.cell 0
            have e1 : w.cell? ⟨wr.heap.size + 1, 1, none⟩ = _ := kk.cell 1
            go_simp
            exact hR _ _ (rpost_val rfl rfl (Below.refl _ _) rfl)
          case oR2_5 =>
            intro f lo hi w hb hx hf hk hrg R hR; (try replace hb := BelX.zero hb); (try simp (decide := true) only [go_sem] at hf); (try simp (decide := true) only [go_sem] at hk)
            go_simp
            (with_reducible refine (lamp_CountE HN _ hpok hlk).mono ?_)
            rintro e w' ⟨rfl, hb2⟩
            exact ⟨_, rfl, hR _ _ (rpost_val rfl rfl hb2 rfl)⟩
          case oR2_6 => intro f lo hi w hb hx hf hk hrg R hR; (try replace hb := BelX.zero hb); (try simp (decide := true) only [go_sem] at hf); (try simp (decide := true) only [go_sem] at hk); go_simp; exact hR _ _ (rpost_val rfl rfl (Below.refl _ _) rfl)
          case oR2_7 =>
            intro f lo hi w hb hx hf hk hrg R hR; (try replace hb := BelX.zero hb); (try simp (decide := true) only [go_sem] at hf); (try simp (decide := true) only [go_sem] at hk)
            obtain ⟨⟨-, -⟩, kk⟩ := hf
            have e0 := fill_cell kk hnl hlt
            have fz := kk.frozen
            have p1 : lo 8 = _ := (XOk.get _ _ hx 0 _ rfl).1
            have p2 : hi 8 = _ := (XOk.get _ _ hx 0 _ rfl).2
            go_simp
            refine hR _ _ (rpost_some rfl rfl (Touch.set w (List.mem_singleton.2 rfl) (Nat.le_of_eq p1) (by rw [p2]; exact Nat.lt_succ_self _) _ _) ?_)
            (try simp (decide := true) only [go_sem])
            exact fill_one kk hnl hlt _ HCN.out
          case hcl =>
            refine ⟨Closed.true _ _ _ _, Closed.true _ _ _ _, Closed.true _ _ _ _, Closed.true _ _ _ _, Closed.true _ _ _ _, Closed.true _ _ _ _, Closed.true _ _ _ _, ?cR2_7, ?cR2_8, trivial⟩
            all_goals first
              | exact fun f lo hi v b0 b1 w w' h hs hB hown hU hX => (hX 0 _ rfl (by simp) _ (Nat.le_refl _) (Nat.lt_succ_self _)).trans h
              | exact fun f lo hi v b0 b1 w w' h hs hB hown hU hX => by
                  obtain ⟨⟨rfl, rfl⟩, kb⟩ := h
                  exact ⟨⟨rfl, rfl⟩, (hown _ (Nat.le_refl _) (Nat.lt_succ_self _)).trans kb⟩
              | exact fun _ _ _ _ _ _ _ _ h _ _ _ _ _ => h
          intro f lo hi W7 hbr hx hf hk hrg; (try replace hbr := BelX.zero hbr); clear hx; (try simp (decide := true) only [go_sem] at hf); (try simp (decide := true) only [go_sem] at hk)
          have hout : ∀ q, q < Y.heap.size → q ≠ C → W7.heap[q]? = Y.heap[q]? := fun q h1 h2 => hbr.2.2.2.2 q ⟨h1, fun r hr => by simp at hr; subst hr; simp only; omega⟩
          have be7 : RowKit.Below w.heap.size w W7 := ⟨hbr.1.trans beY.os, hbr.2.1.trans beY.tape, hbr.2.2.1.trans beY.output, Nat.le_trans beY.size hbr.2.2.2.1, fun q hq => (hout q (by have := beY.size; omega) (by omega)).trans (beY.block q hq)⟩
          have kV7 := (hout V kV.lt (by omega)).trans kV
          have kB7 := (hout B kB.lt hBC).trans kB
          have ks7 := (hout _ ks.lt (by omega)).trans ks
          have kr7 := (hout _ kr.lt (by omega)).trans kr
          clear hout hbr hrg
          go_simp
          clear hk
          go_wp2
          go_roundw
          case rel => exact ⟨i + 1, by go_num, by omega, kV7, kB7, hf, ks7, kr7, be7⟩
          case measure => simp [intOf]; omega
        · rw [hz] at HCO
          clear hz
          go_upto_region 14 with fail
          refine wp_named (fun Y => Blk Y wr.heap.size 70 #[.int .i64 r, .int .i64 gg, .int .i64 mg, .int .i64 xg, .int .i64 yw, .int .i64 rd, .int .i64 wk, .int .i64 cx] ∧ Blk Y (wr.heap.size + 1) 67 #[.int .i64 la1, .int .i64 lt1] ∧ Blk Y V 43 #[.bool false, .bool (ph != -1), .slice (some ⟨B, 0, none⟩) ps.length ps.length, .slice (some ⟨C, 0, none⟩) ps.length ps.length] ∧ Blk Y B 3 ((fillTo (vCols ls) ps.length (i + 1)).map encI).toArray ∧ Blk Y C 3 ((fillTo (vCnts ps ls) ps.length i).map encI).toArray ∧ Blk Y (w.heap.size + 1) 37 #[.slice (some ⟨G, 0, none⟩) ps.length lc, .int .i64 g, .slice na nn nc, .int .i64 wt, .bool false] ∧ Blk Y (w.heap.size + 3) 43 #[.bool false, .bool false, .slice none 0 0, .slice none 0 0] ∧ RowKit.Below w.heap.size w Y) ⟨(kP.far (by simp only; omega) _), (kL.far (by simp only; omega) _), (kV.far (by simp only; omega) _), fill_one kB hcl hlt _ HCO.out, (kC.far (by simp only; omega) _), (ks.far (by simp only; omega) _), (kr.far (by simp only; omega) _), (by repeat (first | (with_reducible refine Below.setCell ?_ ?_ _) | (with_reducible refine Below.alloc ?_ ?_ _) | (with_reducible refine Below.drew ?_) | (with_reducible refine below_drewN ?_ _) | (with_reducible exact Below.refl _ _) | (with_reducible refine Below.trans ?_ (Below.mono beX ?_)) | (focus (simp; done)) | (focus (simp; omega)) | (focus omega) | (focus (have q0 := Below.size beX; (try simp at q0); (try simp); omega))))⟩ ?_
          clear kP kL kV kB kC ks kr beX x0 x1 x2 x3 x4 x5 x6 x7 xl y0 y1 yl v0 v1 v2 v3 vl bl bf b0
          rintro Y ⟨kP, kL, kV, kB, kC, ks, kr, beY⟩
          have cl := kC.lt
          apply wp_region_tab [(C, (C+1))] 8 68 [some 59, some 60, some 61, some 62, some 63, some 64, some 65, none] [⟨[8], [], [], []⟩, ⟨[0, 8], [0], [0], []⟩, ⟨[8], [], [], []⟩, ⟨[8], [], [], []⟩, ⟨[8], [], [], []⟩, ⟨[3, 4, 8], [3, 4], [3, 4], []⟩, ⟨[0, 1, 2, 3, 4, 5, 8], [1, 2], [1, 2], []⟩, ⟨[0, 1, 2, 3, 4, 5, 6, 8], [5, 6, 8], [5, 6, 8], [8]⟩, ⟨[], [], [], []⟩] [0, 1, 2, 3, 4, 5, 6, 7] [7] [psiTrue, psiTrue, psiTrue, psiTrue, psiTrue, psiTrue, psiTrue, (fun f lo hi v b0 b1 W => Blk W C 3 ((fillTo (vCnts ps ls) ps.length (i + 1)).map encI).toArray), (fun f lo hi v b0 b1 W => (b0 = C ∧ b1 = (C+1)) ∧ Blk W C 3 ((fillTo (vCnts ps ls) ps.length i).map encI).toArray)] [kVal _, kVal _, kVal _, kVal _, kVal _, kVal _, kVal _, kTrue]
          · kernel_rfl
          · kernel_rfl
          · rfl
          · rfl
          rotate_left 2
          refine ⟨?oR3_0, ?oR3_1, ?oR3_2, ?oR3_3, ?oR3_4, ?oR3_5, ?oR3_6, ?oR3_7, trivial⟩
          case hx => exact ⟨⟨by omega, by omega⟩, by simp, trivial⟩
          case hX => exact ⟨fun _ _ _ _ => ⟨⟨rfl, rfl⟩, kC⟩, trivial⟩
          case oR3_0 => intro f lo hi w hb hx hf hk hrg R hR; (try replace hb := BelX.zero hb); (try simp (decide := true) only [go_sem] at hf); (try simp (decide := true) only [go_sem] at hk); go_simp; exact hR _ _ (rpost_val rfl rfl (Below.refl _ _) rfl)
          case oR3_1 =>
            intro f lo hi w hb hx hf hk hrg R hR; (try replace hb := BelX.zero hb); (try simp (decide := true) only [go_sem] at hf); (try simp (decide := true) only [go_sem] at hk)
            have e0 := (hb.blk kV (fun r hr => by simp at hr; subst hr; simp only; omega)).cell 3
            go_simp
            exact hR _ _ (rpost_val rfl rfl (Below.refl _ _) rfl)
          case oR3_2 => intro f lo hi w hb hx hf hk hrg R hR; (try replace hb := BelX.zero hb); (try simp (decide := true) only [go_sem] at hf); (try simp (decide := true) only [go_sem] at hk); go_simp; exact hR _ _ (rpost_val rfl rfl (Below.refl _ _) rfl)
          case oR3_3 =>
            intro f lo hi w hb hx hf hk hrg R hR; (try replace hb := BelX.zero hb); (try simp (decide := true) only [go_sem] at hf); (try simp (decide := true) only [go_sem] at hk)
            obtain ⟨x0, x1, x2, x3, x4, x5, x6, x7⟩ := (hb.blk kP (fun r hr => by simp at hr; subst hr; simp only; omega)).eight
            go_simp
            exact hR _ _ (rpost_val rfl rfl (Below.refl _ _) rfl)
          case oR3_4 =>
            intro f lo hi w hb hx hf hk hrg R hR; (try replace hb := BelX.zero hb); (try simp (decide := true) only [go_sem] at hf); (try simp (decide := true) only [go_sem] at hk)
            have kk := hb.blk kL (fun r hr => by simp at hr; subst hr; simp only; omega)
            have e0 : w.cell? ⟨wr.heap.size + 1, 0, none⟩ = _ := kk.cell 0
            have e1 : w.cell? ⟨wr.heap.size + 1, 1, none⟩ = _ := kk.cell 1
            go_simp
            exact hR _ _ (rpost_val rfl rfl (Below.refl _ _) rfl)
          case oR3_5 =>
            intro f lo hi w hb hx hf hk hrg R hR; (try replace hb := BelX.zero hb); (try simp (decide := true) only [go_sem] at hf); (try simp (decide := true) only [go_sem] at hk)
            go_simp
            (with_reducible refine (lamp_CountE HN _ hpok hlk).mono ?_)
            rintro e w' ⟨rfl, hb2⟩
            exact ⟨_, rfl, hR _ _ (rpost_val rfl rfl hb2 rfl)⟩
          case oR3_6 => intro f lo hi w hb hx hf hk hrg R hR; (try replace hb := BelX.zero hb); (try simp (decide := true) only [go_sem] at hf); (try simp (decide := true) only [go_sem] at hk); go_simp; exact hR _ _ (rpost_val rfl rfl (Below.refl _ _) rfl)
          case oR3_7 =>
            intro f lo hi w hb hx hf hk hrg R hR; (try replace hb := BelX.zero hb); (try simp (decide := true) only [go_sem] at hf); (try simp (decide := true) only [go_sem] at hk)
            obtain ⟨⟨-, -⟩, kk⟩ := hf
            have e0 := fill_cell kk hnl hlt
            have fz := kk.frozen
            have p1 : lo 8 = _ := (XOk.get _ _ hx 0 _ rfl).1
            have p2 : hi 8 = _ := (XOk.get _ _ hx 0 _ rfl).2
            go_simp
            refine hR _ _ (rpost_some rfl rfl (Touch.set w (List.mem_singleton.2 rfl) (Nat.le_of_eq p1) (by rw [p2]; exact Nat.lt_succ_self _) _ _) ?_)
            (try simp (decide := true) only [go_sem])
            exact fill_one kk hnl hlt _ HCN.out
          case hcl =>
            refine ⟨Closed.true _ _ _ _, Closed.true _ _ _ _, Closed.true _ _ _ _, Closed.true _ _ _ _, Closed.true _ _ _ _, Closed.true _ _ _ _, Closed.true _ _ _ _, ?cR3_7, ?cR3_8, trivial⟩
            all_goals first
              | exact fun f lo hi v b0 b1 w w' h hs hB hown hU hX => (hX 0 _ rfl (by simp) _ (Nat.le_refl _) (Nat.lt_succ_self _)).trans h
              | exact fun f lo hi v b0 b1 w w' h hs hB hown hU hX => by
                  obtain ⟨⟨rfl, rfl⟩, kb⟩ := h
                  exact ⟨⟨rfl, rfl⟩, (hown _ (Nat.le_refl _) (Nat.lt_succ_self _)).trans kb⟩
              | exact fun _ _ _ _ _ _ _ _ h _ _ _ _ _ => h
          intro f lo hi W7 hbr hx hf hk hrg; (try replace hbr := BelX.zero hbr); clear hx; (try simp (decide := true) only [go_sem] at hf); (try simp (decide := true) only [go_sem] at hk)
          have hout : ∀ q, q < Y.heap.size → q ≠ C → W7.heap[q]? = Y.heap[q]? := fun q h1 h2 => hbr.2.2.2.2 q ⟨h1, fun r hr => by simp at hr; subst hr; simp only; omega⟩
          have be7 : RowKit.Below w.heap.size w W7 := ⟨hbr.1.trans beY.os, hbr.2.1.trans beY.tape, hbr.2.2.1.trans beY.output, Nat.le_trans beY.size hbr.2.2.2.1, fun q hq => (hout q (by have := beY.size; omega) (by omega)).trans (beY.block q hq)⟩
          have kV7 := (hout V kV.lt (by omega)).trans kV
          have kB7 := (hout B kB.lt hBC).trans kB
          have ks7 := (hout _ ks.lt (by omega)).trans ks
          have kr7 := (hout _ kr.lt (by omega)).trans kr
          clear hout hbr hrg
          go_simp
          clear hk
          go_wp2
          go_roundw
          case rel => exact ⟨i + 1, by go_num, by omega, kV7, kB7, hf, ks7, kr7, be7⟩
          case measure => simp [intOf]; omega
      · obtain rfl : i = ps.length := by omega
        rw [fillTo_all hcl] at kB
        rw [fillTo_all hnl] at kC
        obtain ⟨v0, v1, v2, v3⟩ := kV.four'
        have vl := kV.lt
        obtain ⟨r0, r1, r2, r3⟩ := kr.four'
        have rf := kr.frozen
        have rl := kr.lt
        go_wp2_with fail
        refine bodyPost_ret (v := vAgg false (ph != -1) ps.length (some ⟨B, 0, none⟩) ps.length (some ⟨C, 0, none⟩) ps.length) (by simp [results, Try.results19, go_sem, r0, r1, r2, r3]) rfl ?_
        exact ⟨_, _, _, _, rfl, own_four kr (kB.ownL (by omega) hcl.symm (by simp only [maxLen]; omega)) (by decide) _ _ _ _, own_four kr (kC.ownL (by omega) hnl.symm (by simp only [maxLen]; omega)) (by decide) _ _ _ _, (by repeat (first | (with_reducible refine Below.setCell ?_ ?_ _) | (with_reducible refine Below.alloc ?_ ?_ _) | (with_reducible refine Below.drew ?_) | (with_reducible refine below_drewN ?_ _) | (with_reducible exact Below.refl _ _) | (with_reducible refine Below.trans ?_ (Below.mono ber ?_)) | (focus (simp; done)) | (focus (simp; omega)) | (focus omega) | (focus (have q0 := Below.size ber; (try simp at q0); (try simp); omega))))⟩
end Go.Proofs.Ytdkifkbnkedbpaa
