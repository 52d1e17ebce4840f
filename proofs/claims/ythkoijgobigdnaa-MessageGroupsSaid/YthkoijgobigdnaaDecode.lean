/- message.Decode -/
import Derived.Test.YthkoijgobigdnaaEncode
import Derived.Test.YthkoijgobigdnaaNumbers
import Derived.Test.YthkoijgobigdnaaDecLaw
namespace Go.Proofs.Ythkoijgobigdnaa
open Go.RowKit Go.Sort
set_option maxRecDepth 20000

/-- no message of the kind has the payload -/
def NoM (k : Int) (p : List UInt8) : Prop := ∀ m : Msg, m.Ok → m.kind = k → m.pay ≠ p
def DatOk (dt : Int) (r : List UInt8) : Prop := dt = -1 ∨ (r.length : Int) = dt
theorem noM {k : Int} {s : Shp} {p : List UInt8} (hs : shpOf k = s) (h : ¬ (p.length ≤ 200 ∧ s.tok ≤ p.length ∧ ∃ l r, rdN s.fix.toNat (p.drop s.tok.toNat) = some (l, r) ∧ ((s.grp = 0 ∧ DatOk s.dat r) ∨ (0 < s.grp ∧ ∃ x r2, rdN 1 r = some ([x], r2) ∧ s.lo ≤ x ∧ x ≤ s.hi ∧ ∃ m r3, rdN (x * s.grp).toNat r2 = some (m, r3) ∧ DatOk s.dat r3)))) : NoM k p := by
  intro m hm hk hp
  subst hk hp
  obtain ⟨a1, a2, a3, a4, l, m2, r, a5, a6, a7⟩ := dec_back hm hs
  refine h ⟨a1, a2, l, r, a6, ?_⟩
  rcases a7 with ⟨b1, b2, b3⟩ | ⟨b1, x, b2, b3, b4, b5, b6⟩
  · exact .inl ⟨b1, by rw [b3]; exact a4⟩
  · exact .inr ⟨b1, x, _, b5, b2, b3, _, _, b6, a4⟩
theorem shp_nat {k : Int} : ∃ (T F : Nat) (gr lo hi dt : Int), shpOf k = ⟨T, F, gr, lo, hi, dt⟩ ∧ (T = 0 ∨ T = 10) ∧ F ≤ 4 ∧ 0 ≤ gr ∧ gr ≤ 4 ∧ 0 ≤ lo ∧ lo ≤ hi ∧ hi ≤ 16 ∧ (dt = -1 ∨ dt = 0 ∨ dt = 10) := by
  have so := shpOf_ok k
  obtain ⟨⟨tk, fx, gr, lo, hi, dt⟩, hs⟩ : ∃ s, shpOf k = s := ⟨_, rfl⟩
  rw [hs] at so ⊢
  obtain ⟨h1, h2, h3, h4, h5, h6⟩ := so
  simp only at h1 h2 h3 h4 h5 h6
  obtain ⟨T, rfl⟩ := Int.eq_ofNat_of_zero_le (show 0 ≤ tk by omega)
  obtain ⟨F, rfl⟩ := Int.eq_ofNat_of_zero_le h2.1
  exact ⟨T, F, gr, lo, hi, dt, rfl, by omega, by omega, h3.1, h3.2, h4.1, h5.1, h5.2.1, h6⟩
theorem rd1 {b : List UInt8} {l : List Int} {r : List UInt8} (h : rdN 1 b = some (l, r)) : ∃ x : Int, l = [x] ∧ 0 ≤ x ∧ x ≤ 4294967295 := by
  obtain ⟨h1, _, h3⟩ := rdN_only _ _ _ _ h
  match l, h1 with
  | [x], _ => exact ⟨x, rfl, h3 x (by simp)⟩

/-- what numbers hands back, as its readers meet it -/
def NumY (n R : Nat) (l : List Int) (a : Option Addr) (b r : List UInt8) (w : World) (e : Ending) (w' : World) : Prop :=
  ∃ xa xc ra rc, e = .returned (.tuple #[.slice xa n xc, .slice ra R rc, .bool true]) ∧ R ≤ rc ∧ Own w' w.heap.size 3 1 xa n xc (l.map encI) ∧ (∀ w0 : World, Byt w0 a b → Byt w0 ra r) ∧ (ra = none → R = 0 ∧ rc = 0) ∧ Below w.heap.size w w'
theorem numbersY {n : Nat} {b : List UInt8} {l : List Int} {r : List UInt8} {R : Nat} (h : Hid (rdN n b = some (l, r))) (hR : Hid (R = r.length)) (a : Option Addr) (m c : Nat) (N : Int) (hN : N = n) (w : World) (hb : Byt w a b) (hm : m = b.length) (hc : m ≤ c) (hl : b.length ≤ 1000000) (hnil : a = none → m = 0 ∧ c = 0) (hn : n ≤ 1000) :
    Calls Try.prog 32 #[.slice a m c, .int .i64 N] w (NumY n R l a b r w) := by
  subst hN
  refine (msg_numbers n a b m c w hb hm hc hl hnil hn).mono fun e w' h' => ?_
  rcases h' with ⟨l', r', xa, xc, ra, rn, rc, h1, h2, h3, h4, h5, h6, h7, h8⟩ | ⟨h1, _⟩
  · rw [h.out] at h1
    injection h1 with h1
    injection h1 with e1 e2
    subst e1 e2
    rw [hR.out]
    subst h3
    exact ⟨xa, xc, ra, rc, h2, h4, h5, h6, h7, h8⟩
  · rw [h.out] at h1; cases h1
theorem numbersN {n : Nat} {b : List UInt8} (h : Hid (rdN n b = none)) (a : Option Addr) (m c : Nat) (N : Int) (hN : N = n) (w : World) (hb : Byt w a b) (hm : m = b.length) (hc : m ≤ c) (hl : b.length ≤ 1000000) (hnil : a = none → m = 0 ∧ c = 0) (hn : n ≤ 1000) :
    Calls Try.prog 32 #[.slice a m c, .int .i64 N] w fun e w' => e = .returned (.tuple #[.slice none 0 0, .slice none 0 0, .bool false]) ∧ Below w.heap.size w w' := by
  subst hN
  refine (msg_numbers n a b m c w hb hm hc hl hnil hn).mono fun e w' h' => ?_
  rcases h' with ⟨l', r', xa, xc, ra, rn, rc, h1, _⟩ | ⟨_, h2, h3⟩
  · rw [h.out] at h1; cases h1
  · exact ⟨h2, h3⟩

theorem byt_rest {w : World} {pa : Option Addr} {p : List UInt8} {pc T : Nat} (hb : Byt w pa p) (hc : p.length ≤ pc) (hT : T ≤ p.length) (hnil : pa = none → p.length = 0 ∧ pc = 0) : Byt w (if pc = T then pa else Option.map (fun x => x.add T) pa) (p.drop T) ∧ ((if pc = T then pa else Option.map (fun x => x.add T) pa) = none → p.length - T = 0 ∧ pc - T = 0) := by
  by_cases h : pc = T
  · rw [if_pos h]
    exact ⟨by rw [List.drop_eq_nil_of_le (by omega)]; exact Byt.nil _ _, fun _ => by omega⟩
  · rw [if_neg h]
    cases pa with
    | none => have := hnil rfl; omega
    | some ad =>
      refine ⟨?_, fun h => by simp at h⟩
      rcases hb.open with rfl | ⟨b, off, e, _, _⟩
      · simp; exact Byt.nil _ _
      · injection e with e
        subst e
        have := hb.drop T
        have hadd : (⟨b, off, none⟩ : Addr).add T = ⟨b, off + T, none⟩ := by unfold Addr.add; split <;> simp_all
        simpa [hadd] using this

def zeroMsg : Value := .agg #[.int .i64 0, .slice none 0 0, .slice none 0 0, .slice none 0 0]
def MsgOut (m : Msg) (w' : World) (v : Value) : Prop := ∃ ta tc aa ac da dc, v = .agg #[.int .i64 m.kind, .slice ta m.tok.length tc, .slice aa m.args.length ac, .slice da m.dat.length dc] ∧ MsgAt w' m ta tc aa da
/-- what Decode hands back -/
def DecR (k : Int) (p : List UInt8) (w : World) (e : Ending) (w' : World) : Prop :=
  ((∃ m : Msg, m.Ok ∧ m.kind = k ∧ m.pay = p ∧ ∃ v, e = .returned (.tuple #[v, .int .i64 0]) ∧ MsgOut m w' v) ∨
   (1 ≤ k ∧ k ≤ 22 ∧ NoM k p ∧ e = .returned (.tuple #[.agg #[.int .i64 0, .slice none 0 0, .slice none 0 0, .slice none 0 0], .int .i64 6])) ∨
   ((k < 1 ∨ 22 < k) ∧ e = .returned (.tuple #[.agg #[.int .i64 0, .slice none 0 0, .slice none 0 0, .slice none 0 0], .int .i64 5]))) ∧ Below w.heap.size w w'
theorem DecR.no {k : Int} {p : List UInt8} {w w' : World} (h1 : 1 ≤ k) (h2 : k ≤ 22) (h : NoM k p) (hb : Below w.heap.size w w') : DecR k p w (.returned (.tuple #[.agg #[.int .i64 0, .slice none 0 0, .slice none 0 0, .slice none 0 0], .int .i64 6])) w' := ⟨.inr (.inl ⟨h1, h2, h, rfl⟩), hb⟩

theorem Own.none_len {w : World} {base : Nat} {e : TypeId} {size n cap : Nat} {a : Option Addr} {xs : List Value} (h : Own w base e size a n cap xs) (ha : a = none) : n = 0 ∧ cap = 0 := by
  subst ha
  rcases h.2 with ⟨hv, h0⟩ | ⟨g, c, cur, hv, _⟩
  · injection hv with _ _ h3
    exact ⟨h0, h3⟩
  · injection hv with h1 _ _; cases h1
theorem Row.far4 {w : World} {a : Option Addr} {xs : List Value} {g : Nat} (h : Row w a xs) (hne : ∀ b, a.map (·.block) = some b → b ≠ g) (u0 u1 u2 u3 : Value) :
    Row ((((w.setCell ⟨g, 0, none⟩ u0).setCell ⟨g, 1, none⟩ u1).setCell ⟨g, 2, none⟩ u2).setCell ⟨g, 3, none⟩ u3) a xs := by
  have q : ∀ i : Nat, a.map (·.block) ≠ some (⟨g, i, none⟩ : Addr).block := fun i e => hne g e rfl
  exact Row.far (Row.far (Row.far (Row.far h (q 0) _) (q 1) _) (q 2) _) (q 3) _
theorem DecR.yes {m : Msg} {k : Int} {p : List UInt8} {w w' : World} {ta aa da : Option Addr} {T tc A ac R dc : Nat} (hm : m.Ok ∧ m.pay = p) (hk : m.kind = k) (hT : T = m.tok.length) (hA : A = m.args.length) (hR : R = m.dat.length) (hat : MsgAt w' m ta tc aa da) (hb : Below w.heap.size w w') :
    DecR k p w (.returned (.tuple #[.agg #[.int .i64 k, .slice ta T tc, .slice aa A ac, .slice da R dc], .int .i64 0])) w' := by
  subst hT hA hR hk
  exact ⟨.inl ⟨m, hm.1, rfl, hm.2, _, rfl, ta, tc, aa, ac, da, dc, rfl, hat⟩, hb⟩
theorem Msg.Ok.lens {m : Msg} (h : m.Ok) : m.tok.length ≤ 1000000 ∧ m.args.length ≤ 1000000 ∧ m.dat.length ≤ 1000000 := by
  have so := shpOf_ok m.kind
  refine ⟨by have := h.tok; have := so.tok; omega, ?_, by have := h.dlen; omega⟩
  have hg := h.grp
  have hb := grpN_bd so hg
  have f := so.fix
  have g := so.grp
  unfold grpOk at hg
  unfold grpN at hb
  split at hg
  · omega
  · rename_i h0
    rw [if_neg h0] at hb
    have e := Int.ediv_mul_cancel (Int.dvd_of_emod_eq_zero hg.2.1)
    have : ((m.args.length : Int) - (shpOf m.kind).fix) / (shpOf m.kind).grp * (shpOf m.kind).grp ≤ 16 * 4 := Int.mul_le_mul hb.2 g.2 g.1 (by omega)
    omega
/-- one number -/
def Num1 (R : Nat) (x : Int) (a : Option Addr) (b r : List UInt8) (w : World) (e : Ending) (w' : World) : Prop :=
  ∃ g xc ra rc, e = .returned (.tuple #[.slice (some ⟨g, 0, none⟩) 1 xc, .slice ra R rc, .bool true]) ∧ R ≤ rc ∧ w'.cell? ⟨g, 0, none⟩ = some (.int .i64 x) ∧ w.heap.size ≤ g ∧ g < w'.heap.size ∧ 1 ≤ xc ∧ (∀ w0 : World, Byt w0 a b → Byt w0 ra r) ∧ (ra = none → R = 0 ∧ rc = 0) ∧ Below w.heap.size w w'
theorem numbers1 {b : List UInt8} {x : Int} {r : List UInt8} {R : Nat} (h : Hid (rdN 1 b = some ([x], r))) (hR : Hid (R = r.length)) (a : Option Addr) (m c : Nat) (w : World) (hb : Byt w a b) (hm : m = b.length) (hc : m ≤ c) (hl : b.length ≤ 1000000) (hnil : a = none → m = 0 ∧ c = 0) :
    Calls Try.prog 32 #[.slice a m c, .int .i64 1] w (Num1 R x a b r w) :=
  (numbersY h hR a m c 1 rfl w hb hm hc hl hnil (by omega)).mono fun e w' ⟨xa, xc, ra, rc, h1, h2, h3, h4, h5, h6⟩ => by
    obtain ⟨g, rfl, g1, g2⟩ := h3.open_ (by omega)
    exact ⟨g, xc, ra, rc, h1, h2, by have := h3.cell 0 (by simp); simpa [encI] using this, g1, g2, h3.cap_le, h4, h5, h6⟩
theorem numbersN1 {b : List UInt8} (h : Hid (rdN 1 b = none)) (a : Option Addr) (m c : Nat) (w : World) (hb : Byt w a b) (hm : m = b.length) (hc : m ≤ c) (hl : b.length ≤ 1000000) (hnil : a = none → m = 0 ∧ c = 0) :
    Calls Try.prog 32 #[.slice a m c, .int .i64 1] w fun e w' => e = .returned (.tuple #[.slice none 0 0, .slice none 0 0, .bool false]) ∧ Below w.heap.size w w' := numbersN h a m c 1 rfl w hb hm hc hl hnil (by omega)

section
variable (k : Int) (pa : Option Addr) (p : List UInt8) (pc : Nat) (w : World)
theorem msg_Decode_kind (hk : k < 1 ∨ 22 < k) : Calls Try.prog 16 #[.int .i64 k, .slice pa p.length pc] w (DecR k p w) := by
  go_enter Try.func16, Try.ntmps16
  go_wp2_with (first | (go_at_call 31; (with_reducible refine (msg_shapeOf_no k _ hk).mono ?_); rintro e w1 ⟨rfl, hb1⟩; (have bR := (Blk.new w 27 #[.int .i64 0, .slice none 0 0, .slice none 0 0, .slice none 0 0]).below hb1 (by simp)); obtain ⟨m0, m1, m2, m3⟩ := bR.four; (have lR := bR.lt); (have fR := bR.frozen)))
  exact bodyPost_ret (v := .tuple #[.agg #[.int .i64 0, .slice none 0 0, .slice none 0 0, .slice none 0 0], .int .i64 5]) (by simp [results, Try.results16, go_sem, m0, m1, m2, m3, lR]) rfl ⟨.inr (.inr ⟨hk, rfl⟩), (by repeat (first | (with_reducible refine Below.setCell ?_ ?_ _) | (with_reducible refine Below.alloc ?_ ?_ _) | (with_reducible refine Below.drew ?_) | (with_reducible refine below_drewN ?_ _) | (with_reducible exact Below.refl _ _) | (with_reducible refine Below.trans ?_ (Below.mono hb1 ?_)) | (focus (simp; done)) | (focus (simp; omega)) | (focus omega) | (focus (have q0 := Below.size hb1; (try simp at q0); (try simp); omega))))⟩
variable {T F : Nat} {gr lo hi dt : Int} (h1 : 1 ≤ k) (h2 : k ≤ 22) (hs : shpOf k = ⟨T, F, gr, lo, hi, dt⟩)
include h1 h2 hs
theorem msg_Decode_long (hp : 200 < p.length) : Calls Try.prog 16 #[.int .i64 k, .slice pa p.length pc] w (DecR k p w) := by
  have HN := Lib.hid (show NoM k p from noM hs (fun ⟨q, _⟩ => by omega))
  have z1 : decide (200 < p.length) = true := decide_eq_true hp
  have i1 : (200 : Int) < (p.length : Int) := by omega
  go_enter Try.func16, Try.ntmps16
  go_wp2_with (first | (go_at_call 31; (with_reducible refine (msg_shapeOfE _ h1 h2 hs).mono ?_); rintro e w1 ⟨rfl, hb1⟩; (have bR := (Blk.new w 27 #[.int .i64 0, .slice none 0 0, .slice none 0 0, .slice none 0 0]).below hb1 (by simp)); obtain ⟨m0, m1, m2, m3⟩ := bR.four; (have lR := bR.lt); (have fR := bR.frozen)))
  exact bodyPost_ret (v := .tuple #[.agg #[.int .i64 0, .slice none 0 0, .slice none 0 0, .slice none 0 0], .int .i64 6]) (by simp [results, Try.results16, go_sem, m0, m1, m2, m3, lR]) rfl (DecR.no h1 h2 HN.out (by repeat (first | (with_reducible refine Below.setCell ?_ ?_ _) | (with_reducible refine Below.alloc ?_ ?_ _) | (with_reducible refine Below.drew ?_) | (with_reducible refine below_drewN ?_ _) | (with_reducible exact Below.refl _ _) | (with_reducible refine Below.trans ?_ (Below.mono hb1 ?_)) | (focus (simp; done)) | (focus (simp; omega)) | (focus omega) | (focus (have q0 := Below.size hb1; (try simp at q0); (try simp); omega)))))
theorem msg_Decode_tok (hp : p.length ≤ 200) (ht : p.length < T) : Calls Try.prog 16 #[.int .i64 k, .slice pa p.length pc] w (DecR k p w) := by
  have HN := Lib.hid (show NoM k p from noM hs (fun ⟨_, q, _⟩ => by simp only at q; omega))
  have z1 : decide (200 < p.length) = false := decide_eq_false (by omega)
  have i1 : (p.length : Int) ≤ 200 := by omega
  have z2 : decide (p.length < T) = true := decide_eq_true (by omega)
  go_enter Try.func16, Try.ntmps16
  go_wp2_with (first | (go_at_call 31; (with_reducible refine (msg_shapeOfE _ h1 h2 hs).mono ?_); rintro e w1 ⟨rfl, hb1⟩; (have bR := (Blk.new w 27 #[.int .i64 0, .slice none 0 0, .slice none 0 0, .slice none 0 0]).below hb1 (by simp)); obtain ⟨m0, m1, m2, m3⟩ := bR.four; (have lR := bR.lt); (have fR := bR.frozen)))
  exact bodyPost_ret (v := .tuple #[.agg #[.int .i64 0, .slice none 0 0, .slice none 0 0, .slice none 0 0], .int .i64 6]) (by simp [results, Try.results16, go_sem, m0, m1, m2, m3, lR]) rfl (DecR.no h1 h2 HN.out (by repeat (first | (with_reducible refine Below.setCell ?_ ?_ _) | (with_reducible refine Below.alloc ?_ ?_ _) | (with_reducible refine Below.drew ?_) | (with_reducible refine below_drewN ?_ _) | (with_reducible exact Below.refl _ _) | (with_reducible refine Below.trans ?_ (Below.mono hb1 ?_)) | (focus (simp; done)) | (focus (simp; omega)) | (focus omega) | (focus (have q0 := Below.size hb1; (try simp at q0); (try simp); omega)))))
variable (hb : Byt w pa p) (hc : p.length ≤ pc) (hnil : pa = none → p.length = 0 ∧ pc = 0) (hp : p.length ≤ 200) (ht : T ≤ p.length)
include hb hc hnil hp ht
theorem msg_Decode_rd (hF : F ≤ 4) (hr : rdN F (p.drop T) = none) : Calls Try.prog 16 #[.int .i64 k, .slice pa p.length pc] w (DecR k p w) := by
  have HN := Lib.hid (show NoM k p from noM hs (fun ⟨_, _, l, r, q, _⟩ => by simp only [Int.toNat_natCast] at q; rw [hr] at q; cases q))
  have z1 : decide (200 < p.length) = false := decide_eq_false (by omega)
  have i1 : (p.length : Int) ≤ 200 := by omega
  have z2 : decide (p.length < T) = false := decide_eq_false (by omega)
  obtain ⟨brest, nrest⟩ := byt_rest hb hc ht hnil
  obtain ⟨ra, hra⟩ : ∃ ra, (if pc = T then pa else Option.map (fun x => x.add T) pa) = ra := ⟨_, rfl⟩
  rw [hra] at brest nrest
  have hld : (p.drop T).length = p.length - T := List.length_drop
  have HL := Lib.hid hld
  have HR := Lib.hid hr
  clear hld hr
  go_enter Try.func16, Try.ntmps16
  go_wp2_with (first | (go_at_call 31; (with_reducible refine (msg_shapeOfE _ h1 h2 hs).mono ?_); rintro e w1 ⟨rfl, hb1⟩; (have bR := (Blk.new w 27 #[.int .i64 0, .slice none 0 0, .slice none 0 0, .slice none 0 0]).below hb1 (by simp)); (have lR := bR.lt)))
  go_quiet (fail)
  go_wp2_with (first | (go_at_call 32; (with_reducible refine (numbersN HR ra _ _ _ rfl _ (brest.below (by repeat (first | (with_reducible refine Below.setCell ?_ ?_ _) | (with_reducible refine Below.alloc ?_ ?_ _) | (with_reducible refine Below.drew ?_) | (with_reducible refine below_drewN ?_ _) | (with_reducible exact Below.refl _ _) | (with_reducible refine Below.trans ?_ (Below.mono hb1 ?_)) | (focus (simp; done)) | (focus (simp; omega)) | (focus omega) | (focus (have q0 := Below.size hb1; (try simp at q0); (try simp); omega)))) (Nat.le_refl _)) HL.out.symm (by omega) (by have := HL.out; omega) nrest (by omega)).mono ?_); rintro e w2 ⟨rfl, hb2⟩; (have bR2 := ((bR.alloc _).drewN _).below hb2 (by simp; omega)); obtain ⟨m0, m1, m2, m3⟩ := bR2.four; (have lR2 := bR2.lt); (have fR := bR2.frozen)))
  exact bodyPost_ret (v := .tuple #[.agg #[.int .i64 0, .slice none 0 0, .slice none 0 0, .slice none 0 0], .int .i64 6]) (by simp [results, Try.results16, go_sem, m0, m1, m2, m3]) rfl (DecR.no h1 h2 HN.out (by repeat (first | (with_reducible refine Below.setCell ?_ ?_ _) | (with_reducible refine Below.alloc ?_ ?_ _) | (with_reducible refine Below.drew ?_) | (with_reducible refine below_drewN ?_ _) | (with_reducible exact Below.refl _ _) | (with_reducible refine Below.trans ?_ (Below.mono hb1 ?_)) | (with_reducible refine Below.trans ?_ (Below.mono hb2 ?_)) | (focus (simp; done)) | (focus (simp; omega)) | (focus omega) | (focus (have q0 := Below.size hb1; (try simp at q0); have q1 := Below.size hb2; (try simp at q1); (try simp); omega)))))
variable {l : List Int} {r : List UInt8} (hF : F ≤ 4) (hr : rdN F (p.drop T) = some (l, r))
include hF hr
theorem msg_Decode_g0n (hg : gr = 0) (hd : dt ≠ -1) (hd2 : (r.length : Int) ≠ dt) : Calls Try.prog 16 #[.int .i64 k, .slice pa p.length pc] w (DecR k p w) := by
  have HN := Lib.hid (show NoM k p from noM hs (fun ⟨_, _, l', r', q, q2⟩ => by
    simp only [Int.toNat_natCast] at q
    rw [hr] at q
    injection q with q
    injection q with q q'
    subst q'
    rcases q2 with ⟨_, q2⟩ | ⟨q2, _⟩
    · unfold DatOk at q2; simp only at q2; omega
    · simp only at q2; omega))
  subst hg
  have z1 : decide (200 < p.length) = false := decide_eq_false (by omega)
  have i1 : (p.length : Int) ≤ 200 := by omega
  have z2 : decide (p.length < T) = false := decide_eq_false (by omega)
  have z3 : (dt != -1) = true := by rw [bne_iff_ne]; exact hd
  obtain ⟨R, hR⟩ : ∃ R, Hid (R = r.length) := ⟨_, Lib.hid rfl⟩
  have z4 : ((R : Int) != dt) = true := by rw [bne_iff_ne, hR.out]; exact hd2
  obtain ⟨brest, nrest⟩ := byt_rest hb hc ht hnil
  obtain ⟨ra, hra⟩ : ∃ ra, (if pc = T then pa else Option.map (fun x => x.add T) pa) = ra := ⟨_, rfl⟩
  rw [hra] at brest nrest
  have hld : (p.drop T).length = p.length - T := List.length_drop
  have HL := Lib.hid hld
  have HR := Lib.hid hr
  clear hld hr hd hd2
  go_enter Try.func16, Try.ntmps16
  go_wp2_with (first | (go_at_call 31; (with_reducible refine (msg_shapeOfE _ h1 h2 hs).mono ?_); rintro e w1 ⟨rfl, hb1⟩; (have bR := (Blk.new w 27 #[.int .i64 0, .slice none 0 0, .slice none 0 0, .slice none 0 0]).below hb1 (by simp)); (have lR := bR.lt)))
  go_quiet (fail)
  go_wp2_with (first | (go_at_call 32; (with_reducible refine (numbersY HR hR ra _ _ _ rfl _ (brest.below (by repeat (first | (with_reducible refine Below.setCell ?_ ?_ _) | (with_reducible refine Below.alloc ?_ ?_ _) | (with_reducible refine Below.drew ?_) | (with_reducible refine below_drewN ?_ _) | (with_reducible exact Below.refl _ _) | (with_reducible refine Below.trans ?_ (Below.mono hb1 ?_)) | (focus (simp; done)) | (focus (simp; omega)) | (focus omega) | (focus (have q0 := Below.size hb1; (try simp at q0); (try simp); omega)))) (Nat.le_refl _)) HL.out.symm (by omega) (by have := HL.out; omega) nrest (by omega)).mono ?_); rintro e w2 ⟨xa, xc, rb, rc, rfl, hrc, own2, sub2, nil2, hb2⟩; (have bR2 := ((bR.alloc _).drewN _).below hb2 (by simp; omega)); (have bS2 := ((Blk.new w1 56 #[.int .i64 T, .int .i64 F, .int .i64 0, .int .i64 lo, .int .i64 hi, .int .i64 dt]).drewN nq).below hb2 (by simp)); obtain ⟨m0, m1, m2, m3⟩ := bR2.four; obtain ⟨s0, s1, s2, s3, s4, s5⟩ := bS2.six; (have lR2 := bR2.lt); (have lS2 := bS2.lt); (have fR := bR2.frozen)))
  exact bodyPost_ret (v := .tuple #[.agg #[.int .i64 0, .slice none 0 0, .slice none 0 0, .slice none 0 0], .int .i64 6]) (by simp [results, Try.results16, go_sem, m0, m1, m2, m3]) rfl (DecR.no h1 h2 HN.out (by repeat (first | (with_reducible refine Below.setCell ?_ ?_ _) | (with_reducible refine Below.alloc ?_ ?_ _) | (with_reducible refine Below.drew ?_) | (with_reducible refine below_drewN ?_ _) | (with_reducible exact Below.refl _ _) | (with_reducible refine Below.trans ?_ (Below.mono hb1 ?_)) | (with_reducible refine Below.trans ?_ (Below.mono hb2 ?_)) | (focus (simp; done)) | (focus (simp; omega)) | (focus omega) | (focus (have q0 := Below.size hb1; (try simp at q0); have q1 := Below.size hb2; (try simp at q1); (try simp); omega)))))
theorem msg_Decode_g0y (hg : gr = 0) (hd : dt = -1 ∨ (r.length : Int) = dt) : Calls Try.prog 16 #[.int .i64 k, .slice pa p.length pc] w (DecR k p w) := by
  have HY := Lib.hid (dec_no_groups (p := p) (l := l) (r := r) h1 h2 hs (by rw [← hs]; exact shpOf_ok k) hg (by omega) (by simp only; omega) (by simpa using hr) hd)
  simp only [Int.toNat_natCast] at HY
  subst hg
  have HM := Lib.hid HY.out.1.lens
  have hrl : r.length ≤ 1000000 := HM.out.2.2
  have hll : l.length = F := (rdN_only _ _ _ _ hr).1
  have btok := hb.take T
  have htl : (p.take T).length = T := by rw [List.length_take]; omega
  have HT := Lib.hid htl
  have HLL := Lib.hid hll
  have ntok : pa = none → T = 0 ∧ pc = 0 := fun h => by have := hnil h; omega
  have z1 : decide (200 < p.length) = false := decide_eq_false (by omega)
  have i1 : (p.length : Int) ≤ 200 := by omega
  have z2 : decide (p.length < T) = false := decide_eq_false (by omega)
  obtain ⟨R, hR⟩ : ∃ R, Hid (R = r.length) := ⟨_, Lib.hid rfl⟩
  obtain ⟨brest, nrest⟩ := byt_rest hb hc ht hnil
  obtain ⟨ra, hra⟩ : ∃ ra, (if pc = T then pa else Option.map (fun x => x.add T) pa) = ra := ⟨_, rfl⟩
  rw [hra] at brest nrest
  have hld : (p.drop T).length = p.length - T := List.length_drop
  have HL := Lib.hid hld
  have HR := Lib.hid hr
  have hrR : R ≤ 1000000 := by have := hR.out; omega
  have HRL := Lib.hid hrl
  clear hld hr htl hll hrl
  rcases dat_ok hd with ⟨q, z3⟩ | ⟨q, z3, z4⟩
  all_goals
    (try rw [← hR.out] at z4)
    clear hd q
    go_enter Try.func16, Try.ntmps16
    go_wp2_with (first | (go_at_call 31; (with_reducible refine (msg_shapeOfE _ h1 h2 hs).mono ?_); rintro e w1 ⟨rfl, hb1⟩; (have bR := (Blk.new w 27 #[.int .i64 0, .slice none 0 0, .slice none 0 0, .slice none 0 0]).below hb1 (by simp)); (have lR := bR.lt)))
    go_quiet (fail)
    go_wp2_with (first | (go_at_call 32; (with_reducible refine (numbersY HR hR ra _ _ _ rfl _ (brest.below (by repeat (first | (with_reducible refine Below.setCell ?_ ?_ _) | (with_reducible refine Below.alloc ?_ ?_ _) | (with_reducible refine Below.drew ?_) | (with_reducible refine below_drewN ?_ _) | (with_reducible exact Below.refl _ _) | (with_reducible refine Below.trans ?_ (Below.mono hb1 ?_)) | (focus (simp; done)) | (focus (simp; omega)) | (focus omega) | (focus (have q0 := Below.size hb1; (try simp at q0); (try simp); omega)))) (Nat.le_refl _)) HL.out.symm (by omega) (by have := HL.out; omega) nrest (by omega)).mono ?_); rintro e w2 ⟨xa, xc, rb, rc, rfl, hrc, own2, sub2, nil2, hb2⟩; (have own2 := own2.mono (show w.heap.size + 1 ≤ _ by simp; omega)); (have bR2 := ((bR.alloc _).drewN _).below hb2 (by simp; omega)); (have bS2 := ((Blk.new w1 56 #[.int .i64 T, .int .i64 F, .int .i64 0, .int .i64 lo, .int .i64 hi, .int .i64 dt]).drewN nq).below hb2 (by simp)); obtain ⟨m0, m1, m2, m3⟩ := bR2.four; obtain ⟨s0, s1, s2, s3, s4, s5⟩ := bS2.six; (have lR2 := bR2.lt); (have lS2 := bS2.lt); (have fR := bR2.frozen); (have be2 : RowKit.Below w.heap.size w w2 := (by repeat (first | (with_reducible refine Below.setCell ?_ ?_ _) | (with_reducible refine Below.alloc ?_ ?_ _) | (with_reducible refine Below.drew ?_) | (with_reducible refine below_drewN ?_ _) | (with_reducible exact Below.refl _ _) | (with_reducible refine Below.trans ?_ (Below.mono hb1 ?_)) | (with_reducible refine Below.trans ?_ (Below.mono hb2 ?_)) | (focus (simp; done)) | (focus (simp; omega)) | (focus omega) | (focus (have q0 := Below.size hb1; (try simp at q0); have q1 := Below.size hb2; (try simp at q1); (try simp); omega))))); (have brb := sub2 w brest)) | (go_at_call 33; (with_reducible refine (clone_E pa T pc (p.take T) _ (btok.below (by repeat (first | (with_reducible refine Below.setCell ?_ ?_ _) | (with_reducible refine Below.alloc ?_ ?_ _) | (with_reducible refine Below.drew ?_) | (with_reducible refine below_drewN ?_ _) | (with_reducible exact Below.refl _ _) | (with_reducible refine Below.trans ?_ (Below.mono be2 ?_)) | (focus (simp; done)) | (focus (simp; omega)) | (focus omega) | (focus (have q0 := Below.size be2; (try simp at q0); (try simp); omega)))) (Nat.le_refl _)) HT.out.symm (by have := HT.out; omega) ntok).mono ?_); rintro e w5 ⟨ta, tc, rfl, own5, hb5⟩; (have be5 : RowKit.Below w.heap.size w w5 := (by repeat (first | (with_reducible refine Below.setCell ?_ ?_ _) | (with_reducible refine Below.alloc ?_ ?_ _) | (with_reducible refine Below.drew ?_) | (with_reducible refine below_drewN ?_ _) | (with_reducible exact Below.refl _ _) | (with_reducible refine Below.trans ?_ (Below.mono be2 ?_)) | (with_reducible refine Below.trans ?_ (Below.mono hb5 ?_)) | (focus (simp; done)) | (focus (simp; omega)) | (focus omega) | (focus (have q0 := Below.size be2; (try simp at q0); have q1 := Below.size hb5; (try simp at q1); (try simp); omega))))); (have bR5 := bR2.below hb5 bR2.lt)) | (go_at_call 33; (with_reducible refine (clone_E rb R rc r _ (brb.below be5 (Nat.le_refl _)) hR.out (by have := HRL.out; omega) nil2).mono ?_); rintro e w6 ⟨da, dc, rfl, own6, hb6⟩; (have be6 : RowKit.Below w.heap.size w w6 := (by repeat (first | (with_reducible refine Below.setCell ?_ ?_ _) | (with_reducible refine Below.alloc ?_ ?_ _) | (with_reducible refine Below.drew ?_) | (with_reducible refine below_drewN ?_ _) | (with_reducible exact Below.refl _ _) | (with_reducible refine Below.trans ?_ (Below.mono be5 ?_)) | (with_reducible refine Below.trans ?_ (Below.mono hb6 ?_)) | (focus (simp; done)) | (focus (simp; omega)) | (focus omega) | (focus (have q0 := Below.size be5; (try simp at q0); have q1 := Below.size hb6; (try simp at q1); (try simp); omega))))); (have bR6 := bR5.below hb6 bR5.lt); obtain ⟨y0, y1, y2, y3⟩ := bR6.four; (have lR6 := bR6.lt); (have fR6 := bR6.frozen)))
    refine bodyPost_ret (v := .tuple #[.agg #[.int .i64 k, .slice ta T tc, .slice xa F xc, .slice da R dc], .int .i64 0]) (by simp [results, Try.results16, go_sem, y0, y1, y2, y3]) rfl ?_
    have o2 := (own2.below hb5 (Nat.le_refl _)).below hb6 (Nat.le_refl _)
    have o5 := own5.below hb6 (Nat.le_refl _)
    have s2 := hb1.size
    have s5 := hb2.size
    have s6 := hb5.size
    simp at s2 s5
    refine DecR.yes HY.out rfl HT.out.symm HLL.out.symm hR.out ⟨Row.far4 o5.byt (fun b h => ?_) _ _ _ _, Row.far4 o2.row (fun b h => ?_) _ _ _ _, Row.far4 own6.byt (fun b h => ?_) _ _ _ _, fun h => by have := o5.none_len h; have := HT.out; simp only; omega, HM.out⟩ (by repeat (first | (with_reducible refine Below.setCell ?_ ?_ _) | (with_reducible refine Below.alloc ?_ ?_ _) | (with_reducible refine Below.drew ?_) | (with_reducible refine below_drewN ?_ _) | (with_reducible exact Below.refl _ _) | (with_reducible refine Below.trans ?_ (Below.mono be6 ?_)) | (focus (simp; done)) | (focus (simp; omega)) | (focus omega) | (focus (have q0 := Below.size be6; (try simp at q0); (try simp); omega))))
    · have := o5.base_le b h; omega
    · have := o2.base_le b h; omega
    · have := own6.base_le b h; omega
end
end Go.Proofs.Ythkoijgobigdnaa
