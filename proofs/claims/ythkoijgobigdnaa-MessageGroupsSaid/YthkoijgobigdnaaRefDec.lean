/- signalbrokerref05.Decode -/
import Derived.Test.YthkoijgobigdnaaRefNum
import Derived.Test.YthkoijgobigdnaaBack
import Derived.Deep.DeepCutAuto
namespace Go.Proofs.Ythkoijgobigdnaa
open Go.RowKit Go.Sort
set_option maxRecDepth 100000

theorem boolOf_bool (b : Bool) : boolOf (.bool b) = some b := rfl
attribute [go_sem] boolOf_bool
/-- what the reference's numbers hands back, as its readers meet it -/
theorem refNumY {n : Nat} {b : List UInt8} {l : List Int} {r : List UInt8} {R : Nat} (h : Hid (rdN n b = some (l, r))) (hR : Hid (R = r.length)) (a : Option Addr) (m c : Nat) (N : Int) (hN : N = n) (w : World) (hb : Byt w a b) (hm : m = b.length) (hc : m ≤ c) (hl : b.length ≤ 1000000) (hnil : a = none → m = 0 ∧ c = 0) (hn : n ≤ 1000) :
    Calls Try.prog 35 #[.slice a m c, .int .i64 N] w (NumY n R l a b r w) := by
  subst hN
  refine (ref05_numbers n a b m c w hb hm hc hl hnil hn).mono fun e w' h' => ?_
  rcases h' with ⟨l', r', xa, xc, ra, rn, rc, h1, h2, h3, h4, h5, h6, h7, h8⟩ | ⟨h1, _⟩
  · rw [h.out] at h1
    injection h1 with h1
    injection h1 with e1 e2
    subst e1 e2
    rw [hR.out]
    subst h3
    exact ⟨xa, xc, ra, rc, h2, h4, h5, h6, h7, h8⟩
  · rw [h.out] at h1; cases h1
theorem refNumN {n : Nat} {b : List UInt8} (h : Hid (rdN n b = none)) (a : Option Addr) (m c : Nat) (N : Int) (hN : N = n) (w : World) (hb : Byt w a b) (hm : m = b.length) (hc : m ≤ c) (hl : b.length ≤ 1000000) (hnil : a = none → m = 0 ∧ c = 0) (hn : n ≤ 1000) :
    Calls Try.prog 35 #[.slice a m c, .int .i64 N] w fun e w' => e = .returned (.tuple #[.slice none 0 0, .slice none 0 0, .bool false]) ∧ Below w.heap.size w w' := by
  subst hN
  refine (ref05_numbers n a b m c w hb hm hc hl hnil hn).mono fun e w' h' => ?_
  rcases h' with ⟨l', r', xa, xc, ra, rn, rc, h1, _⟩ | ⟨_, h2, h3⟩
  · rw [h.out] at h1; cases h1
  · exact ⟨h2, h3⟩
theorem refNum1 {b : List UInt8} {x : Int} {r : List UInt8} {R : Nat} (h : Hid (rdN 1 b = some ([x], r))) (hR : Hid (R = r.length)) (a : Option Addr) (m c : Nat) (w : World) (hb : Byt w a b) (hm : m = b.length) (hc : m ≤ c) (hl : b.length ≤ 1000000) (hnil : a = none → m = 0 ∧ c = 0) :
    Calls Try.prog 35 #[.slice a m c, .int .i64 1] w (Num1 R x a b r w) :=
  (refNumY h hR a m c 1 rfl w hb hm hc hl hnil (by omega)).mono fun e w' ⟨xa, xc, ra, rc, h1, h2, h3, h4, h5, h6⟩ => by
    obtain ⟨g, rfl, g1, g2⟩ := h3.open_ (by omega)
    exact ⟨g, xc, ra, rc, h1, h2, by have := h3.cell 0 (by simp); simpa [encI] using this, g1, g2, h3.cap_le, h4, h5, h6⟩
theorem refNumN1 {b : List UInt8} (h : Hid (rdN 1 b = none)) (a : Option Addr) (m c : Nat) (w : World) (hb : Byt w a b) (hm : m = b.length) (hc : m ≤ c) (hl : b.length ≤ 1000000) (hnil : a = none → m = 0 ∧ c = 0) :
    Calls Try.prog 35 #[.slice a m c, .int .i64 1] w fun e w' => e = .returned (.tuple #[.slice none 0 0, .slice none 0 0, .bool false]) ∧ Below w.heap.size w w' := refNumN h a m c 1 rfl w hb hm hc hl hnil (by omega)
theorem forSrv_T {k : Int} {s : Shp} (h1 : 1 ≤ k) (h2 : k ≤ 22) (hs : shpOf k = s) : (forSrv k = true ∧ s.tok = 10) ∨ (forSrv k = false ∧ s.tok = 0) := by
  have := shpOf_tok h1 h2
  rw [hs] at this
  unfold forSrv
  by_cases h : k ≤ 12
  · left; simp [h1, h, this]
  · right; simp [h, this]

/-- behind the token -/
structure DecMid (w W : World) (J : Nat) (k : Int) (T F : Nat) (gr lo hi dt : Int) (pa : Option Addr) (p : List UInt8) (ra : Option Addr) (rc : Nat) (ta : Option Addr) (tc : Nat) : Prop where
  res : Blk W w.heap.size 27 #[.int .i64 0, .slice none 0 0, .slice none 0 0, .slice none 0 0]
  shp : Blk W J 63 #[.int .i64 F, .int .i64 gr, .int .i64 lo, .int .i64 hi, .int .i64 dt]
  msg : Blk W (J + 1) 27 #[.int .i64 k, .slice ta T tc, .slice none 0 0, .slice none 0 0]
  tok : Own W (J + 2) 5 1 ta T tc ((p.take T).map encB)
  sub : ∀ w0 : World, Byt w0 pa p → Byt w0 ra (p.drop T)
  cap : p.length - T ≤ rc
  nil : ra = none → p.length - T = 0 ∧ rc = 0
  be : RowKit.Below w.heap.size w W

section
variable {w W W' : World} {J : Nat} {k : Int} {T F : Nat} {gr lo hi dt : Int} {pa : Option Addr} {p : List UInt8} {ra : Option Addr} {rc : Nat} {ta : Option Addr} {tc : Nat}
theorem DecMid.below (h : DecMid w W J k T F gr lo hi dt pa p ra rc ta tc) (hb : RowKit.Below W.heap.size W W') : DecMid w W' J k T F gr lo hi dt pa p ra rc ta tc :=
  ⟨h.res.below hb h.res.lt, h.shp.below hb h.shp.lt, h.msg.below hb h.msg.lt, h.tok.below hb (Nat.le_refl _), h.sub, h.cap, h.nil, h.be.trans (hb.mono h.be.size)⟩
end
/-- behind the first numbers -/
structure DecMid2 (w W : World) (J : Nat) (k : Int) (T F : Nat) (gr lo hi dt : Int) (pa : Option Addr) (p : List UInt8) (ra : Option Addr) (R rc : Nat) (r : List UInt8) (ta : Option Addr) (tc : Nat) (xa : Option Addr) (A xc : Nat) (al : List Int) : Prop where
  res : Blk W w.heap.size 27 #[.int .i64 0, .slice none 0 0, .slice none 0 0, .slice none 0 0]
  shp : Blk W J 63 #[.int .i64 F, .int .i64 gr, .int .i64 lo, .int .i64 hi, .int .i64 dt]
  msg : Blk W (J + 1) 27 #[.int .i64 k, .slice ta T tc, .slice xa A xc, .slice none 0 0]
  tok : Own W (J + 2) 5 1 ta T tc ((p.take T).map encB)
  args : Own W (J + 2) 3 1 xa A xc (al.map encI)
  sub : ∀ w0 : World, Byt w0 pa p → Byt w0 ra r
  len : R = r.length
  cap : R ≤ rc
  nil : ra = none → R = 0 ∧ rc = 0
  be : RowKit.Below w.heap.size w W
section
variable {w W W' : World} {J : Nat} {k : Int} {T F : Nat} {gr lo hi dt : Int} {pa : Option Addr} {p : List UInt8} {ra : Option Addr} {R rc : Nat} {r : List UInt8} {ta : Option Addr} {tc : Nat} {xa : Option Addr} {A xc : Nat} {al : List Int}
theorem DecMid2.below (h : DecMid2 w W J k T F gr lo hi dt pa p ra R rc r ta tc xa A xc al) (hb : RowKit.Below W.heap.size W W') : DecMid2 w W' J k T F gr lo hi dt pa p ra R rc r ta tc xa A xc al :=
  ⟨h.res.below hb h.res.lt, h.shp.below hb h.shp.lt, h.msg.below hb h.msg.lt, h.tok.below hb (Nat.le_refl _), h.args.below hb (Nat.le_refl _), h.sub, h.len, h.cap, h.nil, h.be.trans (hb.mono h.be.size)⟩
/-- the arguments are stored -/
theorem DecMid.args (h : DecMid w W J k T F gr lo hi dt pa p ra rc ta tc) (hJ : w.heap.size < J) {W2 : World} (hb : RowKit.Below W.heap.size W W2) {rb : Option Addr} {R rd : Nat} (own : Own W2 W.heap.size 3 1 xa A xc (al.map encI)) (sub : ∀ w0 : World, Byt w0 ra (p.drop T) → Byt w0 rb r) (hl : R = r.length) (hc : R ≤ rd) (hn : rb = none → R = 0 ∧ rd = 0) :
    DecMid2 w (W2.setCell ⟨J + 1, 2, none⟩ (.slice xa A xc)) J k T F gr lo hi dt pa p rb R rd r ta tc xa A xc al := by
  have hl1 := h.msg.lt
  have q := h.below hb
  exact ⟨q.res.far (by simp only; omega) _, q.shp.far (by simp only; omega) _, q.msg.set 2 _, q.tok.far (fun e => by have := q.tok.base_le _ e; simp only at this; omega) _, (own.mono (by omega)).far (fun e => by have := own.base_le _ e; simp only at this; omega) _, fun w0 h0 => sub w0 (h.sub w0 h0), hl, hc, hn, (by repeat (first | (with_reducible refine Below.setCell ?_ ?_ _) | (with_reducible refine Below.alloc ?_ ?_ _) | (with_reducible refine Below.drew ?_) | (with_reducible refine below_drewN ?_ _) | (with_reducible exact Below.refl _ _) | (with_reducible refine Below.trans ?_ (Below.mono q.be ?_)) | (focus (simp; done)) | (focus (simp; omega)) | (focus omega) | (focus (have q0 := Below.size q.be; (try simp at q0); (try simp); omega))))⟩
end
/-- the message in memory, whole -/
structure DecFin (w W : World) (J : Nat) (m : Msg) (T A R : Nat) (ta : Option Addr) (tc : Nat) (aa : Option Addr) (ac : Nat) (da : Option Addr) (dc : Nat) : Prop where
  res : Blk W w.heap.size 27 #[.int .i64 0, .slice none 0 0, .slice none 0 0, .slice none 0 0]
  msg : Blk W (J + 1) 27 #[.int .i64 m.kind, .slice ta T tc, .slice aa A ac, .slice da R dc]
  tok : Own W (J + 2) 5 1 ta T tc (m.tok.map encB)
  args : Own W (J + 2) 3 1 aa A ac (m.args.map encI)
  dat : Own W (J + 2) 5 1 da R dc (m.dat.map encB)
  be : RowKit.Below w.heap.size w W
section
variable {w W W' : World} {J : Nat} {m : Msg} {T A R : Nat} {ta aa da : Option Addr} {tc ac dc : Nat}
theorem DecFin.below (h : DecFin w W J m T A R ta tc aa ac da dc) (hb : RowKit.Below W.heap.size W W') : DecFin w W' J m T A R ta tc aa ac da dc :=
  ⟨h.res.below hb h.res.lt, h.msg.below hb h.msg.lt, h.tok.below hb (Nat.le_refl _), h.args.below hb (Nat.le_refl _), h.dat.below hb (Nat.le_refl _), h.be.trans (hb.mono h.be.size)⟩
theorem DecFin.at (h : DecFin w W J m T A R ta tc aa ac da dc) (hl : m.tok.length ≤ 1000000 ∧ m.args.length ≤ 1000000 ∧ m.dat.length ≤ 1000000) : MsgAt W m ta tc aa da :=
  ⟨h.tok.byt, h.args.ints, h.dat.byt, fun e => by have := h.tok.none_len e; have := h.tok.lenB; omega, hl⟩
theorem DecMid2.fin {k : Int} {F : Nat} {gr lo hi dt : Int} {pa : Option Addr} {p : List UInt8} {ra : Option Addr} {rc : Nat} {al : List Int} {r3 : List UInt8} (h : DecMid2 w W J k T F gr lo hi dt pa p ra R rc r3 ta tc aa A ac al) (hJ : w.heap.size < J) {W2 : World} (hb : RowKit.Below W.heap.size W W2) (own : Own W2 W.heap.size 5 1 da R dc (r3.map encB)) :
    DecFin w (W2.setCell ⟨J + 1, 3, none⟩ (.slice da R dc)) J ⟨k, p.take T, al, r3⟩ T A R ta tc aa ac da dc := by
  have hl1 := h.msg.lt
  have q := h.below hb
  exact ⟨q.res.far (by simp only; omega) _, q.msg.set 3 _, q.tok.far (fun e => by have := q.tok.base_le _ e; simp only at this; omega) _, q.args.far (fun e => by have := q.args.base_le _ e; simp only at this; omega) _, (own.mono (by omega)).far (fun e => by have := own.base_le _ e; simp only at this; omega) _, (by repeat (first | (with_reducible refine Below.setCell ?_ ?_ _) | (with_reducible refine Below.alloc ?_ ?_ _) | (with_reducible refine Below.drew ?_) | (with_reducible refine below_drewN ?_ _) | (with_reducible exact Below.refl _ _) | (with_reducible refine Below.trans ?_ (Below.mono q.be ?_)) | (focus (simp; done)) | (focus (simp; omega)) | (focus omega) | (focus (have q0 := Below.size q.be; (try simp at q0); (try simp); omega))))⟩
end
theorem ref05_ValidY (m : Msg) (ta : Option Addr) (tc : Nat) (aa da : Option Addr) (ac dc : Nat) (w : World) (hok : m.Ok) (hat : MsgAt w m ta tc aa da) {k : Int} {tn an dn : Nat} (e0 : k = m.kind) (e1 : tn = m.tok.length) (e2 : an = m.args.length) (e3 : dn = m.dat.length) :
    Calls Try.prog 25 #[.agg #[.int .i64 k, .slice ta tn tc, .slice aa an ac, .slice da dn dc]] w fun e w' => e = .returned (.bool true) ∧ Below w.heap.size w w' := by
  subst e0
  exact (ref05_Valid m ta tc aa da ac dc w hat e1 e2 e3).mono fun e w' h => ⟨h.1.elim (fun h => h.2) (fun h => absurd hok h.1), h.2⟩
theorem ref05_ValidN (m : Msg) (ta : Option Addr) (tc : Nat) (aa da : Option Addr) (ac dc : Nat) (w : World) (hok : ¬ m.Ok) (hat : MsgAt w m ta tc aa da) {k : Int} {tn an dn : Nat} (e0 : k = m.kind) (e1 : tn = m.tok.length) (e2 : an = m.args.length) (e3 : dn = m.dat.length) :
    Calls Try.prog 25 #[.agg #[.int .i64 k, .slice ta tn tc, .slice aa an ac, .slice da dn dc]] w fun e w' => e = .returned (.bool false) ∧ Below w.heap.size w w' := by
  subst e0
  exact (ref05_Valid m ta tc aa da ac dc w hat e1 e2 e3).mono fun e w' h => ⟨h.1.elim (fun h => absurd h.1 hok) (fun h => h.2), h.2⟩
theorem ref05_payloadE (m : Msg) (ta : Option Addr) (tc : Nat) (aa da : Option Addr) (ac dc : Nat) (w : World) (hok : m.Ok) (hat : MsgAt w m ta tc aa da) {k : Int} {tn an dn n : Nat} (e0 : k = m.kind) (e1 : tn = m.tok.length) (e2 : an = m.args.length) (e3 : dn = m.dat.length) (hn : n = m.pay.length) :
    Calls Try.prog 30 #[.agg #[.int .i64 k, .slice ta tn tc, .slice aa an ac, .slice da dn dc]] w fun e w' => ∃ a c, e = .returned (.slice a n c) ∧ Own w' w.heap.size 5 1 a n c (m.pay.map encB) ∧ Below w.heap.size w w' := by
  subst e0 e1 e2 e3
  refine (ref05_payload m ta tc aa da ac dc w hok hat).mono fun e w' ⟨a, n', c, h1, h2, h3, h4⟩ => ?_
  obtain rfl : n = n' := by omega
  exact ⟨a, c, h1, h3, h4⟩
/-- the way that ends well -/
def RdPath (s : Shp) (l : List Int) (r : List UInt8) (al : List Int) (r3 : List UInt8) : Prop :=
  (s.grp = 0 ∧ al = l ∧ r3 = r) ∨ (0 < s.grp ∧ ∃ x r2 m2, rdN 1 r = some ([x], r2) ∧ x ≤ s.hi ∧ 0 ≤ x ∧ rdN (x * s.grp).toNat r2 = some (m2, r3) ∧ al = l ++ m2)
theorem dec_uniq {k : Int} {s : Shp} (hs : shpOf k = s) {p : List UInt8} {l : List Int} {r : List UInt8} (hr : rdN s.fix.toNat (p.drop s.tok.toNat) = some (l, r)) {al : List Int} {r3 : List UInt8} (hp : RdPath s l r al r3) {m : Msg} (hm : m.Ok) (hk : m.kind = k) (hpay : m.pay = p) : m = ⟨k, p.take s.tok.toNat, al, r3⟩ := by
  subst hk hpay
  obtain ⟨-, -, a3, -, l', m2, r', a5, a6, a7⟩ := dec_back hm hs
  rw [hr] at a6
  injection a6 with a6
  injection a6 with e1 e2
  subst e1 e2
  have key : m.args = al ∧ m.dat = r3 := by
    rcases hp with ⟨g0, rfl, rfl⟩ | ⟨g0, x, r2, m3, b1, -, -, b2, rfl⟩
    · rcases a7 with ⟨-, rfl, c⟩ | ⟨c, -⟩
      · exact ⟨by rw [a5, List.append_nil], c.symm⟩
      · omega
    · rcases a7 with ⟨c, -⟩ | ⟨-, y, -, -, -, c1, c2⟩
      · omega
      · rw [b1] at c1
        injection c1 with c1
        injection c1 with c1 c3
        injection c1 with c1 _
        subst c1 c3
        rw [b2] at c2
        injection c2 with c2
        injection c2 with c2 c3
        exact ⟨by rw [a5, c2], c3.symm⟩
  obtain ⟨k, tok, args, dat⟩ := m
  simp only at a3 key
  obtain ⟨rfl, rfl⟩ := key
  simp only [a3]
/-- no way that ends well: no message -/
theorem dec_path {k : Int} {s : Shp} (hs : shpOf k = s) {p : List UInt8} (h : ¬ ∃ l r al r3, rdN s.fix.toNat (p.drop s.tok.toNat) = some (l, r) ∧ RdPath s l r al r3) : NoM k p := by
  refine noM hs fun ⟨_, _, l, r, h1, h2⟩ => h ?_
  rcases h2 with ⟨g0, -⟩ | ⟨g0, x, r2, b1, b2, b3, m, r3, b4, -⟩
  · exact ⟨l, r, _, _, h1, .inl ⟨g0, rfl, rfl⟩⟩
  · obtain ⟨y, e, y0, -⟩ := rd1 b1
    injection e with e _
    exact ⟨l, r, _, _, h1, .inr ⟨g0, x, r2, m, b1, b3, by omega, b4, rfl⟩⟩

section
variable (k : Int) (pa : Option Addr) (p : List UInt8) (pc : Nat) (w : World)
theorem ref05_Decode_kind (hk : k < 1 ∨ 22 < k) : Calls Try.prog 17 #[.int .i64 k, .slice pa p.length pc] w (DecR k p w) := by
  have HK := Lib.hid hk
  rcases hk with h1 | h1
  all_goals
    go_enter Try.func17, Try.ntmps17
    go_wp2_with fail
    exact bodyPost_ret (v := .tuple #[.agg #[.int .i64 0, .slice none 0 0, .slice none 0 0, .slice none 0 0], .int .i64 5]) (by simp [results, Try.results17, go_sem]) rfl ⟨.inr (.inr ⟨HK.out, rfl⟩), (by repeat (first | (with_reducible refine Below.setCell ?_ ?_ _) | (with_reducible refine Below.alloc ?_ ?_ _) | (with_reducible refine Below.drew ?_) | (with_reducible refine below_drewN ?_ _) | (with_reducible exact Below.refl _ _) | (focus (simp; done)) | (focus (simp; omega)) | (focus omega)))⟩
variable {T F : Nat} {gr lo hi dt : Int} (h1 : 1 ≤ k) (h2 : k ≤ 22) (hs : shpOf k = ⟨T, F, gr, lo, hi, dt⟩)
include h1 h2 hs
theorem ref05_Decode_tok (ht : p.length < T) : Calls Try.prog 17 #[.int .i64 k, .slice pa p.length pc] w (DecR k p w) := by
  have HN := Lib.hid (show NoM k p from noM hs (fun ⟨_, q, _⟩ => by simp only at q; omega))
  rcases forSrv_T h1 h2 hs with ⟨f1, f2⟩ | ⟨f1, f2⟩
  · simp only at f2
    have z : decide (p.length < 10) = true := decide_eq_true (by omega)
    go_enter Try.func17, Try.ntmps17
    go_wp2_with (first | (go_at_call 34; (with_reducible refine (ref05_ofE _ h1 h2 hs).mono ?_); rintro e w1 ⟨rfl, hb1⟩; (have bR := (Blk.new w 27 #[.int .i64 0, .slice none 0 0, .slice none 0 0, .slice none 0 0]).below hb1 (by simp)); obtain ⟨m0, m1, m2, m3⟩ := bR.four; (have lR := bR.lt); (have fR := bR.frozen)) | (go_at_call 26; (with_reducible refine (ref05_ForServerV f1 _).mono ?_); rintro e w' ⟨rfl, rfl⟩))
    exact bodyPost_ret (v := .tuple #[.agg #[.int .i64 0, .slice none 0 0, .slice none 0 0, .slice none 0 0], .int .i64 6]) (by simp [results, Try.results17, go_sem, m0, m1, m2, m3, lR]) rfl (DecR.no h1 h2 HN.out (by repeat (first | (with_reducible refine Below.setCell ?_ ?_ _) | (with_reducible refine Below.alloc ?_ ?_ _) | (with_reducible refine Below.drew ?_) | (with_reducible refine below_drewN ?_ _) | (with_reducible exact Below.refl _ _) | (with_reducible refine Below.trans ?_ (Below.mono hb1 ?_)) | (focus (simp; done)) | (focus (simp; omega)) | (focus omega) | (focus (have q0 := Below.size hb1; (try simp at q0); (try simp); omega)))))
  · simp only at f2
    omega
set_option maxHeartbeats 4000000 in
/-- the message's last step: data, validity, the payload -/
theorem ref05_Decode_main (hb : Byt w pa p) (hc : p.length ≤ pc) (hnil : pa = none → p.length = 0 ∧ pc = 0) (hp : p.length ≤ 1000) (ht : T ≤ p.length) (hF : F ≤ 4) : Calls Try.prog 17 #[.int .i64 k, .slice pa p.length pc] w (DecR k p w) := by
  have HB := Lib.hid hb
  obtain ⟨brest, nrest⟩ := byt_rest hb hc ht hnil
  clear hb
  go_enter Try.func17, Try.ntmps17
  obtain ⟨fb, hfb⟩ : ∃ fb, forSrv k = fb := ⟨_, rfl⟩
  have hT := forSrv_T h1 h2 hs
  rw [hfb] at hT
  simp only at hT
  have HT := Lib.hid hT
  clear hT
  go_upto_if 27 with (first | (go_at_call 34; (with_reducible refine (ref05_ofE _ h1 h2 hs).mono ?_); rintro e w1 ⟨rfl, hb1⟩; (have bR := (Blk.new w 27 #[.int .i64 0, .slice none 0 0, .slice none 0 0, .slice none 0 0]).below hb1 (by simp))) | (go_at_call 26; (with_reducible refine (ref05_ForServerV hfb _).mono ?_); rintro e w' ⟨rfl, rfl⟩))
  refine wp_named (fun W => DecMid w W w1.heap.size k 0 F gr lo hi dt pa p pa pc none 0 ∧ W.heap.size = w1.heap.size + 2) ⟨⟨(bR.alloc _).alloc _, (Blk.new _ _ _).alloc _, Blk.next _ _ _ _, Own.nil _ _ _ _, fun _ h => h, by omega, hnil, (by repeat (first | (with_reducible refine Below.setCell ?_ ?_ _) | (with_reducible refine Below.alloc ?_ ?_ _) | (with_reducible refine Below.drew ?_) | (with_reducible refine below_drewN ?_ _) | (with_reducible exact Below.refl _ _) | (with_reducible refine Below.trans ?_ (Below.mono hb1 ?_)) | (focus (simp; done)) | (focus (simp; omega)) | (focus omega) | (focus (have q0 := Below.size hb1; (try simp at q0); (try simp); omega))))⟩, by simp⟩ ?_
  rintro W ⟨mid, hWs⟩
  have hsz : w.heap.size + 1 ≤ w1.heap.size := by have := hb1.size; simp at this; omega
  clear bR
  go_cut [8] (fun s8 wx => ∃ ra rc ta tc, s8 = .slice ra ((p.length - T : Nat) : Int).toNat rc ∧ DecMid w wx w1.heap.size k T F gr lo hi dt pa p ra rc ta tc)
  case first =>
    rcases HT.out with ⟨rfl, f2⟩ | ⟨rfl, f2⟩
    · have eT : T = 10 := by omega
      have z : decide (p.length < 10) = false := decide_eq_false (by omega)
      go_upto_region 7 with fail
      subst eT
      clear f2 z hfb HT
      obtain ⟨pb, po, rfl, hpl⟩ : ∃ pb po, pa = some ⟨pb, po, none⟩ ∧ pb < w.heap.size := by
        rcases HB.out.open with e | ⟨b, off, rfl, hbl, -⟩
        · rw [e] at ht; simp at ht
        · exact ⟨b, off, rfl, hbl⟩
      obtain ⟨ra, hra⟩ : ∃ ra : Option Addr, (if pc = 10 then some ⟨pb, po, none⟩ else some ⟨pb, po + 10, none⟩) = ra := ⟨_, rfl⟩
      have HSUB : Hid (∀ w0 : World, Byt w0 (some ⟨pb, po, none⟩) p → Byt w0 ra (p.drop 10)) := Lib.hid fun w0 h0 => by
        rw [← hra]
        split
        · rw [List.drop_eq_nil_of_le (by omega)]; exact Byt.nil _ _
        · exact h0.drop 10
      have HRN : Hid (ra ≠ none) := Lib.hid (by rw [← hra]; split <;> simp)
      clear brest nrest
      have btk : Byt W (some ⟨pb, po, none⟩) (p.take 10) := (HB.out.below mid.be (Nat.le_refl _)).take 10
      have htl : (p.take 10).length = 10 := by rw [List.length_take]; omega
      have hln : p.length - 10 ≤ pc - 10 := by omega
      have i10 : (10 : Int) ≤ (p.length : Int) := by omega
      have ic : (p.length : Int) ≤ (pc : Int) := by omega
      have jc : (10 : Int) ≤ (pc : Int) := by omega
      apply wp_region_tab [((w1.heap.size+1), (w1.heap.size+2))] 8 109 [some 32, some 33, some 34, some 35, some 36, some 37, none, some 8] [⟨[8], [], [], []⟩, ⟨[0, 8], [0], [0], []⟩, ⟨[0, 1, 8], [1], [1], []⟩, ⟨[8], [], [], []⟩, ⟨[3, 8], [3], [3], []⟩, ⟨[0, 1, 2, 8], [], [], []⟩, ⟨[0, 1, 2, 5, 8], [2, 5, 8], [2, 5, 8], [8]⟩, ⟨[0, 1, 2, 3, 4, 5, 6, 8], [4], [4], []⟩, ⟨[], [], [], []⟩] [0, 1, 2, 3, 4, 5, 6, 7] [2, 6, 7] [psiTrue, psiTrue, (fun f lo hi v b0 b1 W => ∃ (a : Option Addr) (c : Nat), v = .slice a 10 c ∧ Own W b0 5 1 a 10 c ((p.take 10).map encB) ∧ ∀ q, a.map (·.block) = some q → q < b1), psiTrue, psiTrue, psiTrue, (fun f lo hi v b0 b1 W => ∃ (a : Option Addr) (c : Nat), f 2 = .slice a 10 c ∧ Blk W (w1.heap.size+1) 27 #[.int .i64 k, .slice a 10 c, .slice none 0 0, .slice none 0 0]), psiTrue, (fun f lo hi v b0 b1 W => (b0 = (w1.heap.size+1) ∧ b1 = (w1.heap.size+2)) ∧ Blk W (w1.heap.size+1) 27 #[.int .i64 k, .slice none 0 0, .slice none 0 0, .slice none 0 0])] [kVal _, kVal _, kTrue, kVal _, kVal _, kVal _, kTrue, kVal _]
      · kernel_rfl
      · kernel_rfl
      · rfl
      · rfl
      rotate_left 2
      refine ⟨?oR1_0, ?oR1_1, ?oR1_2, ?oR1_3, ?oR1_4, ?oR1_5, ?oR1_6, ?oR1_7, trivial⟩
      case hx => exact ⟨⟨by omega, by omega⟩, by simp, trivial⟩
      case hX => exact ⟨fun _ _ _ _ => ⟨⟨rfl, rfl⟩, mid.msg⟩, trivial⟩
      case oR1_0 => intro f lo hi w hb hx hf hk hrg R hR; (try replace hb := BelX.zero hb); (try simp (decide := true) only [go_sem] at hf); (try simp (decide := true) only [go_sem] at hk); go_simp; exact hR _ _ (rpost_val rfl rfl (Below.refl _ _) rfl)
      case oR1_1 => intro f lo hi w hb hx hf hk hrg R hR; (try replace hb := BelX.zero hb); (try simp (decide := true) only [go_sem] at hf); (try simp (decide := true) only [go_sem] at hk); go_simp; exact hR _ _ (rpost_val rfl rfl (Below.refl _ _) rfl)
      case oR1_2 =>
        intro f lo hi w hb hx hf hk hrg R hR; (try replace hb := BelX.zero hb); (try simp (decide := true) only [go_sem] at hf); (try simp (decide := true) only [go_sem] at hk)
        have hbw := hb.row btk (fun x hx q hq => by simp at hx hq; subst hx hq; simp only; omega)
        refine obl_appB w.heap.size none 0 0 [] ?_ (some ⟨pb, po, none⟩) 10 pc (p.take 10) ?_ (Own.nil _ _ _ _) hbw htl.symm 10 rfl (by omega) (Nat.le_refl _) ?_
        · go_simp
        · go_simp
        intro b2 c2 w2 own2 g2 bl2
        refine hR _ _ (rpost_none rfl g2.below0 ?_)
        (try simp (decide := true) only [go_sem])
        exact ⟨_, _, rfl, own2, own2.lt'⟩
      case oR1_3 => intro f lo hi w hb hx hf hk hrg R hR; (try replace hb := BelX.zero hb); (try simp (decide := true) only [go_sem] at hf); (try simp (decide := true) only [go_sem] at hk); go_simp; exact hR _ _ (rpost_val rfl rfl (Below.refl _ _) rfl)
      case oR1_4 => intro f lo hi w hb hx hf hk hrg R hR; (try replace hb := BelX.zero hb); (try simp (decide := true) only [go_sem] at hf); (try simp (decide := true) only [go_sem] at hk); go_simp; exact hR _ _ (rpost_val rfl rfl (Below.refl _ _) rfl)
      case oR1_5 => intro f lo hi w hb hx hf hk hrg R hR; (try replace hb := BelX.zero hb); (try simp (decide := true) only [go_sem] at hf); (try simp (decide := true) only [go_sem] at hk); go_simp; exact hR _ _ (rpost_val rfl rfl (Below.refl _ _) rfl)
      case oR1_6 =>
        intro f lo hi w hb hx hf hk hrg R hR; (try replace hb := BelX.zero hb); (try simp (decide := true) only [go_sem] at hf); (try simp (decide := true) only [go_sem] at hk)
        obtain ⟨⟨a, c, h12, -⟩, -, kb⟩ := hf
        have e0 := kb.cell 1
        have e1 := kb.frozen 1
        go_simp
        refine hR _ _ (rpost_some rfl rfl ?_ ?_)
        · refine ⟨rfl, rfl, rfl, by simp [World.setCell], fun q hq hne => Below.heap_setCell w _ _ q fun e => hne 8 (by simp) ?_⟩
          obtain ⟨q1, q2⟩ : lo 8 = w1.heap.size + 1 ∧ hi 8 = w1.heap.size + 1 + 1 := XOk.get _ _ hx 0 _ rfl
          simp only at e
          omega
        (try simp (decide := true) only [go_sem])
        exact ⟨a, c, h12, kb.set 1 _⟩
      case oR1_7 => intro f lo hi w hb hx hf hk hrg R hR; (try replace hb := BelX.zero hb); (try simp (decide := true) only [go_sem] at hf); (try simp (decide := true) only [go_sem] at hk); go_simp; exact hR _ _ (rpost_val rfl rfl (Below.refl _ _) rfl)
      case hcl =>
        refine ⟨Closed.true _ _ _ _, Closed.true _ _ _ _, ?cR1_2, Closed.true _ _ _ _, Closed.true _ _ _ _, Closed.true _ _ _ _, ?cR1_6, Closed.true _ _ _ _, ?cR1_8, trivial⟩
        · exact fun f lo hi z b0 b1 w w' h hs hB hown hU hX => by
            obtain ⟨a, c, h1, own, lt⟩ := h
            exact ⟨a, c, h1, own.keep fun b hb hl _ => hown b hl (lt b (by rw [hb]; rfl)), lt⟩
        · exact fun f lo hi v b0 b1 w w' h hs hB hown hU hX => by
            obtain ⟨a, c, h1, h2⟩ := h
            exact ⟨a, c, h1, (hX 0 _ rfl (by simp) _ (Nat.le_refl _) (Nat.lt_succ_self _)).trans h2⟩
        · exact fun f lo hi v b0 b1 w w' h hs hB hown hU hX => by
            obtain ⟨⟨rfl, rfl⟩, kb⟩ := h
            exact ⟨⟨rfl, rfl⟩, (hown _ (Nat.le_refl _) (Nat.lt_succ_self _)).trans kb⟩
      intro f lo hi W7 hbr hx hf hk hrg; (try replace hbr := BelX.zero hbr); clear hx; (try simp (decide := true) only [go_sem] at hf); (try simp (decide := true) only [go_sem] at hk)
      obtain ⟨⟨a, c, h34, own7, -⟩, a', c', h34', msg7⟩ := hf
      obtain ⟨rfl, rfl⟩ : a = a' ∧ c = c' := by
        rw [h34] at h34'
        injection h34' with e1 _ e2
        exact ⟨e1, e2⟩
      have h7 := hrg.out 2 (by simp)
      have hold : ∀ q, q < W.heap.size → q ≠ w1.heap.size + 1 → W7.heap[q]? = W.heap[q]? := fun q h1 h2 => hbr.2.2.2.2 q ⟨h1, fun r hr => by simp at hr; subst hr; simp only; omega⟩
      have mid7 : DecMid w W7 w1.heap.size k 10 F gr _ _ dt (some ⟨pb, po, none⟩) p ra (pc - 10) a c :=
        ⟨(hold _ mid.res.lt (by omega)).trans mid.res, (hold _ mid.shp.lt (by omega)).trans mid.shp, msg7, own7.mono (by omega), HSUB.out, by omega, fun h => absurd h HRN.out, ⟨hbr.1.trans mid.be.os, hbr.2.1.trans mid.be.tape, hbr.2.2.1.trans mid.be.output, Nat.le_trans mid.be.size hbr.2.2.2.1, fun q hq => (hold q (by omega) (by omega)).trans (mid.be.block q hq)⟩⟩
      clear hrg hbr hold h34 h34' own7 msg7 h7
      go_simp
      clear hk
      go_wp2_with fail
      go_meet
      exact ⟨ra, pc - 10, a, c, by simp, mid7⟩
    · have eT : T = 0 := by omega
      go_wp2_with fail
      go_meet
      subst eT
      exact ⟨pa, pc, none, 0, by simp, mid⟩
  case rest =>
    obtain ⟨ra, rc, ta, tc, rfl, mid⟩ := hcut
    rw [Int.toNat_natCast]
    have byr : Byt w ra (p.drop T) := mid.sub _ HB.out
    have HQ := Lib.hid (show p.length - T = (p.drop T).length by rw [List.length_drop])
    have hql : (p.drop T).length ≤ 1000000 := by rw [List.length_drop]; omega
    clear brest nrest hfb HT
    obtain ⟨s0, s1, s2, s3, s4, -, -⟩ := mid.shp.five
    obtain ⟨m0, m1, m2, m3⟩ := mid.msg.four
    have sl := mid.shp.lt
    have ml := mid.msg.lt
    cases hr : rdN F (p.drop T) with
    | none =>
      have HN := Lib.hid (show NoM k p from dec_path hs fun ⟨l, r, _, _, h, _⟩ => by simp only [Int.toNat_natCast] at h; rw [hr] at h; cases h)
      have HR := Lib.hid hr
      clear hr
      go_wp2_with (first | (go_at_call 35; (with_reducible refine (refNumN HR ra _ _ _ rfl _ (byr.below mid.be (Nat.le_refl _)) HQ.out mid.cap hql mid.nil (by omega)).mono ?_); rintro e w2 ⟨rfl, hb2⟩; (have mid2 := mid.below hb2); obtain ⟨r0, r1, r2, r3⟩ := mid2.res.four; (have lR := mid2.res.lt); (have fR := mid2.res.frozen)))
      exact bodyPost_ret (v := .tuple #[.agg #[.int .i64 0, .slice none 0 0, .slice none 0 0, .slice none 0 0], .int .i64 6]) (by simp [results, Try.results17, go_sem, r0, r1, r2, r3]) rfl (DecR.no h1 h2 HN.out (by repeat (first | (with_reducible refine Below.setCell ?_ ?_ _) | (with_reducible refine Below.alloc ?_ ?_ _) | (with_reducible refine Below.drew ?_) | (with_reducible refine below_drewN ?_ _) | (with_reducible exact Below.refl _ _) | (with_reducible refine Below.trans ?_ (Below.mono mid2.be ?_)) | (focus (simp; done)) | (focus (simp; omega)) | (focus omega) | (focus (have q0 := Below.size mid2.be; (try simp at q0); (try simp); omega)))))
    | some lr =>
      obtain ⟨l, r⟩ := lr
      obtain ⟨R, hR⟩ : ∃ R, Hid (R = r.length) := ⟨_, Lib.hid rfl⟩
      have hrl : r.length ≤ p.length - T := by
        have := congrArg List.length (rdN_only _ _ _ _ hr).2.1
        rw [List.length_append, ← HQ.out] at this
        omega
      have HRL := Lib.hid hrl
      have HR := Lib.hid hr
      clear hrl hr
      go_upto_if 53 with (first | (go_at_call 35; (with_reducible refine (refNumY HR hR ra _ _ _ rfl _ (byr.below mid.be (Nat.le_refl _)) HQ.out mid.cap hql mid.nil (by omega)).mono ?_); rintro e w2 ⟨xa, xc, rb, rd, rfl, hrd, own2, sub2, nil2, hb2⟩; (have mid2 := mid.below hb2); obtain ⟨s0, s1, s2, s3, s4, -, -⟩ := mid2.shp.five; (have sl := mid2.shp.lt); obtain ⟨m0, m1, m2, m3⟩ := mid2.msg.four; (have ml := mid2.msg.lt); (have mf := mid2.msg.frozen)))
      have hFl : Hid (F = l.length) := Lib.hid (rdN_only _ _ _ _ HR.out).1.symm
      refine wp_named (fun W => DecMid2 w W w1.heap.size k T F gr lo hi dt pa p rb R rd r ta tc xa F xc l) (mid.args hsz hb2 own2 sub2 hR.out hrd nil2) ?_
      rintro W2 mid3
      clear s0 s1 s2 s3 s4 sl m0 m1 m2 m3 ml mf mid2 hb2 own2 sub2 nil2 mid byr
      obtain ⟨s0, s1, s2, s3, s4, -, -⟩ := mid3.shp.five
      have sl := mid3.shp.lt
      by_cases hpth : ∃ al r3, RdPath ⟨T, F, gr, lo, hi, dt⟩ l r al r3
      case neg =>
        have HN := Lib.hid (show NoM k p from dec_path hs fun ⟨l', r', al, r3, h, h'⟩ => by simp only [Int.toNat_natCast] at h; rw [HR.out] at h; injection h with h; injection h with e1 e2; subst e1 e2; exact hpth ⟨_, _, h'⟩)
        have hgr : 0 < gr := by
          by_cases h0 : gr = 0
          · exact absurd ⟨_, _, .inl ⟨h0, rfl, rfl⟩⟩ hpth
          · have so := shpOf_ok k
            rw [hs] at so
            have := so.grp
            simp only at this
            omega
        have zg : decide (0 < gr) = true := decide_eq_true hgr
        have brb := mid3.sub _ HB.out
        have hRl : r.length ≤ 1000000 := by have := HRL.out; omega
        cases hr1 : rdN 1 r with
        | none =>
          have HR1 := Lib.hid hr1
          clear hr1 hpth
          go_wp2_with (first | (go_at_call 35; (with_reducible refine (refNumN1 HR1 rb _ _ _ (brb.below mid3.be (Nat.le_refl _)) mid3.len mid3.cap hRl mid3.nil).mono ?_); rintro e w3 ⟨rfl, hb3⟩; (have mid4 := mid3.below hb3); obtain ⟨r0, r1, r2', r3⟩ := mid4.res.four; (have lR := mid4.res.lt); (have fR := mid4.res.frozen)))
          go_quiet (fail)
          go_wp2
          exact bodyPost_ret (v := .tuple #[.agg #[.int .i64 0, .slice none 0 0, .slice none 0 0, .slice none 0 0], .int .i64 6]) (by simp [results, Try.results17, go_sem, r0, r1, r2', r3]) rfl (DecR.no h1 h2 HN.out (by repeat (first | (with_reducible refine Below.setCell ?_ ?_ _) | (with_reducible refine Below.alloc ?_ ?_ _) | (with_reducible refine Below.drew ?_) | (with_reducible refine below_drewN ?_ _) | (with_reducible exact Below.refl _ _) | (with_reducible refine Below.trans ?_ (Below.mono mid4.be ?_)) | (focus (simp; done)) | (focus (simp; omega)) | (focus omega) | (focus (have q0 := Below.size mid4.be; (try simp at q0); (try simp); omega)))))
        | some q =>
          obtain ⟨xl, r2⟩ := q
          obtain ⟨x, rfl, x0, x1⟩ := rd1 hr1
          obtain ⟨R2, hR2⟩ : ∃ R, Hid (R = r2.length) := ⟨_, Lib.hid rfl⟩
          have HR1 := Lib.hid hr1
          have hr2l : r2.length ≤ r.length := by
            have := congrArg List.length (rdN_only _ _ _ _ hr1).2.1
            rw [List.length_append] at this
            omega
          have HR2L := Lib.hid hr2l
          by_cases hx : hi < x
          · have zx : decide (hi < x) = true := decide_eq_true hx
            clear hr1 hpth hr2l
            go_wp2_with (first | (go_at_call 35; (with_reducible refine (refNum1 HR1 hR2 rb _ _ _ (brb.below mid3.be (Nat.le_refl _)) mid3.len mid3.cap hRl mid3.nil).mono ?_); rintro e w3 ⟨g, gc, rdd, rdc, rfl, hrdc, cx, g1, g2, gc1, sub3, nil3, hb3⟩; (have mid4 := mid3.below hb3); obtain ⟨s0, s1, s2, s3, s4, -, -⟩ := mid4.shp.five; (have sl := mid4.shp.lt); obtain ⟨r0, r1, r2', r3⟩ := mid4.res.four; (have lR := mid4.res.lt); (have fR := mid4.res.frozen)))
            go_quiet (fail)
            go_wp2
            exact bodyPost_ret (v := .tuple #[.agg #[.int .i64 0, .slice none 0 0, .slice none 0 0, .slice none 0 0], .int .i64 6]) (by simp [results, Try.results17, go_sem, r0, r1, r2', r3]) rfl (DecR.no h1 h2 HN.out (by repeat (first | (with_reducible refine Below.setCell ?_ ?_ _) | (with_reducible refine Below.alloc ?_ ?_ _) | (with_reducible refine Below.drew ?_) | (with_reducible refine below_drewN ?_ _) | (with_reducible exact Below.refl _ _) | (with_reducible refine Below.trans ?_ (Below.mono mid4.be ?_)) | (focus (simp; done)) | (focus (simp; omega)) | (focus omega) | (focus (have q0 := Below.size mid4.be; (try simp at q0); (try simp); omega)))))
          · have zx : decide (hi < x) = false := decide_eq_false hx
            have so := shpOf_ok k
            rw [hs] at so
            have g4 := so.grp.2
            have hi16 := so.hi.2.1
            simp only at g4 hi16
            have hxg : 0 ≤ x * gr := Int.mul_nonneg x0 (by omega)
            have hxg4 : x * gr ≤ 16 * 4 := Int.mul_le_mul (by omega) g4 (by omega) (by omega)
            obtain ⟨q, hq⟩ := Int.eq_ofNat_of_zero_le hxg
            have hr3 : rdN q r2 = none := by
              cases h : rdN q r2 with
              | none => rfl
              | some z =>
                obtain ⟨m2, r3⟩ := z
                exact absurd ⟨_, _, .inr ⟨hgr, x, r2, m2, hr1, by simp only; omega, x0, by simp only; rw [hq, Int.toNat_natCast]; exact h, rfl⟩⟩ hpth
            have HR3 := Lib.hid hr3
            have e1 : IntKind.i64.wrap (x * gr) = (q : Int) := by rw [hq, IntKind.wrap_i64]; omega
            have hq1000 : q ≤ 1000 := by omega
            have hr2M : r2.length ≤ 1000000 := by omega
            clear hr1 hpth hr2l so hxg hxg4 hq hr3
            go_wp2_with (first | (go_at_call 35; (with_reducible refine (refNum1 HR1 hR2 rb _ _ _ (brb.below mid3.be (Nat.le_refl _)) mid3.len mid3.cap hRl mid3.nil).mono ?_); rintro e w3 ⟨g, gc, rdd, rdc, rfl, hrdc, cx, g1, g2, gc1, sub3, nil3, hb3⟩; (have mid4 := mid3.below hb3); obtain ⟨s0, s1, s2, s3, s4, -, -⟩ := mid4.shp.five; (have sl := mid4.shp.lt)))
            go_quiet (fail)
            go_wp2
            refine wp_named (fun W => DecMid2 w W w1.heap.size k T F gr lo hi dt pa p rb R rd r ta tc xa F xc l ∧ W.cell? ⟨g, 0, none⟩ = some (.int .i64 x) ∧ g < W.heap.size) ⟨mid4.below (by repeat (first | (with_reducible refine Below.setCell ?_ ?_ _) | (with_reducible refine Below.alloc ?_ ?_ _) | (with_reducible refine Below.drew ?_) | (with_reducible refine below_drewN ?_ _) | (with_reducible exact Below.refl _ _) | (focus (simp; done)) | (focus (simp; omega)) | (focus omega))), by simpa using cx, by simpa using g2⟩ ?_
            rintro W4 ⟨mid4', kx, kg⟩
            have brd : Byt W4 rdd r2 := (sub3 _ brb).below mid4'.be (Nat.le_refl _)
            clear s0 s1 s2 s3 s4 sl mid4 cx
            obtain ⟨s0, s1, s2, s3, s4, -, -⟩ := mid4'.shp.five
            have sl := mid4'.shp.lt
            have rr : ∀ (d : Nat) (os : Array Obj) (o : Nat), (grow (redrawn W4 d) os).cell? ⟨w1.heap.size, o, none⟩ = W4.cell? ⟨w1.heap.size, o, none⟩ := fun d os o => cells_regrown _ _ _ _ _ sl
            have rg : ∀ (d : Nat) (os : Array Obj) (o : Nat), (grow (redrawn W4 d) os).cell? ⟨g, o, none⟩ = W4.cell? ⟨g, o, none⟩ := fun d os o => cells_regrown _ _ _ _ _ kg
            have rb' : ∀ d os, Byt (grow (redrawn W4 d) os) rdd r2 := fun d os => brd.below (below_regrown W4 d os) (Nat.le_refl _)
            (refine wp_region_quiet_below (by kernel_rfl) (by kernel_rfl) ?_; (repeat (go_big_quiet_step (first | (go_at_call 35; exact qb (refNumN HR3 rdd _ _ _ rfl _ (rb' _ _) hR2.out hrdc hr2M nil3 hq1000))))); refine wpQuiet_nil ?_; intro wq hwq; have hbq := below_of_regrown hwq; clear hwq)
            have mid5 := mid4'.below hbq
            obtain ⟨r0, r1, r2', r3⟩ := mid5.res.four
            have lR := mid5.res.lt
            have fR := mid5.res.frozen
            clear rr rg rb' s0 s1 s2 s3 s4 sl
            go_wp2
            exact bodyPost_ret (v := .tuple #[.agg #[.int .i64 0, .slice none 0 0, .slice none 0 0, .slice none 0 0], .int .i64 6]) (by simp [results, Try.results17, go_sem, r0, r1, r2', r3]) rfl (DecR.no h1 h2 HN.out (by repeat (first | (with_reducible refine Below.setCell ?_ ?_ _) | (with_reducible refine Below.alloc ?_ ?_ _) | (with_reducible refine Below.drew ?_) | (with_reducible refine below_drewN ?_ _) | (with_reducible exact Below.refl _ _) | (with_reducible refine Below.trans ?_ (Below.mono mid5.be ?_)) | (focus (simp; done)) | (focus (simp; omega)) | (focus omega) | (focus (have q0 := Below.size mid5.be; (try simp at q0); (try simp); omega)))))
      case pos =>
        obtain ⟨al, r3, hpth⟩ := hpth
        have HPTH := Lib.hid hpth
        clear hpth
        go_cut [8] (fun s8 wx => ∃ (re : Option Addr) (rf ac R3 : Nat) (aa : Option Addr) (A : Nat), s8 = .slice re R3 rf ∧ A = al.length ∧ A ≤ 100 ∧ R3 ≤ 1000 ∧ DecMid2 w wx w1.heap.size k T F gr lo hi dt pa p re R3 rf r3 ta tc aa A ac al)
        case first =>
          rcases HPTH.out with ⟨hg0, ha, hr3⟩ | ⟨hg, x, r2, m2, q1, q2, q3, q4, ha⟩
          · simp only at hg0
            have zg : decide (0 < gr) = false := decide_eq_false (by omega)
            go_wp2_with fail
            go_meet
            subst ha hr3
            exact ⟨rb, rd, xc, R, xa, F, rfl, hFl.out, by omega, by have := hR.out; have := HRL.out; omega, mid3⟩
          · simp only at hg q2 q4
            have zg : decide (0 < gr) = true := decide_eq_true (by omega)
            have brb := mid3.sub _ HB.out
            have hRl : r.length ≤ 1000000 := by have := HRL.out; omega
            obtain ⟨R2, hR2⟩ : ∃ R, Hid (R = r2.length) := ⟨_, Lib.hid rfl⟩
            have HR1 := Lib.hid q1
            have hr2l : r2.length ≤ r.length := by
              have := congrArg List.length (rdN_only _ _ _ _ q1).2.1
              rw [List.length_append] at this
              omega
            have HR2L := Lib.hid hr2l
            have zx : decide (hi < x) = false := decide_eq_false (by omega)
            have so := shpOf_ok k
            rw [hs] at so
            have g4 := so.grp.2
            have hi16 := so.hi.2.1
            simp only at g4 hi16
            have hxg : 0 ≤ x * gr := Int.mul_nonneg q3 (by omega)
            have hxg4 : x * gr ≤ 16 * 4 := Int.mul_le_mul (by omega) g4 (by omega) (by omega)
            obtain ⟨q, hq⟩ := Int.eq_ofNat_of_zero_le hxg
            rw [hq, Int.toNat_natCast] at q4
            have HR3 := Lib.hid q4
            obtain ⟨R3, HR3L⟩ : ∃ R, Hid (R = r3.length) := ⟨_, Lib.hid rfl⟩
            have hr3l : r3.length ≤ r2.length := by
              have := congrArg List.length (rdN_only _ _ _ _ q4).2.1
              rw [List.length_append] at this
              omega
            have HR3M := Lib.hid hr3l
            have hm2 := Lib.hid (rdN_only _ _ _ _ q4).1
            have e1 : IntKind.i64.wrap (x * gr) = (q : Int) := by rw [hq, IntKind.wrap_i64]; omega
            have hq64 : q ≤ 64 := by omega
            have hq1000 : q ≤ 1000 := by omega
            have hr2M : r2.length ≤ 1000000 := by omega
            have HA := Lib.hid ha
            clear q1 q4 hr2l so hxg hxg4 hq hr3l ha
            go_wp2_with (first | (go_at_call 35; (with_reducible refine (refNum1 HR1 hR2 rb _ _ _ (brb.below mid3.be (Nat.le_refl _)) mid3.len mid3.cap hRl mid3.nil).mono ?_); rintro e w3 ⟨g, gc, rdd, rdc, rfl, hrdc, cx, g1, g2, gc1, sub3, nil3, hb3⟩; (have mid4 := mid3.below hb3); obtain ⟨s0, s1, s2, s3, s4, -, -⟩ := mid4.shp.five; (have sl := mid4.shp.lt)))
            go_quiet (fail)
            go_wp2
            refine wp_named (fun W => DecMid2 w W w1.heap.size k T F gr lo hi dt pa p rb R rd r ta tc xa F xc l ∧ W.cell? ⟨g, 0, none⟩ = some (.int .i64 x) ∧ g < W.heap.size) ⟨mid4.below (by repeat (first | (with_reducible refine Below.setCell ?_ ?_ _) | (with_reducible refine Below.alloc ?_ ?_ _) | (with_reducible refine Below.drew ?_) | (with_reducible refine below_drewN ?_ _) | (with_reducible exact Below.refl _ _) | (focus (simp; done)) | (focus (simp; omega)) | (focus omega))), by simpa using cx, by simpa using g2⟩ ?_
            rintro W4 ⟨mid4', kx, kg⟩
            have brd := sub3 _ brb
            clear s0 s1 s2 s3 s4 sl mid4 cx hb3 g2
            apply wp_region_tab [] 15 109 [some 72, some 73, some 74, some 75, some 76, some 77, some 78, some 79, some 71, some 80, some 81, some 82, some 9, some 12, some 13] [⟨[], [], [], []⟩, ⟨[], [], [], []⟩, ⟨[1], [1], [1], []⟩, ⟨[1, 2], [2], [2], []⟩, ⟨[], [], [], []⟩, ⟨[4], [4], [4], []⟩, ⟨[1, 2, 3, 4, 5], [3, 5], [3, 5], []⟩, ⟨[0, 1, 2, 3, 4, 5, 6], [0, 6], [0, 6], []⟩, ⟨[0, 1, 2, 3, 4, 5, 6, 7], [7], [7], []⟩, ⟨[0, 1, 2, 3, 4, 5, 6, 7, 8], [7, 8], [7, 8], []⟩, ⟨[0, 1, 2, 3, 4, 5, 6, 7, 8], [7, 8], [7, 8], []⟩, ⟨[0, 1, 2, 3, 4, 5, 6, 7, 8], [7, 8], [7, 8], []⟩, ⟨[0, 1, 2, 3, 4, 5, 6, 7, 8, 9], [9], [9], []⟩, ⟨[0, 1, 2, 3, 4, 5, 6, 7, 8, 9, 10, 12], [10], [10], []⟩, ⟨[0, 1, 2, 3, 4, 5, 6, 7, 8, 9, 10, 11, 12, 13], [11], [11], []⟩] [0, 1, 2, 3, 4, 5, 6, 7, 8, 9, 10, 11, 12, 13, 14] [7, 9, 10, 11, 13, 12, 14] [psiTrue, psiTrue, psiTrue, psiTrue, psiTrue, psiTrue, psiTrue, (fun f lo hi v b0 b1 W => ∃ ya yc re rec_, v = .tuple #[.slice ya q yc, .slice re R3 rec_, .bool true] ∧ R3 ≤ rec_ ∧ Own W b0 3 1 ya q yc (m2.map encI) ∧ (∀ x, ya.map (·.block) = some x → x < b1) ∧ (∀ w0 : World, Byt w0 rdd r2 → Byt w0 re r3) ∧ (re = none → R3 = 0 ∧ rec_ = 0)), (fun f _ _ v _ _ _ => v = f 7), (fun f lo hi v b0 b1 W => ∃ ya yc re rec_, f 7 = .tuple #[.slice ya q yc, .slice re R3 rec_, .bool true] ∧ v = .slice ya q yc), (fun f lo hi v b0 b1 W => ∃ ya yc re rec_, f 7 = .tuple #[.slice ya q yc, .slice re R3 rec_, .bool true] ∧ v = .slice re R3 rec_), psiTrue, (fun f _ _ v _ _ _ => v = f 9), (fun f _ _ v _ _ _ => v = f 10), psiTrue] [kVal _, kVal _, kVal _, kVal _, kVal _, kVal _, kVal _, kTrue, kTrue, kTrue, kTrue, (fun v => v = .bool true), kTrue, kTrue, kVal _]
            · kernel_rfl
            · kernel_rfl
            · rfl
            · rfl
            · exact trivial
            · exact trivial
            refine ⟨?oR2_0, ?oR2_1, ?oR2_2, ?oR2_3, ?oR2_4, ?oR2_5, ?oR2_6, ?oR2_7, ?oR2_8, ?oR2_9, ?oR2_10, ?oR2_11, ?oR2_12, ?oR2_13, ?oR2_14, trivial⟩
            case oR2_0 => intro f lo hi w hb hx hf hk hrg R hR; (try replace hb := BelX.zero hb); (try simp (decide := true) only [go_sem] at hf); (try simp (decide := true) only [go_sem] at hk); go_simp; exact hR _ _ (rpost_val rfl rfl (Below.refl _ _) rfl)
            case oR2_1 => intro f lo hi w hb hx hf hk hrg R hR; (try replace hb := BelX.zero hb); (try simp (decide := true) only [go_sem] at hf); (try simp (decide := true) only [go_sem] at hk); go_simp; exact hR _ _ (rpost_val rfl rfl (Below.refl _ _) rfl)
            case oR2_2 => intro f lo hi w hb hx hf hk hrg R hR; (try replace hb := BelX.zero hb); (try simp (decide := true) only [go_sem] at hf); (try simp (decide := true) only [go_sem] at hk); go_simp; exact hR _ _ (rpost_val rfl rfl (Below.refl _ _) rfl)
            case oR2_3 =>
              intro f lo hi w hb hx hf hk hrg R hR; (try replace hb := BelX.zero hb); (try simp (decide := true) only [go_sem] at hf); (try simp (decide := true) only [go_sem] at hk)
              have q0 := (hb.cell (p := ⟨g, 0, none⟩) kg).trans kx
              go_simp
              exact hR _ _ (rpost_val rfl rfl (Below.refl _ _) rfl)
            case oR2_4 => intro f lo hi w hb hx hf hk hrg R hR; (try replace hb := BelX.zero hb); (try simp (decide := true) only [go_sem] at hf); (try simp (decide := true) only [go_sem] at hk); go_simp; exact hR _ _ (rpost_val rfl rfl (Below.refl _ _) rfl)
            case oR2_5 =>
              intro f lo hi w hb hx hf hk hrg R hR; (try replace hb := BelX.zero hb); (try simp (decide := true) only [go_sem] at hf); (try simp (decide := true) only [go_sem] at hk)
              obtain ⟨-, q2, -⟩ := (mid4'.shp.below hb mid4'.shp.lt).five
              have q3 := mid4'.shp.lt
              go_simp
              exact hR _ _ (rpost_val rfl rfl (Below.refl _ _) rfl)
            case oR2_6 => intro f lo hi w hb hx hf hk hrg R hR; (try replace hb := BelX.zero hb); (try simp (decide := true) only [go_sem] at hf); (try simp (decide := true) only [go_sem] at hk); go_simp; exact hR _ _ (rpost_val rfl rfl (Below.refl _ _) rfl)
            case oR2_7 =>
              intro f lo hi w hb hx hf hk hrg R hR; (try replace hb := BelX.zero hb); (try simp (decide := true) only [go_sem] at hf); (try simp (decide := true) only [go_sem] at hk)
              go_simp
              (with_reducible refine (refNumY HR3 HR3L rdd _ _ _ rfl _ (brd.below (mid4'.be.trans (hb.mono mid4'.be.size)) (Nat.le_refl _)) hR2.out hrdc hr2M nil3 hq1000).mono ?_)
              rintro e w' ⟨ya, yc, re, rec_, rfl, hrec, own4, sub4, nil4, hb4⟩
              exact ⟨_, rfl, hR _ _ (rpost_none rfl hb4 ⟨ya, yc, re, rec_, rfl, hrec, own4, own4.lt', sub4, nil4⟩)⟩
            case oR2_8 => intro f lo hi w hb hx hf hk hrg R hR; (try replace hb := BelX.zero hb); (try simp (decide := true) only [go_sem] at hf); (try simp (decide := true) only [go_sem] at hk); go_simp; exact hR _ _ (rpost_none rfl (Below.refl _ _) rfl)
            case oR2_9 =>
              intro f lo hi w hb hx hf hk hrg R hR; (try replace hb := BelX.zero hb); (try simp (decide := true) only [go_sem] at hf); (try simp (decide := true) only [go_sem] at hk)
              obtain ⟨⟨ya, yc, re, rec_, h7, -⟩, h8⟩ := hf
              rw [h7] at h8
              go_simp
              refine hR _ _ (rpost_none rfl (Below.refl _ _) ?_)
              (try simp (decide := true) only [go_sem])
              exact ⟨ya, yc, re, rec_, h7, rfl⟩
            case oR2_10 =>
              intro f lo hi w hb hx hf hk hrg R hR; (try replace hb := BelX.zero hb); (try simp (decide := true) only [go_sem] at hf); (try simp (decide := true) only [go_sem] at hk)
              obtain ⟨⟨ya, yc, re, rec_, h7, -⟩, h8⟩ := hf
              rw [h7] at h8
              go_simp
              refine hR _ _ (rpost_none rfl (Below.refl _ _) ?_)
              (try simp (decide := true) only [go_sem])
              exact ⟨ya, yc, re, rec_, h7, rfl⟩
            case oR2_11 =>
              intro f lo hi w hb hx hf hk hrg R hR; (try replace hb := BelX.zero hb); (try simp (decide := true) only [go_sem] at hf); (try simp (decide := true) only [go_sem] at hk)
              obtain ⟨⟨ya, yc, re, rec_, h7, -⟩, h8⟩ := hf
              rw [h7] at h8
              go_simp
              exact hR _ _ (rpost_val rfl rfl (Below.refl _ _) rfl)
            case oR2_12 => intro f lo hi w hb hx hf hk hrg R hR; (try replace hb := BelX.zero hb); (try simp (decide := true) only [go_sem] at hf); (try simp (decide := true) only [go_sem] at hk); go_simp; exact hR _ _ (rpost_none rfl (Below.refl _ _) rfl)
            case oR2_13 => intro f lo hi w hb hx hf hk hrg R hR; (try replace hb := BelX.zero hb); (try simp (decide := true) only [go_sem] at hf); (try simp (decide := true) only [go_sem] at hk); go_simp; exact hR _ _ (rpost_none rfl (Below.refl _ _) rfl)
            case oR2_14 => intro f lo hi w hb hx hf hk hrg R hR; (try replace hb := BelX.zero hb); (try simp (decide := true) only [go_sem] at hf); (try simp (decide := true) only [go_sem] at hk); go_simp; exact hR _ _ (rpost_val rfl rfl (Below.refl _ _) rfl)
            case hcl =>
              refine ⟨Closed.true _ _ _ _, Closed.true _ _ _ _, Closed.true _ _ _ _, Closed.true _ _ _ _, Closed.true _ _ _ _, Closed.true _ _ _ _, Closed.true _ _ _ _, ?cR2_7, ?cR2_8, ?cR2_9, ?cR2_10, Closed.true _ _ _ _, ?cR2_12, ?cR2_13, Closed.true _ _ _ _, trivial⟩
              · intro f lo hi v l h w w' hp _ _ hown _ _
                obtain ⟨ya, yc, re, rec_, rfl, h2, own, lt, h3⟩ := hp
                exact ⟨ya, yc, re, rec_, rfl, h2, own.keep fun b hb hl _ => hown b hl (lt b (by rw [hb]; rfl)), lt, h3⟩
              · exact fun _ _ _ _ _ _ _ _ h _ _ _ _ _ => h
              · exact fun _ _ _ _ _ _ _ _ h _ _ _ _ _ => h
              · exact fun _ _ _ _ _ _ _ _ h _ _ _ _ _ => h
              · exact fun _ _ _ _ _ _ _ _ h _ _ _ _ _ => h
              · exact fun _ _ _ _ _ _ _ _ h _ _ _ _ _ => h
            intro f lo hi w4 hbr hx hf hk hrg; (try replace hbr := BelX.zero hbr); clear hx; (try simp (decide := true) only [go_sem] at hf); (try simp (decide := true) only [go_sem] at hk)
            obtain ⟨⟨ya, yc, re, rec_, h7, hrec, own7, -, sub4, nil4⟩, ⟨ya', yc', re', rec', h7', h9⟩, ⟨ya2, yc2, re2, rec2, h72, h10⟩, h13, h12⟩ := hf
            obtain ⟨rfl, rfl, rfl, rfl⟩ : ya = ya' ∧ yc = yc' ∧ re = re' ∧ rec_ = rec' := by
              rw [h7] at h7'
              injection h7' with e
              have e0 := congrArg (·[0]?) e
              have e1 := congrArg (·[1]?) e
              simp at e0 e1
              exact ⟨e0.1, e0.2, e1.1, e1.2⟩
            obtain ⟨rfl, rfl⟩ : re = re2 ∧ rec_ = rec2 := by
              rw [h7] at h72
              injection h72 with e
              have e1 := congrArg (·[1]?) e
              simp at e1
              exact e1
            rw [h9] at h12
            rw [h10] at h13
            have iy : Ints w4 ya m2 := own7.row
            have mid5 := mid4'.below hbr
            obtain ⟨m0, m1, m2', m3⟩ := mid5.msg.four
            have ml := mid5.msg.lt
            have mf := mid5.msg.frozen
            have hlr : R3 ≤ 1000 := by have := HR3L.out; have := HR3M.out; have := HR2L.out; have := HRL.out; omega
            clear hrg h7 h7' h72 h9 h10 own7 mid4' kx kg mid3
            go_simp
            clear hk h12 h13
            go_wp2_with (first | (at_builtin; refine appI rfl _ _ rfl w4.heap.size none 0 0 [] rfl xa F xc l rfl (Own.nil _ _ _ _) mid5.args.ints hFl.out F (by omega) (by omega) (Nat.le_refl _) ?_; intro xb xcb w5 own5 g5 bl5; (have hb5 := bl5 w4 (RowKit.Below.refl _ _)); (have mid6 := mid5.below hb5)) | (at_builtin; refine appI rfl _ _ rfl w4.heap.size xb F xcb l rfl ya q yc m2 rfl own5 (iy.below hb5 (Nat.le_refl _)) hm2.out.symm (F + q) rfl (by omega) hb5.size ?_; intro xe xce w6 own6 g6 bl6; (have hb6 := bl6 w4 hb5); (have mid7 := mid5.below hb6); (have ml7 := mid7.msg.lt); (have mf7 := mid7.msg.frozen); obtain ⟨v0, v1, v2, v3⟩ := mid7.msg.four))
            go_meet
            refine ⟨re, rec_, xce, R3, xe, F + q, rfl, by rw [HA.out, List.length_append, hm2.out, ← hFl.out], by omega, hlr, ?_⟩
            have hw4 : w1.heap.size + 1 < w4.heap.size := ml
            exact ⟨mid7.res.far (by simp only; omega) _, mid7.shp.far (by simp only; omega) _, mid7.msg.set 2 _, mid7.tok.far (fun e => by have := mid7.tok.base_le _ e; simp only at this; omega) _, by rw [HA.out]; exact (own6.mono (by omega)).far (fun e => by have := own6.base_le _ e; simp only at this; omega) _, fun w0 h0 => sub4 _ (sub3 _ (mid7.sub _ h0)), HR3L.out, hrec, nil4, (by repeat (first | (with_reducible refine Below.setCell ?_ ?_ _) | (with_reducible refine Below.alloc ?_ ?_ _) | (with_reducible refine Below.drew ?_) | (with_reducible refine below_drewN ?_ _) | (with_reducible exact Below.refl _ _) | (with_reducible refine Below.trans ?_ (Below.mono mid7.be ?_)) | (focus (simp; done)) | (focus (simp; omega)) | (focus omega) | (focus (have q0 := Below.size mid7.be; (try simp at q0); (try simp); omega))))⟩
        case rest =>
          obtain ⟨re, rf, ac, R3, aa, A, rfl, hA, hA1, hR3, mid4⟩ := hcut
          clear mid3 s0 s1 s2 s3 s4 sl
          obtain ⟨m0, m1, m2, m3⟩ := mid4.msg.four
          have ml := mid4.msg.lt
          have mf := mid4.msg.frozen
          go_upto_region 21 with (at_builtin; refine appB rfl _ _ rfl wc.heap.size none 0 0 [] rfl re _ rf r3 rfl (Own.nil _ _ _ _) (mid4.sub _ HB.out |>.below mid4.be (Nat.le_refl _)) mid4.len R3 (by omega) (by omega) (Nat.le_refl _) ?_; intro b2 c2 w2 own2 g2 bl2; (have hb2 := bl2 wc (RowKit.Below.refl _ _)); (have mid5 := mid4.below hb2); obtain ⟨m0, m1, m2, m3⟩ := mid5.msg.four; (have ml := mid5.msg.lt); (have mf := mid5.msg.frozen))
          refine wp_named (fun W => DecFin w W w1.heap.size ⟨k, p.take T, al, r3⟩ T A R3 ta tc aa ac b2 c2) (mid4.fin hsz hb2 own2) ?_
          rintro W5 fin
          have hTl : T = (p.take T).length := by rw [List.length_take]; omega
          have hat := fin.at ⟨by simp only; omega, by simp only; omega, by have := mid4.len; simp only; omega⟩
          have hr3l := mid4.len
          clear m0 m1 m2 m3 ml mf mid4 mid5 own2 g2 bl2 hb2
          have HU := Lib.hid fun (m : Msg) (hm : m.Ok) (hk : m.kind = k) (hpay : m.pay = p) => dec_uniq hs (by simpa using HR.out) HPTH.out hm hk hpay
          simp only [Int.toNat_natCast] at HU
          have HBW := Lib.hid (HB.out.below fin.be (Nat.le_refl _))
          have ml := fin.msg.lt
          have rr : ∀ (d : Nat) (os : Array Obj) (o : Nat), (grow (redrawn W5 d) os).cell? ⟨w1.heap.size + 1, o, none⟩ = W5.cell? ⟨w1.heap.size + 1, o, none⟩ := fun d os o => cells_regrown _ _ _ _ _ ml
          by_cases hok : Msg.Ok ⟨k, p.take T, al, r3⟩
          · have HOK := Lib.hid hok
            clear hok
            have fb3 := fin.res.lt
            obtain ⟨pl, hpl⟩ : ∃ pl, Msg.pay ⟨k, p.take T, al, r3⟩ = pl := ⟨_, rfl⟩
            obtain ⟨N, hN⟩ : ∃ N, N = pl.length := ⟨_, rfl⟩
            obtain ⟨S1, hS1⟩ : ∃ s : ByteArray, s = ⟨pl.toArray⟩ := ⟨_, rfl⟩
            obtain ⟨S2, hS2⟩ : ∃ s : ByteArray, s = ⟨p.toArray⟩ := ⟨_, rfl⟩
            obtain ⟨b, hb1, hb2⟩ : ∃ b : Bool, (S1.toList == S2.toList) = b ∧ (b = true ↔ pl = p) := by
              by_cases hpq : pl = p
              · exact ⟨true, by rw [hS1, hS2, hpq]; simp, by simp [hpq]⟩
              · exact ⟨false, by rw [hS1, hS2]; exact str_ne hpq, by simp [hpq]⟩
            have HS1 := Lib.hid hS1
            have HS2 := Lib.hid hS2
            have HPL := Lib.hid hpl
            have HPN := Lib.hid hN
            have HBP := Lib.hid hb2
            have HV := Lib.hid fun W h => ref05_ValidY ⟨k, p.take T, al, r3⟩ ta tc aa b2 ac c2 W HOK.out h (k := k) (tn := T) (an := A) (dn := R3) rfl hTl hA hr3l
            have HP := Lib.hid fun W h => ref05_payloadE ⟨k, p.take T, al, r3⟩ ta tc aa b2 ac c2 W HOK.out h (k := k) (tn := T) (an := A) (dn := R3) (n := N) rfl hTl hA hr3l (by rw [HPL.out]; exact HPN.out)
            rw [hpl] at HP
            have HEQ := Lib.hid (show T = (p.take T).length ∧ A = al.length ∧ R3 = r3.length from ⟨hTl, hA, hr3l⟩)
            clear hS1 hS2 hpl hN hb2 hTl hA hr3l
            clear rr
            apply wp_region_tab [] 11 109 [some 96, some 97, some 98, some 99, some 100, some 101, some 102, some 103, some 104, some 105, some 106] [⟨[], [], [], []⟩, ⟨[0], [0], [0], []⟩, ⟨[0, 1], [1], [1], []⟩, ⟨[0, 1, 2], [2], [2], []⟩, ⟨[0, 1, 2, 3], [3], [3], []⟩, ⟨[0, 1, 2, 3, 4], [3, 4], [3, 4], []⟩, ⟨[0, 1, 2, 3, 4, 5], [3, 5], [3, 5], []⟩, ⟨[0, 1, 2, 3], [3], [3], []⟩, ⟨[0, 1, 2, 3, 7], [3, 7], [3, 7], []⟩, ⟨[0, 1, 2, 3, 4, 5, 6, 7, 8], [3, 6, 8], [3, 6, 8], []⟩, ⟨[0, 1, 2, 3, 4, 5, 6, 7, 8, 9], [3, 9], [3, 9], []⟩] [0, 1, 2, 3, 4, 5, 6, 7, 8, 9, 10] [10] [psiTrue, psiTrue, psiTrue, psiTrue, psiTrue, (fun f lo hi v b0 b1 W => ∃ a c, v = .slice a N c ∧ Own W b0 5 1 a N c (pl.map encB) ∧ ∀ q, a.map (·.block) = some q → q < b1), psiTrue, psiTrue, psiTrue, psiTrue, psiTrue] [kVal _, kVal _, kVal _, kVal _, kVal _, kTrue, kVal _, kVal _, kVal _, kVal _, kVal _]
            · kernel_rfl
            · kernel_rfl
            · rfl
            · rfl
            · exact trivial
            · exact trivial
            refine ⟨?oR3_0, ?oR3_1, ?oR3_2, ?oR3_3, ?oR3_4, ?oR3_5, ?oR3_6, ?oR3_7, ?oR3_8, ?oR3_9, ?oR3_10, trivial⟩
            case oR3_0 =>
              intro f lo hi w hb hx hf hk hrg R hR; (try replace hb := BelX.zero hb); (try simp (decide := true) only [go_sem] at hf); (try simp (decide := true) only [go_sem] at hk)
              obtain ⟨c0, c1, c2, c3⟩ := (fin.msg.below hb fin.msg.lt).four
              go_simp
              exact hR _ _ (rpost_val rfl rfl (Below.refl _ _) rfl)
            case oR3_1 =>
              intro f lo hi w hb hx hf hk hrg R hR; (try replace hb := BelX.zero hb); (try simp (decide := true) only [go_sem] at hf); (try simp (decide := true) only [go_sem] at hk)
              go_simp
              (with_reducible refine (HV.out _ (hat.below hb (Nat.le_refl _))).mono ?_)
              rintro e w' ⟨rfl, hb2⟩
              exact ⟨_, rfl, hR _ _ (rpost_val rfl rfl hb2 rfl)⟩
            case oR3_2 => intro f lo hi w hb hx hf hk hrg R hR; (try replace hb := BelX.zero hb); (try simp (decide := true) only [go_sem] at hf); (try simp (decide := true) only [go_sem] at hk); go_simp; exact hR _ _ (rpost_val rfl rfl (Below.refl _ _) rfl)
            case oR3_3 => intro f lo hi w hb hx hf hk hrg R hR; (try replace hb := BelX.zero hb); (try simp (decide := true) only [go_sem] at hf); (try simp (decide := true) only [go_sem] at hk); go_simp; exact hR _ _ (rpost_val rfl rfl (Below.refl _ _) rfl)
            case oR3_4 =>
              intro f lo hi w hb hx hf hk hrg R hR; (try replace hb := BelX.zero hb); (try simp (decide := true) only [go_sem] at hf); (try simp (decide := true) only [go_sem] at hk)
              obtain ⟨c0, c1, c2, c3⟩ := (fin.msg.below hb fin.msg.lt).four
              go_simp
              exact hR _ _ (rpost_val rfl rfl (Below.refl _ _) rfl)
            case oR3_5 =>
              intro f lo hi w hb hx hf hk hrg R hR; (try replace hb := BelX.zero hb); (try simp (decide := true) only [go_sem] at hf); (try simp (decide := true) only [go_sem] at hk)
              go_simp
              (with_reducible refine (HP.out _ (hat.below hb (Nat.le_refl _))).mono ?_)
              rintro e w' ⟨a, c, rfl, own, hb2⟩
              refine ⟨_, rfl, hR _ _ (rpost_none rfl hb2 ?_)⟩
              (try simp (decide := true) only [go_sem])
              exact ⟨_, _, rfl, own, own.lt'⟩
            case oR3_6 =>
              intro f lo hi w hb hx hf hk hrg R hR; (try replace hb := BelX.zero hb); (try simp (decide := true) only [go_sem] at hf); (try simp (decide := true) only [go_sem] at hk)
              obtain ⟨a, c, h5, own, -⟩ := hf
              have kA : (convert 22 9 (.slice a N c)).run Try.prog w = .ok (.string S1) w := by rw [HS1.out]; exact conv_str own.byt HPN.out
              go_simp
              exact hR _ _ (rpost_val rfl rfl (Below.refl _ _) rfl)
            case oR3_7 => intro f lo hi w hb hx hf hk hrg R hR; (try replace hb := BelX.zero hb); (try simp (decide := true) only [go_sem] at hf); (try simp (decide := true) only [go_sem] at hk); go_simp; exact hR _ _ (rpost_val rfl rfl (Below.refl _ _) rfl)
            case oR3_8 =>
              intro f lo hi w hb hx hf hk hrg R hR; (try replace hb := BelX.zero hb); (try simp (decide := true) only [go_sem] at hf); (try simp (decide := true) only [go_sem] at hk)
              have kA : (convert 22 9 (.slice pa p.length pc)).run Try.prog w = .ok (.string S2) w := by rw [HS2.out]; exact conv_str (HBW.out.below hb (Nat.le_refl _)) rfl
              go_simp
              exact hR _ _ (rpost_val rfl rfl (Below.refl _ _) rfl)
            case oR3_9 => intro f lo hi w hb hx hf hk hrg R hR; (try replace hb := BelX.zero hb); (try simp (decide := true) only [go_sem] at hf); (try simp (decide := true) only [go_sem] at hk); go_simp; exact hR _ _ (rpost_val rfl rfl (Below.refl _ _) rfl)
            case oR3_10 => intro f lo hi w hb hx hf hk hrg R hR; (try replace hb := BelX.zero hb); (try simp (decide := true) only [go_sem] at hf); (try simp (decide := true) only [go_sem] at hk); go_simp; exact hR _ _ (rpost_val rfl rfl (Below.refl _ _) rfl)
            case hcl =>
              refine ⟨Closed.true _ _ _ _, Closed.true _ _ _ _, Closed.true _ _ _ _, Closed.true _ _ _ _, Closed.true _ _ _ _, ?cR3_5, Closed.true _ _ _ _, Closed.true _ _ _ _, Closed.true _ _ _ _, Closed.true _ _ _ _, Closed.true _ _ _ _, trivial⟩
              · intro f lo hi v l h w w' hp _ _ hown _ _
                obtain ⟨a, c, rfl, own, lt⟩ := hp
                exact ⟨a, c, rfl, own.keep fun b hb hl _ => hown b hl (lt b (by rw [hb]; rfl)), lt⟩
            intro f lo hi W7 hbr hx hf hk hrg; (try replace hbr := BelX.zero hbr); clear hx; (try simp (decide := true) only [go_sem] at hf); (try simp (decide := true) only [go_sem] at hk)
            have fin7 := fin.below hbr
            clear hrg
            go_simp
            clear hk hf hat fin
            obtain ⟨r0, r1, r2, r3'⟩ := fin7.res.four
            have lR := fin7.res.lt
            have fR := fin7.res.frozen
            obtain ⟨m0, m1, m2, m3⟩ := fin7.msg.four
            have ml := fin7.msg.lt
            cases b
            · have HN := Lib.hid (show NoM k p from fun m hm hk hpay => by
                have := HU.out m hm hk hpay
                subst this
                exact absurd (HBP.out.2 (HPL.out.symm.trans hpay)) (by simp))
              go_wp2
              exact bodyPost_ret (v := .tuple #[.agg #[.int .i64 0, .slice none 0 0, .slice none 0 0, .slice none 0 0], .int .i64 6]) (by simp [results, Try.results17, go_sem, r0, r1, r2, r3']) rfl (DecR.no h1 h2 HN.out (by repeat (first | (with_reducible refine Below.setCell ?_ ?_ _) | (with_reducible refine Below.alloc ?_ ?_ _) | (with_reducible refine Below.drew ?_) | (with_reducible refine below_drewN ?_ _) | (with_reducible exact Below.refl _ _) | (with_reducible refine Below.trans ?_ (Below.mono fin7.be ?_)) | (focus (simp; done)) | (focus (simp; omega)) | (focus omega) | (focus (have q0 := Below.size fin7.be; (try simp at q0); (try simp); omega)))))
            · have HY : Hid (Msg.Ok ⟨k, p.take T, al, r3⟩ ∧ Msg.pay ⟨k, p.take T, al, r3⟩ = p) := Lib.hid ⟨HOK.out, HPL.out.trans (HBP.out.1 rfl)⟩
              go_wp2
              refine bodyPost_ret (v := .tuple #[.agg #[.int .i64 k, .slice ta T tc, .slice aa A ac, .slice b2 R3 c2], .int .i64 0]) (by simp [results, Try.results17, go_sem, r0, r1, r2, r3']) rfl ?_
              refine DecR.yes HY.out rfl HEQ.out.1 HEQ.out.2.1 HEQ.out.2.2 ⟨Row.far4 fin7.tok.byt (fun b h => ?_) _ _ _ _, Row.far4 fin7.args.ints (fun b h => ?_) _ _ _ _, Row.far4 fin7.dat.byt (fun b h => ?_) _ _ _ _, fun h => by have := fin7.tok.none_len h; have := HEQ.out.1; simp only; omega, HY.out.1.lens⟩ (by repeat (first | (with_reducible refine Below.setCell ?_ ?_ _) | (with_reducible refine Below.alloc ?_ ?_ _) | (with_reducible refine Below.drew ?_) | (with_reducible refine below_drewN ?_ _) | (with_reducible exact Below.refl _ _) | (with_reducible refine Below.trans ?_ (Below.mono fin7.be ?_)) | (focus (simp; done)) | (focus (simp; omega)) | (focus omega) | (focus (have q0 := Below.size fin7.be; (try simp at q0); (try simp); omega))))
              · have := fin7.tok.base_le b h; omega
              · have := fin7.args.base_le b h; omega
              · have := fin7.dat.base_le b h; omega
          · have HN := Lib.hid (show NoM k p from fun m hm hk hpay => hok (HU.out m hm hk hpay ▸ hm))
            obtain ⟨m0, m1, m2, m3⟩ := fin.msg.four
            have ra : ∀ d os, MsgAt (grow (redrawn W5 d) os) ⟨k, p.take T, al, r3⟩ ta tc aa b2 := fun d os => hat.below (below_regrown W5 d os) (Nat.le_refl _)
            have hV := fun W h => ref05_ValidN ⟨k, p.take T, al, r3⟩ ta tc aa b2 ac c2 W hok h (k := k) (tn := T) (an := A) (dn := R3) rfl hTl hA hr3l
            clear hat hTl hA hr3l hok
            (refine wp_region_quiet_below (by kernel_rfl) (by kernel_rfl) ?_; (repeat (go_big_quiet_step (first | (go_at_call 25; exact qb (hV _ (ra _ _)))))); refine wpQuiet_nil ?_; intro wq hwq; have hbq := below_of_regrown hwq; clear hwq)
            have fin2 := fin.below hbq
            obtain ⟨r0, r1, r2, r3'⟩ := fin2.res.four
            have lR := fin2.res.lt
            have fR := fin2.res.frozen
            clear rr ra hV m0 m1 m2 m3
            go_wp2
            exact bodyPost_ret (v := .tuple #[.agg #[.int .i64 0, .slice none 0 0, .slice none 0 0, .slice none 0 0], .int .i64 6]) (by simp [results, Try.results17, go_sem, r0, r1, r2, r3']) rfl (DecR.no h1 h2 HN.out (by repeat (first | (with_reducible refine Below.setCell ?_ ?_ _) | (with_reducible refine Below.alloc ?_ ?_ _) | (with_reducible refine Below.drew ?_) | (with_reducible refine below_drewN ?_ _) | (with_reducible exact Below.refl _ _) | (with_reducible refine Below.trans ?_ (Below.mono fin2.be ?_)) | (focus (simp; done)) | (focus (simp; omega)) | (focus omega) | (focus (have q0 := Below.size fin2.be; (try simp at q0); (try simp); omega)))))
end
theorem ref05_Decode (k : Int) (pa : Option Addr) (p : List UInt8) (n pc : Nat) (w : World) (hb : Byt w pa p) (hn : n = p.length) (hp : p.length ≤ 1000) (hc : p.length ≤ pc) (hnil : pa = none → p.length = 0 ∧ pc = 0) :
    Calls Try.prog 17 #[.int .i64 k, .slice pa n pc] w (DecR k p w) := by
  subst hn
  by_cases hk : k < 1 ∨ 22 < k
  · exact ref05_Decode_kind k pa p pc w hk
  obtain ⟨h1, h2⟩ : 1 ≤ k ∧ k ≤ 22 := by omega
  obtain ⟨T, F, gr, lo, hi, dt, hs, -, hF, -⟩ := shp_nat (k := k)
  by_cases ht : p.length < T
  · exact ref05_Decode_tok k pa p pc w h1 h2 hs ht
  · exact ref05_Decode_main k pa p pc w h1 h2 hs hb hc hnil hp (by omega) hF

/-! what both read -/
open Classical in
noncomputable def decP (k : Int) (p : List UInt8) : Msg × Int :=
  if h : ∃ m : Msg, m.Ok ∧ m.kind = k ∧ m.pay = p then (h.choose, 0) else (⟨0, [], [], []⟩, if 1 ≤ k ∧ k ≤ 22 then 6 else 5)
/-- a message and its error, as a value and in memory -/
def DecV (m : Msg) (c : Int) (w : World) (e : Ending) (w' : World) : Prop :=
  ∃ ta tc aa ac da dc, e = .returned (.tuple #[.agg #[.int .i64 m.kind, .slice ta m.tok.length tc, .slice aa m.args.length ac, .slice da m.dat.length dc], .int .i64 c]) ∧ MsgAt w' m ta tc aa da ∧ Below w.heap.size w w'
theorem msgAt_zero (w : World) : MsgAt w ⟨0, [], [], []⟩ none 0 none none := ⟨Byt.nil _ _, Byt.nil _ _, Byt.nil _ _, fun _ => ⟨rfl, rfl⟩, by simp⟩
theorem decR_V {k : Int} {p : List UInt8} {w w' : World} {e : Ending} (h : DecR k p w e w') {m : Msg} {c : Int} (hd : decP k p = (m, c)) : DecV m c w e w' := by
  obtain ⟨h, hb⟩ := h
  rcases h with ⟨m', hm, hk, hp, v, rfl, ta, tc, aa, ac, da, dc, rfl, hat⟩ | ⟨h1, h2, hno, rfl⟩ | ⟨hk, rfl⟩
  · have hex : ∃ m : Msg, m.Ok ∧ m.kind = k ∧ m.pay = p := ⟨m', hm, hk, hp⟩
    unfold decP at hd
    rw [dif_pos hex] at hd
    obtain ⟨c1, c2, c3⟩ := hex.choose_spec
    have e1 : m' = hex.choose := pay_inj hm c1 (hk.trans c2.symm) (hp.trans c3.symm)
    injection hd with d1 d2
    rw [← e1] at d1
    subst d1 d2
    exact ⟨ta, tc, aa, ac, da, dc, rfl, hat, hb⟩
  · unfold decP at hd
    rw [dif_neg (fun ⟨m, a, b, c⟩ => hno m a b c), if_pos ⟨h1, h2⟩] at hd
    injection hd with d1 d2
    subst d1 d2
    exact ⟨none, 0, none, 0, none, 0, rfl, msgAt_zero _, hb⟩
  · unfold decP at hd
    rw [dif_neg (fun ⟨m, a, b, c⟩ => by have := a.kind; omega), if_neg (by omega)] at hd
    injection hd with d1 d2
    subst d1 d2
    exact ⟨none, 0, none, 0, none, 0, rfl, msgAt_zero _, hb⟩
end Go.Proofs.Ythkoijgobigdnaa
