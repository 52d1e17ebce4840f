/- message.Encode -/
import Derived.Test.YthkoijgobigdnaaShape
import Derived.Test.YthkoijgobigdnaaGroups
import Derived.Test.YthkoijgobigdnaaClone
import Derived.Test.YthkoijgobigdnaaVarint
import Derived.Test.YthkoijgobigdnaaReg
namespace Go.Proofs.Ythkoijgobigdnaa
open Go.RowKit Go.Sort
set_option maxRecDepth 20000

theorem varint_EncOk (n : Int) (h0 : 0 ≤ n) (h1 : n ≤ 4294967295) {L : Nat} (hL : Hid (L = (vEnc n.toNat).length)) (w : World) : Calls Try.prog 37 #[.int .i64 n] w fun e w' => ∃ a cap, e = .returned (.tuple #[.slice a L cap, .int .i64 0]) ∧ Own w' w.heap.size 5 1 a L cap ((vEnc n.toNat).map encB) ∧ Below w.heap.size w w' :=
  (varint_Encode n w).mono fun e w' h => by
    rcases h with ⟨_, _, a, L', cap, h1, h2, h3, h4⟩ | ⟨h, _⟩
    · rw [hL.out]
      subst h2
      exact ⟨a, cap, h1, h3, h4⟩
    · exact absurd ⟨h0, h1⟩ h
theorem varint_EncNo (n : Int) (h : ¬ argOk n) (w : World) : Calls Try.prog 37 #[.int .i64 n] w fun e w' => e = .returned (.tuple #[.slice none 0 0, .int .i64 8]) ∧ Below w.heap.size w w' :=
  (varint_Encode n w).mono fun e w' h' => by
    rcases h' with ⟨h0, h1, _⟩ | ⟨_, h1, h2⟩
    · exact absurd ⟨h0, h1⟩ h
    · exact ⟨h1, h2⟩
theorem msg_shapeOfE {k tk fx gr lo hi dt : Int} (w : World) (h1 : 1 ≤ k) (h2 : k ≤ 22) (hs : shpOf k = ⟨tk, fx, gr, lo, hi, dt⟩) : Calls Try.prog 31 #[.int .i64 k] w fun e w' => e = .returned (.tuple #[.agg #[.int .i64 tk, .int .i64 fx, .int .i64 gr, .int .i64 lo, .int .i64 hi, .int .i64 dt], .bool true]) ∧ Below w.heap.size w w' := by
  have := msg_shapeOf k w h1 h2
  rw [hs] at this
  exact this
theorem msg_groupsOfY {tk fx gr lo hi dt g : Int} (n : Nat) (w : World) (hs : ShpOk ⟨tk, fx, gr, lo, hi, dt⟩) (hA : n ≤ 1000000) (hg : grpOk ⟨tk, fx, gr, lo, hi, dt⟩ n) (hgn : Hid (grpN ⟨tk, fx, gr, lo, hi, dt⟩ n = g)) :
    Calls Try.prog 36 #[.agg #[.int .i64 tk, .int .i64 fx, .int .i64 gr, .int .i64 lo, .int .i64 hi, .int .i64 dt], .int .i64 n] w fun e w' => e = .returned (.tuple #[.int .i64 g, .bool true]) ∧ Below w.heap.size w w' :=
  (msg_groupsOf _ n w hs hA).mono fun e w' ⟨g', he, hg', hb⟩ => ⟨by rw [he, hg' hg, hgn.out, decide_eq_true hg], hb⟩
theorem msg_groupsOfN {tk fx gr lo hi dt : Int} (n : Nat) (w : World) (hs : ShpOk ⟨tk, fx, gr, lo, hi, dt⟩) (hA : n ≤ 1000000) (hg : ¬ grpOk ⟨tk, fx, gr, lo, hi, dt⟩ n) :
    Calls Try.prog 36 #[.agg #[.int .i64 tk, .int .i64 fx, .int .i64 gr, .int .i64 lo, .int .i64 hi, .int .i64 dt], .int .i64 n] w fun e w' => ∃ g, e = .returned (.tuple #[.int .i64 g, .bool false]) ∧ Below w.heap.size w w' :=
  (msg_groupsOf _ n w hs hA).mono fun e w' ⟨g', he, _, hb⟩ => ⟨g', by rw [he, decide_eq_false hg], hb⟩

/-- a message's parts lie in memory -/
structure MsgAt (w : World) (m : Msg) (ta : Option Addr) (tc : Nat) (aa da : Option Addr) : Prop where
  tok : Byt w ta m.tok
  args : Ints w aa m.args
  dat : Byt w da m.dat
  nil : ta = none → m.tok.length = 0 ∧ tc = 0
  len : m.tok.length ≤ 1000000 ∧ m.args.length ≤ 1000000 ∧ m.dat.length ≤ 1000000
/-- what Encode hands back -/
def EncM (m : Msg) (w : World) (e : Ending) (w' : World) : Prop :=
  (m.Ok ∧ ∃ a n c, e = .returned (.tuple #[.slice a n c, .int .i64 0]) ∧ n = m.pay.length ∧ Own w' w.heap.size 5 1 a n c (m.pay.map encB) ∧ Below w.heap.size w w') ∨
  (¬ m.Ok ∧ e = .returned (.tuple #[.slice none 0 0, .int .i64 6]) ∧ Below w.heap.size w w')

theorem Blk.four {w : World} {g : Nat} {t : TypeId} {a b c d : Value} (h : Blk w g t #[a, b, c, d]) : w.cell? ⟨g, 0, none⟩ = some a ∧ w.cell? ⟨g, 1, none⟩ = some b ∧ w.cell? ⟨g, 2, none⟩ = some c ∧ w.cell? ⟨g, 3, none⟩ = some d := ⟨h.cell 0, h.cell 1, h.cell 2, h.cell 3⟩
theorem Blk.six {w : World} {g : Nat} {t : TypeId} {a b c d e f : Value} (h : Blk w g t #[a, b, c, d, e, f]) : w.cell? ⟨g, 0, none⟩ = some a ∧ w.cell? ⟨g, 1, none⟩ = some b ∧ w.cell? ⟨g, 2, none⟩ = some c ∧ w.cell? ⟨g, 3, none⟩ = some d ∧ w.cell? ⟨g, 4, none⟩ = some e ∧ w.cell? ⟨g, 5, none⟩ = some f := ⟨h.cell 0, h.cell 1, h.cell 2, h.cell 3, h.cell 4, h.cell 5⟩

section
variable (kind : Int) (tok : List UInt8) (args : List Int) (dat : List UInt8) (ta aa da : Option Addr) (tc ac dc : Nat) (w : World)
theorem msg_Encode_no1 (hk : kind < 1 ∨ 22 < kind) : Calls Try.prog 19 #[.agg #[.int .i64 kind, .slice ta tok.length tc, .slice aa args.length ac, .slice da dat.length dc]] w (EncM ⟨kind, tok, args, dat⟩ w) := by
  have HN := Lib.hid (show ¬ Msg.Ok ⟨kind, tok, args, dat⟩ from fun h => by have := h.kind; simp only at this; omega)
  go_enter Try.func19, Try.ntmps19
  go_wp2_with (first | (go_at_call 31; (with_reducible refine (msg_shapeOf_no kind _ hk).mono ?_); rintro e w1 ⟨rfl, hb1⟩))
  exact bodyPost_ret (v := .tuple #[.slice none 0 0, .int .i64 6]) (by simp [results, Try.results19, go_sem]) rfl (.inr ⟨HN.out, rfl, (by repeat (first | (with_reducible refine Below.setCell ?_ ?_ _) | (with_reducible refine Below.alloc ?_ ?_ _) | (with_reducible refine Below.drew ?_) | (with_reducible refine below_drewN ?_ _) | (with_reducible exact Below.refl _ _) | (with_reducible refine Below.trans ?_ (Below.mono hb1 ?_)) | (focus (simp; done)) | (focus (simp; omega)) | (focus omega) | (focus (have q0 := Below.size hb1; (try simp at q0); (try simp); omega))))⟩)
theorem msg_Encode_no2 {tk fx gr lo hi dt : Int} (h1 : 1 ≤ kind) (h2 : kind ≤ 22) (hs : shpOf kind = ⟨tk, fx, gr, lo, hi, dt⟩) (ht : (tok.length : Int) ≠ tk) : Calls Try.prog 19 #[.agg #[.int .i64 kind, .slice ta tok.length tc, .slice aa args.length ac, .slice da dat.length dc]] w (EncM ⟨kind, tok, args, dat⟩ w) := by
  have HN := Lib.hid (show ¬ Msg.Ok ⟨kind, tok, args, dat⟩ from fun h => by have := h.tok; simp only [hs] at this; omega)
  have z1 : ((tok.length : Int) != tk) = true := by rw [bne_iff_ne]; exact ht
  clear ht
  go_enter Try.func19, Try.ntmps19
  go_wp2_with (first | (go_at_call 31; (with_reducible refine (msg_shapeOfE _ h1 h2 hs).mono ?_); rintro e w1 ⟨rfl, hb1⟩; (have bM : Blk w1 w.heap.size 27 #[.int .i64 kind, .slice ta tok.length tc, .slice aa args.length ac, .slice da dat.length dc] := (Blk.new w _ _).below hb1 (by simp)); (have lM := bM.lt); obtain ⟨m0, m1, m2, m3⟩ := bM.four))
  exact bodyPost_ret (v := .tuple #[.slice none 0 0, .int .i64 6]) (by simp [results, Try.results19, go_sem]) rfl (.inr ⟨HN.out, rfl, (by repeat (first | (with_reducible refine Below.setCell ?_ ?_ _) | (with_reducible refine Below.alloc ?_ ?_ _) | (with_reducible refine Below.drew ?_) | (with_reducible refine below_drewN ?_ _) | (with_reducible exact Below.refl _ _) | (with_reducible refine Below.trans ?_ (Below.mono hb1 ?_)) | (focus (simp; done)) | (focus (simp; omega)) | (focus omega) | (focus (have q0 := Below.size hb1; (try simp at q0); (try simp); omega))))⟩)
theorem msg_Encode_no3 {tk fx gr lo hi dt : Int} (h1 : 1 ≤ kind) (h2 : kind ≤ 22) (hs : shpOf kind = ⟨tk, fx, gr, lo, hi, dt⟩) (ht : (tok.length : Int) = tk) (hd : dt ≠ -1) (hd2 : (dat.length : Int) ≠ dt) : Calls Try.prog 19 #[.agg #[.int .i64 kind, .slice ta tok.length tc, .slice aa args.length ac, .slice da dat.length dc]] w (EncM ⟨kind, tok, args, dat⟩ w) := by
  have HN := Lib.hid (show ¬ Msg.Ok ⟨kind, tok, args, dat⟩ from fun h => by have := h.dat; simp only [hs] at this; omega)
  have z1 : ((tok.length : Int) != tk) = false := by rw [ht]; exact bne_self_eq_false tk
  have z2 : (dt != -1) = true := by rw [bne_iff_ne]; exact hd
  have z3 : ((dat.length : Int) != dt) = true := by rw [bne_iff_ne]; exact hd2
  clear ht hd hd2
  go_enter Try.func19, Try.ntmps19
  go_wp2_with (first | (go_at_call 31; (with_reducible refine (msg_shapeOfE _ h1 h2 hs).mono ?_); rintro e w1 ⟨rfl, hb1⟩; (have bM : Blk w1 w.heap.size 27 #[.int .i64 kind, .slice ta tok.length tc, .slice aa args.length ac, .slice da dat.length dc] := (Blk.new w _ _).below hb1 (by simp)); (have lM := bM.lt); obtain ⟨m0, m1, m2, m3⟩ := bM.four))
  exact bodyPost_ret (v := .tuple #[.slice none 0 0, .int .i64 6]) (by simp [results, Try.results19, go_sem]) rfl (.inr ⟨HN.out, rfl, (by repeat (first | (with_reducible refine Below.setCell ?_ ?_ _) | (with_reducible refine Below.alloc ?_ ?_ _) | (with_reducible refine Below.drew ?_) | (with_reducible refine below_drewN ?_ _) | (with_reducible exact Below.refl _ _) | (with_reducible refine Below.trans ?_ (Below.mono hb1 ?_)) | (focus (simp; done)) | (focus (simp; omega)) | (focus omega) | (focus (have q0 := Below.size hb1; (try simp at q0); (try simp); omega))))⟩)
theorem dat_ok {dt : Int} {n : Nat} (h : dt = -1 ∨ (n : Int) = dt) : (dt = -1 ∧ (dt != -1) = false) ∨ (dt ≠ -1 ∧ (dt != -1) = true ∧ ((n : Int) != dt) = false) := by
  by_cases e : dt = -1
  · exact .inl ⟨e, by rw [e]; rfl⟩
  · refine .inr ⟨e, by rw [bne_iff_ne]; exact e, ?_⟩
    rw [← h.resolve_left e]; exact bne_self_eq_false _
theorem msg_Encode_no4 {tk fx gr lo hi dt : Int} (h1 : 1 ≤ kind) (h2 : kind ≤ 22) (hs : shpOf kind = ⟨tk, fx, gr, lo, hi, dt⟩) (ht : (tok.length : Int) = tk) (hd : dt = -1 ∨ (dat.length : Int) = dt) (hA : args.length ≤ 1000000) (hg : ¬ grpOk ⟨tk, fx, gr, lo, hi, dt⟩ args.length) : Calls Try.prog 19 #[.agg #[.int .i64 kind, .slice ta tok.length tc, .slice aa args.length ac, .slice da dat.length dc]] w (EncM ⟨kind, tok, args, dat⟩ w) := by
  have HN := Lib.hid (show ¬ Msg.Ok ⟨kind, tok, args, dat⟩ from fun h => by have := h.grp; simp only [hs] at this; exact hg this)
  have z1 : ((tok.length : Int) != tk) = false := by rw [ht]; exact bne_self_eq_false tk
  have sh := shpOf_ok kind
  rw [hs] at sh
  rcases dat_ok hd with ⟨rfl, z2⟩ | ⟨_, z2, z3⟩
  all_goals
    clear ht hd
    go_enter Try.func19, Try.ntmps19
    go_wp2_with (first | (go_at_call 31; (with_reducible refine (msg_shapeOfE _ h1 h2 hs).mono ?_); rintro e w1 ⟨rfl, hb1⟩; (have bM : Blk w1 w.heap.size 27 #[.int .i64 kind, .slice ta tok.length tc, .slice aa args.length ac, .slice da dat.length dc] := (Blk.new w _ _).below hb1 (by simp)); (have lM := bM.lt); obtain ⟨m0, m1, m2, m3⟩ := bM.four) | (go_at_call 36; (with_reducible refine (msg_groupsOfN _ _ sh hA hg).mono ?_); rintro e w2 ⟨gg, rfl, hb2⟩; (have bM2 : Blk w2 w.heap.size 27 #[.int .i64 kind, .slice ta tok.length tc, .slice aa args.length ac, .slice da dat.length dc] := (bM.alloc _).below hb2 (by simp; omega)); (have bS2 : Blk w2 w1.heap.size 56 _ := (Blk.new w1 _ _).below hb2 (by simp)); (have lM2 := bM2.lt); (have lS2 := bS2.lt); (have hb02 : Below w.heap.size w w2 := (by repeat (first | (with_reducible refine Below.setCell ?_ ?_ _) | (with_reducible refine Below.alloc ?_ ?_ _) | (with_reducible refine Below.drew ?_) | (with_reducible refine below_drewN ?_ _) | (with_reducible exact Below.refl _ _) | (with_reducible refine Below.trans ?_ (Below.mono hb1 ?_)) | (with_reducible refine Below.trans ?_ (Below.mono hb2 ?_)) | (focus (simp; done)) | (focus (simp; omega)) | (focus omega) | (focus (have q0 := Below.size hb1; (try simp at q0); have q1 := Below.size hb2; (try simp at q1); (try simp); omega))))); obtain ⟨p0, p1, p2, p3⟩ := bM2.four))
    exact bodyPost_ret (v := .tuple #[.slice none 0 0, .int .i64 6]) (by simp [results, Try.results19, go_sem]) rfl (.inr ⟨HN.out, rfl, (by repeat (first | (with_reducible refine Below.setCell ?_ ?_ _) | (with_reducible refine Below.alloc ?_ ?_ _) | (with_reducible refine Below.drew ?_) | (with_reducible refine below_drewN ?_ _) | (with_reducible exact Below.refl _ _) | (with_reducible refine Below.trans ?_ (Below.mono hb1 ?_)) | (with_reducible refine Below.trans ?_ (Below.mono hb2 ?_)) | (focus (simp; done)) | (focus (simp; omega)) | (focus omega) | (focus (have q0 := Below.size hb1; (try simp at q0); have q1 := Below.size hb2; (try simp at q1); (try simp); omega))))⟩)
theorem msg_Encode_no5 {tk fx gr lo hi dt : Int} (h1 : 1 ≤ kind) (h2 : kind ≤ 22) (hs : shpOf kind = ⟨tk, fx, gr, lo, hi, dt⟩) (ht : (tok.length : Int) = tk) (hd : dt = -1 ∨ (dat.length : Int) = dt) (hA : args.length ≤ 1000000) (hg : grpOk ⟨tk, fx, gr, lo, hi, dt⟩ args.length) (hdl : 200 < dat.length) : Calls Try.prog 19 #[.agg #[.int .i64 kind, .slice ta tok.length tc, .slice aa args.length ac, .slice da dat.length dc]] w (EncM ⟨kind, tok, args, dat⟩ w) := by
  have HN := Lib.hid (show ¬ Msg.Ok ⟨kind, tok, args, dat⟩ from fun h => by have := h.dlen; simp only at this; omega)
  have z1 : ((tok.length : Int) != tk) = false := by rw [ht]; exact bne_self_eq_false tk
  have sh := shpOf_ok kind
  rw [hs] at sh
  obtain ⟨g, hgn⟩ : ∃ g, Hid (grpN ⟨tk, fx, gr, lo, hi, dt⟩ args.length = g) := ⟨_, Lib.hid rfl⟩
  rcases dat_ok hd with ⟨rfl, z2⟩ | ⟨_, z2, z3⟩
  all_goals
    clear ht hd
    go_enter Try.func19, Try.ntmps19
    go_wp2_with (first | (go_at_call 31; (with_reducible refine (msg_shapeOfE _ h1 h2 hs).mono ?_); rintro e w1 ⟨rfl, hb1⟩; (have bM : Blk w1 w.heap.size 27 #[.int .i64 kind, .slice ta tok.length tc, .slice aa args.length ac, .slice da dat.length dc] := (Blk.new w _ _).below hb1 (by simp)); (have lM := bM.lt); obtain ⟨m0, m1, m2, m3⟩ := bM.four) | (go_at_call 36; (with_reducible refine (msg_groupsOfY _ _ sh hA hg hgn).mono ?_); rintro e w2 ⟨rfl, hb2⟩; (have bM2 : Blk w2 w.heap.size 27 #[.int .i64 kind, .slice ta tok.length tc, .slice aa args.length ac, .slice da dat.length dc] := (bM.alloc _).below hb2 (by simp; omega)); (have bS2 : Blk w2 w1.heap.size 56 _ := (Blk.new w1 _ _).below hb2 (by simp)); (have lM2 := bM2.lt); (have lS2 := bS2.lt); (have hb02 : Below w.heap.size w w2 := (by repeat (first | (with_reducible refine Below.setCell ?_ ?_ _) | (with_reducible refine Below.alloc ?_ ?_ _) | (with_reducible refine Below.drew ?_) | (with_reducible refine below_drewN ?_ _) | (with_reducible exact Below.refl _ _) | (with_reducible refine Below.trans ?_ (Below.mono hb1 ?_)) | (with_reducible refine Below.trans ?_ (Below.mono hb2 ?_)) | (focus (simp; done)) | (focus (simp; omega)) | (focus omega) | (focus (have q0 := Below.size hb1; (try simp at q0); have q1 := Below.size hb2; (try simp at q1); (try simp); omega))))); obtain ⟨p0, p1, p2, p3⟩ := bM2.four))
    exact bodyPost_ret (v := .tuple #[.slice none 0 0, .int .i64 6]) (by simp [results, Try.results19, go_sem]) rfl (.inr ⟨HN.out, rfl, (by repeat (first | (with_reducible refine Below.setCell ?_ ?_ _) | (with_reducible refine Below.alloc ?_ ?_ _) | (with_reducible refine Below.drew ?_) | (with_reducible refine below_drewN ?_ _) | (with_reducible exact Below.refl _ _) | (with_reducible refine Below.trans ?_ (Below.mono hb1 ?_)) | (with_reducible refine Below.trans ?_ (Below.mono hb2 ?_)) | (focus (simp; done)) | (focus (simp; omega)) | (focus omega) | (focus (have q0 := Below.size hb1; (try simp at q0); have q1 := Below.size hb2; (try simp at q1); (try simp); omega))))⟩)
theorem Own.lenB {w : World} {base n cap : Nat} {e : TypeId} {a : Option Addr} {l : List UInt8} (h : Own w base e 1 a n cap (l.map encB)) : n = l.length := by
  have := h.1
  simp at this
  omega
theorem gCode_cases (s : Shp) (g : Int) (k : Nat) : (((k : Int) == s.fix) = true ∧ decide (0 < s.grp) = true ∧ gCode s g k = vEnc g.toNat) ∨ (((k : Int) == s.fix) = true ∧ decide (0 < s.grp) = false ∧ gCode s g k = []) ∨ (((k : Int) == s.fix) = false ∧ gCode s g k = []) := by
  unfold gCode
  by_cases h1 : (k : Int) = s.fix
  · by_cases h2 : 0 < s.grp
    · exact .inl ⟨by rw [beq_iff_eq]; exact h1, decide_eq_true h2, by rw [if_pos ⟨h1, h2⟩]⟩
    · exact .inr (.inl ⟨by rw [beq_iff_eq]; exact h1, decide_eq_false h2, by rw [if_neg (fun h => h2 h.2)]⟩)
  · exact .inr (.inr ⟨by rw [beq_eq_false_iff_ne]; exact h1, by rw [if_neg (fun h => h1 h.1)]⟩)
theorem encM_fin {m : Msg} {w w2 w6 : World} {b : Option Addr} {n cap : Nat} {l : List UInt8} (hp : m.pay = l ++ m.dat) (hok : m.pay.length ≤ 200 → m.Ok) (own : Own w6 w2.heap.size 5 1 b n cap ((l ++ m.dat).map encB)) (h02 : w.heap.size ≤ w2.heap.size) (hb : Below w.heap.size w w6) :
    (n ≤ 200 → EncM m w (.returned (.tuple #[.slice b n cap, .int .i64 0])) w6) ∧ (200 < n → EncM m w (.returned (.tuple #[.slice none 0 0, .int .i64 6])) w6) := by
  have hn := own.lenB
  rw [← hp] at own hn
  exact ⟨fun h => .inl ⟨hok (by omega), b, n, cap, rfl, hn, own.mono h02, hb⟩, fun h => .inr ⟨fun h' => by have := h'.plen; omega, rfl, hb⟩⟩
theorem pay_split {kind : Int} {tok : List UInt8} {args : List Int} {dat l : List UInt8} {s : Shp} {g : Int} (hs : shpOf kind = s) (hgn : grpN s args.length = g) (h : l = tok ++ encFrom (shpOf kind) g 0 args) : Msg.pay ⟨kind, tok, args, dat⟩ = l ++ dat := by
  subst h
  unfold Msg.pay
  simp only [hs, hgn]
theorem msg_ok {kind : Int} {tok : List UInt8} {args : List Int} {dat : List UInt8} {s : Shp} (h1 : 1 ≤ kind) (h2 : kind ≤ 22) (hs : shpOf kind = s) (ht : (tok.length : Int) = s.tok) (hd : s.dat = -1 ∨ (dat.length : Int) = s.dat) (hg : grpOk s args.length) (hdl : dat.length ≤ 200) (hall : ∀ n ∈ args, argOk n) (hp : (Msg.pay ⟨kind, tok, args, dat⟩).length ≤ 200) : Msg.Ok ⟨kind, tok, args, dat⟩ :=
  ⟨⟨h1, h2⟩, by simp only [hs]; exact ht, by simp only [hs]; exact hd, by simp only [hs]; exact hg, hdl, hall, hp⟩
set_option maxHeartbeats 4000000 in
theorem msg_Encode_main {tk fx gr lo hi dt : Int} (h1 : 1 ≤ kind) (h2 : kind ≤ 22) (hs : shpOf kind = ⟨tk, fx, gr, lo, hi, dt⟩) (ht : (tok.length : Int) = tk) (hd : dt = -1 ∨ (dat.length : Int) = dt) (hA : args.length ≤ 1000000) (hg : grpOk ⟨tk, fx, gr, lo, hi, dt⟩ args.length) (hdl : dat.length ≤ 200)
    (hat : MsgAt w ⟨kind, tok, args, dat⟩ ta tc aa da) : Calls Try.prog 19 #[.agg #[.int .i64 kind, .slice ta tok.length tc, .slice aa args.length ac, .slice da dat.length dc]] w (EncM ⟨kind, tok, args, dat⟩ w) := by
  have z1 : ((tok.length : Int) != tk) = false := by rw [ht]; exact bne_self_eq_false tk
  have sh := shpOf_ok kind
  rw [hs] at sh
  obtain ⟨g, hgn⟩ : ∃ g, Hid (grpN ⟨tk, fx, gr, lo, hi, dt⟩ args.length = g) := ⟨_, Lib.hid rfl⟩
  obtain ⟨g0, g1⟩ := grpN_bd sh hg
  rw [hgn.out] at g0 g1
  obtain ⟨gL, hgL⟩ : ∃ gL, Hid (gL = (vEnc g.toNat).length) := ⟨_, Lib.hid rfl⟩
  have gl : gL ≤ 1 := by rw [hgL.out, vEnc_lt (by omega)]; simp
  have tl : tok.length ≤ 10 := by have := sh.tok; simp only at this; omega
  have HS := Lib.hid hs
  have HT := Lib.hid ht
  have HD := Lib.hid hd
  have HG := Lib.hid hg
  obtain ⟨bt, ba, bd, hnil, _⟩ := hat
  simp only at bt ba bd hnil
  have z5 : decide (200 < dat.length) = false := decide_eq_false (by omega)
  have HOK := Lib.hid (msg_ok h1 h2 hs ht hd hg hdl)
  rcases dat_ok hd with ⟨rfl, z2⟩ | ⟨_, z2, z3⟩
  all_goals
    clear ht hd
    go_enter Try.func19, Try.ntmps19
    go_wp2_with (first | (go_at_call 31; (with_reducible refine (msg_shapeOfE _ h1 h2 hs).mono ?_); rintro e w1 ⟨rfl, hb1⟩; (have bM : Blk w1 w.heap.size 27 #[.int .i64 kind, .slice ta tok.length tc, .slice aa args.length ac, .slice da dat.length dc] := (Blk.new w _ _).below hb1 (by simp)); (have lM := bM.lt); obtain ⟨m0, m1, m2, m3⟩ := bM.four) | (go_at_call 36; (with_reducible refine (msg_groupsOfY _ _ sh hA hg hgn).mono ?_); rintro e w2 ⟨rfl, hb2⟩; (have bM2 : Blk w2 w.heap.size 27 #[.int .i64 kind, .slice ta tok.length tc, .slice aa args.length ac, .slice da dat.length dc] := (bM.alloc _).below hb2 (by simp; omega)); (have bS2 : Blk w2 w1.heap.size 56 _ := (Blk.new w1 _ _).below hb2 (by simp)); (have lM2 := bM2.lt); (have lS2 := bS2.lt); (have hb02 : Below w.heap.size w w2 := (by repeat (first | (with_reducible refine Below.setCell ?_ ?_ _) | (with_reducible refine Below.alloc ?_ ?_ _) | (with_reducible refine Below.drew ?_) | (with_reducible refine below_drewN ?_ _) | (with_reducible exact Below.refl _ _) | (with_reducible refine Below.trans ?_ (Below.mono hb1 ?_)) | (with_reducible refine Below.trans ?_ (Below.mono hb2 ?_)) | (focus (simp; done)) | (focus (simp; omega)) | (focus omega) | (focus (have q0 := Below.size hb1; (try simp at q0); have q1 := Below.size hb2; (try simp at q1); (try simp); omega))))); obtain ⟨p0, p1, p2, p3⟩ := bM2.four) | (go_at_call 33; (with_reducible refine (clone_B ta _ tc tok _ (bt.below hb02 (Nat.le_refl _)) rfl (by omega) hnil).mono ?_); rintro e w3 ⟨pa, pc, rfl, own3, hb3⟩; (have bM3 := bM2.below hb3 lM2); (have bS3 := bS2.below hb3 lS2); obtain ⟨r0, r1, r2, r3⟩ := bM3.four))
    go_loopw [65, 7] (fun i v wr => ∃ (k : Nat) (l : List UInt8) (b : Option Addr) (N cap : Nat), k ≤ args.length ∧ i = .int .i64 k ∧ v = .slice b N cap ∧ Own wr w2.heap.size 5 1 b N cap (l.map encB) ∧ Below w2.heap.size w2 wr ∧ N ≤ 10 + 6 * k ∧ l ++ encFrom (shpOf kind) g k (args.drop k) = tok ++ encFrom (shpOf kind) g 0 args ∧ ∀ n ∈ args.take k, argOk n) (fun i _ _ => args.length + 1 - (intOf i).toNat)
    case atStart => exact ⟨0, tok, _, _, _, Nat.zero_le _, rfl, rfl, own3, hb3, by omega, rfl, by simp⟩
    case round =>
      obtain ⟨k, l, b, N, cap, hk, rfl, rfl, own, hbel, hN, hl, hall⟩ := hrel
      have HL := Lib.hid hl
      have HA := Lib.hid hall
      clear hl hall
      have c1 : (k : Int) < (args.length : Int) + 1 := by omega
      have fM : ∀ W, Below w2.heap.size w2 W → Blk W w.heap.size 27 #[.int .i64 kind, .slice ta tok.length tc, .slice aa args.length ac, .slice da dat.length dc] := fun W h => bM2.below h lM2
      have fS : ∀ W, Below w2.heap.size w2 W → Blk W w1.heap.size 56 _ := fun W h => bS2.below h lS2
      have bMr := fM _ hbel
      have bSr := fS _ hbel
      have lMr := bMr.lt
      have lSr := bSr.lt
      obtain ⟨u0, u1, u2, u3⟩ := bMr.four
      obtain ⟨v0, v1, v2, v3, v4, v5⟩ := bSr.six
      have HGC : Hid ((((k : Int) == fx) = true ∧ decide (0 < gr) = true ∧ gCode (shpOf kind) g k = vEnc g.toNat) ∨ (((k : Int) == fx) = true ∧ decide (0 < gr) = false ∧ gCode (shpOf kind) g k = []) ∨ (((k : Int) == fx) = false ∧ gCode (shpOf kind) g k = [])) := by
        have := gCode_cases (shpOf kind) g k
        show _ ∨ _
        rw [hs] at this ⊢
        exact this
      have fW : ∀ W, Below w2.heap.size w2 W → Below w.heap.size w W := fun W h => (by repeat (first | (with_reducible refine Below.setCell ?_ ?_ _) | (with_reducible refine Below.alloc ?_ ?_ _) | (with_reducible refine Below.drew ?_) | (with_reducible refine below_drewN ?_ _) | (with_reducible exact Below.refl _ _) | (with_reducible refine Below.trans ?_ (Below.mono hb02 ?_)) | (with_reducible refine Below.trans ?_ (Below.mono h ?_)) | (focus (simp; done)) | (focus (simp; omega)) | (focus omega) | (focus (have q0 := Below.size hb02; (try simp at q0); have q1 := Below.size h; (try simp at q1); (try simp); omega))))
      have hb0r := fW _ hbel
      by_cases hkA : k = args.length
      · have y1 : ((k : Int) == (args.length : Int)) = true := by rw [beq_iff_eq]; omega
        have HE : Hid (l ++ gCode (shpOf kind) g k = tok ++ encFrom (shpOf kind) g 0 args) := by
          show _ = _
          rw [← HL.out, hkA, List.drop_length]
          rfl
        have HALL : Hid (∀ n ∈ args, argOk n) := by
          have := HA.out
          rw [hkA, List.take_length] at this
          exact this
        clear hkA
        rcases HGC.out with ⟨x1, x2, x3⟩ | ⟨x1, x2, x3⟩ | ⟨x1, x3⟩
        · have HC := Lib.hid x3
          clear x3
          by_cases hfin : 200 < N + gL + dat.length
          all_goals
            go_wp2_with (first | (go_at_call 37; (with_reducible refine (varint_EncOk g g0 (by omega) hgL _).mono ?_); rintro e w4 ⟨xa, xc, rfl, ownx, hb4⟩; (have hb24 : Below w2.heap.size w2 w4 := (by repeat (first | (with_reducible refine Below.setCell ?_ ?_ _) | (with_reducible refine Below.alloc ?_ ?_ _) | (with_reducible refine Below.drew ?_) | (with_reducible refine below_drewN ?_ _) | (with_reducible exact Below.refl _ _) | (with_reducible refine Below.trans ?_ (Below.mono hb4 ?_)) | (with_reducible refine Below.trans ?_ (Below.mono hbel ?_)) | (focus (simp; done)) | (focus (simp; omega)) | (focus omega) | (focus (have q0 := Below.size hb4; (try simp at q0); have q1 := Below.size hbel; (try simp at q1); (try simp); omega))))); (have bx := ownx.byt); (have own4 := own.below hb4 (Nat.le_refl _))) | (at_builtin; refine appB rfl _ _ rfl w2.heap.size _ _ cap l rfl xa _ xc (vEnc g.toNat) rfl own4 bx hgL.out _ rfl (by omega) hb24.size ?_; intro b5 cap5 w5 own5 g5 bl5; (have hb25 := bl5 w2 hb24); rw [← HC.out] at own5; (have bM5 := fM _ hb25); obtain ⟨m0, m1, m2, m3⟩ := bM5.four; (have hb05 : Below w.heap.size w w5 := (by repeat (first | (with_reducible refine Below.setCell ?_ ?_ _) | (with_reducible refine Below.alloc ?_ ?_ _) | (with_reducible refine Below.drew ?_) | (with_reducible refine below_drewN ?_ _) | (with_reducible exact Below.refl _ _) | (with_reducible refine Below.trans ?_ (Below.mono hb02 ?_)) | (with_reducible refine Below.trans ?_ (Below.mono hb25 ?_)) | (focus (simp; done)) | (focus (simp; omega)) | (focus omega) | (focus (have q0 := Below.size hb02; (try simp at q0); have q1 := Below.size hb25; (try simp at q1); (try simp); omega)))))) | (at_builtin; refine appB rfl _ _ rfl w2.heap.size _ _ _ (l ++ gCode (shpOf kind) g k) rfl da _ _ dat rfl own5 (bd.below hb05 (Nat.le_refl _)) rfl _ rfl (by omega) hb25.size ?_; intro b6 cap6 w6 own6 g6 bl6; (have hb26 := bl6 w2 hb25)))
            have FF := encM_fin (m := ⟨kind, tok, args, dat⟩) (w := w) (pay_split HS.out hgn.out HE.out) (HOK.out HALL.out) own6 hb02.size (by repeat (first | (with_reducible refine Below.setCell ?_ ?_ _) | (with_reducible refine Below.alloc ?_ ?_ _) | (with_reducible refine Below.drew ?_) | (with_reducible refine below_drewN ?_ _) | (with_reducible exact Below.refl _ _) | (with_reducible refine Below.trans ?_ (Below.mono hb02 ?_)) | (with_reducible refine Below.trans ?_ (Below.mono hb26 ?_)) | (focus (simp; done)) | (focus (simp; omega)) | (focus omega) | (focus (have q0 := Below.size hb02; (try simp at q0); have q1 := Below.size hb26; (try simp at q1); (try simp); omega))))
            first
              | exact bodyPost_ret (v := .tuple #[.slice none 0 0, .int .i64 6]) (by simp [results, Try.results19, go_sem]) rfl (FF.2 (by omega))
              | exact bodyPost_ret (v := .tuple #[.slice b6 _ cap6, .int .i64 0]) (by simp [results, Try.results19, go_sem]) rfl (FF.1 (by omega))
        all_goals
          have HC := Lib.hid x3
          clear x3
          have own5 := own
          have E5 : l.map encB = (l ++ gCode (shpOf kind) g k).map encB := by rw [HC.out, List.append_nil]
          rw [E5] at own5
          clear E5
          have hb25 := hbel
          have hb05 := hb0r
          by_cases hfin : 200 < N + dat.length
          all_goals
            go_wp2_with (first | (at_builtin; refine appB rfl _ _ rfl w2.heap.size _ _ _ (l ++ gCode (shpOf kind) g k) rfl da _ _ dat rfl own5 (bd.below hb05 (Nat.le_refl _)) rfl _ rfl (by omega) hb25.size ?_; intro b6 cap6 w6 own6 g6 bl6; (have hb26 := bl6 w2 hb25)))
            have FF := encM_fin (m := ⟨kind, tok, args, dat⟩) (w := w) (pay_split HS.out hgn.out HE.out) (HOK.out HALL.out) own6 hb02.size (by repeat (first | (with_reducible refine Below.setCell ?_ ?_ _) | (with_reducible refine Below.alloc ?_ ?_ _) | (with_reducible refine Below.drew ?_) | (with_reducible refine below_drewN ?_ _) | (with_reducible exact Below.refl _ _) | (with_reducible refine Below.trans ?_ (Below.mono hb02 ?_)) | (with_reducible refine Below.trans ?_ (Below.mono hb26 ?_)) | (focus (simp; done)) | (focus (simp; omega)) | (focus omega) | (focus (have q0 := Below.size hb02; (try simp at q0); have q1 := Below.size hb26; (try simp at q1); (try simp); omega))))
            first
              | exact bodyPost_ret (v := .tuple #[.slice none 0 0, .int .i64 6]) (by simp [results, Try.results19, go_sem]) rfl (FF.2 (by omega))
              | exact bodyPost_ret (v := .tuple #[.slice b6 _ cap6, .int .i64 0]) (by simp [results, Try.results19, go_sem]) rfl (FF.1 (by omega))
      · have hlt : k < args.length := by omega
        have y1 : ((k : Int) == (args.length : Int)) = false := by rw [beq_eq_false_iff_ne]; omega
        rcases ba.open with rfl | ⟨ab, aoff, rfl, hbl, hc⟩
        · simp at hlt
        obtain ⟨x, hx⟩ : ∃ x, args[k] = x := ⟨_, rfl⟩
        have fX : ∀ W, Below w.heap.size w W → W.cell? ⟨ab, aoff + k, none⟩ = some (.int .i64 x) := fun W h => by rw [(bcell h).1 ab _ hbl, hc k hlt, hx]
        have cxr := fX _ hb0r
        by_cases hxo : argOk x
        · obtain ⟨x0, x1⟩ := hxo
          obtain ⟨xL, hxL⟩ : ∃ xL, Hid (xL = (vEnc x.toNat).length) := ⟨_, Lib.hid rfl⟩
          have xl : xL ≤ 5 := by rw [hxL.out]; exact vEnc_len5 (by omega)
          have HE2 : Hid ((l ++ gCode (shpOf kind) g k) ++ vEnc x.toNat ++ encFrom (shpOf kind) g (k + 1) (args.drop (k + 1)) = tok ++ encFrom (shpOf kind) g 0 args) := by
            show _ = _
            rw [← HL.out, List.drop_eq_getElem_cons hlt, hx]
            simp [encFrom]
          have HA2 : Hid (∀ n ∈ args.take (k + 1), argOk n) := by
            show ∀ n ∈ _, _
            rw [List.take_succ_eq_append_getElem hlt, hx]
            intro n hn
            rcases List.mem_append.1 hn with h | h
            · exact HA.out n h
            · rw [List.mem_singleton.1 h]; exact ⟨x0, x1⟩
          clear hx hc
          rcases HGC.out with ⟨q1, q2, q3⟩ | ⟨q1, q2, q3⟩ | ⟨q1, q3⟩
          · have HC := Lib.hid q3
            clear q3
            go_wp2_with (first | (go_at_call 37; (with_reducible refine (varint_EncOk g g0 (by omega) hgL _).mono ?_); rintro e w4 ⟨xa, xc, rfl, ownx, hb4⟩; (have hb24 : Below w2.heap.size w2 w4 := (by repeat (first | (with_reducible refine Below.setCell ?_ ?_ _) | (with_reducible refine Below.alloc ?_ ?_ _) | (with_reducible refine Below.drew ?_) | (with_reducible refine below_drewN ?_ _) | (with_reducible exact Below.refl _ _) | (with_reducible refine Below.trans ?_ (Below.mono hb4 ?_)) | (with_reducible refine Below.trans ?_ (Below.mono hbel ?_)) | (focus (simp; done)) | (focus (simp; omega)) | (focus omega) | (focus (have q0 := Below.size hb4; (try simp at q0); have q1 := Below.size hbel; (try simp at q1); (try simp); omega))))); (have bx := ownx.byt); (have own4 := own.below hb4 (Nat.le_refl _))) | (at_builtin; refine appB rfl _ _ rfl w2.heap.size _ _ cap l rfl xa _ xc (vEnc g.toNat) rfl own4 bx hgL.out _ rfl (by omega) hb24.size ?_; intro b5 cap5 w5 own5 g5 bl5; (have hb25 := bl5 w2 hb24); rw [← HC.out] at own5; (have bM5 := fM _ hb25); obtain ⟨m0, m1, m2, m3⟩ := bM5.four; (have hb05 : Below w.heap.size w w5 := (by repeat (first | (with_reducible refine Below.setCell ?_ ?_ _) | (with_reducible refine Below.alloc ?_ ?_ _) | (with_reducible refine Below.drew ?_) | (with_reducible refine below_drewN ?_ _) | (with_reducible exact Below.refl _ _) | (with_reducible refine Below.trans ?_ (Below.mono hb02 ?_)) | (with_reducible refine Below.trans ?_ (Below.mono hb25 ?_)) | (focus (simp; done)) | (focus (simp; omega)) | (focus omega) | (focus (have q0 := Below.size hb02; (try simp at q0); have q1 := Below.size hb25; (try simp at q1); (try simp); omega))))); (have cx5 := fX _ hb05)) | (go_at_call 37; (with_reducible refine (varint_EncOk x x0 x1 hxL _).mono ?_); rintro e w6 ⟨ya, yc, rfl, owny, hb6⟩; (have own6 := own5.below hb6 (Nat.le_refl _)); (have byt6 := owny.byt); (have hb26 : Below w2.heap.size w2 w6 := (by repeat (first | (with_reducible refine Below.setCell ?_ ?_ _) | (with_reducible refine Below.alloc ?_ ?_ _) | (with_reducible refine Below.drew ?_) | (with_reducible refine below_drewN ?_ _) | (with_reducible exact Below.refl _ _) | (with_reducible refine Below.trans ?_ (Below.mono hb6 ?_)) | (with_reducible refine Below.trans ?_ (Below.mono hb25 ?_)) | (focus (simp; done)) | (focus (simp; omega)) | (focus omega) | (focus (have q0 := Below.size hb6; (try simp at q0); have q1 := Below.size hb25; (try simp at q1); (try simp); omega)))))) | (at_builtin; refine appB rfl _ _ rfl w2.heap.size _ _ _ (l ++ gCode (shpOf kind) g k) rfl ya _ _ (vEnc x.toNat) rfl own6 byt6 hxL.out _ rfl (by omega) hb26.size ?_; intro b7 cap7 w7 own7 g7 bl7; (have hb27 := bl7 w2 hb26)))
            go_roundw
            case rel => exact ⟨k + 1, (l ++ gCode (shpOf kind) g k) ++ vEnc x.toNat, _, _, _, by omega, by go_num, rfl, own7, hb27, by omega, HE2.out, HA2.out⟩
            case measure => simp [intOf]; omega
          all_goals
            have HC := Lib.hid q3
            clear q3
            have own5 := own
            have E5 : l.map encB = (l ++ gCode (shpOf kind) g k).map encB := by rw [HC.out, List.append_nil]
            rw [E5] at own5
            clear E5
            have hb25 := hbel
            have hb05 := hb0r
            go_wp2_with (first | (go_at_call 37; (with_reducible refine (varint_EncOk x x0 x1 hxL _).mono ?_); rintro e w6 ⟨ya, yc, rfl, owny, hb6⟩; (have own6 := own5.below hb6 (Nat.le_refl _)); (have byt6 := owny.byt); (have hb26 : Below w2.heap.size w2 w6 := (by repeat (first | (with_reducible refine Below.setCell ?_ ?_ _) | (with_reducible refine Below.alloc ?_ ?_ _) | (with_reducible refine Below.drew ?_) | (with_reducible refine below_drewN ?_ _) | (with_reducible exact Below.refl _ _) | (with_reducible refine Below.trans ?_ (Below.mono hb6 ?_)) | (with_reducible refine Below.trans ?_ (Below.mono hb25 ?_)) | (focus (simp; done)) | (focus (simp; omega)) | (focus omega) | (focus (have q0 := Below.size hb6; (try simp at q0); have q1 := Below.size hb25; (try simp at q1); (try simp); omega)))))) | (at_builtin; refine appB rfl _ _ rfl w2.heap.size _ _ _ (l ++ gCode (shpOf kind) g k) rfl ya _ _ (vEnc x.toNat) rfl own6 byt6 hxL.out _ rfl (by omega) hb26.size ?_; intro b7 cap7 w7 own7 g7 bl7; (have hb27 := bl7 w2 hb26)))
            go_roundw
            case rel => exact ⟨k + 1, (l ++ gCode (shpOf kind) g k) ++ vEnc x.toNat, _, _, _, by omega, by go_num, rfl, own7, hb27, by omega, HE2.out, HA2.out⟩
            case measure => simp [intOf]; omega
        · have HNO : Hid (¬ Msg.Ok ⟨kind, tok, args, dat⟩) := Lib.hid fun h => hxo (hx ▸ h.args _ (List.getElem_mem hlt))
          clear hx hc
          rcases HGC.out with ⟨q1, q2, q3⟩ | ⟨q1, q2, q3⟩ | ⟨q1, q3⟩
          · have HC := Lib.hid q3
            clear q3
            go_wp2_with (first | (go_at_call 37; (with_reducible refine (varint_EncOk g g0 (by omega) hgL _).mono ?_); rintro e w4 ⟨xa, xc, rfl, ownx, hb4⟩; (have hb24 : Below w2.heap.size w2 w4 := (by repeat (first | (with_reducible refine Below.setCell ?_ ?_ _) | (with_reducible refine Below.alloc ?_ ?_ _) | (with_reducible refine Below.drew ?_) | (with_reducible refine below_drewN ?_ _) | (with_reducible exact Below.refl _ _) | (with_reducible refine Below.trans ?_ (Below.mono hb4 ?_)) | (with_reducible refine Below.trans ?_ (Below.mono hbel ?_)) | (focus (simp; done)) | (focus (simp; omega)) | (focus omega) | (focus (have q0 := Below.size hb4; (try simp at q0); have q1 := Below.size hbel; (try simp at q1); (try simp); omega))))); (have bx := ownx.byt); (have own4 := own.below hb4 (Nat.le_refl _))) | (at_builtin; refine appB rfl _ _ rfl w2.heap.size _ _ cap l rfl xa _ xc (vEnc g.toNat) rfl own4 bx hgL.out _ rfl (by omega) hb24.size ?_; intro b5 cap5 w5 own5 g5 bl5; (have hb25 := bl5 w2 hb24); rw [← HC.out] at own5; (have bM5 := fM _ hb25); obtain ⟨m0, m1, m2, m3⟩ := bM5.four; (have hb05 : Below w.heap.size w w5 := (by repeat (first | (with_reducible refine Below.setCell ?_ ?_ _) | (with_reducible refine Below.alloc ?_ ?_ _) | (with_reducible refine Below.drew ?_) | (with_reducible refine below_drewN ?_ _) | (with_reducible exact Below.refl _ _) | (with_reducible refine Below.trans ?_ (Below.mono hb02 ?_)) | (with_reducible refine Below.trans ?_ (Below.mono hb25 ?_)) | (focus (simp; done)) | (focus (simp; omega)) | (focus omega) | (focus (have q0 := Below.size hb02; (try simp at q0); have q1 := Below.size hb25; (try simp at q1); (try simp); omega))))); (have cx5 := fX _ hb05)) | (go_at_call 37; (with_reducible refine (varint_EncNo x hxo _).mono ?_); rintro e w6 ⟨rfl, hb6⟩; (have hb06 : Below w.heap.size w w6 := (by repeat (first | (with_reducible refine Below.setCell ?_ ?_ _) | (with_reducible refine Below.alloc ?_ ?_ _) | (with_reducible refine Below.drew ?_) | (with_reducible refine below_drewN ?_ _) | (with_reducible exact Below.refl _ _) | (with_reducible refine Below.trans ?_ (Below.mono hb6 ?_)) | (with_reducible refine Below.trans ?_ (Below.mono hb05 ?_)) | (focus (simp; done)) | (focus (simp; omega)) | (focus omega) | (focus (have q0 := Below.size hb6; (try simp at q0); have q1 := Below.size hb05; (try simp at q1); (try simp); omega)))))))
            exact bodyPost_ret (v := .tuple #[.slice none 0 0, .int .i64 6]) (by simp [results, Try.results19, go_sem]) rfl (.inr ⟨HNO.out, rfl, hb06⟩)
          all_goals
            have HC := Lib.hid q3
            clear q3
            have own5 := own
            have E5 : l.map encB = (l ++ gCode (shpOf kind) g k).map encB := by rw [HC.out, List.append_nil]
            rw [E5] at own5
            clear E5
            have hb25 := hbel
            have hb05 := hb0r
            go_wp2_with (first | (go_at_call 37; (with_reducible refine (varint_EncNo x hxo _).mono ?_); rintro e w6 ⟨rfl, hb6⟩; (have hb06 : Below w.heap.size w w6 := (by repeat (first | (with_reducible refine Below.setCell ?_ ?_ _) | (with_reducible refine Below.alloc ?_ ?_ _) | (with_reducible refine Below.drew ?_) | (with_reducible refine below_drewN ?_ _) | (with_reducible exact Below.refl _ _) | (with_reducible refine Below.trans ?_ (Below.mono hb6 ?_)) | (with_reducible refine Below.trans ?_ (Below.mono hb05 ?_)) | (focus (simp; done)) | (focus (simp; omega)) | (focus omega) | (focus (have q0 := Below.size hb6; (try simp at q0); have q1 := Below.size hb05; (try simp at q1); (try simp); omega)))))))
            exact bodyPost_ret (v := .tuple #[.slice none 0 0, .int .i64 6]) (by simp [results, Try.results19, go_sem]) rfl (.inr ⟨HNO.out, rfl, hb06⟩)
theorem msg_Encode (m : Msg) (ta : Option Addr) (tc : Nat) (aa da : Option Addr) (ac dc : Nat) (w : World) (hat : MsgAt w m ta tc aa da) {tn an dn : Nat} (h1 : tn = m.tok.length) (h2 : an = m.args.length) (h3 : dn = m.dat.length) :
    Calls Try.prog 19 #[.agg #[.int .i64 m.kind, .slice ta tn tc, .slice aa an ac, .slice da dn dc]] w (EncM m w) := by
  obtain ⟨kind, tok, args, dat⟩ := m
  subst h1 h2 h3
  by_cases hk : kind < 1 ∨ 22 < kind
  · exact msg_Encode_no1 kind tok args dat ta aa da tc ac dc w hk
  obtain ⟨⟨tk, fx, gr, lo, hi, dt⟩, hs⟩ : ∃ s, shpOf kind = s := ⟨_, rfl⟩
  by_cases ht : (tok.length : Int) = tk
  case neg => exact msg_Encode_no2 kind tok args dat ta aa da tc ac dc w (by omega) (by omega) hs ht
  by_cases hd : dt = -1 ∨ (dat.length : Int) = dt
  case neg => exact msg_Encode_no3 kind tok args dat ta aa da tc ac dc w (by omega) (by omega) hs ht (fun h => hd (.inl h)) (fun h => hd (.inr h))
  by_cases hg : grpOk ⟨tk, fx, gr, lo, hi, dt⟩ args.length
  case neg => exact msg_Encode_no4 kind tok args dat ta aa da tc ac dc w (by omega) (by omega) hs ht hd hat.len.2.1 hg
  by_cases hdl : 200 < dat.length
  · exact msg_Encode_no5 kind tok args dat ta aa da tc ac dc w (by omega) (by omega) hs ht hd hat.len.2.1 hg hdl
  · exact msg_Encode_main kind tok args dat ta aa da tc ac dc w (by omega) (by omega) hs ht hd hat.len.2.1 hg (by omega) hat
end
end Go.Proofs.Ythkoijgobigdnaa
