/- law 25: InboxSteps -/
import Derived.Test.YtlfccoakodnbaaaTold
import Derived.Test.YtlfccoakodnbaaaOpenI
namespace Go.Proofs.Ytlfccoakodnbaaa
set_option linter.unusedVariables false
open Go.RowKit Go.Sort
set_option maxRecDepth 100000

theorem boolOf_bool (b : Bool) : boolOf (.bool b) = some b := rfl
attribute [go_sem] boolOf_bool
set_option maxHeartbeats 1000000 in
theorem deck_Left {lf : Bool} (p : Nat) (w : World) (d : Dk) (k : Nat) (hd : DeckAt w p d k) (hl : Hid (decide (k < d.l.length) = lf)) :
    Calls Try.prog 21 #[.pointer (some ⟨p, 0, none⟩)] w fun e w' => e = .returned (.bool lf) ∧ Below w.heap.size w w' := by
  obtain ⟨a, c, l⟩ := d
  obtain ⟨hblk, hi, hlen, hk, hap⟩ := hd
  simp only at hblk hi hlen hk hap
  have c0 : w.cell? ⟨p, 0, none⟩ = some (.slice a l.length c) := hblk.cell 0
  have c1 : w.cell? ⟨p, 1, none⟩ = some (.int .i64 k) := hblk.cell 1
  go_enter Try.func21, Try.ntmps21
  go_wp2
  go_quiet (fail)
  go_wp2
  go_ret
  exact ⟨ret_bool hl.out, (by repeat (first | (with_reducible refine Below.setCell ?_ ?_ _) | (with_reducible refine Below.alloc ?_ ?_ _) | (with_reducible refine Below.drew ?_) | (with_reducible refine below_drewN ?_ _) | (with_reducible exact Below.refl _ _) | (focus (simp; done)) | (focus (simp; omega)) | (focus omega)))⟩
theorem inbox_DropV (o d g : Bool) (a : Option Addr) (n c : Nat) (w : World) :
    Calls Try.prog 24 #[.agg #[.bool o, .bool d, .slice a n c, .bool g]] w fun e w' => e = .returned (.agg #[.bool false, .bool false, .slice none 0 0, .bool false]) ∧ Below w.heap.size w w' := by
  go_enter Try.func24, Try.ntmps24
  go_wp2
  refine bodyPost_ret (v := .agg #[.bool false, .bool false, .slice none 0 0, .bool false]) (by simp [results, Try.results24, go_sem]) rfl ?_
  exact ⟨rfl, (by repeat (first | (with_reducible refine Below.setCell ?_ ?_ _) | (with_reducible refine Below.alloc ?_ ?_ _) | (with_reducible refine Below.drew ?_) | (with_reducible refine below_drewN ?_ _) | (with_reducible exact Below.refl _ _) | (focus (simp; done)) | (focus (simp; omega)) | (focus omega)))⟩
theorem ref25_DropV (o d g : Bool) (a : Option Addr) (n c : Nat) (w : World) :
    Calls Try.prog 25 #[.agg #[.bool o, .bool d, .slice a n c, .bool g]] w fun e w' => e = .returned (.agg #[.bool false, .bool false, .slice none 0 0, .bool false]) ∧ Below w.heap.size w w' := by
  go_enter Try.func25, Try.ntmps25
  go_wp2
  refine bodyPost_ret (v := .agg #[.bool false, .bool false, .slice none 0 0, .bool false]) (by simp [results, Try.results25, go_sem]) rfl ?_
  exact ⟨rfl, (by repeat (first | (with_reducible refine Below.setCell ?_ ?_ _) | (with_reducible refine Below.alloc ?_ ?_ _) | (with_reducible refine Below.drew ?_) | (with_reducible refine below_drewN ?_ _) | (with_reducible exact Below.refl _ _) | (focus (simp; done)) | (focus (simp; omega)) | (focus omega)))⟩
/-- a session's value, and where its bytes lie -/
def SPsi (o d g : Bool) (l : List UInt8) (v : Value) (b0 b1 : Nat) (W : World) : Prop :=
  ∃ (a : Option Addr) (c n : Nat), v = .agg #[.bool o, .bool d, .slice a n c, .bool g] ∧ n = l.length ∧ Own W 0 5 1 a n c (l.map encB) ∧ ∀ k, a.map (·.block) = some k → b0 ≤ k ∧ k < b1
theorem SPsi.keep {o d g : Bool} {l : List UInt8} {v : Value} {b0 b1 : Nat} {w w' : World} (h : SPsi o d g l v b0 b1 w) (hown : ∀ b, b0 ≤ b → b < b1 → w'.heap[b]? = w.heap[b]?) : SPsi o d g l v b0 b1 w' := by
  obtain ⟨a, c, n, h1, h2, own, lt⟩ := h
  exact ⟨a, c, n, h1, h2, own.keep fun b hb hl _ => by have := lt b (by rw [hb]; rfl); exact hown b this.1 this.2, lt⟩
theorem SPsi.of {S T : Ses} (hST : Hid (S = T)) {w w' : World} {e : Ending} (h : SesR S w e w') : ∃ v, e = .returned v ∧ SPsi T.op T.dr T.gb T.buf v w.heap.size w'.heap.size w' ∧ Below w.heap.size w w' := by
  obtain rfl := hST.out
  obtain ⟨a, c, n, hn, rfl, own, hb⟩ := h
  exact ⟨_, rfl, ⟨a, c, n, rfl, hn.out, own.mono (Nat.zero_le _), fun k hk => ⟨own.base_le k hk, own.lt' k hk⟩⟩, hb⟩
structure StM (w W : World) (J P : Nat) (d : Dk) (kk : Nat) (o dr g : Bool) (sb : List UInt8) (sa : Option Addr) (sn sc : Nat) (ba : Option Addr) (bl : List UInt8) : Prop where
  blk : Blk W J 30 #[.bool o, .bool dr, .slice sa sn sc, .bool g]
  ses : SAt W sb sa sn sc
  nJ : sb ≠ [] → ∀ k, sa.map (·.block) = some k → k ≠ J ∧ k ≠ P
  le : sn ≤ 256
  dk : DeckAt W P d kk
  arr : d.l = [] ∨ ∀ b, d.a.map (·.block) = some b → b < w.heap.size
  byt : Byt W ba bl
  bar : bl ≠ [] → ∀ k, ba.map (·.block) = some k → k < w.heap.size
  be : Below w.heap.size w W
  sz : w.heap.size ≤ P ∧ P < J
section
variable {w W W' : World} {J P : Nat} {d : Dk} {kk : Nat} {o dr g : Bool} {sb : List UInt8} {sa : Option Addr} {sn sc : Nat} {ba : Option Addr} {bl : List UInt8}
theorem SAt.keep' {w w' : World} {l : List UInt8} {a : Option Addr} {n c : Nat} (h : SAt w l a n c) (hk : l ≠ [] → ∀ b off, a = some ⟨b, off, none⟩ → b < w.heap.size → w'.heap[b]? = w.heap[b]?) : SAt w' l a n c :=
  ⟨by
    by_cases hl : l = []
    · rw [hl]; exact Byt.nil _ _
    · exact Row.keep h.byt (hk hl), h.len, h.cap, h.nil, h.small⟩
theorem StM.below (h : StM w W J P d kk o dr g sb sa sn sc ba bl) (hb : Below W.heap.size W W') : StM w W' J P d kk o dr g sb sa sn sc ba bl :=
  ⟨h.blk.below hb h.blk.lt, h.ses.below hb (Nat.le_refl _), h.nJ, h.le, h.dk.below hb, h.arr, h.byt.below hb (Nat.le_refl _), h.bar, h.be.trans (hb.mono h.be.size), h.sz⟩
theorem StM.draw (h : StM w W J P d kk o dr g sb sa sn sc ba bl) (hg : W.grownBy W' (some P)) {k' : Nat} (hd : DeckAt W' P d k') : StM w W' J P d k' o dr g sb sa sn sc ba bl := by
  have hsz := h.sz
  refine ⟨h.blk.grown hg (by omega), h.ses.keep' fun hl b off e q => hg.block b q (fun e' => (h.nJ hl b (by rw [e]; rfl)).2 (by injection e' with e')), h.nJ, h.le, hd, h.arr, ?_, h.bar, h.be.grown hg h.be.size (fun k hk => by injection hk with hk; omega), h.sz⟩
  by_cases hl : bl = []
  · rw [hl]; exact Byt.nil _ _
  · exact Row.keep h.byt fun b off e q => hg.block b q (fun e' => by have := h.bar hl b (by rw [e]; rfl); injection e' with e'; omega)
theorem StM.put (h : StM w W J P d kk o dr g sb sa sn sc ba bl) {o' dr' g' : Bool} {sb' : List UInt8} {sa' : Option Addr} {sn' sc' : Nat} (hk : Blk W' J 30 #[.bool o', .bool dr', .slice sa' sn' sc', .bool g']) (hs : SAt W' sb' sa' sn' sc') (hn : sb' ≠ [] → ∀ k, sa'.map (·.block) = some k → k ≠ J ∧ k ≠ P) (hle : sn' ≤ 256) (hz : W.heap.size ≤ W'.heap.size) (hh : ∀ q, q < W.heap.size → q ≠ J → W'.heap[q]? = W.heap[q]?)
    (ho : W'.os = W.os ∧ W'.tape = W.tape ∧ W'.output = W.output) : StM w W' J P d kk o' dr' g' sb' sa' sn' sc' ba bl := by
  have hsz := h.sz
  have hbs := h.be.size
  refine ⟨hk, hs, hn, hle, ⟨(hh P h.dk.lt (by omega)).trans h.dk.1, ?_, h.dk.2.2⟩, h.arr, ?_, h.bar, ⟨ho.1.trans h.be.os, ho.2.1.trans h.be.tape, ho.2.2.trans h.be.output, Nat.le_trans h.be.size hz, fun q hq => (hh q (by omega) (by omega)).trans (h.be.block q hq)⟩, h.sz⟩
  · rcases h.arr with ha | ha
    · rw [ha]; exact Ints.nil _ _
    · exact Row.keep h.dk.2.1 fun b off e q => hh b q (by have := ha b (by rw [e]; rfl); omega)
  · by_cases hl : bl = []
    · rw [hl]; exact Byt.nil _ _
    · exact Row.keep h.byt fun b off e q => hh b q (by have := h.bar hl b (by rw [e]; rfl); omega)
end
theorem own_four' {Y : World} {p : Nat} {e' : TypeId} {C : Array Value} (kR : Blk Y p e' C) {base : Nat} {e : TypeId} {size n cap : Nat} {a : Option Addr} {xs : List Value} (h : Own Y base e size a n cap xs) (h1 : e ≠ e') (u0 u1 u2 u3 : Value) :
    Own ((((Y.setCell ⟨p, 0, none⟩ u0).setCell ⟨p, 1, none⟩ u1).setCell ⟨p, 2, none⟩ u2).setCell ⟨p, 3, none⟩ u3) base e size a n cap xs := by
  have a1 := h.ne_blk kR h1
  refine Own.far ?_ a1 _
  refine Own.far ?_ a1 _
  refine Own.far ?_ a1 _
  exact Own.far h a1 _
theorem hold_four (Y : World) (p q : Nat) (u0 u1 u2 u3 : Value) (h : q ≠ p) : ((((Y.setCell ⟨p, 0, none⟩ u0).setCell ⟨p, 1, none⟩ u1).setCell ⟨p, 2, none⟩ u2).setCell ⟨p, 3, none⟩ u3).heap[q]? = Y.heap[q]? := by
  rw [Below.heap_setCell _ _ _ _ h, Below.heap_setCell _ _ _ _ h, Below.heap_setCell _ _ _ _ h, Below.heap_setCell _ _ _ _ h]
/-- the session's block has been given another one -/
theorem StM.fin {w W W' : World} {J P : Nat} {d : Dk} {kk : Nat} {o dr g : Bool} {sb : List UInt8} {sa : Option Addr} {sn sc : Nat} {ba : Option Addr} {bl : List UInt8} (h : StM w W J P d kk o dr g sb sa sn sc ba bl) (hb : Below W.heap.size W W') {l : List UInt8} {a : Option Addr} {n c : Nat} (own : Own W' 0 5 1 a n c (l.map encB)) (hn : n = l.length) (hle : n ≤ 256) (o' d' g' : Bool) :
    StM w ((((W'.setCell ⟨J, 0, none⟩ (.bool o')).setCell ⟨J, 1, none⟩ (.bool d')).setCell ⟨J, 2, none⟩ (.slice a n c)).setCell ⟨J, 3, none⟩ (.bool g')) J P d kk o' d' g' l a n c ba bl := by
  have h' := h.below hb
  refine h'.put (h'.blk.set4 _ _ _ _) ⟨(own_four' h'.blk own (by decide) _ _ _ _).byt, hn, own.cap_le, fun e => own.none_len e, by omega⟩ (fun _ k hk => ⟨fun e => own.ne_blk h'.blk (by decide) (by rw [hk, e]), fun e => own.ne_blk h'.dk.1 (by decide) (by rw [hk, e])⟩) hle (by simp [World.setCell]) (fun q _ hq => hold_four W' J q _ _ _ _ hq) ⟨rfl, rfl, rfl⟩
theorem opn_len (S : Ses) : S.opn.buf.length ≤ S.buf.length := by unfold Ses.opn; split <;> simp
theorem rcv_len (S : Ses) (b : List UInt8) (h : S.buf.length ≤ 256) : (S.rcv b).buf.length ≤ 256 := by
  unfold Ses.rcv
  split
  · show (putL S.buf b).length ≤ 256
    rw [putL_len _ _ h]; omega
  · exact h
theorem nxt_len (S : Ses) (h : S.buf.length ≤ 256) : S.nxt.buf.length ≤ 256 := by
  unfold Ses.nxt
  split
  · show (S.buf.drop _).length ≤ 256
    rw [List.length_drop]; omega
  · exact h
theorem rcv_U {U : Ses} (o d g : Bool) (l b : List UInt8) (h : Hid (Ses.rcv ⟨o, d, l, g⟩ b = U)) (hl : l.length ≤ 256) : U.buf.length ≤ 256 := by rw [← h.out]; exact rcv_len _ _ hl
theorem opn_U {U : Ses} (o d g : Bool) (l : List UInt8) (h : Hid (Ses.opn ⟨o, d, l, g⟩ = U)) (hl : l.length ≤ 256) : U.buf.length ≤ 256 := by rw [← h.out]; exact Nat.le_trans (opn_len _) hl
section
variable {U : Ses} (o d g : Bool) (l : List UInt8) (a : Option Addr) (n c : Nat) (w : World)
theorem open_U (hU : Hid (Ses.opn ⟨o, d, l, g⟩ = U)) (h : SAt w l a n c) : Calls Try.prog 10 #[.agg #[.bool o, .bool d, .slice a n c, .bool g]] w (SesR U w) := hU.out ▸ inbox_Open o d g l a n c w h
theorem recv_U (ba : Option Addr) (b : List UInt8) (m bc : Nat) (hU : Hid (Ses.rcv ⟨o, d, l, g⟩ b = U)) (h : SAt w l a n c) (hb : Byt w ba b) (hm : m = b.length) (h256 : n ≤ 256) (hcb : m ≤ bc) (hbl : m ≤ 1000000) :
    Calls Try.prog 9 #[.agg #[.bool o, .bool d, .slice a n c, .bool g], .slice ba m bc] w (SesR U w) := hU.out ▸ inbox_Receive o d g l a n c ba b m bc w h hb hm h256 hcb hbl
theorem ropen_U (hU : Hid (Ses.opn ⟨o, d, l, g⟩ = U)) (h : SAt w l a n c) : Calls Try.prog 23 #[.agg #[.bool o, .bool d, .slice a n c, .bool g]] w (SesR U w) := hU.out ▸ ref25_Open o d g l a n c w h
theorem rrecv_U (ba : Option Addr) (b : List UInt8) (m bc : Nat) (hU : Hid (Ses.rcv ⟨o, d, l, g⟩ b = U)) (h : SAt w l a n c) (hb : Byt w ba b) (hm : m = b.length) (h256 : n ≤ 256) (hcb : m ≤ bc) (hbl : m ≤ 1000000) :
    Calls Try.prog 26 #[.agg #[.bool o, .bool d, .slice a n c, .bool g], .slice ba m bc] w (SesR U w) := hU.out ▸ ref25_Receive o d g l a n c ba b m bc w h hb hm h256 hcb hbl
end

set_option maxHeartbeats 20000000 in
theorem inboxSteps_walk (o0 d0 g0 : Bool) (a0 : Option Addr) (c0 : Nat) (l0 : List UInt8) (a1 : Option Addr) (c1 : Nat) (l1 : List Int) (a2 : Option Addr) (c2 : Nat) (l2 : List UInt8) (w : World) (h0 : Byt w a0 l0) (n0 : l0.length ≤ 9223372036854775807) (k0 : l0.length ≤ c0) (x0 : a0 = none → l0.length = 0 ∧ c0 = 0) (h1 : Ints w a1 l1) (n1 : l1.length ≤ 9223372036854775807) (h2 : Byt w a2 l2) (n2 : l2.length ≤ 9223372036854775807) (k2 : l2.length ≤ c2) :
    Calls Try.prog 6 #[.agg #[.bool o0, .bool d0, .slice a0 l0.length c0, .bool g0], .slice a1 l1.length c1, .slice a2 l2.length c2] w fun e w' => e = .returned (.bool true) ∧ Below w.heap.size w w' := by
  by_cases hs : l0.length ≤ 256
  case neg =>
    have hs' : decide (256 < l0.length) = true := decide_eq_true (by omega)
    have hs2 : (256 : Int) < (l0.length : Int) := by omega
    clear hs
    go_enter Try.func6, Try.ntmps6
    go_wp2_with ((go_at_call 14; (with_reducible refine (awake_yes _).mono ?_); rintro e w20 ⟨rfl, hb20⟩))
    go_ret
    exact ⟨rfl, (by repeat (first | (with_reducible refine Below.setCell ?_ ?_ _) | (with_reducible refine Below.alloc ?_ ?_ _) | (with_reducible refine Below.drew ?_) | (with_reducible refine below_drewN ?_ _) | (with_reducible exact Below.refl _ _) | (with_reducible refine Below.trans ?_ (Below.mono hb20 ?_)) | (focus (simp; done)) | (focus (simp; omega)) | (focus omega) | (focus (have q0 := Below.size hb20; (try simp at q0); (try simp); omega))))⟩
  have hs' : decide (256 < l0.length) = false := decide_eq_false (by omega)
  have hs2 : ¬ (256 : Int) < (l0.length : Int) := by omega
  by_cases ht : l2.length ≤ 600
  case neg =>
    have ht' : decide (l2.length ≤ 600) = false := decide_eq_false (by omega)
    clear ht hs
    go_enter Try.func6, Try.ntmps6
    go_wp2_with (first | (go_at_call 20; (with_reducible refine (mk_Short _ _ _ _ n2).mono ?_); rintro e w' ⟨rfl, rfl⟩) | (go_at_call 14; (with_reducible refine (awake_yes _).mono ?_); rintro e w20 ⟨rfl, hb20⟩))
    go_ret
    exact ⟨rfl, (by repeat (first | (with_reducible refine Below.setCell ?_ ?_ _) | (with_reducible refine Below.alloc ?_ ?_ _) | (with_reducible refine Below.drew ?_) | (with_reducible refine below_drewN ?_ _) | (with_reducible exact Below.refl _ _) | (with_reducible refine Below.trans ?_ (Below.mono hb20 ?_)) | (focus (simp; done)) | (focus (simp; omega)) | (focus omega) | (focus (have q0 := Below.size hb20; (try simp at q0); (try simp); omega))))⟩
  have ht' : decide (l2.length ≤ 600) = true := decide_eq_true (by omega)
  by_cases hf : l1.length ≤ 300
  case neg =>
    have hf' : decide (l1.length ≤ 300) = false := decide_eq_false (by omega)
    clear ht hs hf
    go_enter Try.func6, Try.ntmps6
    go_wp2_with (first | (go_at_call 20; (with_reducible refine (mk_Short _ _ _ _ n2).mono ?_); rintro e w' ⟨rfl, rfl⟩) | (go_at_call 18; (with_reducible refine (mk_Few _ _ _ _ n1).mono ?_); rintro e w' ⟨rfl, rfl⟩) | (go_at_call 14; (with_reducible refine (awake_yes _).mono ?_); rintro e w20 ⟨rfl, hb20⟩))
    go_ret
    exact ⟨rfl, (by repeat (first | (with_reducible refine Below.setCell ?_ ?_ _) | (with_reducible refine Below.alloc ?_ ?_ _) | (with_reducible refine Below.drew ?_) | (with_reducible refine below_drewN ?_ _) | (with_reducible exact Below.refl _ _) | (with_reducible refine Below.trans ?_ (Below.mono hb20 ?_)) | (focus (simp; done)) | (focus (simp; omega)) | (focus omega) | (focus (have q0 := Below.size hb20; (try simp at q0); (try simp); omega))))⟩
  have hf' : decide (l1.length ≤ 300) = true := decide_eq_true (by omega)
  have HAR := Lib.hid (show l1 = [] ∨ ∀ b, a1.map (·.block) = some b → b < w.heap.size by
    rcases h1.open with h | ⟨b, off, rfl, hlt, _⟩
    · exact .inl h
    · exact .inr fun k hk => by simp at hk; omega)
  have HBR := Lib.hid (show l2 ≠ [] → ∀ k, a2.map (·.block) = some k → k < w.heap.size from fun hne k hk => by
    rcases h2.open with h | ⟨b, off, rfl, hlt, _⟩
    · exact absurd h hne
    · simp at hk; omega)
  have HSR := Lib.hid (show l0 ≠ [] → ∀ k, a0.map (·.block) = some k → k < w.heap.size from fun hne k hk => by
    rcases h0.open with h | ⟨b, off, rfl, hlt, _⟩
    · exact absurd h hne
    · simp at hk; omega)
  have HX0 := Lib.hid x0
  clear x0
  go_enter Try.func6, Try.ntmps6
  go_upto_region 4 with (first | (go_at_call 20; (with_reducible refine (mk_Short _ _ _ _ n2).mono ?_); rintro e w' ⟨rfl, rfl⟩) | (go_at_call 18; (with_reducible refine (mk_Few _ _ _ _ n1).mono ?_); rintro e w' ⟨rfl, rfl⟩) | (go_at_call 8; (with_reducible refine (mk_New a1 c1 l1 _ (h1.below (B := w.heap.size) (by repeat (first | (with_reducible refine Below.setCell ?_ ?_ _) | (with_reducible refine Below.alloc ?_ ?_ _) | (with_reducible refine Below.drew ?_) | (with_reducible refine below_drewN ?_ _) | (with_reducible exact Below.refl _ _) | (focus (simp; done)) | (focus (simp; omega)) | (focus omega))) (Nat.le_refl _)) n1).mono ?_); rintro e w1 ⟨rfl, hd1, hb1⟩; ((have hd1' : DeckAt w1 (w.heap.size + 1) ⟨a1, c1, l1⟩ 0 := by simpa using hd1); (have kR := (Blk.new w 30 #[.bool o0, .bool d0, .slice a0 l0.length c0, .bool g0]).below hb1 (by simp)))))
  obtain ⟨r0, r1, r2, r3⟩ := kR.four'
  have rl := kR.lt
  have z1 := hd1'.lt
  have be1 : RowKit.Below w.heap.size w w1 := (by repeat (first | (with_reducible refine Below.setCell ?_ ?_ _) | (with_reducible refine Below.alloc ?_ ?_ _) | (with_reducible refine Below.drew ?_) | (with_reducible refine below_drewN ?_ _) | (with_reducible exact Below.refl _ _) | (with_reducible refine Below.trans ?_ (Below.mono hb1 ?_)) | (focus (simp; done)) | (focus (simp; omega)) | (focus omega) | (focus (have q0 := Below.size hb1; (try simp at q0); (try simp); omega))))
  obtain ⟨J, hJJ⟩ : ∃ J, w1.heap.size = J := ⟨_, rfl⟩
  go_upto_region 5 with fail
  refine wp_named (fun W => StM w W J (w.heap.size + 1) ⟨a1, c1, l1⟩ 0 o0 d0 g0 l0 a0 l0.length c0 a2 l2) ⟨by rw [← hJJ]; exact Blk.new _ _ _, ⟨(h0.below be1 (Nat.le_refl _)).alloc _, rfl, k0, HX0.out, by omega⟩, fun hne k hk => by have := HSR.out hne k hk; omega, hs, hd1'.alloc _, HAR.out, (h2.below be1 (Nat.le_refl _)).alloc _, HBR.out, (by repeat (first | (with_reducible refine Below.setCell ?_ ?_ _) | (with_reducible refine Below.alloc ?_ ?_ _) | (with_reducible refine Below.drew ?_) | (with_reducible refine below_drewN ?_ _) | (with_reducible exact Below.refl _ _) | (with_reducible refine Below.trans ?_ (Below.mono be1 ?_)) | (focus (simp; done)) | (focus (simp; omega)) | (focus omega) | (focus (have q0 := Below.size be1; (try simp at q0); (try simp); omega)))), by omega⟩ ?_
  clear hd1 hd1' hb1 be1 kR r0 r1 r2 r3 rl z1 h0 h1 h2
  rw [hJJ] at *
  clear hJJ
  rintro W wm
  go_wp2_with fail
  go_loopw [9] (fun s9 wr => ∃ (i : Nat) (o dr g : Bool) (sb : List UInt8) (sa : Option Addr) (sn sc kk : Nat), s9 = .int .i64 i ∧ i ≤ 60 ∧ StM w wr J (w.heap.size + 1) ⟨a1, c1, l1⟩ kk o dr g sb sa sn sc a2 l2) (fun s _ => 60 - (intOf s).toNat)
  case atStart => exact ⟨0, o0, d0, g0, l0, a0, l0.length, c0, 0, rfl, by omega, wm⟩
  case round =>
    obtain ⟨i, o, dr, g, sb, sa, sn, sc, kk, rfl, hi, wm⟩ := hrel
    by_cases hlt : i < 60
    · have hii : (i : Int) < 60 := by omega
      obtain ⟨lf, hlf⟩ : ∃ lf, decide (kk < l1.length) = lf := ⟨_, rfl⟩
      have HLF := Lib.hid hlf
      clear hlf
      by_cases hgo : lf = true ∨ i = 0
      · obtain ⟨zb, hzb⟩ : ∃ zb, ((i : Int) == 0) = zb := ⟨_, rfl⟩
        have hzl : lf = true ∨ zb = true := hgo.imp id fun h => by rw [← hzb, h]; rfl
        clear hgo
        cases zb with
        | true =>
          cases lf with
          | true =>
            clear hzl
            go_upto_region 11 with (first | (go_at_call 21; (with_reducible refine (deck_Left _ _ _ kk wm.dk HLF).mono ?_); rintro e w3 ⟨rfl, hb3⟩; (have wm3 := wm.below hb3)) | (go_at_call 7; (with_reducible refine (law_line _ 12 _ _ _ 12 rfl (by omega) (by omega) wm3.dk).mono ?_); rintro e w4 ⟨ll, k4, lm, la, lc, hlm, rfl, hll, own4, hd4, g4⟩; (have wm4 := wm3.draw g4 hd4)))
            have hpb : Byt w4 a2 l2 := wm4.byt
            have hpc' : l2.length ≤ c2 := k2
            have hp6 : l2.length ≤ 1000000 := by omega
            have HPP := Lib.hid (show l2 ≠ [] → ∀ k, a2.map (·.block) = some k → k ≠ w.heap.size + 1 from fun hne k hk => by have := wm4.bar hne k hk; omega)
            obtain ⟨T, hT0⟩ : ∃ T, Ses.nxt ⟨o, dr, sb, g⟩ = T := ⟨_, rfl⟩
            obtain ⟨U1, hU1⟩ : ∃ U, Ses.opn ⟨o, dr, sb, g⟩ = U := ⟨_, rfl⟩
            obtain ⟨U3, hU3⟩ : ∃ U, Ses.rcv ⟨o, dr, sb, g⟩ l2 = U := ⟨_, rfl⟩
            have hsbl : sb.length ≤ 256 := by have := wm.ses.len; have := wm.le; omega
            have hTl : T.buf.length ≤ 256 := by rw [← hT0]; exact nxt_len _ hsbl
            have HT0 := Lib.hid hT0
            have HU1 := Lib.hid hU1
            have HU3 := Lib.hid hU3
            clear hT0 hU1 hU3 wm wm3 own4 hd4 g4 hb3
            obtain ⟨c0', c1', c2', c3'⟩ := wm4.blk.four'
            have jl := wm4.blk.lt
            go_upto_region 12 with ((go_at_call 11; (with_reducible refine (inbox_Take o dr g sb sa sn sc _ wm4.ses).mono ?_); rintro e w5 ⟨T', xa, xc, xn, its, ia, ic, im, hT, hxn, him, hk, rfl, own5, owi5, pays5, hb5⟩))
            obtain rfl : T = T' := HT0.out.symm.trans hT.out
            have hxn' := hxn.out
            have him4 : im ≤ 5 := by
              have h1 := congrArg List.length hk.out
              rw [List.length_map, ← him.out] at h1
              have h2 := tRun_len 4 sb ⟨0, g, []⟩ (by simp)
              rw [h1]
              unfold Ses.inp Ses.tk
              split
              · rw [List.length_append]
                simp only at h2 ⊢
                split <;> simp <;> omega
              · simp
            refine wp_named (fun V => StM w V J (w.heap.size + 1) ⟨a1, c1, l1⟩ k4 o dr g sb sa sn sc a2 l2 ∧ Byt V a2 l2 ∧ Blk V w5.heap.size 30 #[.bool T.op, .bool T.dr, .slice xa xn xc, .bool T.gb] ∧ Blk V (w5.heap.size + 1) 35 #[.bool o, .slice ia im ic] ∧ SOwn V T.buf xa xn xc ∧ Items V ia its) ⟨(wm4.below hb5).below (by repeat (first | (with_reducible refine Below.setCell ?_ ?_ _) | (with_reducible refine Below.alloc ?_ ?_ _) | (with_reducible refine Below.drew ?_) | (with_reducible refine below_drewN ?_ _) | (with_reducible exact Below.refl _ _) | (focus (simp; done)) | (focus (simp; omega)) | (focus omega))), ((hpb.below hb5 (Nat.le_refl _)).alloc _).alloc _, (Blk.new _ _ _).alloc _, Blk.next _ _ _ _, ⟨((own5.mono (Nat.zero_le _)).alloc _).alloc _, hxn', by omega⟩, ((items_of (by rw [← him.out]; exact owi5) pays5).alloc _).alloc _⟩ ?_
            clear wm4 hpb own5 owi5 pays5 hb5 c0' c1' c2' c3' jl hxn'
            rintro V5 ⟨wm, hpb, kx, ki, hso, hits⟩
            obtain ⟨c0', c1', c2', c3'⟩ := wm.blk.four'
            have jl := wm.blk.lt
            go_upto_region 13 with ((go_at_call 22; (with_reducible refine (ref25_Take o dr g sb sa sn sc _ wm.ses).mono ?_); rintro e w6 ⟨T', ya, yc, yn, its2, ja, jc, jm, hT', hyn, hjm, hk', rfl, own6, owi6, pays6, hb6⟩))
            obtain rfl : T = T' := HT0.out.symm.trans hT'.out
            have hyn' := hyn.out
            have HKK := Lib.hid (show its.map It.key = its2.map It.key from hk.out.trans hk'.out.symm)
            have hjm4 : jm ≤ 5 := by
              have h1 := congrArg List.length HKK.out
              rw [List.length_map, List.length_map, ← him.out, ← hjm.out] at h1
              omega
            refine wp_named (fun V => StM w V J (w.heap.size + 1) ⟨a1, c1, l1⟩ k4 o dr g sb sa sn sc a2 l2 ∧ Byt V a2 l2 ∧ Blk V w5.heap.size 30 #[.bool T.op, .bool T.dr, .slice xa xn xc, .bool T.gb] ∧ Blk V (w5.heap.size + 1) 35 #[.bool o, .slice ia im ic] ∧ SOwn V T.buf xa xn xc ∧ Items V ia its ∧ Blk V w6.heap.size 30 #[.bool T.op, .bool T.dr, .slice ya yn yc, .bool T.gb] ∧ Blk V (w6.heap.size + 1) 35 #[.bool o, .slice ja jm jc] ∧ SOwn V T.buf ya yn yc ∧ Items V ja its2) ⟨(wm.below hb6).below (by repeat (first | (with_reducible refine Below.setCell ?_ ?_ _) | (with_reducible refine Below.alloc ?_ ?_ _) | (with_reducible refine Below.drew ?_) | (with_reducible refine below_drewN ?_ _) | (with_reducible exact Below.refl _ _) | (focus (simp; done)) | (focus (simp; omega)) | (focus omega))), ((hpb.below hb6 (Nat.le_refl _)).alloc _).alloc _, ((kx.below hb6 kx.lt).alloc _).alloc _, ((ki.below hb6 ki.lt).alloc _).alloc _, ⟨((hso.own.below hb6 (Nat.le_refl _)).alloc _).alloc _, hso.len, hso.small⟩, ((hits.below hb6 (Nat.le_refl _)).alloc _).alloc _, (Blk.new _ _ _).alloc _, Blk.next _ _ _ _, ⟨((own6.mono (Nat.zero_le _)).alloc _).alloc _, hyn', by omega⟩, ((items_of (by rw [← hjm.out]; exact owi6) pays6).alloc _).alloc _⟩ ?_
            have HY6 := Lib.hid (show J < w6.heap.size by have := hb6.size; omega)
            clear wm hpb kx ki hso hits own6 owi6 pays6 hb6 c0' c1' c2' c3' jl hyn'
            rintro V6 ⟨wm, hpb, kx, ki, hso, hits, ky, kj, hso2, hits2⟩
            have hle := wm.le
            have HYJ := Lib.hid (show w.heap.size + 1 < w6.heap.size from by have := HY6.out; have := wm.sz; omega)
            apply wp_region_tab [] 36 115 [some 61, some 62, some 63, some 64, some 65, some 66, some 67, some 68, some 69, some 70, some 71, some 72, some 73, some 74, some 75, some 76, some 77, some 78, some 79, some 80, some 81, some 82, some 83, some 84, some 85, some 86, some 87, some 88, some 89, some 90, some 91, some 92, some 93, some 94, some 95, some 96] [⟨[], [], [], []⟩, ⟨[0], [0], [0], []⟩, ⟨[], [], [], []⟩, ⟨[0, 1, 2], [2], [2], []⟩, ⟨[0, 1, 2, 3], [1, 3], [1, 3], []⟩, ⟨[0, 1, 2, 3, 4], [4], [4], []⟩, ⟨[0, 1, 2, 3, 4, 5], [5], [5], []⟩, ⟨[0, 1, 2, 3, 4, 5, 6], [6], [6], []⟩, ⟨[0, 1, 2, 3, 4, 5, 6, 7], [6, 7], [6, 7], []⟩, ⟨[0, 1, 2, 3, 4, 5, 6], [6], [6], []⟩, ⟨[0, 1, 2, 3, 4, 5, 6, 7, 8, 9], [6, 9], [6, 9], []⟩, ⟨[0, 1, 2, 3, 4, 5, 6, 7, 8, 9, 10], [6, 8, 10], [6, 8, 10], []⟩, ⟨[0, 1, 2, 3, 4, 5, 6, 7, 8, 9, 10, 11], [6, 11], [6, 11], []⟩, ⟨[0, 1, 2, 3, 4, 5, 6, 7, 8, 9, 10, 11, 12], [6, 12], [6, 12], []⟩, ⟨[0, 1, 2, 3, 4, 5, 6, 7, 8, 9, 10, 11, 12, 13], [13], [13], []⟩, ⟨[0, 1, 2, 3, 4, 5, 6, 7, 8, 9, 10, 11, 12, 13, 14], [14], [14], []⟩, ⟨[0, 1, 2, 3, 4, 5, 6, 7, 8, 9, 10, 11, 12, 13, 14], [14], [14], []⟩, ⟨[0, 1, 2, 3, 4, 5, 6, 7, 8, 9, 10, 11, 12, 13, 14, 15, 16], [14, 15, 16], [14, 15, 16], []⟩, ⟨[0, 1, 2, 3, 4, 5, 6, 7, 8, 9, 10, 11, 12, 13, 14], [14], [14], []⟩, ⟨[0, 1, 2, 3, 4, 5, 6, 7, 8, 9, 10, 11, 12, 13, 14], [14], [14], []⟩, ⟨[0, 1, 2, 3, 4, 5, 6, 7, 8, 9, 10, 11, 12, 13, 14, 15, 16, 17, 18, 19], [14, 18, 19], [14, 18, 19], []⟩, ⟨[0, 1, 2, 3, 4, 5, 6, 7, 8, 9, 10, 11, 12, 13, 14, 15, 16, 17, 18, 19, 20], [14, 17, 20], [14, 17, 20], []⟩, ⟨[0, 1, 2, 3, 4, 5, 6, 7, 8, 9, 10, 11, 12, 13, 14, 15, 16, 17, 18, 19, 20, 21], [14, 21], [14, 21], []⟩, ⟨[0, 1, 2, 3, 4, 5, 6, 7, 8, 9, 10, 11, 12, 13, 14, 15, 16, 17, 18, 19, 20, 21, 22], [14, 22], [14, 22], []⟩, ⟨[0, 1, 2, 3, 4, 5, 6, 7, 8, 9, 10, 11, 12, 13, 14, 15, 16, 17, 18, 19, 20, 21, 22, 23], [23], [23], []⟩, ⟨[0, 1, 2, 3, 4, 5, 6, 7, 8, 9, 10, 11, 12, 13, 14, 15, 16, 17, 18, 19, 20, 21, 22, 23, 24], [24], [24], []⟩, ⟨[0, 1, 2, 3, 4, 5, 6, 7, 8, 9, 10, 11, 12, 13, 14, 15, 16, 17, 18, 19, 20, 21, 22, 23, 24], [24], [24], []⟩, ⟨[0, 1, 2, 3, 4, 5, 6, 7, 8, 9, 10, 11, 12, 13, 14, 15, 16, 17, 18, 19, 20, 21, 22, 23, 24, 25, 26], [24, 25, 26], [24, 25, 26], []⟩, ⟨[0, 1, 2, 3, 4, 5, 6, 7, 8, 9, 10, 11, 12, 13, 14, 15, 16, 17, 18, 19, 20, 21, 22, 23, 24, 25, 26, 27], [24, 27], [24, 27], []⟩, ⟨[0, 1, 2, 3, 4, 5, 6, 7, 8, 9, 10, 11, 12, 13, 14, 15, 16, 17, 18, 19, 20, 21, 22, 23, 24, 25, 26, 27, 28], [24, 28], [24, 28], []⟩, ⟨[0, 1, 2, 3, 4, 5, 6, 7, 8, 9, 10, 11, 12, 13, 14, 15, 16, 17, 18, 19, 20, 21, 22, 23, 24, 25, 26, 27, 28, 29], [29], [29], []⟩, ⟨[0, 1, 2, 3, 4, 5, 6, 7, 8, 9, 10, 11, 12, 13, 14, 15, 16, 17, 18, 19, 20, 21, 22, 23, 24, 25, 26, 27, 28, 29, 30], [30], [30], []⟩, ⟨[0, 1, 2, 3, 4, 5, 6, 7, 8, 9, 10, 11, 12, 13, 14, 15, 16, 17, 18, 19, 20, 21, 22, 23, 24, 25, 26, 27, 28, 29, 30], [30], [30], []⟩, ⟨[0, 1, 2, 3, 4, 5, 6, 7, 8, 9, 10, 11, 12, 13, 14, 15, 16, 17, 18, 19, 20, 21, 22, 23, 24, 25, 26, 27, 28, 29, 30, 31, 32], [30, 31, 32], [30, 31, 32], []⟩, ⟨[0, 1, 2, 3, 4, 5, 6, 7, 8, 9, 10, 11, 12, 13, 14, 15, 16, 17, 18, 19, 20, 21, 22, 23, 24, 25, 26, 27, 28, 29, 30, 31, 32, 33], [30, 33], [30, 33], []⟩, ⟨[0, 1, 2, 3, 4, 5, 6, 7, 8, 9, 10, 11, 12, 13, 14, 15, 16, 17, 18, 19, 20, 21, 22, 23, 24, 25, 26, 27, 28, 29, 30, 31, 32, 33, 34], [30, 34], [30, 34], []⟩] [0, 1, 2, 3, 4, 5, 6, 7, 8, 9, 10, 11, 12, 13, 14, 15, 16, 17, 18, 19, 20, 21, 22, 23, 24, 25, 26, 27, 28, 29, 30, 31, 32, 33, 34, 35] [35] [psiTrue, (fun f lo hi v b0 b1 W => SPsi U1.op U1.dr U1.gb U1.buf v b0 b1 W), psiTrue, (fun f lo hi v b0 b1 W => SPsi U1.op U1.dr U1.gb U1.buf v b0 b1 W), psiTrue, psiTrue, psiTrue, psiTrue, psiTrue, psiTrue, psiTrue, psiTrue, psiTrue, psiTrue, psiTrue, psiTrue, psiTrue, (fun f lo hi v b0 b1 W => SPsi U3.op U3.dr U3.gb U3.buf v b0 b1 W), psiTrue, psiTrue, (fun f lo hi v b0 b1 W => SPsi U3.op U3.dr U3.gb U3.buf v b0 b1 W), psiTrue, psiTrue, psiTrue, psiTrue, psiTrue, psiTrue, psiTrue, psiTrue, psiTrue, psiTrue, psiTrue, psiTrue, psiTrue, psiTrue, psiTrue] [kVal _, kTrue, kVal _, kTrue, kVal _, kVal _, kVal _, kVal _, kVal _, kVal _, kVal _, kVal _, kVal _, kVal _, kVal _, kVal _, kVal _, kTrue, kVal _, kVal _, kTrue, kVal _, kVal _, kVal _, kVal _, kVal _, kVal _, kVal _, kVal _, kVal _, kVal _, kVal _, kVal _, kVal _, kVal _, kVal _]
            · kernel_rfl
            · kernel_rfl
            · rfl
            · rfl
            · exact trivial
            · exact trivial
            refine ⟨?oR1_0, ?oR1_1, ?oR1_2, ?oR1_3, ?oR1_4, ?oR1_5, ?oR1_6, ?oR1_7, ?oR1_8, ?oR1_9, ?oR1_10, ?oR1_11, ?oR1_12, ?oR1_13, ?oR1_14, ?oR1_15, ?oR1_16, ?oR1_17, ?oR1_18, ?oR1_19, ?oR1_20, ?oR1_21, ?oR1_22, ?oR1_23, ?oR1_24, ?oR1_25, ?oR1_26, ?oR1_27, ?oR1_28, ?oR1_29, ?oR1_30, ?oR1_31, ?oR1_32, ?oR1_33, ?oR1_34, ?oR1_35, trivial⟩
            case oR1_0 =>
              intro f lo hi w hb hx hf hk hrg R hR; (try replace hb := BelX.zero hb); (try simp (decide := true) only [go_sem] at hf); (try simp (decide := true) only [go_sem] at hk)
              obtain ⟨e0, e1, e2, e3⟩ := (wm.blk.below hb wm.blk.lt).four'
              go_simp
              exact hR _ _ (rpost_val rfl rfl (Below.refl _ _) rfl)
            case oR1_1 =>
              intro f lo hi w hb hx hf hk hrg R hR; (try replace hb := BelX.zero hb); (try simp (decide := true) only [go_sem] at hf); (try simp (decide := true) only [go_sem] at hk)
              go_simp
              (with_reducible refine (open_U o dr g sb sa sn sc _ HU1 (wm.ses.below hb (Nat.le_refl _))).mono ?_)
              rintro e w' hq
              obtain ⟨v, rfl, hps, hb1⟩ := SPsi.of (Lib.hid rfl) hq
              refine ⟨v, rfl, hR _ _ (rpost_none rfl hb1 ?_)⟩
              (try simp (decide := true) only [go_sem])
              exact hps
            case oR1_2 =>
              intro f lo hi w hb hx hf hk hrg R hR; (try replace hb := BelX.zero hb); (try simp (decide := true) only [go_sem] at hf); (try simp (decide := true) only [go_sem] at hk)
              obtain ⟨e0, e1, e2, e3⟩ := (wm.blk.below hb wm.blk.lt).four'
              go_simp
              exact hR _ _ (rpost_val rfl rfl (Below.refl _ _) rfl)
            case oR1_3 =>
              intro f lo hi w hb hx hf hk hrg R hR; (try replace hb := BelX.zero hb); (try simp (decide := true) only [go_sem] at hf); (try simp (decide := true) only [go_sem] at hk)
              go_simp
              (with_reducible refine (ropen_U o dr g sb sa sn sc _ HU1 (wm.ses.below hb (Nat.le_refl _))).mono ?_)
              rintro e w' hq
              obtain ⟨v, rfl, hps, hb1⟩ := SPsi.of (Lib.hid rfl) hq
              refine ⟨v, rfl, hR _ _ (rpost_none rfl hb1 ?_)⟩
              (try simp (decide := true) only [go_sem])
              exact hps
            case oR1_4 =>
              intro f lo hi w hb hx hf hk hrg R hR; (try replace hb := BelX.zero hb); (try simp (decide := true) only [go_sem] at hf); (try simp (decide := true) only [go_sem] at hk)
              obtain ⟨⟨a1', c1', n1', h62, e1, ow1, -⟩, a2', c2', n2', h64, e2, ow2, -⟩ := hf
              have E1 := Lib.hid e1
              have E2 := Lib.hid e2
              clear e1 e2
              go_simp
              (with_reducible refine (ref25_SameY U1.op U1.dr U1.gb U1.buf a1' a2' n1' n2' c1' c2' _ ow1.byt ow2.byt E1.out E2.out).mono ?_)
              rintro e w' ⟨rfl, hb1⟩
              exact ⟨_, rfl, hR _ _ (rpost_val rfl rfl hb1 rfl)⟩
            case oR1_5 => intro f lo hi w hb hx hf hk hrg R hR; (try replace hb := BelX.zero hb); (try simp (decide := true) only [go_sem] at hf); (try simp (decide := true) only [go_sem] at hk); go_simp; exact hR _ _ (rpost_val rfl rfl (Below.refl _ _) rfl)
            case oR1_6 => intro f lo hi w hb hx hf hk hrg R hR; (try replace hb := BelX.zero hb); (try simp (decide := true) only [go_sem] at hf); (try simp (decide := true) only [go_sem] at hk); go_simp; exact hR _ _ (rpost_val rfl rfl (Below.refl _ _) rfl)
            case oR1_7 =>
              intro f lo hi w hb hx hf hk hrg R hR; (try replace hb := BelX.zero hb); (try simp (decide := true) only [go_sem] at hf); (try simp (decide := true) only [go_sem] at hk)
              obtain ⟨e0, e1, e2, e3⟩ := (wm.blk.below hb wm.blk.lt).four'
              go_simp
              exact hR _ _ (rpost_val rfl rfl (Below.refl _ _) rfl)
            case oR1_8 =>
              intro f lo hi w hb hx hf hk hrg R hR; (try replace hb := BelX.zero hb); (try simp (decide := true) only [go_sem] at hf); (try simp (decide := true) only [go_sem] at hk)
              go_simp
              (with_reducible refine (inbox_DropV o dr g sa sn sc _).mono ?_)
              rintro e w' ⟨rfl, hb1⟩
              exact ⟨_, rfl, hR _ _ (rpost_val rfl rfl hb1 rfl)⟩
            case oR1_9 =>
              intro f lo hi w hb hx hf hk hrg R hR; (try replace hb := BelX.zero hb); (try simp (decide := true) only [go_sem] at hf); (try simp (decide := true) only [go_sem] at hk)
              obtain ⟨e0, e1, e2, e3⟩ := (wm.blk.below hb wm.blk.lt).four'
              go_simp
              exact hR _ _ (rpost_val rfl rfl (Below.refl _ _) rfl)
            case oR1_10 =>
              intro f lo hi w hb hx hf hk hrg R hR; (try replace hb := BelX.zero hb); (try simp (decide := true) only [go_sem] at hf); (try simp (decide := true) only [go_sem] at hk)
              go_simp
              (with_reducible refine (ref25_DropV o dr g sa sn sc _).mono ?_)
              rintro e w' ⟨rfl, hb1⟩
              exact ⟨_, rfl, hR _ _ (rpost_val rfl rfl hb1 rfl)⟩
            case oR1_11 =>
              intro f lo hi w hb hx hf hk hrg R hR; (try replace hb := BelX.zero hb); (try simp (decide := true) only [go_sem] at hf); (try simp (decide := true) only [go_sem] at hk)
              go_simp
              (with_reducible refine (ref25_SameY false false false [] none none 0 0 0 0 _ (Byt.nil _ _) (Byt.nil _ _) rfl rfl).mono ?_)
              rintro e w' ⟨rfl, hb1⟩
              exact ⟨_, rfl, hR _ _ (rpost_val rfl rfl hb1 rfl)⟩
            case oR1_12 => intro f lo hi w hb hx hf hk hrg R hR; (try replace hb := BelX.zero hb); (try simp (decide := true) only [go_sem] at hf); (try simp (decide := true) only [go_sem] at hk); go_simp; exact hR _ _ (rpost_val rfl rfl (Below.refl _ _) rfl)
            case oR1_13 => intro f lo hi w hb hx hf hk hrg R hR; (try replace hb := BelX.zero hb); (try simp (decide := true) only [go_sem] at hf); (try simp (decide := true) only [go_sem] at hk); go_simp; exact hR _ _ (rpost_val rfl rfl (Below.refl _ _) rfl)
            case oR1_14 => intro f lo hi w hb hx hf hk hrg R hR; (try replace hb := BelX.zero hb); (try simp (decide := true) only [go_sem] at hf); (try simp (decide := true) only [go_sem] at hk); go_simp; exact hR _ _ (rpost_val rfl rfl (Below.refl _ _) rfl)
            case oR1_15 =>
              intro f lo hi w hb hx hf hk hrg R hR; (try replace hb := BelX.zero hb); (try simp (decide := true) only [go_sem] at hf); (try simp (decide := true) only [go_sem] at hk)
              obtain ⟨e0, e1, e2, e3⟩ := (wm.blk.below hb wm.blk.lt).four'
              go_simp
              exact hR _ _ (rpost_val rfl rfl (Below.refl _ _) rfl)
            case oR1_16 => intro f lo hi w hb hx hf hk hrg R hR; (try replace hb := BelX.zero hb); (try simp (decide := true) only [go_sem] at hf); (try simp (decide := true) only [go_sem] at hk); go_simp; exact hR _ _ (rpost_val rfl rfl (Below.refl _ _) rfl)
            case oR1_17 =>
              intro f lo hi w hb hx hf hk hrg R hR; (try replace hb := BelX.zero hb); (try simp (decide := true) only [go_sem] at hf); (try simp (decide := true) only [go_sem] at hk)
              go_simp
              (with_reducible refine (recv_U o dr g sb sa sn sc _ a2 l2 l2.length c2 HU3 (wm.ses.below hb (Nat.le_refl _)) (hpb.below hb (Nat.le_refl _)) rfl hle hpc' hp6).mono ?_)
              rintro e w' hq
              obtain ⟨v, rfl, hps, hb1⟩ := SPsi.of (Lib.hid rfl) hq
              refine ⟨v, rfl, hR _ _ (rpost_none rfl hb1 ?_)⟩
              (try simp (decide := true) only [go_sem])
              exact hps
            case oR1_18 =>
              intro f lo hi w hb hx hf hk hrg R hR; (try replace hb := BelX.zero hb); (try simp (decide := true) only [go_sem] at hf); (try simp (decide := true) only [go_sem] at hk)
              obtain ⟨e0, e1, e2, e3⟩ := (wm.blk.below hb wm.blk.lt).four'
              go_simp
              exact hR _ _ (rpost_val rfl rfl (Below.refl _ _) rfl)
            case oR1_19 => intro f lo hi w hb hx hf hk hrg R hR; (try replace hb := BelX.zero hb); (try simp (decide := true) only [go_sem] at hf); (try simp (decide := true) only [go_sem] at hk); go_simp; exact hR _ _ (rpost_val rfl rfl (Below.refl _ _) rfl)
            case oR1_20 =>
              intro f lo hi w hb hx hf hk hrg R hR; (try replace hb := BelX.zero hb); (try simp (decide := true) only [go_sem] at hf); (try simp (decide := true) only [go_sem] at hk)
              go_simp
              (with_reducible refine (rrecv_U o dr g sb sa sn sc _ a2 l2 l2.length c2 HU3 (wm.ses.below hb (Nat.le_refl _)) (hpb.below hb (Nat.le_refl _)) rfl hle hpc' hp6).mono ?_)
              rintro e w' hq
              obtain ⟨v, rfl, hps, hb1⟩ := SPsi.of (Lib.hid rfl) hq
              refine ⟨v, rfl, hR _ _ (rpost_none rfl hb1 ?_)⟩
              (try simp (decide := true) only [go_sem])
              exact hps
            case oR1_21 =>
              intro f lo hi w hb hx hf hk hrg R hR; (try replace hb := BelX.zero hb); (try simp (decide := true) only [go_sem] at hf); (try simp (decide := true) only [go_sem] at hk)
              obtain ⟨⟨a1', c1', n1', h62, e1, ow1, -⟩, a2', c2', n2', h64, e2, ow2, -⟩ := hf
              have E1 := Lib.hid e1
              have E2 := Lib.hid e2
              clear e1 e2
              go_simp
              (with_reducible refine (ref25_SameY U3.op U3.dr U3.gb U3.buf a1' a2' n1' n2' c1' c2' _ ow1.byt ow2.byt E1.out E2.out).mono ?_)
              rintro e w' ⟨rfl, hb1⟩
              exact ⟨_, rfl, hR _ _ (rpost_val rfl rfl hb1 rfl)⟩
            case oR1_22 => intro f lo hi w hb hx hf hk hrg R hR; (try replace hb := BelX.zero hb); (try simp (decide := true) only [go_sem] at hf); (try simp (decide := true) only [go_sem] at hk); go_simp; exact hR _ _ (rpost_val rfl rfl (Below.refl _ _) rfl)
            case oR1_23 => intro f lo hi w hb hx hf hk hrg R hR; (try replace hb := BelX.zero hb); (try simp (decide := true) only [go_sem] at hf); (try simp (decide := true) only [go_sem] at hk); go_simp; exact hR _ _ (rpost_val rfl rfl (Below.refl _ _) rfl)
            case oR1_24 => intro f lo hi w hb hx hf hk hrg R hR; (try replace hb := BelX.zero hb); (try simp (decide := true) only [go_sem] at hf); (try simp (decide := true) only [go_sem] at hk); go_simp; exact hR _ _ (rpost_val rfl rfl (Below.refl _ _) rfl)
            case oR1_25 =>
              intro f lo hi w hb hx hf hk hrg R hR; (try replace hb := BelX.zero hb); (try simp (decide := true) only [go_sem] at hf); (try simp (decide := true) only [go_sem] at hk)
              obtain ⟨e0, e1, e2, e3⟩ := (kx.below hb kx.lt).four'
              go_simp
              exact hR _ _ (rpost_val rfl rfl (Below.refl _ _) rfl)
            case oR1_26 =>
              intro f lo hi w hb hx hf hk hrg R hR; (try replace hb := BelX.zero hb); (try simp (decide := true) only [go_sem] at hf); (try simp (decide := true) only [go_sem] at hk)
              obtain ⟨e0, e1, e2, e3⟩ := (ky.below hb ky.lt).four'
              go_simp
              exact hR _ _ (rpost_val rfl rfl (Below.refl _ _) rfl)
            case oR1_27 =>
              intro f lo hi w hb hx hf hk hrg R hR; (try replace hb := BelX.zero hb); (try simp (decide := true) only [go_sem] at hf); (try simp (decide := true) only [go_sem] at hk)
              go_simp
              (with_reducible refine (ref25_SameY T.op T.dr T.gb T.buf xa ya xn yn xc yc _ (hso.below hb (Nat.le_refl _)).own.byt (hso2.below hb (Nat.le_refl _)).own.byt hso.len hso2.len).mono ?_)
              rintro e w' ⟨rfl, hb1⟩
              exact ⟨_, rfl, hR _ _ (rpost_val rfl rfl hb1 rfl)⟩
            case oR1_28 => intro f lo hi w hb hx hf hk hrg R hR; (try replace hb := BelX.zero hb); (try simp (decide := true) only [go_sem] at hf); (try simp (decide := true) only [go_sem] at hk); go_simp; exact hR _ _ (rpost_val rfl rfl (Below.refl _ _) rfl)
            case oR1_29 => intro f lo hi w hb hx hf hk hrg R hR; (try replace hb := BelX.zero hb); (try simp (decide := true) only [go_sem] at hf); (try simp (decide := true) only [go_sem] at hk); go_simp; exact hR _ _ (rpost_val rfl rfl (Below.refl _ _) rfl)
            case oR1_30 => intro f lo hi w hb hx hf hk hrg R hR; (try replace hb := BelX.zero hb); (try simp (decide := true) only [go_sem] at hf); (try simp (decide := true) only [go_sem] at hk); go_simp; exact hR _ _ (rpost_val rfl rfl (Below.refl _ _) rfl)
            case oR1_31 =>
              intro f lo hi w hb hx hf hk hrg R hR; (try replace hb := BelX.zero hb); (try simp (decide := true) only [go_sem] at hf); (try simp (decide := true) only [go_sem] at hk)
              have kk := ki.below hb ki.lt
              have e0 := kk.cell 0
              have e1 := kk.cell 1
              go_simp
              exact hR _ _ (rpost_val rfl rfl (Below.refl _ _) rfl)
            case oR1_32 =>
              intro f lo hi w hb hx hf hk hrg R hR; (try replace hb := BelX.zero hb); (try simp (decide := true) only [go_sem] at hf); (try simp (decide := true) only [go_sem] at hk)
              have kk := kj.below hb kj.lt
              have e0 := kk.cell 0
              have e1 := kk.cell 1
              go_simp
              exact hR _ _ (rpost_val rfl rfl (Below.refl _ _) rfl)
            case oR1_33 =>
              intro f lo hi w hb hx hf hk hrg R hR; (try replace hb := BelX.zero hb); (try simp (decide := true) only [go_sem] at hf); (try simp (decide := true) only [go_sem] at hk)
              go_simp
              (with_reducible refine (ref25_SameInY o its its2 ia ja im jm ic jc _ (hits.below hb (Nat.le_refl _)) (hits2.below hb (Nat.le_refl _)) him.out hjm.out (by omega) (by omega) HKK.out).mono ?_)
              rintro e w' ⟨rfl, hb1⟩
              exact ⟨_, rfl, hR _ _ (rpost_val rfl rfl hb1 rfl)⟩
            case oR1_34 => intro f lo hi w hb hx hf hk hrg R hR; (try replace hb := BelX.zero hb); (try simp (decide := true) only [go_sem] at hf); (try simp (decide := true) only [go_sem] at hk); go_simp; exact hR _ _ (rpost_val rfl rfl (Below.refl _ _) rfl)
            case oR1_35 => intro f lo hi w hb hx hf hk hrg R hR; (try replace hb := BelX.zero hb); (try simp (decide := true) only [go_sem] at hf); (try simp (decide := true) only [go_sem] at hk); go_simp; exact hR _ _ (rpost_val rfl rfl (Below.refl _ _) rfl)
            case hcl =>
              refine ⟨Closed.true _ _ _ _, ?cR1_1, Closed.true _ _ _ _, ?cR1_3, Closed.true _ _ _ _, Closed.true _ _ _ _, Closed.true _ _ _ _, Closed.true _ _ _ _, Closed.true _ _ _ _, Closed.true _ _ _ _, Closed.true _ _ _ _, Closed.true _ _ _ _, Closed.true _ _ _ _, Closed.true _ _ _ _, Closed.true _ _ _ _, Closed.true _ _ _ _, Closed.true _ _ _ _, ?cR1_17, Closed.true _ _ _ _, Closed.true _ _ _ _, ?cR1_20, Closed.true _ _ _ _, Closed.true _ _ _ _, Closed.true _ _ _ _, Closed.true _ _ _ _, Closed.true _ _ _ _, Closed.true _ _ _ _, Closed.true _ _ _ _, Closed.true _ _ _ _, Closed.true _ _ _ _, Closed.true _ _ _ _, Closed.true _ _ _ _, Closed.true _ _ _ _, Closed.true _ _ _ _, Closed.true _ _ _ _, Closed.true _ _ _ _, trivial⟩
              all_goals exact fun f lo hi v b0 b1 w w' h hs hB hown hU hX => h.keep hown
            intro f lo hi W7 hbr hx hf hk hrg; (try replace hbr := BelX.zero hbr); clear hx; (try simp (decide := true) only [go_sem] at hf); (try simp (decide := true) only [go_sem] at hk)
            have wm7 := wm.below hbr
            have hpb7 := hpb.below hbr (Nat.le_refl _)
            have ky7 := ky.below hbr ky.lt
            have hso7 := hso2.below hbr (Nat.le_refl _)
            clear hrg hbr hf wm hpb kx ki hso hits ky kj hso2 hits2
            go_simp
            clear hk
            go_upto_region 17 with ((go_at_call 19; (with_reducible refine (deck_Next _ 6 _ _ k4 wm7.dk (by omega) (by omega)).mono ?_); rintro e w8 ⟨y, rfl, y0, y1, -, hd8, g8⟩; ((try simp only [Int.zero_add]); have wm8 := wm7.draw g8 hd8)))
            have hJP := wm8.sz
            have ky8 := ky7.grown g8 (by have := HYJ.out; omega)
            have hso8 : SOwn w8 T.buf ya yn yc := ⟨hso7.own.keep fun b e _ q => g8.block b q (fun e' => hso7.own.ne_blk wm7.dk.1 (by decide) (by rw [e]; injection e' with e'; rw [← e']; rfl)), hso7.len, hso7.small⟩
            have hpb8 : Byt w8 a2 l2 := by
              by_cases hl : l2 = []
              · rw [hl]; exact Byt.nil _ _
              · exact Row.keep hpb7 fun b off e q => g8.block b q (fun e' => HPP.out hl b (by rw [e]; rfl) (by injection e'))
            have HUL1 := Lib.hid (opn_U _ _ _ _ HU1 hsbl)
            obtain ⟨c0', c1', c2', c3'⟩ := wm8.blk.four'
            have jl := wm8.blk.lt
            clear wm7 hpb7 ky7 hso7 hd8 g8
            obtain rfl | rfl | rfl | h3 : y = 0 ∨ y = 1 ∨ y = 2 ∨ 3 ≤ y := by omega
            · go_wp2_with ((go_at_call 23; (with_reducible refine (ropen_U o dr g sb sa sn sc _ HU1 wm8.ses).mono ?_); rintro e w9 ⟨a', c', n', hn', rfl, own9, hb9⟩; ((have k9 := wm8.blk.below hb9 wm8.blk.lt); (obtain ⟨d0', d1', d2', d3'⟩ := k9.four'); (have fz9 := k9.frozen); (have l9 := k9.lt))))
              all_goals
                go_roundw
                case rel => exact ⟨i + 1, U1.op, U1.dr, U1.gb, U1.buf, a', n', c', _, by go_num, by omega, wm8.fin hb9 (own9.mono (Nat.zero_le _)) hn'.out (by rw [hn'.out]; exact HUL1.out) _ _ _⟩
                case measure => simp [intOf]; omega
            · obtain ⟨t0', t1', t2', t3'⟩ := ky8.four'
              have tl := ky8.lt
              have fz9 := wm8.blk.frozen
              go_wp2_with fail
              all_goals
                go_roundw
                case rel => exact ⟨i + 1, T.op, T.dr, T.gb, T.buf, ya, yn, yc, _, by go_num, by omega, wm8.fin (RowKit.Below.refl _ _) hso8.own hso8.len (by rw [hso8.len]; exact hTl) _ _ _⟩
                case measure => simp [intOf]; omega
            · go_wp2_with ((go_at_call 25; (with_reducible refine (ref25_DropV o dr g sa sn sc _).mono ?_); rintro e w9 ⟨rfl, hb9⟩; ((have k9 := wm8.blk.below hb9 wm8.blk.lt); (obtain ⟨d0', d1', d2', d3'⟩ := k9.four'); (have fz9 := k9.frozen); (have l9 := k9.lt))))
              all_goals
                go_roundw
                case rel => exact ⟨i + 1, false, false, false, [], none, 0, 0, _, by go_num, by omega, wm8.fin hb9 (l := []) (a := none) (n := 0) (c := 0) (Own.nil _ _ _ _) rfl (by omega) false false false⟩
                case measure => simp [intOf]; omega
            · have z0 : (y == 0) = false := by rw [beq_eq_false_iff_ne]; omega
              have z1 : (y == 1) = false := by rw [beq_eq_false_iff_ne]; omega
              have z2 : (y == 2) = false := by rw [beq_eq_false_iff_ne]; omega
              obtain ⟨U4, hU4⟩ : ∃ U, Ses.rcv U1 l2 = U := ⟨_, rfl⟩
              have HU4 := Lib.hid (show Ses.rcv ⟨U1.op, U1.dr, U1.buf, U1.gb⟩ l2 = U4 from hU4)
              clear hU4
              have HUL4 := Lib.hid (rcv_U _ _ _ _ _ HU4 HUL1.out)
              go_wp2_with (first | (go_at_call 23; (with_reducible refine (ropen_U o dr g sb sa sn sc _ HU1 wm8.ses).mono ?_); rintro e w9 ⟨a', c', n', hn', rfl, own9, hb9⟩) | (go_at_call 26; (with_reducible refine (rrecv_U U1.op U1.dr U1.gb U1.buf a' n' c' _ a2 l2 l2.length c2 HU4 ⟨own9.byt, hn'.out, own9.cap_le, fun e => own9.none_len e, by have := hn'.out; have := HUL1.out; omega⟩ (hpb8.below hb9 (Nat.le_refl _)) rfl (by rw [hn'.out]; exact HUL1.out) hpc' hp6).mono ?_); rintro e w10 ⟨a2', c2', n2', hn2', rfl, own10, hb10⟩; ((have hb90 := hb9.trans (hb10.mono hb9.size)); (have k9 := wm8.blk.below hb90 wm8.blk.lt); (obtain ⟨d0', d1', d2', d3'⟩ := k9.four'); (have fz9 := k9.frozen); (have l9 := k9.lt))))
              all_goals
                go_roundw
                case rel => exact ⟨i + 1, U4.op, U4.dr, U4.gb, U4.buf, a2', n2', c2', _, by go_num, by omega, wm8.fin hb90 (own10.mono (Nat.zero_le _)) hn2'.out (by rw [hn2'.out]; exact HUL4.out) _ _ _⟩
                case measure => simp [intOf]; omega
          | false =>
            clear hzl
            go_upto_region 11 with (first | (go_at_call 21; (with_reducible refine (deck_Left _ _ _ kk wm.dk HLF).mono ?_); rintro e w3 ⟨rfl, hb3⟩; (have wm3 := wm.below hb3)) | (go_at_call 7; (with_reducible refine (law_line _ 12 _ _ _ 12 rfl (by omega) (by omega) wm3.dk).mono ?_); rintro e w4 ⟨ll, k4, lm, la, lc, hlm, rfl, hll, own4, hd4, g4⟩; (have wm4 := wm3.draw g4 hd4)))
            have hpb : Byt w4 a2 l2 := wm4.byt
            have hpc' : l2.length ≤ c2 := k2
            have hp6 : l2.length ≤ 1000000 := by omega
            have HPP := Lib.hid (show l2 ≠ [] → ∀ k, a2.map (·.block) = some k → k ≠ w.heap.size + 1 from fun hne k hk => by have := wm4.bar hne k hk; omega)
            obtain ⟨T, hT0⟩ : ∃ T, Ses.nxt ⟨o, dr, sb, g⟩ = T := ⟨_, rfl⟩
            obtain ⟨U1, hU1⟩ : ∃ U, Ses.opn ⟨o, dr, sb, g⟩ = U := ⟨_, rfl⟩
            obtain ⟨U3, hU3⟩ : ∃ U, Ses.rcv ⟨o, dr, sb, g⟩ l2 = U := ⟨_, rfl⟩
            have hsbl : sb.length ≤ 256 := by have := wm.ses.len; have := wm.le; omega
            have hTl : T.buf.length ≤ 256 := by rw [← hT0]; exact nxt_len _ hsbl
            have HT0 := Lib.hid hT0
            have HU1 := Lib.hid hU1
            have HU3 := Lib.hid hU3
            clear hT0 hU1 hU3 wm wm3 own4 hd4 g4 hb3
            obtain ⟨c0', c1', c2', c3'⟩ := wm4.blk.four'
            have jl := wm4.blk.lt
            go_upto_region 12 with ((go_at_call 11; (with_reducible refine (inbox_Take o dr g sb sa sn sc _ wm4.ses).mono ?_); rintro e w5 ⟨T', xa, xc, xn, its, ia, ic, im, hT, hxn, him, hk, rfl, own5, owi5, pays5, hb5⟩))
            obtain rfl : T = T' := HT0.out.symm.trans hT.out
            have hxn' := hxn.out
            have him4 : im ≤ 5 := by
              have h1 := congrArg List.length hk.out
              rw [List.length_map, ← him.out] at h1
              have h2 := tRun_len 4 sb ⟨0, g, []⟩ (by simp)
              rw [h1]
              unfold Ses.inp Ses.tk
              split
              · rw [List.length_append]
                simp only at h2 ⊢
                split <;> simp <;> omega
              · simp
            refine wp_named (fun V => StM w V J (w.heap.size + 1) ⟨a1, c1, l1⟩ k4 o dr g sb sa sn sc a2 l2 ∧ Byt V a2 l2 ∧ Blk V w5.heap.size 30 #[.bool T.op, .bool T.dr, .slice xa xn xc, .bool T.gb] ∧ Blk V (w5.heap.size + 1) 35 #[.bool o, .slice ia im ic] ∧ SOwn V T.buf xa xn xc ∧ Items V ia its) ⟨(wm4.below hb5).below (by repeat (first | (with_reducible refine Below.setCell ?_ ?_ _) | (with_reducible refine Below.alloc ?_ ?_ _) | (with_reducible refine Below.drew ?_) | (with_reducible refine below_drewN ?_ _) | (with_reducible exact Below.refl _ _) | (focus (simp; done)) | (focus (simp; omega)) | (focus omega))), ((hpb.below hb5 (Nat.le_refl _)).alloc _).alloc _, (Blk.new _ _ _).alloc _, Blk.next _ _ _ _, ⟨((own5.mono (Nat.zero_le _)).alloc _).alloc _, hxn', by omega⟩, ((items_of (by rw [← him.out]; exact owi5) pays5).alloc _).alloc _⟩ ?_
            clear wm4 hpb own5 owi5 pays5 hb5 c0' c1' c2' c3' jl hxn'
            rintro V5 ⟨wm, hpb, kx, ki, hso, hits⟩
            obtain ⟨c0', c1', c2', c3'⟩ := wm.blk.four'
            have jl := wm.blk.lt
            go_upto_region 13 with ((go_at_call 22; (with_reducible refine (ref25_Take o dr g sb sa sn sc _ wm.ses).mono ?_); rintro e w6 ⟨T', ya, yc, yn, its2, ja, jc, jm, hT', hyn, hjm, hk', rfl, own6, owi6, pays6, hb6⟩))
            obtain rfl : T = T' := HT0.out.symm.trans hT'.out
            have hyn' := hyn.out
            have HKK := Lib.hid (show its.map It.key = its2.map It.key from hk.out.trans hk'.out.symm)
            have hjm4 : jm ≤ 5 := by
              have h1 := congrArg List.length HKK.out
              rw [List.length_map, List.length_map, ← him.out, ← hjm.out] at h1
              omega
            refine wp_named (fun V => StM w V J (w.heap.size + 1) ⟨a1, c1, l1⟩ k4 o dr g sb sa sn sc a2 l2 ∧ Byt V a2 l2 ∧ Blk V w5.heap.size 30 #[.bool T.op, .bool T.dr, .slice xa xn xc, .bool T.gb] ∧ Blk V (w5.heap.size + 1) 35 #[.bool o, .slice ia im ic] ∧ SOwn V T.buf xa xn xc ∧ Items V ia its ∧ Blk V w6.heap.size 30 #[.bool T.op, .bool T.dr, .slice ya yn yc, .bool T.gb] ∧ Blk V (w6.heap.size + 1) 35 #[.bool o, .slice ja jm jc] ∧ SOwn V T.buf ya yn yc ∧ Items V ja its2) ⟨(wm.below hb6).below (by repeat (first | (with_reducible refine Below.setCell ?_ ?_ _) | (with_reducible refine Below.alloc ?_ ?_ _) | (with_reducible refine Below.drew ?_) | (with_reducible refine below_drewN ?_ _) | (with_reducible exact Below.refl _ _) | (focus (simp; done)) | (focus (simp; omega)) | (focus omega))), ((hpb.below hb6 (Nat.le_refl _)).alloc _).alloc _, ((kx.below hb6 kx.lt).alloc _).alloc _, ((ki.below hb6 ki.lt).alloc _).alloc _, ⟨((hso.own.below hb6 (Nat.le_refl _)).alloc _).alloc _, hso.len, hso.small⟩, ((hits.below hb6 (Nat.le_refl _)).alloc _).alloc _, (Blk.new _ _ _).alloc _, Blk.next _ _ _ _, ⟨((own6.mono (Nat.zero_le _)).alloc _).alloc _, hyn', by omega⟩, ((items_of (by rw [← hjm.out]; exact owi6) pays6).alloc _).alloc _⟩ ?_
            have HY6 := Lib.hid (show J < w6.heap.size by have := hb6.size; omega)
            clear wm hpb kx ki hso hits own6 owi6 pays6 hb6 c0' c1' c2' c3' jl hyn'
            rintro V6 ⟨wm, hpb, kx, ki, hso, hits, ky, kj, hso2, hits2⟩
            have hle := wm.le
            have HYJ := Lib.hid (show w.heap.size + 1 < w6.heap.size from by have := HY6.out; have := wm.sz; omega)
            apply wp_region_tab [] 36 115 [some 61, some 62, some 63, some 64, some 65, some 66, some 67, some 68, some 69, some 70, some 71, some 72, some 73, some 74, some 75, some 76, some 77, some 78, some 79, some 80, some 81, some 82, some 83, some 84, some 85, some 86, some 87, some 88, some 89, some 90, some 91, some 92, some 93, some 94, some 95, some 96] [⟨[], [], [], []⟩, ⟨[0], [0], [0], []⟩, ⟨[], [], [], []⟩, ⟨[0, 1, 2], [2], [2], []⟩, ⟨[0, 1, 2, 3], [1, 3], [1, 3], []⟩, ⟨[0, 1, 2, 3, 4], [4], [4], []⟩, ⟨[0, 1, 2, 3, 4, 5], [5], [5], []⟩, ⟨[0, 1, 2, 3, 4, 5, 6], [6], [6], []⟩, ⟨[0, 1, 2, 3, 4, 5, 6, 7], [6, 7], [6, 7], []⟩, ⟨[0, 1, 2, 3, 4, 5, 6], [6], [6], []⟩, ⟨[0, 1, 2, 3, 4, 5, 6, 7, 8, 9], [6, 9], [6, 9], []⟩, ⟨[0, 1, 2, 3, 4, 5, 6, 7, 8, 9, 10], [6, 8, 10], [6, 8, 10], []⟩, ⟨[0, 1, 2, 3, 4, 5, 6, 7, 8, 9, 10, 11], [6, 11], [6, 11], []⟩, ⟨[0, 1, 2, 3, 4, 5, 6, 7, 8, 9, 10, 11, 12], [6, 12], [6, 12], []⟩, ⟨[0, 1, 2, 3, 4, 5, 6, 7, 8, 9, 10, 11, 12, 13], [13], [13], []⟩, ⟨[0, 1, 2, 3, 4, 5, 6, 7, 8, 9, 10, 11, 12, 13, 14], [14], [14], []⟩, ⟨[0, 1, 2, 3, 4, 5, 6, 7, 8, 9, 10, 11, 12, 13, 14], [14], [14], []⟩, ⟨[0, 1, 2, 3, 4, 5, 6, 7, 8, 9, 10, 11, 12, 13, 14, 15, 16], [14, 15, 16], [14, 15, 16], []⟩, ⟨[0, 1, 2, 3, 4, 5, 6, 7, 8, 9, 10, 11, 12, 13, 14], [14], [14], []⟩, ⟨[0, 1, 2, 3, 4, 5, 6, 7, 8, 9, 10, 11, 12, 13, 14], [14], [14], []⟩, ⟨[0, 1, 2, 3, 4, 5, 6, 7, 8, 9, 10, 11, 12, 13, 14, 15, 16, 17, 18, 19], [14, 18, 19], [14, 18, 19], []⟩, ⟨[0, 1, 2, 3, 4, 5, 6, 7, 8, 9, 10, 11, 12, 13, 14, 15, 16, 17, 18, 19, 20], [14, 17, 20], [14, 17, 20], []⟩, ⟨[0, 1, 2, 3, 4, 5, 6, 7, 8, 9, 10, 11, 12, 13, 14, 15, 16, 17, 18, 19, 20, 21], [14, 21], [14, 21], []⟩, ⟨[0, 1, 2, 3, 4, 5, 6, 7, 8, 9, 10, 11, 12, 13, 14, 15, 16, 17, 18, 19, 20, 21, 22], [14, 22], [14, 22], []⟩, ⟨[0, 1, 2, 3, 4, 5, 6, 7, 8, 9, 10, 11, 12, 13, 14, 15, 16, 17, 18, 19, 20, 21, 22, 23], [23], [23], []⟩, ⟨[0, 1, 2, 3, 4, 5, 6, 7, 8, 9, 10, 11, 12, 13, 14, 15, 16, 17, 18, 19, 20, 21, 22, 23, 24], [24], [24], []⟩, ⟨[0, 1, 2, 3, 4, 5, 6, 7, 8, 9, 10, 11, 12, 13, 14, 15, 16, 17, 18, 19, 20, 21, 22, 23, 24], [24], [24], []⟩, ⟨[0, 1, 2, 3, 4, 5, 6, 7, 8, 9, 10, 11, 12, 13, 14, 15, 16, 17, 18, 19, 20, 21, 22, 23, 24, 25, 26], [24, 25, 26], [24, 25, 26], []⟩, ⟨[0, 1, 2, 3, 4, 5, 6, 7, 8, 9, 10, 11, 12, 13, 14, 15, 16, 17, 18, 19, 20, 21, 22, 23, 24, 25, 26, 27], [24, 27], [24, 27], []⟩, ⟨[0, 1, 2, 3, 4, 5, 6, 7, 8, 9, 10, 11, 12, 13, 14, 15, 16, 17, 18, 19, 20, 21, 22, 23, 24, 25, 26, 27, 28], [24, 28], [24, 28], []⟩, ⟨[0, 1, 2, 3, 4, 5, 6, 7, 8, 9, 10, 11, 12, 13, 14, 15, 16, 17, 18, 19, 20, 21, 22, 23, 24, 25, 26, 27, 28, 29], [29], [29], []⟩, ⟨[0, 1, 2, 3, 4, 5, 6, 7, 8, 9, 10, 11, 12, 13, 14, 15, 16, 17, 18, 19, 20, 21, 22, 23, 24, 25, 26, 27, 28, 29, 30], [30], [30], []⟩, ⟨[0, 1, 2, 3, 4, 5, 6, 7, 8, 9, 10, 11, 12, 13, 14, 15, 16, 17, 18, 19, 20, 21, 22, 23, 24, 25, 26, 27, 28, 29, 30], [30], [30], []⟩, ⟨[0, 1, 2, 3, 4, 5, 6, 7, 8, 9, 10, 11, 12, 13, 14, 15, 16, 17, 18, 19, 20, 21, 22, 23, 24, 25, 26, 27, 28, 29, 30, 31, 32], [30, 31, 32], [30, 31, 32], []⟩, ⟨[0, 1, 2, 3, 4, 5, 6, 7, 8, 9, 10, 11, 12, 13, 14, 15, 16, 17, 18, 19, 20, 21, 22, 23, 24, 25, 26, 27, 28, 29, 30, 31, 32, 33], [30, 33], [30, 33], []⟩, ⟨[0, 1, 2, 3, 4, 5, 6, 7, 8, 9, 10, 11, 12, 13, 14, 15, 16, 17, 18, 19, 20, 21, 22, 23, 24, 25, 26, 27, 28, 29, 30, 31, 32, 33, 34], [30, 34], [30, 34], []⟩] [0, 1, 2, 3, 4, 5, 6, 7, 8, 9, 10, 11, 12, 13, 14, 15, 16, 17, 18, 19, 20, 21, 22, 23, 24, 25, 26, 27, 28, 29, 30, 31, 32, 33, 34, 35] [35] [psiTrue, (fun f lo hi v b0 b1 W => SPsi U1.op U1.dr U1.gb U1.buf v b0 b1 W), psiTrue, (fun f lo hi v b0 b1 W => SPsi U1.op U1.dr U1.gb U1.buf v b0 b1 W), psiTrue, psiTrue, psiTrue, psiTrue, psiTrue, psiTrue, psiTrue, psiTrue, psiTrue, psiTrue, psiTrue, psiTrue, psiTrue, (fun f lo hi v b0 b1 W => SPsi U3.op U3.dr U3.gb U3.buf v b0 b1 W), psiTrue, psiTrue, (fun f lo hi v b0 b1 W => SPsi U3.op U3.dr U3.gb U3.buf v b0 b1 W), psiTrue, psiTrue, psiTrue, psiTrue, psiTrue, psiTrue, psiTrue, psiTrue, psiTrue, psiTrue, psiTrue, psiTrue, psiTrue, psiTrue, psiTrue] [kVal _, kTrue, kVal _, kTrue, kVal _, kVal _, kVal _, kVal _, kVal _, kVal _, kVal _, kVal _, kVal _, kVal _, kVal _, kVal _, kVal _, kTrue, kVal _, kVal _, kTrue, kVal _, kVal _, kVal _, kVal _, kVal _, kVal _, kVal _, kVal _, kVal _, kVal _, kVal _, kVal _, kVal _, kVal _, kVal _]
            · kernel_rfl
            · kernel_rfl
            · rfl
            · rfl
            · exact trivial
            · exact trivial
            refine ⟨?oR2_0, ?oR2_1, ?oR2_2, ?oR2_3, ?oR2_4, ?oR2_5, ?oR2_6, ?oR2_7, ?oR2_8, ?oR2_9, ?oR2_10, ?oR2_11, ?oR2_12, ?oR2_13, ?oR2_14, ?oR2_15, ?oR2_16, ?oR2_17, ?oR2_18, ?oR2_19, ?oR2_20, ?oR2_21, ?oR2_22, ?oR2_23, ?oR2_24, ?oR2_25, ?oR2_26, ?oR2_27, ?oR2_28, ?oR2_29, ?oR2_30, ?oR2_31, ?oR2_32, ?oR2_33, ?oR2_34, ?oR2_35, trivial⟩
            case oR2_0 =>
              intro f lo hi w hb hx hf hk hrg R hR; (try replace hb := BelX.zero hb); (try simp (decide := true) only [go_sem] at hf); (try simp (decide := true) only [go_sem] at hk)
              obtain ⟨e0, e1, e2, e3⟩ := (wm.blk.below hb wm.blk.lt).four'
              go_simp
              exact hR _ _ (rpost_val rfl rfl (Below.refl _ _) rfl)
            case oR2_1 =>
              intro f lo hi w hb hx hf hk hrg R hR; (try replace hb := BelX.zero hb); (try simp (decide := true) only [go_sem] at hf); (try simp (decide := true) only [go_sem] at hk)
              go_simp
              (with_reducible refine (open_U o dr g sb sa sn sc _ HU1 (wm.ses.below hb (Nat.le_refl _))).mono ?_)
              rintro e w' hq
              obtain ⟨v, rfl, hps, hb1⟩ := SPsi.of (Lib.hid rfl) hq
              refine ⟨v, rfl, hR _ _ (rpost_none rfl hb1 ?_)⟩
              (try simp (decide := true) only [go_sem])
              exact hps
            case oR2_2 =>
              intro f lo hi w hb hx hf hk hrg R hR; (try replace hb := BelX.zero hb); (try simp (decide := true) only [go_sem] at hf); (try simp (decide := true) only [go_sem] at hk)
              obtain ⟨e0, e1, e2, e3⟩ := (wm.blk.below hb wm.blk.lt).four'
              go_simp
              exact hR _ _ (rpost_val rfl rfl (Below.refl _ _) rfl)
            case oR2_3 =>
              intro f lo hi w hb hx hf hk hrg R hR; (try replace hb := BelX.zero hb); (try simp (decide := true) only [go_sem] at hf); (try simp (decide := true) only [go_sem] at hk)
              go_simp
              (with_reducible refine (ropen_U o dr g sb sa sn sc _ HU1 (wm.ses.below hb (Nat.le_refl _))).mono ?_)
              rintro e w' hq
              obtain ⟨v, rfl, hps, hb1⟩ := SPsi.of (Lib.hid rfl) hq
              refine ⟨v, rfl, hR _ _ (rpost_none rfl hb1 ?_)⟩
              (try simp (decide := true) only [go_sem])
              exact hps
            case oR2_4 =>
              intro f lo hi w hb hx hf hk hrg R hR; (try replace hb := BelX.zero hb); (try simp (decide := true) only [go_sem] at hf); (try simp (decide := true) only [go_sem] at hk)
              obtain ⟨⟨a1', c1', n1', h62, e1, ow1, -⟩, a2', c2', n2', h64, e2, ow2, -⟩ := hf
              have E1 := Lib.hid e1
              have E2 := Lib.hid e2
              clear e1 e2
              go_simp
              (with_reducible refine (ref25_SameY U1.op U1.dr U1.gb U1.buf a1' a2' n1' n2' c1' c2' _ ow1.byt ow2.byt E1.out E2.out).mono ?_)
              rintro e w' ⟨rfl, hb1⟩
              exact ⟨_, rfl, hR _ _ (rpost_val rfl rfl hb1 rfl)⟩
            case oR2_5 => intro f lo hi w hb hx hf hk hrg R hR; (try replace hb := BelX.zero hb); (try simp (decide := true) only [go_sem] at hf); (try simp (decide := true) only [go_sem] at hk); go_simp; exact hR _ _ (rpost_val rfl rfl (Below.refl _ _) rfl)
            case oR2_6 => intro f lo hi w hb hx hf hk hrg R hR; (try replace hb := BelX.zero hb); (try simp (decide := true) only [go_sem] at hf); (try simp (decide := true) only [go_sem] at hk); go_simp; exact hR _ _ (rpost_val rfl rfl (Below.refl _ _) rfl)
            case oR2_7 =>
              intro f lo hi w hb hx hf hk hrg R hR; (try replace hb := BelX.zero hb); (try simp (decide := true) only [go_sem] at hf); (try simp (decide := true) only [go_sem] at hk)
              obtain ⟨e0, e1, e2, e3⟩ := (wm.blk.below hb wm.blk.lt).four'
              go_simp
              exact hR _ _ (rpost_val rfl rfl (Below.refl _ _) rfl)
            case oR2_8 =>
              intro f lo hi w hb hx hf hk hrg R hR; (try replace hb := BelX.zero hb); (try simp (decide := true) only [go_sem] at hf); (try simp (decide := true) only [go_sem] at hk)
              go_simp
              (with_reducible refine (inbox_DropV o dr g sa sn sc _).mono ?_)
              rintro e w' ⟨rfl, hb1⟩
              exact ⟨_, rfl, hR _ _ (rpost_val rfl rfl hb1 rfl)⟩
            case oR2_9 =>
              intro f lo hi w hb hx hf hk hrg R hR; (try replace hb := BelX.zero hb); (try simp (decide := true) only [go_sem] at hf); (try simp (decide := true) only [go_sem] at hk)
              obtain ⟨e0, e1, e2, e3⟩ := (wm.blk.below hb wm.blk.lt).four'
              go_simp
              exact hR _ _ (rpost_val rfl rfl (Below.refl _ _) rfl)
            case oR2_10 =>
              intro f lo hi w hb hx hf hk hrg R hR; (try replace hb := BelX.zero hb); (try simp (decide := true) only [go_sem] at hf); (try simp (decide := true) only [go_sem] at hk)
              go_simp
              (with_reducible refine (ref25_DropV o dr g sa sn sc _).mono ?_)
              rintro e w' ⟨rfl, hb1⟩
              exact ⟨_, rfl, hR _ _ (rpost_val rfl rfl hb1 rfl)⟩
            case oR2_11 =>
              intro f lo hi w hb hx hf hk hrg R hR; (try replace hb := BelX.zero hb); (try simp (decide := true) only [go_sem] at hf); (try simp (decide := true) only [go_sem] at hk)
              go_simp
              (with_reducible refine (ref25_SameY false false false [] none none 0 0 0 0 _ (Byt.nil _ _) (Byt.nil _ _) rfl rfl).mono ?_)
              rintro e w' ⟨rfl, hb1⟩
              exact ⟨_, rfl, hR _ _ (rpost_val rfl rfl hb1 rfl)⟩
            case oR2_12 => intro f lo hi w hb hx hf hk hrg R hR; (try replace hb := BelX.zero hb); (try simp (decide := true) only [go_sem] at hf); (try simp (decide := true) only [go_sem] at hk); go_simp; exact hR _ _ (rpost_val rfl rfl (Below.refl _ _) rfl)
            case oR2_13 => intro f lo hi w hb hx hf hk hrg R hR; (try replace hb := BelX.zero hb); (try simp (decide := true) only [go_sem] at hf); (try simp (decide := true) only [go_sem] at hk); go_simp; exact hR _ _ (rpost_val rfl rfl (Below.refl _ _) rfl)
            case oR2_14 => intro f lo hi w hb hx hf hk hrg R hR; (try replace hb := BelX.zero hb); (try simp (decide := true) only [go_sem] at hf); (try simp (decide := true) only [go_sem] at hk); go_simp; exact hR _ _ (rpost_val rfl rfl (Below.refl _ _) rfl)
            case oR2_15 =>
              intro f lo hi w hb hx hf hk hrg R hR; (try replace hb := BelX.zero hb); (try simp (decide := true) only [go_sem] at hf); (try simp (decide := true) only [go_sem] at hk)
              obtain ⟨e0, e1, e2, e3⟩ := (wm.blk.below hb wm.blk.lt).four'
              go_simp
              exact hR _ _ (rpost_val rfl rfl (Below.refl _ _) rfl)
            case oR2_16 => intro f lo hi w hb hx hf hk hrg R hR; (try replace hb := BelX.zero hb); (try simp (decide := true) only [go_sem] at hf); (try simp (decide := true) only [go_sem] at hk); go_simp; exact hR _ _ (rpost_val rfl rfl (Below.refl _ _) rfl)
            case oR2_17 =>
              intro f lo hi w hb hx hf hk hrg R hR; (try replace hb := BelX.zero hb); (try simp (decide := true) only [go_sem] at hf); (try simp (decide := true) only [go_sem] at hk)
              go_simp
              (with_reducible refine (recv_U o dr g sb sa sn sc _ a2 l2 l2.length c2 HU3 (wm.ses.below hb (Nat.le_refl _)) (hpb.below hb (Nat.le_refl _)) rfl hle hpc' hp6).mono ?_)
              rintro e w' hq
              obtain ⟨v, rfl, hps, hb1⟩ := SPsi.of (Lib.hid rfl) hq
              refine ⟨v, rfl, hR _ _ (rpost_none rfl hb1 ?_)⟩
              (try simp (decide := true) only [go_sem])
              exact hps
            case oR2_18 =>
              intro f lo hi w hb hx hf hk hrg R hR; (try replace hb := BelX.zero hb); (try simp (decide := true) only [go_sem] at hf); (try simp (decide := true) only [go_sem] at hk)
              obtain ⟨e0, e1, e2, e3⟩ := (wm.blk.below hb wm.blk.lt).four'
              go_simp
              exact hR _ _ (rpost_val rfl rfl (Below.refl _ _) rfl)
            case oR2_19 => intro f lo hi w hb hx hf hk hrg R hR; (try replace hb := BelX.zero hb); (try simp (decide := true) only [go_sem] at hf); (try simp (decide := true) only [go_sem] at hk); go_simp; exact hR _ _ (rpost_val rfl rfl (Below.refl _ _) rfl)
            case oR2_20 =>
              intro f lo hi w hb hx hf hk hrg R hR; (try replace hb := BelX.zero hb); (try simp (decide := true) only [go_sem] at hf); (try simp (decide := true) only [go_sem] at hk)
              go_simp
              (with_reducible refine (rrecv_U o dr g sb sa sn sc _ a2 l2 l2.length c2 HU3 (wm.ses.below hb (Nat.le_refl _)) (hpb.below hb (Nat.le_refl _)) rfl hle hpc' hp6).mono ?_)
              rintro e w' hq
              obtain ⟨v, rfl, hps, hb1⟩ := SPsi.of (Lib.hid rfl) hq
              refine ⟨v, rfl, hR _ _ (rpost_none rfl hb1 ?_)⟩
              (try simp (decide := true) only [go_sem])
              exact hps
            case oR2_21 =>
              intro f lo hi w hb hx hf hk hrg R hR; (try replace hb := BelX.zero hb); (try simp (decide := true) only [go_sem] at hf); (try simp (decide := true) only [go_sem] at hk)
              obtain ⟨⟨a1', c1', n1', h62, e1, ow1, -⟩, a2', c2', n2', h64, e2, ow2, -⟩ := hf
              have E1 := Lib.hid e1
              have E2 := Lib.hid e2
              clear e1 e2
              go_simp
              (with_reducible refine (ref25_SameY U3.op U3.dr U3.gb U3.buf a1' a2' n1' n2' c1' c2' _ ow1.byt ow2.byt E1.out E2.out).mono ?_)
              rintro e w' ⟨rfl, hb1⟩
              exact ⟨_, rfl, hR _ _ (rpost_val rfl rfl hb1 rfl)⟩
            case oR2_22 => intro f lo hi w hb hx hf hk hrg R hR; (try replace hb := BelX.zero hb); (try simp (decide := true) only [go_sem] at hf); (try simp (decide := true) only [go_sem] at hk); go_simp; exact hR _ _ (rpost_val rfl rfl (Below.refl _ _) rfl)
            case oR2_23 => intro f lo hi w hb hx hf hk hrg R hR; (try replace hb := BelX.zero hb); (try simp (decide := true) only [go_sem] at hf); (try simp (decide := true) only [go_sem] at hk); go_simp; exact hR _ _ (rpost_val rfl rfl (Below.refl _ _) rfl)
            case oR2_24 => intro f lo hi w hb hx hf hk hrg R hR; (try replace hb := BelX.zero hb); (try simp (decide := true) only [go_sem] at hf); (try simp (decide := true) only [go_sem] at hk); go_simp; exact hR _ _ (rpost_val rfl rfl (Below.refl _ _) rfl)
            case oR2_25 =>
              intro f lo hi w hb hx hf hk hrg R hR; (try replace hb := BelX.zero hb); (try simp (decide := true) only [go_sem] at hf); (try simp (decide := true) only [go_sem] at hk)
              obtain ⟨e0, e1, e2, e3⟩ := (kx.below hb kx.lt).four'
              go_simp
              exact hR _ _ (rpost_val rfl rfl (Below.refl _ _) rfl)
            case oR2_26 =>
              intro f lo hi w hb hx hf hk hrg R hR; (try replace hb := BelX.zero hb); (try simp (decide := true) only [go_sem] at hf); (try simp (decide := true) only [go_sem] at hk)
              obtain ⟨e0, e1, e2, e3⟩ := (ky.below hb ky.lt).four'
              go_simp
              exact hR _ _ (rpost_val rfl rfl (Below.refl _ _) rfl)
            case oR2_27 =>
              intro f lo hi w hb hx hf hk hrg R hR; (try replace hb := BelX.zero hb); (try simp (decide := true) only [go_sem] at hf); (try simp (decide := true) only [go_sem] at hk)
              go_simp
              (with_reducible refine (ref25_SameY T.op T.dr T.gb T.buf xa ya xn yn xc yc _ (hso.below hb (Nat.le_refl _)).own.byt (hso2.below hb (Nat.le_refl _)).own.byt hso.len hso2.len).mono ?_)
              rintro e w' ⟨rfl, hb1⟩
              exact ⟨_, rfl, hR _ _ (rpost_val rfl rfl hb1 rfl)⟩
            case oR2_28 => intro f lo hi w hb hx hf hk hrg R hR; (try replace hb := BelX.zero hb); (try simp (decide := true) only [go_sem] at hf); (try simp (decide := true) only [go_sem] at hk); go_simp; exact hR _ _ (rpost_val rfl rfl (Below.refl _ _) rfl)
            case oR2_29 => intro f lo hi w hb hx hf hk hrg R hR; (try replace hb := BelX.zero hb); (try simp (decide := true) only [go_sem] at hf); (try simp (decide := true) only [go_sem] at hk); go_simp; exact hR _ _ (rpost_val rfl rfl (Below.refl _ _) rfl)
            case oR2_30 => intro f lo hi w hb hx hf hk hrg R hR; (try replace hb := BelX.zero hb); (try simp (decide := true) only [go_sem] at hf); (try simp (decide := true) only [go_sem] at hk); go_simp; exact hR _ _ (rpost_val rfl rfl (Below.refl _ _) rfl)
            case oR2_31 =>
              intro f lo hi w hb hx hf hk hrg R hR; (try replace hb := BelX.zero hb); (try simp (decide := true) only [go_sem] at hf); (try simp (decide := true) only [go_sem] at hk)
              have kk := ki.below hb ki.lt
              have e0 := kk.cell 0
              have e1 := kk.cell 1
              go_simp
              exact hR _ _ (rpost_val rfl rfl (Below.refl _ _) rfl)
            case oR2_32 =>
              intro f lo hi w hb hx hf hk hrg R hR; (try replace hb := BelX.zero hb); (try simp (decide := true) only [go_sem] at hf); (try simp (decide := true) only [go_sem] at hk)
              have kk := kj.below hb kj.lt
              have e0 := kk.cell 0
              have e1 := kk.cell 1
              go_simp
              exact hR _ _ (rpost_val rfl rfl (Below.refl _ _) rfl)
            case oR2_33 =>
              intro f lo hi w hb hx hf hk hrg R hR; (try replace hb := BelX.zero hb); (try simp (decide := true) only [go_sem] at hf); (try simp (decide := true) only [go_sem] at hk)
              go_simp
              (with_reducible refine (ref25_SameInY o its its2 ia ja im jm ic jc _ (hits.below hb (Nat.le_refl _)) (hits2.below hb (Nat.le_refl _)) him.out hjm.out (by omega) (by omega) HKK.out).mono ?_)
              rintro e w' ⟨rfl, hb1⟩
              exact ⟨_, rfl, hR _ _ (rpost_val rfl rfl hb1 rfl)⟩
            case oR2_34 => intro f lo hi w hb hx hf hk hrg R hR; (try replace hb := BelX.zero hb); (try simp (decide := true) only [go_sem] at hf); (try simp (decide := true) only [go_sem] at hk); go_simp; exact hR _ _ (rpost_val rfl rfl (Below.refl _ _) rfl)
            case oR2_35 => intro f lo hi w hb hx hf hk hrg R hR; (try replace hb := BelX.zero hb); (try simp (decide := true) only [go_sem] at hf); (try simp (decide := true) only [go_sem] at hk); go_simp; exact hR _ _ (rpost_val rfl rfl (Below.refl _ _) rfl)
            case hcl =>
              refine ⟨Closed.true _ _ _ _, ?cR2_1, Closed.true _ _ _ _, ?cR2_3, Closed.true _ _ _ _, Closed.true _ _ _ _, Closed.true _ _ _ _, Closed.true _ _ _ _, Closed.true _ _ _ _, Closed.true _ _ _ _, Closed.true _ _ _ _, Closed.true _ _ _ _, Closed.true _ _ _ _, Closed.true _ _ _ _, Closed.true _ _ _ _, Closed.true _ _ _ _, Closed.true _ _ _ _, ?cR2_17, Closed.true _ _ _ _, Closed.true _ _ _ _, ?cR2_20, Closed.true _ _ _ _, Closed.true _ _ _ _, Closed.true _ _ _ _, Closed.true _ _ _ _, Closed.true _ _ _ _, Closed.true _ _ _ _, Closed.true _ _ _ _, Closed.true _ _ _ _, Closed.true _ _ _ _, Closed.true _ _ _ _, Closed.true _ _ _ _, Closed.true _ _ _ _, Closed.true _ _ _ _, Closed.true _ _ _ _, Closed.true _ _ _ _, trivial⟩
              all_goals exact fun f lo hi v b0 b1 w w' h hs hB hown hU hX => h.keep hown
            intro f lo hi W7 hbr hx hf hk hrg; (try replace hbr := BelX.zero hbr); clear hx; (try simp (decide := true) only [go_sem] at hf); (try simp (decide := true) only [go_sem] at hk)
            have wm7 := wm.below hbr
            have hpb7 := hpb.below hbr (Nat.le_refl _)
            have ky7 := ky.below hbr ky.lt
            have hso7 := hso2.below hbr (Nat.le_refl _)
            clear hrg hbr hf wm hpb kx ki hso hits ky kj hso2 hits2
            go_simp
            clear hk
            go_upto_region 17 with ((go_at_call 19; (with_reducible refine (deck_Next _ 6 _ _ k4 wm7.dk (by omega) (by omega)).mono ?_); rintro e w8 ⟨y, rfl, y0, y1, -, hd8, g8⟩; ((try simp only [Int.zero_add]); have wm8 := wm7.draw g8 hd8)))
            have hJP := wm8.sz
            have ky8 := ky7.grown g8 (by have := HYJ.out; omega)
            have hso8 : SOwn w8 T.buf ya yn yc := ⟨hso7.own.keep fun b e _ q => g8.block b q (fun e' => hso7.own.ne_blk wm7.dk.1 (by decide) (by rw [e]; injection e' with e'; rw [← e']; rfl)), hso7.len, hso7.small⟩
            have hpb8 : Byt w8 a2 l2 := by
              by_cases hl : l2 = []
              · rw [hl]; exact Byt.nil _ _
              · exact Row.keep hpb7 fun b off e q => g8.block b q (fun e' => HPP.out hl b (by rw [e]; rfl) (by injection e'))
            have HUL1 := Lib.hid (opn_U _ _ _ _ HU1 hsbl)
            obtain ⟨c0', c1', c2', c3'⟩ := wm8.blk.four'
            have jl := wm8.blk.lt
            clear wm7 hpb7 ky7 hso7 hd8 g8
            obtain rfl | rfl | rfl | h3 : y = 0 ∨ y = 1 ∨ y = 2 ∨ 3 ≤ y := by omega
            · go_wp2_with ((go_at_call 23; (with_reducible refine (ropen_U o dr g sb sa sn sc _ HU1 wm8.ses).mono ?_); rintro e w9 ⟨a', c', n', hn', rfl, own9, hb9⟩; ((have k9 := wm8.blk.below hb9 wm8.blk.lt); (obtain ⟨d0', d1', d2', d3'⟩ := k9.four'); (have fz9 := k9.frozen); (have l9 := k9.lt))))
              all_goals
                go_roundw
                case rel => exact ⟨i + 1, U1.op, U1.dr, U1.gb, U1.buf, a', n', c', _, by go_num, by omega, wm8.fin hb9 (own9.mono (Nat.zero_le _)) hn'.out (by rw [hn'.out]; exact HUL1.out) _ _ _⟩
                case measure => simp [intOf]; omega
            · obtain ⟨t0', t1', t2', t3'⟩ := ky8.four'
              have tl := ky8.lt
              have fz9 := wm8.blk.frozen
              go_wp2_with fail
              all_goals
                go_roundw
                case rel => exact ⟨i + 1, T.op, T.dr, T.gb, T.buf, ya, yn, yc, _, by go_num, by omega, wm8.fin (RowKit.Below.refl _ _) hso8.own hso8.len (by rw [hso8.len]; exact hTl) _ _ _⟩
                case measure => simp [intOf]; omega
            · go_wp2_with ((go_at_call 25; (with_reducible refine (ref25_DropV o dr g sa sn sc _).mono ?_); rintro e w9 ⟨rfl, hb9⟩; ((have k9 := wm8.blk.below hb9 wm8.blk.lt); (obtain ⟨d0', d1', d2', d3'⟩ := k9.four'); (have fz9 := k9.frozen); (have l9 := k9.lt))))
              all_goals
                go_roundw
                case rel => exact ⟨i + 1, false, false, false, [], none, 0, 0, _, by go_num, by omega, wm8.fin hb9 (l := []) (a := none) (n := 0) (c := 0) (Own.nil _ _ _ _) rfl (by omega) false false false⟩
                case measure => simp [intOf]; omega
            · have z0 : (y == 0) = false := by rw [beq_eq_false_iff_ne]; omega
              have z1 : (y == 1) = false := by rw [beq_eq_false_iff_ne]; omega
              have z2 : (y == 2) = false := by rw [beq_eq_false_iff_ne]; omega
              obtain ⟨U4, hU4⟩ : ∃ U, Ses.rcv U1 l2 = U := ⟨_, rfl⟩
              have HU4 := Lib.hid (show Ses.rcv ⟨U1.op, U1.dr, U1.buf, U1.gb⟩ l2 = U4 from hU4)
              clear hU4
              have HUL4 := Lib.hid (rcv_U _ _ _ _ _ HU4 HUL1.out)
              go_wp2_with (first | (go_at_call 23; (with_reducible refine (ropen_U o dr g sb sa sn sc _ HU1 wm8.ses).mono ?_); rintro e w9 ⟨a', c', n', hn', rfl, own9, hb9⟩) | (go_at_call 26; (with_reducible refine (rrecv_U U1.op U1.dr U1.gb U1.buf a' n' c' _ a2 l2 l2.length c2 HU4 ⟨own9.byt, hn'.out, own9.cap_le, fun e => own9.none_len e, by have := hn'.out; have := HUL1.out; omega⟩ (hpb8.below hb9 (Nat.le_refl _)) rfl (by rw [hn'.out]; exact HUL1.out) hpc' hp6).mono ?_); rintro e w10 ⟨a2', c2', n2', hn2', rfl, own10, hb10⟩; ((have hb90 := hb9.trans (hb10.mono hb9.size)); (have k9 := wm8.blk.below hb90 wm8.blk.lt); (obtain ⟨d0', d1', d2', d3'⟩ := k9.four'); (have fz9 := k9.frozen); (have l9 := k9.lt))))
              all_goals
                go_roundw
                case rel => exact ⟨i + 1, U4.op, U4.dr, U4.gb, U4.buf, a2', n2', c2', _, by go_num, by omega, wm8.fin hb90 (own10.mono (Nat.zero_le _)) hn2'.out (by rw [hn2'.out]; exact HUL4.out) _ _ _⟩
                case measure => simp [intOf]; omega
        | false =>
          obtain rfl : lf = true := hzl.elim id fun h => by cases h
          clear hzl
          go_upto_region 11 with (first | (go_at_call 21; (with_reducible refine (deck_Left _ _ _ kk wm.dk HLF).mono ?_); rintro e w3 ⟨rfl, hb3⟩; (have wm3 := wm.below hb3)) | (go_at_call 7; (with_reducible refine (law_line _ 12 _ _ _ 12 rfl (by omega) (by omega) wm3.dk).mono ?_); rintro e w4 ⟨ll, k4, lm, la, lc, hlm, rfl, hll, own4, hd4, g4⟩; (have wm4 := wm3.draw g4 hd4)))
          obtain ⟨pl, hpl⟩ : ∃ pl, pl = ll := ⟨_, rfl⟩
          obtain ⟨pa, hpa⟩ : ∃ pa, pa = la := ⟨_, rfl⟩
          obtain ⟨pn, hpn⟩ : ∃ pn, pn = lm := ⟨_, rfl⟩
          obtain ⟨pc, hpc⟩ : ∃ pc, pc = lc := ⟨_, rfl⟩
          have hpb : Byt w4 pa pl := by rw [hpl, hpa]; exact own4.byt
          have hpn' : pn = pl.length := by rw [hpl, hpn]; exact hlm.out
          have hpc' : pn ≤ pc := by rw [hpn, hpc]; exact own4.cap_le
          have hp6 : pn ≤ 1000000 := by rw [hpn]; omega
          have HPP := Lib.hid (show pl ≠ [] → ∀ k, pa.map (·.block) = some k → k ≠ w.heap.size + 1 from by rw [hpl, hpa]; exact fun _ k hk e => own4.ne_blk wm4.dk.1 (by decide) (by rw [hk, e]))
          rw [← hpa, ← hpn, ← hpc]
          have HXN := Lib.hid hpn'
          obtain ⟨T, hT0⟩ : ∃ T, Ses.nxt ⟨o, dr, sb, g⟩ = T := ⟨_, rfl⟩
          obtain ⟨U1, hU1⟩ : ∃ U, Ses.opn ⟨o, dr, sb, g⟩ = U := ⟨_, rfl⟩
          obtain ⟨U3, hU3⟩ : ∃ U, Ses.rcv ⟨o, dr, sb, g⟩ pl = U := ⟨_, rfl⟩
          have hsbl : sb.length ≤ 256 := by have := wm.ses.len; have := wm.le; omega
          have hTl : T.buf.length ≤ 256 := by rw [← hT0]; exact nxt_len _ hsbl
          have HT0 := Lib.hid hT0
          have HU1 := Lib.hid hU1
          have HU3 := Lib.hid hU3
          clear hpl hpa hpn hpc hpn' hT0 hU1 hU3 wm wm3 own4 hd4 g4 hb3
          obtain ⟨c0', c1', c2', c3'⟩ := wm4.blk.four'
          have jl := wm4.blk.lt
          go_upto_region 12 with ((go_at_call 11; (with_reducible refine (inbox_Take o dr g sb sa sn sc _ wm4.ses).mono ?_); rintro e w5 ⟨T', xa, xc, xn, its, ia, ic, im, hT, hxn, him, hk, rfl, own5, owi5, pays5, hb5⟩))
          obtain rfl : T = T' := HT0.out.symm.trans hT.out
          have hxn' := hxn.out
          have him4 : im ≤ 5 := by
            have h1 := congrArg List.length hk.out
            rw [List.length_map, ← him.out] at h1
            have h2 := tRun_len 4 sb ⟨0, g, []⟩ (by simp)
            rw [h1]
            unfold Ses.inp Ses.tk
            split
            · rw [List.length_append]
              simp only at h2 ⊢
              split <;> simp <;> omega
            · simp
          refine wp_named (fun V => StM w V J (w.heap.size + 1) ⟨a1, c1, l1⟩ k4 o dr g sb sa sn sc a2 l2 ∧ Byt V pa pl ∧ Blk V w5.heap.size 30 #[.bool T.op, .bool T.dr, .slice xa xn xc, .bool T.gb] ∧ Blk V (w5.heap.size + 1) 35 #[.bool o, .slice ia im ic] ∧ SOwn V T.buf xa xn xc ∧ Items V ia its) ⟨(wm4.below hb5).below (by repeat (first | (with_reducible refine Below.setCell ?_ ?_ _) | (with_reducible refine Below.alloc ?_ ?_ _) | (with_reducible refine Below.drew ?_) | (with_reducible refine below_drewN ?_ _) | (with_reducible exact Below.refl _ _) | (focus (simp; done)) | (focus (simp; omega)) | (focus omega))), ((hpb.below hb5 (Nat.le_refl _)).alloc _).alloc _, (Blk.new _ _ _).alloc _, Blk.next _ _ _ _, ⟨((own5.mono (Nat.zero_le _)).alloc _).alloc _, hxn', by omega⟩, ((items_of (by rw [← him.out]; exact owi5) pays5).alloc _).alloc _⟩ ?_
          clear wm4 hpb own5 owi5 pays5 hb5 c0' c1' c2' c3' jl hxn'
          rintro V5 ⟨wm, hpb, kx, ki, hso, hits⟩
          obtain ⟨c0', c1', c2', c3'⟩ := wm.blk.four'
          have jl := wm.blk.lt
          go_upto_region 13 with ((go_at_call 22; (with_reducible refine (ref25_Take o dr g sb sa sn sc _ wm.ses).mono ?_); rintro e w6 ⟨T', ya, yc, yn, its2, ja, jc, jm, hT', hyn, hjm, hk', rfl, own6, owi6, pays6, hb6⟩))
          obtain rfl : T = T' := HT0.out.symm.trans hT'.out
          have hyn' := hyn.out
          have HKK := Lib.hid (show its.map It.key = its2.map It.key from hk.out.trans hk'.out.symm)
          have hjm4 : jm ≤ 5 := by
            have h1 := congrArg List.length HKK.out
            rw [List.length_map, List.length_map, ← him.out, ← hjm.out] at h1
            omega
          refine wp_named (fun V => StM w V J (w.heap.size + 1) ⟨a1, c1, l1⟩ k4 o dr g sb sa sn sc a2 l2 ∧ Byt V pa pl ∧ Blk V w5.heap.size 30 #[.bool T.op, .bool T.dr, .slice xa xn xc, .bool T.gb] ∧ Blk V (w5.heap.size + 1) 35 #[.bool o, .slice ia im ic] ∧ SOwn V T.buf xa xn xc ∧ Items V ia its ∧ Blk V w6.heap.size 30 #[.bool T.op, .bool T.dr, .slice ya yn yc, .bool T.gb] ∧ Blk V (w6.heap.size + 1) 35 #[.bool o, .slice ja jm jc] ∧ SOwn V T.buf ya yn yc ∧ Items V ja its2) ⟨(wm.below hb6).below (by repeat (first | (with_reducible refine Below.setCell ?_ ?_ _) | (with_reducible refine Below.alloc ?_ ?_ _) | (with_reducible refine Below.drew ?_) | (with_reducible refine below_drewN ?_ _) | (with_reducible exact Below.refl _ _) | (focus (simp; done)) | (focus (simp; omega)) | (focus omega))), ((hpb.below hb6 (Nat.le_refl _)).alloc _).alloc _, ((kx.below hb6 kx.lt).alloc _).alloc _, ((ki.below hb6 ki.lt).alloc _).alloc _, ⟨((hso.own.below hb6 (Nat.le_refl _)).alloc _).alloc _, hso.len, hso.small⟩, ((hits.below hb6 (Nat.le_refl _)).alloc _).alloc _, (Blk.new _ _ _).alloc _, Blk.next _ _ _ _, ⟨((own6.mono (Nat.zero_le _)).alloc _).alloc _, hyn', by omega⟩, ((items_of (by rw [← hjm.out]; exact owi6) pays6).alloc _).alloc _⟩ ?_
          have HY6 := Lib.hid (show J < w6.heap.size by have := hb6.size; omega)
          clear wm hpb kx ki hso hits own6 owi6 pays6 hb6 c0' c1' c2' c3' jl hyn'
          rintro V6 ⟨wm, hpb, kx, ki, hso, hits, ky, kj, hso2, hits2⟩
          have hle := wm.le
          have HYJ := Lib.hid (show w.heap.size + 1 < w6.heap.size from by have := HY6.out; have := wm.sz; omega)
          apply wp_region_tab [] 36 115 [some 61, some 62, some 63, some 64, some 65, some 66, some 67, some 68, some 69, some 70, some 71, some 72, some 73, some 74, some 75, some 76, some 77, some 78, some 79, some 80, some 81, some 82, some 83, some 84, some 85, some 86, some 87, some 88, some 89, some 90, some 91, some 92, some 93, some 94, some 95, some 96] [⟨[], [], [], []⟩, ⟨[0], [0], [0], []⟩, ⟨[], [], [], []⟩, ⟨[0, 1, 2], [2], [2], []⟩, ⟨[0, 1, 2, 3], [1, 3], [1, 3], []⟩, ⟨[0, 1, 2, 3, 4], [4], [4], []⟩, ⟨[0, 1, 2, 3, 4, 5], [5], [5], []⟩, ⟨[0, 1, 2, 3, 4, 5, 6], [6], [6], []⟩, ⟨[0, 1, 2, 3, 4, 5, 6, 7], [6, 7], [6, 7], []⟩, ⟨[0, 1, 2, 3, 4, 5, 6], [6], [6], []⟩, ⟨[0, 1, 2, 3, 4, 5, 6, 7, 8, 9], [6, 9], [6, 9], []⟩, ⟨[0, 1, 2, 3, 4, 5, 6, 7, 8, 9, 10], [6, 8, 10], [6, 8, 10], []⟩, ⟨[0, 1, 2, 3, 4, 5, 6, 7, 8, 9, 10, 11], [6, 11], [6, 11], []⟩, ⟨[0, 1, 2, 3, 4, 5, 6, 7, 8, 9, 10, 11, 12], [6, 12], [6, 12], []⟩, ⟨[0, 1, 2, 3, 4, 5, 6, 7, 8, 9, 10, 11, 12, 13], [13], [13], []⟩, ⟨[0, 1, 2, 3, 4, 5, 6, 7, 8, 9, 10, 11, 12, 13, 14], [14], [14], []⟩, ⟨[0, 1, 2, 3, 4, 5, 6, 7, 8, 9, 10, 11, 12, 13, 14], [14], [14], []⟩, ⟨[0, 1, 2, 3, 4, 5, 6, 7, 8, 9, 10, 11, 12, 13, 14, 15, 16], [14, 15, 16], [14, 15, 16], []⟩, ⟨[0, 1, 2, 3, 4, 5, 6, 7, 8, 9, 10, 11, 12, 13, 14], [14], [14], []⟩, ⟨[0, 1, 2, 3, 4, 5, 6, 7, 8, 9, 10, 11, 12, 13, 14], [14], [14], []⟩, ⟨[0, 1, 2, 3, 4, 5, 6, 7, 8, 9, 10, 11, 12, 13, 14, 15, 16, 17, 18, 19], [14, 18, 19], [14, 18, 19], []⟩, ⟨[0, 1, 2, 3, 4, 5, 6, 7, 8, 9, 10, 11, 12, 13, 14, 15, 16, 17, 18, 19, 20], [14, 17, 20], [14, 17, 20], []⟩, ⟨[0, 1, 2, 3, 4, 5, 6, 7, 8, 9, 10, 11, 12, 13, 14, 15, 16, 17, 18, 19, 20, 21], [14, 21], [14, 21], []⟩, ⟨[0, 1, 2, 3, 4, 5, 6, 7, 8, 9, 10, 11, 12, 13, 14, 15, 16, 17, 18, 19, 20, 21, 22], [14, 22], [14, 22], []⟩, ⟨[0, 1, 2, 3, 4, 5, 6, 7, 8, 9, 10, 11, 12, 13, 14, 15, 16, 17, 18, 19, 20, 21, 22, 23], [23], [23], []⟩, ⟨[0, 1, 2, 3, 4, 5, 6, 7, 8, 9, 10, 11, 12, 13, 14, 15, 16, 17, 18, 19, 20, 21, 22, 23, 24], [24], [24], []⟩, ⟨[0, 1, 2, 3, 4, 5, 6, 7, 8, 9, 10, 11, 12, 13, 14, 15, 16, 17, 18, 19, 20, 21, 22, 23, 24], [24], [24], []⟩, ⟨[0, 1, 2, 3, 4, 5, 6, 7, 8, 9, 10, 11, 12, 13, 14, 15, 16, 17, 18, 19, 20, 21, 22, 23, 24, 25, 26], [24, 25, 26], [24, 25, 26], []⟩, ⟨[0, 1, 2, 3, 4, 5, 6, 7, 8, 9, 10, 11, 12, 13, 14, 15, 16, 17, 18, 19, 20, 21, 22, 23, 24, 25, 26, 27], [24, 27], [24, 27], []⟩, ⟨[0, 1, 2, 3, 4, 5, 6, 7, 8, 9, 10, 11, 12, 13, 14, 15, 16, 17, 18, 19, 20, 21, 22, 23, 24, 25, 26, 27, 28], [24, 28], [24, 28], []⟩, ⟨[0, 1, 2, 3, 4, 5, 6, 7, 8, 9, 10, 11, 12, 13, 14, 15, 16, 17, 18, 19, 20, 21, 22, 23, 24, 25, 26, 27, 28, 29], [29], [29], []⟩, ⟨[0, 1, 2, 3, 4, 5, 6, 7, 8, 9, 10, 11, 12, 13, 14, 15, 16, 17, 18, 19, 20, 21, 22, 23, 24, 25, 26, 27, 28, 29, 30], [30], [30], []⟩, ⟨[0, 1, 2, 3, 4, 5, 6, 7, 8, 9, 10, 11, 12, 13, 14, 15, 16, 17, 18, 19, 20, 21, 22, 23, 24, 25, 26, 27, 28, 29, 30], [30], [30], []⟩, ⟨[0, 1, 2, 3, 4, 5, 6, 7, 8, 9, 10, 11, 12, 13, 14, 15, 16, 17, 18, 19, 20, 21, 22, 23, 24, 25, 26, 27, 28, 29, 30, 31, 32], [30, 31, 32], [30, 31, 32], []⟩, ⟨[0, 1, 2, 3, 4, 5, 6, 7, 8, 9, 10, 11, 12, 13, 14, 15, 16, 17, 18, 19, 20, 21, 22, 23, 24, 25, 26, 27, 28, 29, 30, 31, 32, 33], [30, 33], [30, 33], []⟩, ⟨[0, 1, 2, 3, 4, 5, 6, 7, 8, 9, 10, 11, 12, 13, 14, 15, 16, 17, 18, 19, 20, 21, 22, 23, 24, 25, 26, 27, 28, 29, 30, 31, 32, 33, 34], [30, 34], [30, 34], []⟩] [0, 1, 2, 3, 4, 5, 6, 7, 8, 9, 10, 11, 12, 13, 14, 15, 16, 17, 18, 19, 20, 21, 22, 23, 24, 25, 26, 27, 28, 29, 30, 31, 32, 33, 34, 35] [35] [psiTrue, (fun f lo hi v b0 b1 W => SPsi U1.op U1.dr U1.gb U1.buf v b0 b1 W), psiTrue, (fun f lo hi v b0 b1 W => SPsi U1.op U1.dr U1.gb U1.buf v b0 b1 W), psiTrue, psiTrue, psiTrue, psiTrue, psiTrue, psiTrue, psiTrue, psiTrue, psiTrue, psiTrue, psiTrue, psiTrue, psiTrue, (fun f lo hi v b0 b1 W => SPsi U3.op U3.dr U3.gb U3.buf v b0 b1 W), psiTrue, psiTrue, (fun f lo hi v b0 b1 W => SPsi U3.op U3.dr U3.gb U3.buf v b0 b1 W), psiTrue, psiTrue, psiTrue, psiTrue, psiTrue, psiTrue, psiTrue, psiTrue, psiTrue, psiTrue, psiTrue, psiTrue, psiTrue, psiTrue, psiTrue] [kVal _, kTrue, kVal _, kTrue, kVal _, kVal _, kVal _, kVal _, kVal _, kVal _, kVal _, kVal _, kVal _, kVal _, kVal _, kVal _, kVal _, kTrue, kVal _, kVal _, kTrue, kVal _, kVal _, kVal _, kVal _, kVal _, kVal _, kVal _, kVal _, kVal _, kVal _, kVal _, kVal _, kVal _, kVal _, kVal _]
          · kernel_rfl
          · kernel_rfl
          · rfl
          · rfl
          · exact trivial
          · exact trivial
          refine ⟨?oR3_0, ?oR3_1, ?oR3_2, ?oR3_3, ?oR3_4, ?oR3_5, ?oR3_6, ?oR3_7, ?oR3_8, ?oR3_9, ?oR3_10, ?oR3_11, ?oR3_12, ?oR3_13, ?oR3_14, ?oR3_15, ?oR3_16, ?oR3_17, ?oR3_18, ?oR3_19, ?oR3_20, ?oR3_21, ?oR3_22, ?oR3_23, ?oR3_24, ?oR3_25, ?oR3_26, ?oR3_27, ?oR3_28, ?oR3_29, ?oR3_30, ?oR3_31, ?oR3_32, ?oR3_33, ?oR3_34, ?oR3_35, trivial⟩
          case oR3_0 =>
            intro f lo hi w hb hx hf hk hrg R hR; (try replace hb := BelX.zero hb); (try simp (decide := true) only [go_sem] at hf); (try simp (decide := true) only [go_sem] at hk)
            obtain ⟨e0, e1, e2, e3⟩ := (wm.blk.below hb wm.blk.lt).four'
            go_simp
            exact hR _ _ (rpost_val rfl rfl (Below.refl _ _) rfl)
          case oR3_1 =>
            intro f lo hi w hb hx hf hk hrg R hR; (try replace hb := BelX.zero hb); (try simp (decide := true) only [go_sem] at hf); (try simp (decide := true) only [go_sem] at hk)
            go_simp
            (with_reducible refine (open_U o dr g sb sa sn sc _ HU1 (wm.ses.below hb (Nat.le_refl _))).mono ?_)
            rintro e w' hq
            obtain ⟨v, rfl, hps, hb1⟩ := SPsi.of (Lib.hid rfl) hq
            refine ⟨v, rfl, hR _ _ (rpost_none rfl hb1 ?_)⟩
            (try simp (decide := true) only [go_sem])
            exact hps
          case oR3_2 =>
            intro f lo hi w hb hx hf hk hrg R hR; (try replace hb := BelX.zero hb); (try simp (decide := true) only [go_sem] at hf); (try simp (decide := true) only [go_sem] at hk)
            obtain ⟨e0, e1, e2, e3⟩ := (wm.blk.below hb wm.blk.lt).four'
            go_simp
            exact hR _ _ (rpost_val rfl rfl (Below.refl _ _) rfl)
          case oR3_3 =>
            intro f lo hi w hb hx hf hk hrg R hR; (try replace hb := BelX.zero hb); (try simp (decide := true) only [go_sem] at hf); (try simp (decide := true) only [go_sem] at hk)
            go_simp
            (with_reducible refine (ropen_U o dr g sb sa sn sc _ HU1 (wm.ses.below hb (Nat.le_refl _))).mono ?_)
            rintro e w' hq
            obtain ⟨v, rfl, hps, hb1⟩ := SPsi.of (Lib.hid rfl) hq
            refine ⟨v, rfl, hR _ _ (rpost_none rfl hb1 ?_)⟩
            (try simp (decide := true) only [go_sem])
            exact hps
          case oR3_4 =>
            intro f lo hi w hb hx hf hk hrg R hR; (try replace hb := BelX.zero hb); (try simp (decide := true) only [go_sem] at hf); (try simp (decide := true) only [go_sem] at hk)
            obtain ⟨⟨a1', c1', n1', h62, e1, ow1, -⟩, a2', c2', n2', h64, e2, ow2, -⟩ := hf
            have E1 := Lib.hid e1
            have E2 := Lib.hid e2
            clear e1 e2
            go_simp
            (with_reducible refine (ref25_SameY U1.op U1.dr U1.gb U1.buf a1' a2' n1' n2' c1' c2' _ ow1.byt ow2.byt E1.out E2.out).mono ?_)
            rintro e w' ⟨rfl, hb1⟩
            exact ⟨_, rfl, hR _ _ (rpost_val rfl rfl hb1 rfl)⟩
          case oR3_5 => intro f lo hi w hb hx hf hk hrg R hR; (try replace hb := BelX.zero hb); (try simp (decide := true) only [go_sem] at hf); (try simp (decide := true) only [go_sem] at hk); go_simp; exact hR _ _ (rpost_val rfl rfl (Below.refl _ _) rfl)
          case oR3_6 => intro f lo hi w hb hx hf hk hrg R hR; (try replace hb := BelX.zero hb); (try simp (decide := true) only [go_sem] at hf); (try simp (decide := true) only [go_sem] at hk); go_simp; exact hR _ _ (rpost_val rfl rfl (Below.refl _ _) rfl)
          case oR3_7 =>
            intro f lo hi w hb hx hf hk hrg R hR; (try replace hb := BelX.zero hb); (try simp (decide := true) only [go_sem] at hf); (try simp (decide := true) only [go_sem] at hk)
            obtain ⟨e0, e1, e2, e3⟩ := (wm.blk.below hb wm.blk.lt).four'
            go_simp
            exact hR _ _ (rpost_val rfl rfl (Below.refl _ _) rfl)
          case oR3_8 =>
            intro f lo hi w hb hx hf hk hrg R hR; (try replace hb := BelX.zero hb); (try simp (decide := true) only [go_sem] at hf); (try simp (decide := true) only [go_sem] at hk)
            go_simp
            (with_reducible refine (inbox_DropV o dr g sa sn sc _).mono ?_)
            rintro e w' ⟨rfl, hb1⟩
            exact ⟨_, rfl, hR _ _ (rpost_val rfl rfl hb1 rfl)⟩
          case oR3_9 =>
            intro f lo hi w hb hx hf hk hrg R hR; (try replace hb := BelX.zero hb); (try simp (decide := true) only [go_sem] at hf); (try simp (decide := true) only [go_sem] at hk)
            obtain ⟨e0, e1, e2, e3⟩ := (wm.blk.below hb wm.blk.lt).four'
            go_simp
            exact hR _ _ (rpost_val rfl rfl (Below.refl _ _) rfl)
          case oR3_10 =>
            intro f lo hi w hb hx hf hk hrg R hR; (try replace hb := BelX.zero hb); (try simp (decide := true) only [go_sem] at hf); (try simp (decide := true) only [go_sem] at hk)
            go_simp
            (with_reducible refine (ref25_DropV o dr g sa sn sc _).mono ?_)
            rintro e w' ⟨rfl, hb1⟩
            exact ⟨_, rfl, hR _ _ (rpost_val rfl rfl hb1 rfl)⟩
          case oR3_11 =>
            intro f lo hi w hb hx hf hk hrg R hR; (try replace hb := BelX.zero hb); (try simp (decide := true) only [go_sem] at hf); (try simp (decide := true) only [go_sem] at hk)
            go_simp
            (with_reducible refine (ref25_SameY false false false [] none none 0 0 0 0 _ (Byt.nil _ _) (Byt.nil _ _) rfl rfl).mono ?_)
            rintro e w' ⟨rfl, hb1⟩
            exact ⟨_, rfl, hR _ _ (rpost_val rfl rfl hb1 rfl)⟩
          case oR3_12 => intro f lo hi w hb hx hf hk hrg R hR; (try replace hb := BelX.zero hb); (try simp (decide := true) only [go_sem] at hf); (try simp (decide := true) only [go_sem] at hk); go_simp; exact hR _ _ (rpost_val rfl rfl (Below.refl _ _) rfl)
          case oR3_13 => intro f lo hi w hb hx hf hk hrg R hR; (try replace hb := BelX.zero hb); (try simp (decide := true) only [go_sem] at hf); (try simp (decide := true) only [go_sem] at hk); go_simp; exact hR _ _ (rpost_val rfl rfl (Below.refl _ _) rfl)
          case oR3_14 => intro f lo hi w hb hx hf hk hrg R hR; (try replace hb := BelX.zero hb); (try simp (decide := true) only [go_sem] at hf); (try simp (decide := true) only [go_sem] at hk); go_simp; exact hR _ _ (rpost_val rfl rfl (Below.refl _ _) rfl)
          case oR3_15 =>
            intro f lo hi w hb hx hf hk hrg R hR; (try replace hb := BelX.zero hb); (try simp (decide := true) only [go_sem] at hf); (try simp (decide := true) only [go_sem] at hk)
            obtain ⟨e0, e1, e2, e3⟩ := (wm.blk.below hb wm.blk.lt).four'
            go_simp
            exact hR _ _ (rpost_val rfl rfl (Below.refl _ _) rfl)
          case oR3_16 => intro f lo hi w hb hx hf hk hrg R hR; (try replace hb := BelX.zero hb); (try simp (decide := true) only [go_sem] at hf); (try simp (decide := true) only [go_sem] at hk); go_simp; exact hR _ _ (rpost_val rfl rfl (Below.refl _ _) rfl)
          case oR3_17 =>
            intro f lo hi w hb hx hf hk hrg R hR; (try replace hb := BelX.zero hb); (try simp (decide := true) only [go_sem] at hf); (try simp (decide := true) only [go_sem] at hk)
            go_simp
            (with_reducible refine (recv_U o dr g sb sa sn sc _ pa pl pn pc HU3 (wm.ses.below hb (Nat.le_refl _)) (hpb.below hb (Nat.le_refl _)) HXN.out hle hpc' hp6).mono ?_)
            rintro e w' hq
            obtain ⟨v, rfl, hps, hb1⟩ := SPsi.of (Lib.hid rfl) hq
            refine ⟨v, rfl, hR _ _ (rpost_none rfl hb1 ?_)⟩
            (try simp (decide := true) only [go_sem])
            exact hps
          case oR3_18 =>
            intro f lo hi w hb hx hf hk hrg R hR; (try replace hb := BelX.zero hb); (try simp (decide := true) only [go_sem] at hf); (try simp (decide := true) only [go_sem] at hk)
            obtain ⟨e0, e1, e2, e3⟩ := (wm.blk.below hb wm.blk.lt).four'
            go_simp
            exact hR _ _ (rpost_val rfl rfl (Below.refl _ _) rfl)
          case oR3_19 => intro f lo hi w hb hx hf hk hrg R hR; (try replace hb := BelX.zero hb); (try simp (decide := true) only [go_sem] at hf); (try simp (decide := true) only [go_sem] at hk); go_simp; exact hR _ _ (rpost_val rfl rfl (Below.refl _ _) rfl)
          case oR3_20 =>
            intro f lo hi w hb hx hf hk hrg R hR; (try replace hb := BelX.zero hb); (try simp (decide := true) only [go_sem] at hf); (try simp (decide := true) only [go_sem] at hk)
            go_simp
            (with_reducible refine (rrecv_U o dr g sb sa sn sc _ pa pl pn pc HU3 (wm.ses.below hb (Nat.le_refl _)) (hpb.below hb (Nat.le_refl _)) HXN.out hle hpc' hp6).mono ?_)
            rintro e w' hq
            obtain ⟨v, rfl, hps, hb1⟩ := SPsi.of (Lib.hid rfl) hq
            refine ⟨v, rfl, hR _ _ (rpost_none rfl hb1 ?_)⟩
            (try simp (decide := true) only [go_sem])
            exact hps
          case oR3_21 =>
            intro f lo hi w hb hx hf hk hrg R hR; (try replace hb := BelX.zero hb); (try simp (decide := true) only [go_sem] at hf); (try simp (decide := true) only [go_sem] at hk)
            obtain ⟨⟨a1', c1', n1', h62, e1, ow1, -⟩, a2', c2', n2', h64, e2, ow2, -⟩ := hf
            have E1 := Lib.hid e1
            have E2 := Lib.hid e2
            clear e1 e2
            go_simp
            (with_reducible refine (ref25_SameY U3.op U3.dr U3.gb U3.buf a1' a2' n1' n2' c1' c2' _ ow1.byt ow2.byt E1.out E2.out).mono ?_)
            rintro e w' ⟨rfl, hb1⟩
            exact ⟨_, rfl, hR _ _ (rpost_val rfl rfl hb1 rfl)⟩
          case oR3_22 => intro f lo hi w hb hx hf hk hrg R hR; (try replace hb := BelX.zero hb); (try simp (decide := true) only [go_sem] at hf); (try simp (decide := true) only [go_sem] at hk); go_simp; exact hR _ _ (rpost_val rfl rfl (Below.refl _ _) rfl)
          case oR3_23 => intro f lo hi w hb hx hf hk hrg R hR; (try replace hb := BelX.zero hb); (try simp (decide := true) only [go_sem] at hf); (try simp (decide := true) only [go_sem] at hk); go_simp; exact hR _ _ (rpost_val rfl rfl (Below.refl _ _) rfl)
          case oR3_24 => intro f lo hi w hb hx hf hk hrg R hR; (try replace hb := BelX.zero hb); (try simp (decide := true) only [go_sem] at hf); (try simp (decide := true) only [go_sem] at hk); go_simp; exact hR _ _ (rpost_val rfl rfl (Below.refl _ _) rfl)
          case oR3_25 =>
            intro f lo hi w hb hx hf hk hrg R hR; (try replace hb := BelX.zero hb); (try simp (decide := true) only [go_sem] at hf); (try simp (decide := true) only [go_sem] at hk)
            obtain ⟨e0, e1, e2, e3⟩ := (kx.below hb kx.lt).four'
            go_simp
            exact hR _ _ (rpost_val rfl rfl (Below.refl _ _) rfl)
          case oR3_26 =>
            intro f lo hi w hb hx hf hk hrg R hR; (try replace hb := BelX.zero hb); (try simp (decide := true) only [go_sem] at hf); (try simp (decide := true) only [go_sem] at hk)
            obtain ⟨e0, e1, e2, e3⟩ := (ky.below hb ky.lt).four'
            go_simp
            exact hR _ _ (rpost_val rfl rfl (Below.refl _ _) rfl)
          case oR3_27 =>
            intro f lo hi w hb hx hf hk hrg R hR; (try replace hb := BelX.zero hb); (try simp (decide := true) only [go_sem] at hf); (try simp (decide := true) only [go_sem] at hk)
            go_simp
            (with_reducible refine (ref25_SameY T.op T.dr T.gb T.buf xa ya xn yn xc yc _ (hso.below hb (Nat.le_refl _)).own.byt (hso2.below hb (Nat.le_refl _)).own.byt hso.len hso2.len).mono ?_)
            rintro e w' ⟨rfl, hb1⟩
            exact ⟨_, rfl, hR _ _ (rpost_val rfl rfl hb1 rfl)⟩
          case oR3_28 => intro f lo hi w hb hx hf hk hrg R hR; (try replace hb := BelX.zero hb); (try simp (decide := true) only [go_sem] at hf); (try simp (decide := true) only [go_sem] at hk); go_simp; exact hR _ _ (rpost_val rfl rfl (Below.refl _ _) rfl)
          case oR3_29 => intro f lo hi w hb hx hf hk hrg R hR; (try replace hb := BelX.zero hb); (try simp (decide := true) only [go_sem] at hf); (try simp (decide := true) only [go_sem] at hk); go_simp; exact hR _ _ (rpost_val rfl rfl (Below.refl _ _) rfl)
          case oR3_30 => intro f lo hi w hb hx hf hk hrg R hR; (try replace hb := BelX.zero hb); (try simp (decide := true) only [go_sem] at hf); (try simp (decide := true) only [go_sem] at hk); go_simp; exact hR _ _ (rpost_val rfl rfl (Below.refl _ _) rfl)
          case oR3_31 =>
            intro f lo hi w hb hx hf hk hrg R hR; (try replace hb := BelX.zero hb); (try simp (decide := true) only [go_sem] at hf); (try simp (decide := true) only [go_sem] at hk)
            have kk := ki.below hb ki.lt
            have e0 := kk.cell 0
            have e1 := kk.cell 1
            go_simp
            exact hR _ _ (rpost_val rfl rfl (Below.refl _ _) rfl)
          case oR3_32 =>
            intro f lo hi w hb hx hf hk hrg R hR; (try replace hb := BelX.zero hb); (try simp (decide := true) only [go_sem] at hf); (try simp (decide := true) only [go_sem] at hk)
            have kk := kj.below hb kj.lt
            have e0 := kk.cell 0
            have e1 := kk.cell 1
            go_simp
            exact hR _ _ (rpost_val rfl rfl (Below.refl _ _) rfl)
          case oR3_33 =>
            intro f lo hi w hb hx hf hk hrg R hR; (try replace hb := BelX.zero hb); (try simp (decide := true) only [go_sem] at hf); (try simp (decide := true) only [go_sem] at hk)
            go_simp
            (with_reducible refine (ref25_SameInY o its its2 ia ja im jm ic jc _ (hits.below hb (Nat.le_refl _)) (hits2.below hb (Nat.le_refl _)) him.out hjm.out (by omega) (by omega) HKK.out).mono ?_)
            rintro e w' ⟨rfl, hb1⟩
            exact ⟨_, rfl, hR _ _ (rpost_val rfl rfl hb1 rfl)⟩
          case oR3_34 => intro f lo hi w hb hx hf hk hrg R hR; (try replace hb := BelX.zero hb); (try simp (decide := true) only [go_sem] at hf); (try simp (decide := true) only [go_sem] at hk); go_simp; exact hR _ _ (rpost_val rfl rfl (Below.refl _ _) rfl)
          case oR3_35 => intro f lo hi w hb hx hf hk hrg R hR; (try replace hb := BelX.zero hb); (try simp (decide := true) only [go_sem] at hf); (try simp (decide := true) only [go_sem] at hk); go_simp; exact hR _ _ (rpost_val rfl rfl (Below.refl _ _) rfl)
          case hcl =>
            refine ⟨Closed.true _ _ _ _, ?cR3_1, Closed.true _ _ _ _, ?cR3_3, Closed.true _ _ _ _, Closed.true _ _ _ _, Closed.true _ _ _ _, Closed.true _ _ _ _, Closed.true _ _ _ _, Closed.true _ _ _ _, Closed.true _ _ _ _, Closed.true _ _ _ _, Closed.true _ _ _ _, Closed.true _ _ _ _, Closed.true _ _ _ _, Closed.true _ _ _ _, Closed.true _ _ _ _, ?cR3_17, Closed.true _ _ _ _, Closed.true _ _ _ _, ?cR3_20, Closed.true _ _ _ _, Closed.true _ _ _ _, Closed.true _ _ _ _, Closed.true _ _ _ _, Closed.true _ _ _ _, Closed.true _ _ _ _, Closed.true _ _ _ _, Closed.true _ _ _ _, Closed.true _ _ _ _, Closed.true _ _ _ _, Closed.true _ _ _ _, Closed.true _ _ _ _, Closed.true _ _ _ _, Closed.true _ _ _ _, Closed.true _ _ _ _, trivial⟩
            all_goals exact fun f lo hi v b0 b1 w w' h hs hB hown hU hX => h.keep hown
          intro f lo hi W7 hbr hx hf hk hrg; (try replace hbr := BelX.zero hbr); clear hx; (try simp (decide := true) only [go_sem] at hf); (try simp (decide := true) only [go_sem] at hk)
          have wm7 := wm.below hbr
          have hpb7 := hpb.below hbr (Nat.le_refl _)
          have ky7 := ky.below hbr ky.lt
          have hso7 := hso2.below hbr (Nat.le_refl _)
          clear hrg hbr hf wm hpb kx ki hso hits ky kj hso2 hits2
          go_simp
          clear hk
          go_upto_region 17 with ((go_at_call 19; (with_reducible refine (deck_Next _ 6 _ _ k4 wm7.dk (by omega) (by omega)).mono ?_); rintro e w8 ⟨y, rfl, y0, y1, -, hd8, g8⟩; ((try simp only [Int.zero_add]); have wm8 := wm7.draw g8 hd8)))
          have hJP := wm8.sz
          have ky8 := ky7.grown g8 (by have := HYJ.out; omega)
          have hso8 : SOwn w8 T.buf ya yn yc := ⟨hso7.own.keep fun b e _ q => g8.block b q (fun e' => hso7.own.ne_blk wm7.dk.1 (by decide) (by rw [e]; injection e' with e'; rw [← e']; rfl)), hso7.len, hso7.small⟩
          have hpb8 : Byt w8 pa pl := by
            by_cases hl : pl = []
            · rw [hl]; exact Byt.nil _ _
            · exact Row.keep hpb7 fun b off e q => g8.block b q (fun e' => HPP.out hl b (by rw [e]; rfl) (by injection e'))
          have HUL1 := Lib.hid (opn_U _ _ _ _ HU1 hsbl)
          obtain ⟨c0', c1', c2', c3'⟩ := wm8.blk.four'
          have jl := wm8.blk.lt
          clear wm7 hpb7 ky7 hso7 hd8 g8
          obtain rfl | rfl | rfl | h3 : y = 0 ∨ y = 1 ∨ y = 2 ∨ 3 ≤ y := by omega
          · go_wp2_with ((go_at_call 23; (with_reducible refine (ropen_U o dr g sb sa sn sc _ HU1 wm8.ses).mono ?_); rintro e w9 ⟨a', c', n', hn', rfl, own9, hb9⟩; ((have k9 := wm8.blk.below hb9 wm8.blk.lt); (obtain ⟨d0', d1', d2', d3'⟩ := k9.four'); (have fz9 := k9.frozen); (have l9 := k9.lt))))
            all_goals
              go_roundw
              case rel => exact ⟨i + 1, U1.op, U1.dr, U1.gb, U1.buf, a', n', c', _, by go_num, by omega, wm8.fin hb9 (own9.mono (Nat.zero_le _)) hn'.out (by rw [hn'.out]; exact HUL1.out) _ _ _⟩
              case measure => simp [intOf]; omega
          · obtain ⟨t0', t1', t2', t3'⟩ := ky8.four'
            have tl := ky8.lt
            have fz9 := wm8.blk.frozen
            go_wp2_with fail
            all_goals
              go_roundw
              case rel => exact ⟨i + 1, T.op, T.dr, T.gb, T.buf, ya, yn, yc, _, by go_num, by omega, wm8.fin (RowKit.Below.refl _ _) hso8.own hso8.len (by rw [hso8.len]; exact hTl) _ _ _⟩
              case measure => simp [intOf]; omega
          · go_wp2_with ((go_at_call 25; (with_reducible refine (ref25_DropV o dr g sa sn sc _).mono ?_); rintro e w9 ⟨rfl, hb9⟩; ((have k9 := wm8.blk.below hb9 wm8.blk.lt); (obtain ⟨d0', d1', d2', d3'⟩ := k9.four'); (have fz9 := k9.frozen); (have l9 := k9.lt))))
            all_goals
              go_roundw
              case rel => exact ⟨i + 1, false, false, false, [], none, 0, 0, _, by go_num, by omega, wm8.fin hb9 (l := []) (a := none) (n := 0) (c := 0) (Own.nil _ _ _ _) rfl (by omega) false false false⟩
              case measure => simp [intOf]; omega
          · have z0 : (y == 0) = false := by rw [beq_eq_false_iff_ne]; omega
            have z1 : (y == 1) = false := by rw [beq_eq_false_iff_ne]; omega
            have z2 : (y == 2) = false := by rw [beq_eq_false_iff_ne]; omega
            obtain ⟨U4, hU4⟩ : ∃ U, Ses.rcv U1 pl = U := ⟨_, rfl⟩
            have HU4 := Lib.hid (show Ses.rcv ⟨U1.op, U1.dr, U1.buf, U1.gb⟩ pl = U4 from hU4)
            clear hU4
            have HUL4 := Lib.hid (rcv_U _ _ _ _ _ HU4 HUL1.out)
            go_wp2_with (first | (go_at_call 23; (with_reducible refine (ropen_U o dr g sb sa sn sc _ HU1 wm8.ses).mono ?_); rintro e w9 ⟨a', c', n', hn', rfl, own9, hb9⟩) | (go_at_call 26; (with_reducible refine (rrecv_U U1.op U1.dr U1.gb U1.buf a' n' c' _ pa pl pn pc HU4 ⟨own9.byt, hn'.out, own9.cap_le, fun e => own9.none_len e, by have := hn'.out; have := HUL1.out; omega⟩ (hpb8.below hb9 (Nat.le_refl _)) HXN.out (by rw [hn'.out]; exact HUL1.out) hpc' hp6).mono ?_); rintro e w10 ⟨a2', c2', n2', hn2', rfl, own10, hb10⟩; ((have hb90 := hb9.trans (hb10.mono hb9.size)); (have k9 := wm8.blk.below hb90 wm8.blk.lt); (obtain ⟨d0', d1', d2', d3'⟩ := k9.four'); (have fz9 := k9.frozen); (have l9 := k9.lt))))
            all_goals
              go_roundw
              case rel => exact ⟨i + 1, U4.op, U4.dr, U4.gb, U4.buf, a2', n2', c2', _, by go_num, by omega, wm8.fin hb90 (own10.mono (Nat.zero_le _)) hn2'.out (by rw [hn2'.out]; exact HUL4.out) _ _ _⟩
              case measure => simp [intOf]; omega
      · obtain rfl : lf = false := by cases lf; rfl; exact absurd (.inl rfl) hgo
        have hi0 : i ≠ 0 := fun h => hgo (.inr h)
        have zi : ((i : Int) == 0) = false := by rw [beq_eq_false_iff_ne]; omega
        clear hgo
        go_wp2_with (first | (go_at_call 21; (with_reducible refine (deck_Left _ _ _ kk wm.dk HLF).mono ?_); rintro e w3 ⟨rfl, hb3⟩) | (go_at_call 14; (with_reducible refine (awake_yes _).mono ?_); rintro e w20 ⟨rfl, hb20⟩))
        go_ret
        exact ⟨rfl, (by repeat (first | (with_reducible refine Below.setCell ?_ ?_ _) | (with_reducible refine Below.alloc ?_ ?_ _) | (with_reducible refine Below.drew ?_) | (with_reducible refine below_drewN ?_ _) | (with_reducible exact Below.refl _ _) | (with_reducible refine Below.trans ?_ (Below.mono hb20 ?_)) | (with_reducible refine Below.trans ?_ (Below.mono hb3 ?_)) | (with_reducible refine Below.trans ?_ (Below.mono wm.be ?_)) | (focus (simp; done)) | (focus (simp; omega)) | (focus omega) | (focus (have q0 := Below.size hb20; (try simp at q0); have q1 := Below.size hb3; (try simp at q1); have q2 := Below.size wm.be; (try simp at q2); (try simp); omega))))⟩
    · obtain rfl : i = 60 := by omega
      go_wp2_with ((go_at_call 14; (with_reducible refine (awake_yes _).mono ?_); rintro e w20 ⟨rfl, hb20⟩))
      go_ret
      exact ⟨rfl, (by repeat (first | (with_reducible refine Below.setCell ?_ ?_ _) | (with_reducible refine Below.alloc ?_ ?_ _) | (with_reducible refine Below.drew ?_) | (with_reducible refine below_drewN ?_ _) | (with_reducible exact Below.refl _ _) | (with_reducible refine Below.trans ?_ (Below.mono hb20 ?_)) | (with_reducible refine Below.trans ?_ (Below.mono wm.be ?_)) | (focus (simp; done)) | (focus (simp; omega)) | (focus omega) | (focus (have q0 := Below.size hb20; (try simp at q0); have q1 := Below.size wm.be; (try simp at q1); (try simp); omega))))⟩
end Go.Proofs.Ytlfccoakodnbaaa
