/- signalbrokerref05.Frame; what both packages hand back of a message, as a function of it -/
import Derived.Test.YthkoijgobigdnaaRefEnc
import Derived.Test.YthkoijgobigdnaaFrame
import Derived.Test.YthkoijgobigdnaaBack
import Derived.Test.YthkoijgobigdnaaOpen
namespace Go.Proofs.Ythkoijgobigdnaa
open Go.RowKit Go.Sort
set_option maxRecDepth 20000

theorem ref05_Frame (m : Msg) (ta : Option Addr) (tc : Nat) (aa da : Option Addr) (ac dc : Nat) (w : World) (hat : MsgAt w m ta tc aa da) {tn an dn : Nat} (h1 : tn = m.tok.length) (h2 : an = m.args.length) (h3 : dn = m.dat.length) :
    Calls Try.prog 24 #[.agg #[.int .i64 m.kind, .slice ta tn tc, .slice aa an ac, .slice da dn dc]] w (FrameM m w) := by
  have hat1 : ∀ W, Below w.heap.size w W → MsgAt W m ta tc aa da := fun W h => hat.below h (Nat.le_refl _)
  obtain ⟨kind, tok, args, dat⟩ := m
  subst h1 h2 h3
  go_enter Try.func24, Try.ntmps24
  go_wp2_with (first | (go_at_call 13; (with_reducible refine (ref05_Encode ⟨kind, tok, args, dat⟩ ta tc aa da ac dc _ (hat1 _ (by repeat (first | (with_reducible refine Below.setCell ?_ ?_ _) | (with_reducible refine Below.alloc ?_ ?_ _) | (with_reducible refine Below.drew ?_) | (with_reducible refine below_drewN ?_ _) | (with_reducible exact Below.refl _ _) | (focus (simp; done)) | (focus (simp; omega)) | (focus omega)))) rfl rfl rfl).mono ?_); rintro e w1 (⟨hok, a, n, c, rfl, rfl, own, hb⟩ | ⟨hok, rfl, hb⟩); (have bM : Blk w1 w.heap.size 27 #[.int .i64 kind, .slice ta tok.length tc, .slice aa args.length ac, .slice da dat.length dc] := (Blk.new w _ _).below hb (by simp)); obtain ⟨m0, m1, m2, m3⟩ := bM.four) | (go_at_call 39; (with_reducible refine (ref03_Encode kind a (Msg.pay ⟨kind, tok, args, dat⟩) c _ (by have := hok.kind; simp only at this; omega) (by have := hok.kind; simp only at this; omega) own.byt hok.plen).mono ?_); rintro e w2 ⟨fa, fc, rfl, fown, hb2⟩))
  · go_ret2
    exact .inl ⟨hok, fa, _, fc, rfl, (frm_no _ _).symm, fown.byt, (by repeat (first | (with_reducible refine Below.setCell ?_ ?_ _) | (with_reducible refine Below.alloc ?_ ?_ _) | (with_reducible refine Below.drew ?_) | (with_reducible refine below_drewN ?_ _) | (with_reducible exact Below.refl _ _) | (with_reducible refine Below.trans ?_ (Below.mono hb ?_)) | (with_reducible refine Below.trans ?_ (Below.mono hb2 ?_)) | (focus (simp; done)) | (focus (simp; omega)) | (focus omega) | (focus (have q0 := Below.size hb; (try simp at q0); have q1 := Below.size hb2; (try simp at q1); (try simp); omega))))⟩
  · go_ret2
    exact .inr ⟨hok, rfl, (by repeat (first | (with_reducible refine Below.setCell ?_ ?_ _) | (with_reducible refine Below.alloc ?_ ?_ _) | (with_reducible refine Below.drew ?_) | (with_reducible refine below_drewN ?_ _) | (with_reducible exact Below.refl _ _) | (with_reducible refine Below.trans ?_ (Below.mono hb ?_)) | (focus (simp; done)) | (focus (simp; omega)) | (focus omega) | (focus (have q0 := Below.size hb; (try simp at q0); (try simp); omega))))⟩

open Classical in
noncomputable def okB (m : Msg) : Bool := decide m.Ok
theorem okB_yes {m : Msg} (h : m.Ok) : okB m = true := by unfold okB; exact @decide_eq_true _ (Classical.propDecidable _) h
theorem okB_no {m : Msg} (h : ¬ m.Ok) : okB m = false := by unfold okB; exact @decide_eq_false _ (Classical.propDecidable _) h
open Classical in
noncomputable def encP (m : Msg) : List UInt8 × Int := if m.Ok then (m.pay, 0) else ([], 6)
open Classical in
noncomputable def frmP (m : Msg) : List UInt8 × Int := if m.Ok then (frm m.kind m.pay, 0) else ([], 6)
def BytV (l : List UInt8) (c : Int) (w : World) (e : Ending) (w' : World) : Prop := ∃ a k, e = .returned (.tuple #[.slice a l.length k, .int .i64 c]) ∧ Byt w' a l ∧ Below w.heap.size w w'
theorem encM_V {m : Msg} {w w' : World} {e : Ending} (h : EncM m w e w') {l : List UInt8} {c : Int} (hd : encP m = (l, c)) : BytV l c w e w' := by
  unfold encP at hd
  rcases h with ⟨hok, a, n, k, rfl, rfl, own, hb⟩ | ⟨hok, rfl, hb⟩
  · rw [if_pos hok] at hd
    injection hd with d1 d2
    subst d1 d2
    exact ⟨a, k, rfl, own.byt, hb⟩
  · rw [if_neg hok] at hd
    injection hd with d1 d2
    subst d1 d2
    exact ⟨none, 0, rfl, Byt.nil _ _, hb⟩
theorem frmM_V {m : Msg} {w w' : World} {e : Ending} (h : FrameM m w e w') {l : List UInt8} {c : Int} (hd : frmP m = (l, c)) : BytV l c w e w' := by
  unfold frmP at hd
  rcases h with ⟨hok, a, n, k, rfl, rfl, own, hb⟩ | ⟨hok, rfl, hb⟩
  · rw [if_pos hok] at hd
    injection hd with d1 d2
    subst d1 d2
    exact ⟨a, k, rfl, own, hb⟩
  · rw [if_neg hok] at hd
    injection hd with d1 d2
    subst d1 d2
    exact ⟨none, 0, rfl, Byt.nil _ _, hb⟩
section
variable {kind : Int} {tok : List UInt8} {args : List Int} {dat : List UInt8} {l : List UInt8} {c : Int} (ta : Option Addr) (tc : Nat) (aa da : Option Addr) (ac dc : Nat) (w : World) (hat : MsgAt w ⟨kind, tok, args, dat⟩ ta tc aa da)
include hat
theorem msg_EncodeV (hd : Hid (encP ⟨kind, tok, args, dat⟩ = (l, c))) : Calls Try.prog 19 #[.agg #[.int .i64 kind, .slice ta tok.length tc, .slice aa args.length ac, .slice da dat.length dc]] w (BytV l c w) :=
  (msg_Encode ⟨kind, tok, args, dat⟩ ta tc aa da ac dc w hat rfl rfl rfl).mono fun _ _ h => encM_V h hd.out
theorem ref05_EncodeV (hd : Hid (encP ⟨kind, tok, args, dat⟩ = (l, c))) : Calls Try.prog 13 #[.agg #[.int .i64 kind, .slice ta tok.length tc, .slice aa args.length ac, .slice da dat.length dc]] w (BytV l c w) :=
  (ref05_Encode ⟨kind, tok, args, dat⟩ ta tc aa da ac dc w hat rfl rfl rfl).mono fun _ _ h => encM_V h hd.out
theorem msg_FrameV (hd : Hid (frmP ⟨kind, tok, args, dat⟩ = (l, c))) : Calls Try.prog 23 #[.agg #[.int .i64 kind, .slice ta tok.length tc, .slice aa args.length ac, .slice da dat.length dc]] w (BytV l c w) :=
  (msg_Frame ⟨kind, tok, args, dat⟩ ta tc aa da ac dc w hat rfl rfl rfl).mono fun _ _ h => frmM_V h hd.out
theorem ref05_FrameV (hd : Hid (frmP ⟨kind, tok, args, dat⟩ = (l, c))) : Calls Try.prog 24 #[.agg #[.int .i64 kind, .slice ta tok.length tc, .slice aa args.length ac, .slice da dat.length dc]] w (BytV l c w) :=
  (ref05_Frame ⟨kind, tok, args, dat⟩ ta tc aa da ac dc w hat rfl rfl rfl).mono fun _ _ h => frmM_V h hd.out
theorem msg_ValidB {b : Bool} (hd : Hid (okB ⟨kind, tok, args, dat⟩ = b)) : Calls Try.prog 20 #[.agg #[.int .i64 kind, .slice ta tok.length tc, .slice aa args.length ac, .slice da dat.length dc]] w fun e w' => e = .returned (.bool b) ∧ Below w.heap.size w w' := by
  refine (msg_Valid ⟨kind, tok, args, dat⟩ ta tc aa da ac dc w hat rfl rfl rfl).mono fun _ _ h => ?_
  have hd := hd.out
  rcases h with ⟨⟨hok, rfl⟩ | ⟨hok, rfl⟩, hb⟩
  · rw [okB_yes hok] at hd; subst hd; exact ⟨rfl, hb⟩
  · rw [okB_no hok] at hd; subst hd; exact ⟨rfl, hb⟩
theorem ref05_ValidB {b : Bool} (hd : Hid (okB ⟨kind, tok, args, dat⟩ = b)) : Calls Try.prog 25 #[.agg #[.int .i64 kind, .slice ta tok.length tc, .slice aa args.length ac, .slice da dat.length dc]] w fun e w' => e = .returned (.bool b) ∧ Below w.heap.size w w' := by
  refine (ref05_Valid ⟨kind, tok, args, dat⟩ ta tc aa da ac dc w hat rfl rfl rfl).mono fun _ _ h => ?_
  have hd := hd.out
  rcases h with ⟨⟨hok, rfl⟩ | ⟨hok, rfl⟩, hb⟩
  · rw [okB_yes hok] at hd; subst hd; exact ⟨rfl, hb⟩
  · rw [okB_no hok] at hd; subst hd; exact ⟨rfl, hb⟩
end
theorem law_light (kind : Int) (ta aa da : Option Addr) (n1 n2 n3 tc ac dc : Nat) (w : World) (h1 : n1 ≤ 9223372036854775807) (h2 : n2 ≤ 9223372036854775807) (h3 : n3 ≤ 9223372036854775807) :
    Calls Try.prog 22 #[.agg #[.int .i64 kind, .slice ta n1 tc, .slice aa n2 ac, .slice da n3 dc]] w fun e w' => e = .returned (.bool (decide (n1 ≤ 60 ∧ n2 ≤ 200 ∧ n3 ≤ 600))) ∧ Below w.heap.size w w' := by
  by_cases c1 : n1 ≤ 60
  · have d1 : decide (n1 ≤ 60) = true := decide_eq_true c1
    have e1 : (n1 : Int) ≤ 60 := by omega
    by_cases c2 : n2 ≤ 200
    · have d2 : decide (n2 ≤ 200) = true := decide_eq_true c2
      have e2 : (n2 : Int) ≤ 200 := by omega
      go_enter Try.func22, Try.ntmps22
      go_wp2
      go_ret
      exact ⟨ret_bool (by simp [c1, c2]; omega), (by repeat (first | (with_reducible refine Below.setCell ?_ ?_ _) | (with_reducible refine Below.alloc ?_ ?_ _) | (with_reducible refine Below.drew ?_) | (with_reducible refine below_drewN ?_ _) | (with_reducible exact Below.refl _ _) | (focus (simp; done)) | (focus (simp; omega)) | (focus omega)))⟩
    · have d2 : decide (n2 ≤ 200) = false := decide_eq_false c2
      have e2 : ¬ (n2 : Int) ≤ 200 := by omega
      go_enter Try.func22, Try.ntmps22
      go_wp2
      go_ret
      exact ⟨ret_bool (by simp), (by repeat (first | (with_reducible refine Below.setCell ?_ ?_ _) | (with_reducible refine Below.alloc ?_ ?_ _) | (with_reducible refine Below.drew ?_) | (with_reducible refine below_drewN ?_ _) | (with_reducible exact Below.refl _ _) | (focus (simp; done)) | (focus (simp; omega)) | (focus omega)))⟩
  · have d1 : decide (n1 ≤ 60) = false := decide_eq_false c1
    have e1 : ¬ (n1 : Int) ≤ 60 := by omega
    go_enter Try.func22, Try.ntmps22
    go_wp2
    go_ret
    exact ⟨ret_bool (by simp [c1]), (by repeat (first | (with_reducible refine Below.setCell ?_ ?_ _) | (with_reducible refine Below.alloc ?_ ?_ _) | (with_reducible refine Below.drew ?_) | (with_reducible refine below_drewN ?_ _) | (with_reducible exact Below.refl _ _) | (focus (simp; done)) | (focus (simp; omega)) | (focus omega)))⟩

theorem Reads.slice_form {P : Program} {w : World} {t e : TypeId} {cs : List Value} (ht : P.underlying t = some (.slice e)) (h : Reads P w t cs) : ∃ a n c, cs = [.slice a n c] := by
  obtain ⟨H, enc, fuel, x, h⟩ := h
  cases fuel with
  | zero => simp [DataW.trod] at h
  | succ m =>
    unfold DataW.trod at h
    rw [ht] at h
    split at h
    all_goals first | exact ⟨_, _, _, rfl⟩ | (exfalso; simp_all; done) | (exfalso; contradiction)
/-- a message that came in -/
theorem Rd.message {P : Program} {w : World} {v : Value} {t tb ts te : TypeId} {f0 f1 f2 f3 : Field} (ht : P.underlying t = some (.struct #[f0, f1, f2, f3])) (hm : P.cellsOf t = 4)
    (hi : P.underlying f0.type = some (.int .i64)) (hci : P.cellsOf f0.type = 1) (ho0 : f0.offset = 0)
    (h1 : P.underlying f1.type = some (.slice tb)) (hb : P.underlying tb = some (.int .u8)) (hcb : P.cellsOf tb = 1) (hc1 : P.cellsOf f1.type = 1) (ho1 : f1.offset = 1)
    (h2 : P.underlying f2.type = some (.slice ts)) (hb2 : P.underlying ts = some (.int .i64)) (hcs : P.cellsOf ts = 1) (hc2 : P.cellsOf f2.type = 1) (ho2 : f2.offset = 2)
    (h3 : P.underlying f3.type = some (.slice te)) (hb3 : P.underlying te = some (.int .u8)) (hce : P.cellsOf te = 1) (hc3 : P.cellsOf f3.type = 1) (ho3 : f3.offset = 3)
    (h : Rd P w t v) : ∃ (k : Int) (ta : Option Addr) (tok : List UInt8) (tc : Nat) (aa : Option Addr) (args : List Int) (ac : Nat) (da : Option Addr) (dat : List UInt8) (dc : Nat),
      v = .agg #[.int .i64 k, .slice ta tok.length tc, .slice aa args.length ac, .slice da dat.length dc] ∧ Byt w ta tok ∧ Ints w aa args ∧ Byt w da dat ∧
      tok.length ≤ 9223372036854775807 ∧ args.length ≤ 9223372036854775807 ∧ dat.length ≤ 9223372036854775807 ∧ (ta = none → tok.length = 0 ∧ tc = 0) := by
  obtain ⟨cs, rfl, hr⟩ := h.struct ht
  have hl : cs.toList.length = 4 := (hr.len ht).trans hm
  obtain ⟨c0, c1, c2, c3, hcs4⟩ := list4 hl
  have r0 := hr.field ht 0 f0 rfl
  have r1 := hr.field ht 1 f1 rfl
  have r2 := hr.field ht 2 f2 rfl
  have r3 := hr.field ht 3 f3 rfl
  rw [hcs4, ho0, hci] at r0
  rw [hcs4, ho1, hc1] at r1
  rw [hcs4, ho2, hc2] at r2
  rw [hcs4, ho3, hc3] at r3
  simp only [List.drop_succ_cons, List.drop_zero, List.take_succ_cons, List.take_zero] at r0 r1 r2 r3
  obtain ⟨k, e0, -⟩ := r0.int hi
  obtain ⟨a1, n1, k1, e1⟩ := r1.slice_form h1
  obtain ⟨a2, n2, k2, e2⟩ := r2.slice_form h2
  obtain ⟨a3, n3, k3, e3⟩ := r3.slice_form h3
  rw [e1] at r1
  rw [e2] at r2
  rw [e3] at r3
  obtain ⟨z1, q1⟩ := r1.isRow h1 hb hcb
  obtain ⟨z2, q2⟩ := r2.isRow h2 hb2 hcs
  obtain ⟨z3, q3⟩ := r3.isRow h3 hb3 hce
  obtain ⟨l1, rfl, g1, y1⟩ := isRow_byt q1
  obtain ⟨l2, rfl, g2, y2, -⟩ := isRow_ints q2
  obtain ⟨l3, rfl, g3, y3⟩ := isRow_byt q3
  injection e0 with e0 _
  injection e1 with e1 _
  injection e2 with e2 _
  injection e3 with e3 _
  refine ⟨k, a1, l1, k1, a2, l2, k2, a3, l3, k3, ?_, y1, y2, y3, g1, g2, g3, ?_⟩
  · congr 1
    rw [← Array.toList_inj, hcs4, e0, e1, e2, e3]
  · rcases q1 with ⟨h1, h2, h3, _⟩ | ⟨x, rfl, _⟩
    · exact fun _ => ⟨h2, h3⟩
    · intro q; cases q
end Go.Proofs.Ythkoijgobigdnaa
