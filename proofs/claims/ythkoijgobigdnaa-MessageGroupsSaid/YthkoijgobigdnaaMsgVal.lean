/- message.Valid, message.Frame -/
import Derived.Test.YthkoijgobigdnaaEncode
import Derived.Test.YthkoijgobigdnaaFrame
namespace Go.Proofs.Ythkoijgobigdnaa
open Go.RowKit Go.Sort
set_option maxRecDepth 20000

theorem msg_Valid (m : Msg) (ta : Option Addr) (tc : Nat) (aa da : Option Addr) (ac dc : Nat) (w : World) (hat : MsgAt w m ta tc aa da) {tn an dn : Nat} (h1 : tn = m.tok.length) (h2 : an = m.args.length) (h3 : dn = m.dat.length) :
    Calls Try.prog 20 #[.agg #[.int .i64 m.kind, .slice ta tn tc, .slice aa an ac, .slice da dn dc]] w fun e w' => (m.Ok ∧ e = .returned (.bool true) ∨ ¬ m.Ok ∧ e = .returned (.bool false)) ∧ Below w.heap.size w w' := by
  have hat1 : ∀ W, Below w.heap.size w W → MsgAt W m ta tc aa da := fun W h => ⟨hat.tok.below h (Nat.le_refl _), hat.args.below h (Nat.le_refl _), hat.dat.below h (Nat.le_refl _), hat.nil, hat.len⟩
  obtain ⟨kind, tok, args, dat⟩ := m
  subst h1 h2 h3
  go_enter Try.func20, Try.ntmps20
  go_wp2_with (first | (go_at_call 19; (with_reducible refine (msg_Encode ⟨kind, tok, args, dat⟩ ta tc aa da ac dc _ (hat1 _ (by repeat (first | (with_reducible refine Below.setCell ?_ ?_ _) | (with_reducible refine Below.alloc ?_ ?_ _) | (with_reducible refine Below.drew ?_) | (with_reducible refine below_drewN ?_ _) | (with_reducible exact Below.refl _ _) | (focus (simp; done)) | (focus (simp; omega)) | (focus omega)))) rfl rfl rfl).mono ?_); rintro e w1 (⟨hok, a, n, c, rfl, hn, own, hb⟩ | ⟨hok, rfl, hb⟩)))
  · go_ret
    exact ⟨.inl ⟨hok, rfl⟩, (by repeat (first | (with_reducible refine Below.setCell ?_ ?_ _) | (with_reducible refine Below.alloc ?_ ?_ _) | (with_reducible refine Below.drew ?_) | (with_reducible refine below_drewN ?_ _) | (with_reducible exact Below.refl _ _) | (with_reducible refine Below.trans ?_ (Below.mono hb ?_)) | (focus (simp; done)) | (focus (simp; omega)) | (focus omega) | (focus (have q0 := Below.size hb; (try simp at q0); (try simp); omega))))⟩
  · go_ret
    exact ⟨.inr ⟨hok, rfl⟩, (by repeat (first | (with_reducible refine Below.setCell ?_ ?_ _) | (with_reducible refine Below.alloc ?_ ?_ _) | (with_reducible refine Below.drew ?_) | (with_reducible refine below_drewN ?_ _) | (with_reducible exact Below.refl _ _) | (with_reducible refine Below.trans ?_ (Below.mono hb ?_)) | (focus (simp; done)) | (focus (simp; omega)) | (focus omega) | (focus (have q0 := Below.size hb; (try simp at q0); (try simp); omega))))⟩
/-- what Frame hands back -/
def FrameM (m : Msg) (w : World) (e : Ending) (w' : World) : Prop :=
  (m.Ok ∧ ∃ a n c, e = .returned (.tuple #[.slice a n c, .int .i64 0]) ∧ n = (frm m.kind m.pay).length ∧ Byt w' a (frm m.kind m.pay) ∧ Below w.heap.size w w') ∨
  (¬ m.Ok ∧ e = .returned (.tuple #[.slice none 0 0, .int .i64 6]) ∧ Below w.heap.size w w')
theorem msg_Frame (m : Msg) (ta : Option Addr) (tc : Nat) (aa da : Option Addr) (ac dc : Nat) (w : World) (hat : MsgAt w m ta tc aa da) {tn an dn : Nat} (h1 : tn = m.tok.length) (h2 : an = m.args.length) (h3 : dn = m.dat.length) :
    Calls Try.prog 23 #[.agg #[.int .i64 m.kind, .slice ta tn tc, .slice aa an ac, .slice da dn dc]] w (FrameM m w) := by
  have hat1 : ∀ W, Below w.heap.size w W → MsgAt W m ta tc aa da := fun W h => ⟨hat.tok.below h (Nat.le_refl _), hat.args.below h (Nat.le_refl _), hat.dat.below h (Nat.le_refl _), hat.nil, hat.len⟩
  obtain ⟨kind, tok, args, dat⟩ := m
  subst h1 h2 h3
  go_enter Try.func23, Try.ntmps23
  go_wp2_with (first | (go_at_call 19; (with_reducible refine (msg_Encode ⟨kind, tok, args, dat⟩ ta tc aa da ac dc _ (hat1 _ (by repeat (first | (with_reducible refine Below.setCell ?_ ?_ _) | (with_reducible refine Below.alloc ?_ ?_ _) | (with_reducible refine Below.drew ?_) | (with_reducible refine below_drewN ?_ _) | (with_reducible exact Below.refl _ _) | (focus (simp; done)) | (focus (simp; omega)) | (focus omega)))) rfl rfl rfl).mono ?_); rintro e w1 (⟨hok, a, n, c, rfl, rfl, own, hb⟩ | ⟨hok, rfl, hb⟩); (have bM : Blk w1 w.heap.size 27 #[.int .i64 kind, .slice ta tok.length tc, .slice aa args.length ac, .slice da dat.length dc] := (Blk.new w _ _).below hb (by simp)); obtain ⟨m0, m1, m2, m3⟩ := bM.four) | (go_at_call 38; (with_reducible refine (frame_Encode kind a (Msg.pay ⟨kind, tok, args, dat⟩) c _ (by have := hok.kind; simp only at this; omega) (by have := hok.kind; simp only at this; omega) own.byt hok.plen).mono ?_); rintro e w2 ⟨fa, fc, rfl, fown, hb2⟩))
  · go_ret2
    exact .inl ⟨hok, fa, _, fc, rfl, (frm_no _ _).symm, fown.byt, (by repeat (first | (with_reducible refine Below.setCell ?_ ?_ _) | (with_reducible refine Below.alloc ?_ ?_ _) | (with_reducible refine Below.drew ?_) | (with_reducible refine below_drewN ?_ _) | (with_reducible exact Below.refl _ _) | (with_reducible refine Below.trans ?_ (Below.mono hb ?_)) | (with_reducible refine Below.trans ?_ (Below.mono hb2 ?_)) | (focus (simp; done)) | (focus (simp; omega)) | (focus omega) | (focus (have q0 := Below.size hb; (try simp at q0); have q1 := Below.size hb2; (try simp at q1); (try simp); omega))))⟩
  · go_ret2
    exact .inr ⟨hok, rfl, (by repeat (first | (with_reducible refine Below.setCell ?_ ?_ _) | (with_reducible refine Below.alloc ?_ ?_ _) | (with_reducible refine Below.drew ?_) | (with_reducible refine below_drewN ?_ _) | (with_reducible exact Below.refl _ _) | (with_reducible refine Below.trans ?_ (Below.mono hb ?_)) | (focus (simp; done)) | (focus (simp; omega)) | (focus omega) | (focus (have q0 := Below.size hb; (try simp at q0); (try simp); omega))))⟩
end Go.Proofs.Ythkoijgobigdnaa
