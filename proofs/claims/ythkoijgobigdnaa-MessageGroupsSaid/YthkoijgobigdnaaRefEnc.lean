/- signalbrokerref05.Encode -/
import Derived.Test.YthkoijgobigdnaaRefVal
namespace Go.Proofs.Ythkoijgobigdnaa
open Go.RowKit Go.Sort
set_option maxRecDepth 20000

theorem ref05_payload (m : Msg) (ta : Option Addr) (tc : Nat) (aa da : Option Addr) (ac dc : Nat) (w : World) (hok : m.Ok) (hat : MsgAt w m ta tc aa da) :
    Calls Try.prog 30 #[.agg #[.int .i64 m.kind, .slice ta m.tok.length tc, .slice aa m.args.length ac, .slice da m.dat.length dc]] w (PayR m w) := by
  obtain ⟨kind, tok, args, dat⟩ := m
  obtain ⟨tk, fx, gr, lo, hi, dt, hs⟩ : ∃ tk fx gr lo hi dt, shpOf kind = ⟨tk, fx, gr, lo, hi, dt⟩ := ⟨_, _, _, _, _, _, rfl⟩
  have hk := hok.kind
  have ht : (tok.length : Int) = (shpOf kind).tok := hok.tok
  have hg := hok.grp
  simp only at hk hg
  rw [hs] at hg
  rw [shpOf_tok hk.1 hk.2] at ht
  exact ref05_payload_ok ta tc aa da ac dc w hk.1 hk.2 hs (show tok.length ≤ 10 by split at ht <;> omega) hg hok.args hat
/-- what the reference's Encode hands back -/
theorem ref05_Encode (m : Msg) (ta : Option Addr) (tc : Nat) (aa da : Option Addr) (ac dc : Nat) (w : World) (hat : MsgAt w m ta tc aa da) {tn an dn : Nat} (h1 : tn = m.tok.length) (h2 : an = m.args.length) (h3 : dn = m.dat.length) :
    Calls Try.prog 13 #[.agg #[.int .i64 m.kind, .slice ta tn tc, .slice aa an ac, .slice da dn dc]] w (EncM m w) := by
  have hat1 : ∀ W, Below w.heap.size w W → MsgAt W m ta tc aa da := fun W h => hat.below h (Nat.le_refl _)
  obtain ⟨kind, tok, args, dat⟩ := m
  subst h1 h2 h3
  go_enter Try.func13, Try.ntmps13
  go_wp2_with (first | (go_at_call 25; (with_reducible refine (ref05_Valid ⟨kind, tok, args, dat⟩ ta tc aa da ac dc _ (hat1 _ (by repeat (first | (with_reducible refine Below.setCell ?_ ?_ _) | (with_reducible refine Below.alloc ?_ ?_ _) | (with_reducible refine Below.drew ?_) | (with_reducible refine below_drewN ?_ _) | (with_reducible exact Below.refl _ _) | (focus (simp; done)) | (focus (simp; omega)) | (focus omega)))) rfl rfl rfl).mono ?_); rintro e w1 ⟨(⟨hok, rfl⟩ | ⟨hok, rfl⟩), hb⟩; (have bM : Blk w1 w.heap.size 27 #[.int .i64 kind, .slice ta tok.length tc, .slice aa args.length ac, .slice da dat.length dc] := (Blk.new w _ _).below hb (by simp)); obtain ⟨m0, m1, m2, m3⟩ := bM.four) | (go_at_call 30; (with_reducible refine (ref05_payload ⟨kind, tok, args, dat⟩ ta tc aa da ac dc _ hok (hat1 _ (by repeat (first | (with_reducible refine Below.setCell ?_ ?_ _) | (with_reducible refine Below.alloc ?_ ?_ _) | (with_reducible refine Below.drew ?_) | (with_reducible refine below_drewN ?_ _) | (with_reducible exact Below.refl _ _) | (with_reducible refine Below.trans ?_ (Below.mono hb ?_)) | (focus (simp; done)) | (focus (simp; omega)) | (focus omega) | (focus (have q0 := Below.size hb; (try simp at q0); (try simp); omega)))))).mono ?_); rintro e w2 ⟨pa, pn, pc, rfl, rfl, own, hb2⟩; (have hbs : w.heap.size ≤ w1.heap.size := by have := hb.size; simp at this; omega)))
  · go_ret2
    exact .inl ⟨hok, pa, _, pc, rfl, rfl, own.mono hbs, (by repeat (first | (with_reducible refine Below.setCell ?_ ?_ _) | (with_reducible refine Below.alloc ?_ ?_ _) | (with_reducible refine Below.drew ?_) | (with_reducible refine below_drewN ?_ _) | (with_reducible exact Below.refl _ _) | (with_reducible refine Below.trans ?_ (Below.mono hb ?_)) | (with_reducible refine Below.trans ?_ (Below.mono hb2 ?_)) | (focus (simp; done)) | (focus (simp; omega)) | (focus omega) | (focus (have q0 := Below.size hb; (try simp at q0); have q1 := Below.size hb2; (try simp at q1); (try simp); omega))))⟩
  · go_ret2
    exact .inr ⟨hok, rfl, (by repeat (first | (with_reducible refine Below.setCell ?_ ?_ _) | (with_reducible refine Below.alloc ?_ ?_ _) | (with_reducible refine Below.drew ?_) | (with_reducible refine below_drewN ?_ _) | (with_reducible exact Below.refl _ _) | (with_reducible refine Below.trans ?_ (Below.mono hb ?_)) | (focus (simp; done)) | (focus (simp; omega)) | (focus omega) | (focus (have q0 := Below.size hb; (try simp at q0); (try simp); omega))))⟩
end Go.Proofs.Ythkoijgobigdnaa
