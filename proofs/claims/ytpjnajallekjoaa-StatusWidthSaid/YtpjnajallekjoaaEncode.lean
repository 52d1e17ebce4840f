/- message.Encode -/
import Derived.Test.YtpjnajallekjoaaShape
import Derived.Test.YtpjnajallekjoaaGroups
import Derived.Test.YtpjnajallekjoaaClone
import Derived.Test.YtpjnajallekjoaaVarint
import Derived.Test.YtpjnajallekjoaaReg
namespace Go.Proofs.Ytpjnajallekjoaa
open Go.RowKit Go.Sort
set_option maxRecDepth 20000

/-- a message's parts lie in memory -/
structure MsgAt (w : World) (m : Msg) (ta : Option Addr) (tc : Nat) (aa da : Option Addr) : Prop where
  tok : Byt w ta m.tok
  args : Ints w aa m.args
  dat : Byt w da m.dat
  nil : ta = none → m.tok.length = 0 ∧ tc = 0
  len : m.tok.length ≤ 1000000 ∧ m.args.length ≤ 1000000 ∧ m.dat.length ≤ 1000000
/-- what Encode hands back -/
def EncM (m : Msg) (w : World) (e : Ending) (w' : World) : Prop :=
  (m.Ok ∧ ∃ a n c, e = .returned (.tuple #[.slice a n c, .int .i64 0]) ∧ n = m.pay.length ∧ Own w' w.heap.size 5 1 a n c (m.pay.map encB) ∧ Below w.heap.size w w') ∨
  (¬ m.Ok ∧ e = .returned (.tuple #[.slice none 0 0, .int .i64 6]) ∧ Below w.heap.size w w')

theorem Blk.four {w : World} {g : Nat} {t : TypeId} {a b c d : Value} (h : Blk w g t #[a, b, c, d]) : w.cell? ⟨g, 0, none⟩ = some a ∧ w.cell? ⟨g, 1, none⟩ = some b ∧ w.cell? ⟨g, 2, none⟩ = some c ∧ w.cell? ⟨g, 3, none⟩ = some d := ⟨h.cell 0, h.cell 1, h.cell 2, h.cell 3⟩
theorem Blk.six {w : World} {g : Nat} {t : TypeId} {a b c d e f : Value} (h : Blk w g t #[a, b, c, d, e, f]) : w.cell? ⟨g, 0, none⟩ = some a ∧ w.cell? ⟨g, 1, none⟩ = some b ∧ w.cell? ⟨g, 2, none⟩ = some c ∧ w.cell? ⟨g, 3, none⟩ = some d ∧ w.cell? ⟨g, 4, none⟩ = some e ∧ w.cell? ⟨g, 5, none⟩ = some f := ⟨h.cell 0, h.cell 1, h.cell 2, h.cell 3, h.cell 4, h.cell 5⟩

section
variable (kind : Int) (tok : List UInt8) (args : List Int) (dat : List UInt8) (ta aa da : Option Addr) (tc ac dc : Nat) (w : World)
theorem Own.lenB {w : World} {base n cap : Nat} {e : TypeId} {a : Option Addr} {l : List UInt8} (h : Own w base e 1 a n cap (l.map encB)) : n = l.length := by
  have := h.1
  simp at this
  omega
theorem gCode_cases (s : Shp) (g : Int) (k : Nat) : (((k : Int) == s.fix) = true ∧ decide (0 < s.grp) = true ∧ gCode s g k = vEnc g.toNat) ∨ (((k : Int) == s.fix) = true ∧ decide (0 < s.grp) = false ∧ gCode s g k = []) ∨ (((k : Int) == s.fix) = false ∧ gCode s g k = []) := by
  unfold gCode
  by_cases h1 : (k : Int) = s.fix
  · by_cases h2 : 0 < s.grp
    · exact .inl ⟨by rw [beq_iff_eq]; exact h1, decide_eq_true h2, by rw [if_pos ⟨h1, h2⟩]⟩
    · exact .inr (.inl ⟨by rw [beq_iff_eq]; exact h1, decide_eq_false h2, by rw [if_neg (fun h => h2 h.2)]⟩)
  · exact .inr (.inr ⟨by rw [beq_eq_false_iff_ne]; exact h1, by rw [if_neg (fun h => h1 h.1)]⟩)
theorem encM_fin {m : Msg} {w w2 w6 : World} {b : Option Addr} {n cap : Nat} {l : List UInt8} (hp : m.pay = l ++ m.dat) (hok : m.pay.length ≤ 200 → m.Ok) (own : Own w6 w2.heap.size 5 1 b n cap ((l ++ m.dat).map encB)) (h02 : w.heap.size ≤ w2.heap.size) (hb : Below w.heap.size w w6) :
    (n ≤ 200 → EncM m w (.returned (.tuple #[.slice b n cap, .int .i64 0])) w6) ∧ (200 < n → EncM m w (.returned (.tuple #[.slice none 0 0, .int .i64 6])) w6) := by
  have hn := own.lenB
  rw [← hp] at own hn
  exact ⟨fun h => .inl ⟨hok (by omega), b, n, cap, rfl, hn, own.mono h02, hb⟩, fun h => .inr ⟨fun h' => by have := h'.plen; omega, rfl, hb⟩⟩
theorem pay_split {kind : Int} {tok : List UInt8} {args : List Int} {dat l : List UInt8} {s : Shp} {g : Int} (hs : shpOf kind = s) (hgn : grpN s args.length = g) (h : l = tok ++ encFrom (shpOf kind) g 0 args) : Msg.pay ⟨kind, tok, args, dat⟩ = l ++ dat := by
  subst h
  unfold Msg.pay
  simp only [hs, hgn]
theorem msg_ok {kind : Int} {tok : List UInt8} {args : List Int} {dat : List UInt8} {s : Shp} (h1 : 1 ≤ kind) (h2 : kind ≤ 22) (hs : shpOf kind = s) (ht : (tok.length : Int) = s.tok) (hd : s.dat = -1 ∨ (dat.length : Int) = s.dat) (hg : grpOk s args.length) (hdl : dat.length ≤ 200) (hall : ∀ n ∈ args, argOk n) (hp : (Msg.pay ⟨kind, tok, args, dat⟩).length ≤ 200) : Msg.Ok ⟨kind, tok, args, dat⟩ :=
  ⟨⟨h1, h2⟩, by simp only [hs]; exact ht, by simp only [hs]; exact hd, by simp only [hs]; exact hg, hdl, hall, hp⟩
end
end Go.Proofs.Ytpjnajallekjoaa
