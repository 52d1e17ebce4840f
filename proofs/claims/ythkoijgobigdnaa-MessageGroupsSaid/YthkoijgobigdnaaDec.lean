/- message.Decode: whatever comes in -/
import Derived.Test.YthkoijgobigdnaaDecodeH
import Derived.Test.YthkoijgobigdnaaDecodeI
namespace Go.Proofs.Ythkoijgobigdnaa
open Go.RowKit Go.Sort

theorem msg_Decode (k : Int) (pa : Option Addr) (p : List UInt8) (n pc : Nat) (w : World) (hb : Byt w pa p) (hn : n = p.length) (hc : p.length ≤ pc) (hnil : pa = none → p.length = 0 ∧ pc = 0) :
    Calls Try.prog 16 #[.int .i64 k, .slice pa n pc] w (DecR k p w) := by
  subst hn
  by_cases hk : k < 1 ∨ 22 < k
  · exact msg_Decode_kind k pa p pc w hk
  obtain ⟨h1, h2⟩ : 1 ≤ k ∧ k ≤ 22 := by omega
  obtain ⟨T, F, gr, lo, hi, dt, hs, -, hF, hg0, hg4, hlo, hlohi, hi16, -⟩ := shp_nat (k := k)
  by_cases hp : 200 < p.length
  · exact msg_Decode_long k pa p pc w h1 h2 hs hp
  have hp' : p.length ≤ 200 := by omega
  by_cases ht : p.length < T
  · exact msg_Decode_tok k pa p pc w h1 h2 hs hp' ht
  have ht' : T ≤ p.length := by omega
  cases hr : rdN F (p.drop T) with
  | none => exact msg_Decode_rd k pa p pc w h1 h2 hs hb hc hnil hp' ht' hF hr
  | some lr =>
    obtain ⟨l, r⟩ := lr
    by_cases hg : gr = 0
    · by_cases hd : dt = -1 ∨ (r.length : Int) = dt
      · exact msg_Decode_g0y k pa p pc w h1 h2 hs hb hc hnil hp' ht' hF hr hg hd
      · exact msg_Decode_g0n k pa p pc w h1 h2 hs hb hc hnil hp' ht' hF hr hg (fun e => hd (.inl e)) (fun e => hd (.inr e))
    have hg' : 0 < gr := by omega
    cases hr1 : rdN 1 r with
    | none => exact msg_Decode_gN k pa p pc w h1 h2 hs hb hc hnil hp' ht' hF hr hg' hr1
    | some q =>
      obtain ⟨xl, r2⟩ := q
      obtain ⟨x, rfl, x0, x1⟩ := rd1 hr1
      by_cases hx : x < lo
      · exact msg_Decode_glo k pa p pc w h1 h2 hs hb hc hnil hp' ht' hF hr hg' hr1 hx
      by_cases hx2 : hi < x
      · exact msg_Decode_ghi k pa p pc w h1 h2 hs hb hc hnil hp' ht' hF hr hg' hr1 (by omega) hx2
      cases hr3 : rdN (x * gr).toNat r2 with
      | none => exact msg_Decode_gRn k pa p pc w h1 h2 hs hb hc hnil hp' ht' hF hr hg' hr1 (by omega) (by omega) x0 hi16 hg4 hr3
      | some q3 =>
        obtain ⟨m2, r3⟩ := q3
        exact msg_Decode_gY k pa p pc w h1 h2 hs hb hc hnil hp' ht' hF hr hg' hr1 (by omega) (by omega) x0 hi16 hg4 hr3
end Go.Proofs.Ythkoijgobigdnaa
