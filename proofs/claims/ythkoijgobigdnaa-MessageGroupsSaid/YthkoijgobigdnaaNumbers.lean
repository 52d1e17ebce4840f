/- message.numbers -/
import Derived.Test.YthkoijgobigdnaaNumLaw
import Derived.Test.YthkoijgobigdnaaVarint
import Derived.Test.YthkoijgobigdnaaBuf
import Derived.Test.YthkoijgobigdnaaReg
import Derived.Test.YthkoijgobigdnaaQuiet
namespace Go.Proofs.Ythkoijgobigdnaa
open Go.RowKit Go.Sort
set_option maxRecDepth 20000

/-- make([]int, 0, n) -/
theorem wp_makeI0 {ops : Array Oper} {rest : List Oper} {dst : Option Tmp} {a : Act} {Q : Exit → Act → World → Prop} {w : World} {ty : TypeId} {pos : String} {after : Array Edge} {x y : Operand}
    (n : Nat) (hx : a.eval x = .int .i64 0) (hy : a.eval y = .int .i64 n) (hn : n ≤ 100000)
    (h : ∀ W, Own W w.heap.size 3 1 (some ⟨w.heap.size, 0, none⟩) 0 n (([] : List Int).map encI) → Below w.heap.size w W → W.heap.size = w.heap.size + 1 → wpList Try.prog ops Q rest (a.put dst (.slice (some ⟨w.heap.size, 0, none⟩) 0 n)) W) :
    wpList Try.prog ops Q ({ dst := dst, op := .makeSlice 23 x y, type := ty, pos := pos, after := after, guard := none } :: rest) a w := by
  obtain ⟨i0, hi, hz0, hz1, hz2⟩ := info_parts info_int
  refine wp_make _ i0 _ Try.underlying23 hi hz0 hz1 rfl 0 n hx hy (Nat.zero_le _) (by rw [hz2]; omega) (by omega) ?_
  intro W hW
  exact h W ⟨by simp, .inr ⟨w.heap.size, n, _, rfl, Nat.le_refl _, hW, Nat.zero_le _, by simp only [maxLen]; omega, by simp, by simp⟩⟩
/-- append(s, x...) of ints -/
theorem appI {ops : Array Oper} {rest : List Oper} {o : Oper} {a : Act} {Q : Exit → Act → World → Prop} {w : World} (hgd : o.guard = none) (s x : Operand) (ho : o.op = .call { callee := .builtin .append, args := #[s, x], argTypes := #[23, 23] })
    (base : Nat) (b : Option Addr) (n cap : Nat) (l : List Int) (hs : a.eval s = .slice b n cap) (A : Option Addr) (m c : Nat) (k : List Int) (hx : a.eval x = .slice A m c)
    (own : Own w base 3 1 b n cap (l.map encI)) (hr : Ints w A k) (hm : m = k.length) (N : Nat) (hN : N = n + m) (hbig : N ≤ 100000000000) (hbase : base ≤ w.heap.size)
    (h : ∀ b' cap' w', Own w' base 3 1 b' N cap' ((l ++ k).map encI) → Grew base w w' b b' → (∀ W, Below base W w → Below base W w') → wpList Try.prog ops Q rest (a.put o.dst (.slice b' N cap')) w') :
    wpList Try.prog ops Q (o :: rest) a w := by
  obtain ⟨i0, hi, hz0, hz1, hz2⟩ := info_parts info_int
  refine wp_append_row _ hgd s x _ ho base _ i0 _ 1 8 Try.underlying23 hi hz0 hz1 hz2 rfl (by decide) b n cap _ hs A m c hx own (k.map encI) (by simp [hm]) hr (mapI_one _) (by simp only [maxLen]; omega) (by omega) hbase ?_
  intro b' cap' w' own' g
  rw [← hN] at own' ⊢
  rw [← List.map_append] at own'
  exact h b' cap' w' own' g (Grew.step own g)
/-- append(s, x) of one int: it has just been laid in a block of its own -/
theorem app1I {ops : Array Oper} {rest : List Oper} {o : Oper} {a : Act} {Q : Exit → Act → World → Prop} {w : World} (hgd : o.guard = none) (s x : Operand) (ho : o.op = .call { callee := .builtin .append, args := #[s, x], argTypes := #[23, 23] })
    (base : Nat) (b : Option Addr) (n cap : Nat) (l : List Int) (hs : a.eval s = .slice b n cap) (z : Int) (hx : a.eval x = .slice (some ⟨w.heap.size, 0, none⟩) 1 1)
    (own : Own w base 3 1 b n cap (l.map encI)) (N : Nat) (hN : N = n + 1) (hbig : N ≤ 100000000000) (hbase : base ≤ w.heap.size)
    (h : ∀ b' cap' w', Own w' base 3 1 b' N cap' ((l ++ [z]).map encI) → Grew base (w.alloc (.cells #[.int .i64 z] 3)) w' b b' → (∀ W, Below base W w → Below base W w') → wpList Try.prog ops Q rest (a.put o.dst (.slice b' N cap')) w') :
    wpList Try.prog ops Q (o :: rest) a (w.alloc (.cells #[.int .i64 z] 3)) := by
  refine appI hgd s x ho base b n cap l hs _ 1 1 [z] hx (own.alloc _) ?_ rfl N hN hbig (by simp; omega) ?_
  · have := row_new w #[.int .i64 z] 3 (0, 0)
    exact this
  intro b' cap' w' own' g hb
  exact h b' cap' w' own' g (fun W hW => hb W (hW.alloc hbase _))
/-- what numbers hands back -/
def NumR (n : Nat) (A : Option Addr) (b : List UInt8) (w : World) (e : Ending) (w' : World) : Prop :=
  (∃ l r a c ra rn rc, rdN n b = some (l, r) ∧ e = .returned (.tuple #[.slice a n c, .slice ra rn rc, .bool true]) ∧ rn = r.length ∧ rn ≤ rc ∧ Own w' w.heap.size 3 1 a n c (l.map encI) ∧ (∀ w0 : World, Byt w0 A b → Byt w0 ra r) ∧ (ra = none → rn = 0 ∧ rc = 0) ∧ Below w.heap.size w w') ∨
  (rdN n b = none ∧ e = .returned (.tuple #[.slice none 0 0, .slice none 0 0, .bool false]) ∧ Below w.heap.size w w')
theorem msg_numbers (n : Nat) (a : Option Addr) (b : List UInt8) (m c : Nat) (w : World) (hb : Byt w a b) (hm : m = b.length) (hc : m ≤ c) (hl : b.length ≤ 1000000) (hnil : a = none → m = 0 ∧ c = 0) (hn : n ≤ 1000) :
    Calls Try.prog 32 #[.slice a m c, .int .i64 n] w (NumR n a b w) := by
  subst hm
  go_enter Try.func32, Try.ntmps32
  go_wp2_with (first | ((with_reducible refine wp_makeI0 n ?_ ?_ ?_ ?_); (focus rfl); (focus rfl); (focus omega); intro W0 own0 be0 z0))
  go_loopw [14, 0, 7] (fun i v x wr => ∃ (j : Nat) (l : List Int) (r : List UInt8) (ra : Option Addr) (rc : Nat) (xa : Option Addr) (xc : Nat), j ≤ n ∧ i = .int .i64 j ∧ v = .slice ra r.length rc ∧ x = .slice xa j xc ∧ Own wr w.heap.size 3 1 xa j xc (l.map encI) ∧ (∀ w0 : World, Byt w0 a b → Byt w0 ra r) ∧ r.length ≤ rc ∧ r.length ≤ 1000000 ∧ (ra = none → r.length = 0 ∧ rc = 0) ∧ Below w.heap.size w wr ∧ rdN n b = (rdN (n - j) r).map (fun p => (l ++ p.1, p.2))) (fun i _ _ _ => n - (intOf i).toNat)
  case atStart => exact ⟨0, [], b, a, c, _, _, Nat.zero_le _, rfl, rfl, rfl, own0, fun _ h => h, hc, hl, hnil, be0, by simp⟩
  case round =>
    obtain ⟨j, l, r, ra, rc, xa, xc, hj, rfl, rfl, rfl, own, hsub0, hrc, hrl, hrn, hbel, hrd⟩ := hrel
    have br := hsub0 w hb
    have HSUB := Lib.hid hsub0
    clear hsub0
    have HRD := Lib.hid hrd
    clear hrd
    by_cases hlt : j < n
    · obtain ⟨q, hq⟩ : ∃ q, n - j = q + 1 := ⟨n - j - 1, by omega⟩
      cases hv : vDec r with
      | none =>
        have HN : Hid (rdN n b = none) := by
          show _ = _
          rw [HRD.out, hq, rdN_none hv]
          rfl
        have fD : ∀ W, Byt W ra r → Calls Try.prog 41 #[.slice ra r.length rc] W fun e w' => e = .returned (.tuple #[.int .i64 0, .int .i64 0, .int .i64 6]) ∧ W = w' := fun W h => by
          have := varint_Decode ra r r.length rc W h rfl (by omega)
          rw [decV_none hv] at this
          exact this
        clear hq hv
        go_wp2_with (first | (go_at_call 41; (with_reducible refine (fD _ (br.below hbel (Nat.le_refl _))).mono ?_); rintro e w' ⟨rfl, rfl⟩))
        exact bodyPost_ret (v := .tuple #[.slice none 0 0, .slice none 0 0, .bool false]) (by simp [results, Try.results32, go_sem]) rfl (.inr ⟨HN.out, rfl, hbel⟩)
      | some vk =>
        obtain ⟨v, k⟩ := vk
        obtain ⟨o1, o2, o3, o4⟩ := vDec_only hv
        have o5 := vEnc_pos v
        rcases br.open with rfl | ⟨bb, off, rfl, hbl, _⟩
        · simp at o2; omega
        have fD : ∀ W, Byt W (some ⟨bb, off, none⟩) r → Calls Try.prog 41 #[.slice (some ⟨bb, off, none⟩) r.length rc] W fun e w' => e = .returned (.tuple #[.int .i64 v, .int .i64 k, .int .i64 0]) ∧ W = w' := fun W h => by
          have := varint_Decode _ r r.length rc W h rfl (by omega)
          rw [decV_some hv] at this
          exact this
        have HR2 : Hid (rdN n b = (rdN (n - (j + 1)) (r.drop k)).map (fun p => ((l ++ [(v : Int)]) ++ p.1, p.2))) := by
          show _ = _
          rw [HRD.out, hq, rdN_some hv, show n - (j + 1) = q by omega, Option.map_map]
          congr 1
          funext p
          simp
        have HBD := Lib.hid (show ∀ w0 : World, Byt w0 a b → Byt w0 (some ⟨bb, off + k, none⟩) (r.drop k) from fun w0 h0 => (HSUB.out w0 h0).drop k)
        have hk : k ≤ r.length := o2
        have ld : (r.drop k).length = r.length - k := List.length_drop
        clear hq hv o3 o4 o5 o2
        go_wp2_with (first | (go_at_call 41; (with_reducible refine (fD _ (br.below hbel (Nat.le_refl _))).mono ?_); rintro e w' ⟨rfl, rfl⟩) | (at_builtin; refine app1I rfl _ _ rfl w.heap.size _ _ xc l rfl (v : Int) rfl own (j + 1) rfl (by omega) hbel.size ?_; intro xb xc' w1 own1 g1 bl1; (have hb1 := bl1 w hbel)))
        go_roundw
        case rel =>
          refine ⟨j + 1, l ++ [(v : Int)], r.drop k, (if rc = k then some ⟨bb, off, none⟩ else some ⟨bb, off + k, none⟩), rc - k, xb, xc', by omega, by go_num, by rw [ld], rfl, own1, ?_, by omega, by omega, ?_, hb1, HR2.out⟩
          · intro w0 h0
            split
            · rw [List.drop_eq_nil_of_le (by omega)]; exact Byt.nil _ _
            · exact HBD.out w0 h0
          · intro h
            split at h <;> cases h
        case measure => simp [intOf]; omega
    · have hjn : j = n := by omega
      have HN : Hid (rdN n b = some (l, r)) := by
        show _ = _
        rw [HRD.out, hjn, Nat.sub_self, rdN]
        simp
      subst hjn
      go_wp2
      exact bodyPost_ret (v := .tuple #[.slice xa j xc, .slice ra r.length rc, .bool true]) (by simp [results, Try.results32, go_sem]) rfl (.inl ⟨l, r, xa, xc, ra, _, rc, HN.out, rfl, rfl, hrc, own, HSUB.out, hrn, hbel⟩)
end Go.Proofs.Ythkoijgobigdnaa
