/- token.clone -/
import Derived.Test.YtgngmmmdhhjbhaaTkRef
import Derived.Test.YtgngmmmdhhjbhaaClone
import Derived.WalkSpells
namespace Go.Proofs.Ytgngmmmdhhjbhaa
set_option linter.unusedVariables false
open Go.RowKit Go.Sort
set_option maxRecDepth 100000

/-- append of tokens onto an owned row -/
theorem appTk {ops : Array Oper} {rest : List Oper} {o : Oper} {a : Act} {Q : Exit → Act → World → Prop} {w : World} (hgd : o.guard = none) (s x : Operand) (ho : o.op = .call { callee := .builtin .append, args := #[s, x], argTypes := #[22, 22] })
    (base : Nat) (b : Option Addr) (n cap : Nat) (k : List Tk) (hs : a.eval s = .slice b n cap) (A : Option Addr) (m c : Nat) (l : List Tk) (hx : a.eval x = .slice A m c) (own : Own w base 52 6 b n cap (tkCells k)) (hr : Row w A (tkCells l)) (hm : m = l.length) (hbase : base ≤ w.heap.size) (hbig : n + m ≤ 1000000)
    (h : ∀ b' cap' w', Own w' base 52 6 b' (n + m) cap' (tkCells (k ++ l)) → Grew base w w' b b' → wpList Try.prog ops Q rest (a.put o.dst (.slice b' (n + m) cap')) w') : wpList Try.prog ops Q (o :: rest) a w := by
  obtain ⟨i0, hi, hz0, hz1, hz2⟩ := info_parts info_tok
  refine wp_append_row _ hgd s x _ ho base _ i0 _ 6 64 Try.underlying22 hi hz0 hz1 hz2 rfl (by decide) b n cap _ hs A m c hx own (tkCells l) (by rw [tkCells_len, hm]) hr (tkCells_one l) (by simp only [maxLen]; omega) (by omega) hbase ?_
  intro b' cap' w' own' g
  exact h b' cap' w' (by rw [tkCells_append]; exact own') g
theorem clone_Tk (a : Option Addr) (n c : Nat) (l : List Tk) (w : World) (hb : Row w a (tkCells l)) (hn : n = l.length) (hl : n ≤ 100000) (ha : a = none → c = 0) :
    Calls Try.prog 63 #[.slice a n c] w fun e w' => ∃ (a' : Option Addr) (c' : Nat), e = .returned (.slice a' n c') ∧ Own w' w.heap.size 52 6 a' n c' (tkCells l) ∧ Below w.heap.size w w' := by
  have HN := Lib.hid hn
  clear hn
  have hnil := fun (w : World) (a : Option Addr) (n c : Nat) => Lib.run_eql_slice_nil (P := Try.prog) w 22 52 a n c 0 0 Try.underlying22
  cases a with
  | none =>
    obtain rfl := ha rfl
    have h0 := hb.of_none
    have hl0 : l = [] := by
      have := tkCells_len l
      rw [h0] at this
      exact List.eq_nil_of_length_eq_zero (by simp at this; omega)
    subst hl0
    obtain rfl : n = 0 := HN.out
    go_enter Try.func63, Try.ntmps63
    go_wp2
    go_ret
    exact ⟨none, 0, rfl, Own.nil _ _ _ _, Below.refl _ _⟩
  | some ad =>
    go_enter Try.func63, Try.ntmps63
    go_wp2_with ((at_builtin; refine appTk rfl _ _ rfl w.heap.size (some ⟨w.heap.size, 0, none⟩) 0 0 [] rfl (some ad) n c l rfl (own_made _ #[] _ 6 0 rfl (by simp [maxLen])) (hb.alloc _) HN.out (by simp) (by omega) ?_; intro b' cap' w3 own3 g3; rw [Nat.zero_add] at own3 ⊢))
    go_ret
    exact ⟨_, _, rfl, by simpa using own3, Grew.below (Below.alloc (Below.refl _ _) (Nat.le_refl _) _) g3 (fun k hk => by simp at hk; omega)⟩
theorem tkCells_set1 : ∀ (l : List Tk) (j : Nat) (h : j < l.length) (y : Tk) (c : Nat) (v : Value) (_ : c < 6) (_ : y.cells = l[j].cells.set c v), tkCells (l.set j y) = (tkCells l).set (j * 6 + c) v
  | p :: l, 0, _, y, c, v, hc, e => by
    simp only [tkCells, List.set_cons_zero, List.flatMap_cons, List.getElem_cons_zero] at e ⊢
    rw [e, Nat.zero_mul, Nat.zero_add, List.set_append_left _ _ (by simp [Tk.cells]; omega)]
  | p :: l, j + 1, h, y, c, v, hc, e => by
    have := tkCells_set1 l j (by simpa using h) y c v hc (by simpa using e)
    simp only [tkCells, List.flatMap_cons, List.set_cons_succ] at this ⊢
    rw [this, List.set_append_right _ _ (by simp [Tk.cells]; omega)]
    congr 2
    simp [Tk.cells]
    omega
/-- what the functions that copy ask of each token -/
def SecOk (t : Tk) : Prop := (t.a = none → t.sec.length = 0 ∧ t.c = 0) ∧ t.sec.length ≤ 100000
theorem mid_set {α : Type} (l2 r : List α) (x y : α) : (l2 ++ x :: r).set l2.length y = l2 ++ [y] ++ r := by simp
set_option maxHeartbeats 4000000 in
theorem token_clone (a : Option Addr) (l : List Tk) (n c : Nat) (w : World) (h : Tks w a l) (hn : n = l.length) (l9 : n ≤ 1000) (hnil : a = none → c = 0) (hl : ∀ t ∈ l, SecOk t) :
    Calls Try.prog 47 #[.slice a n c] w (TkCopyR l n w) := by
  have HN := Lib.hid hn
  clear hn
  go_enter Try.func47, Try.ntmps47
  go_upto_region 2 with ((go_at_call 63; (with_reducible refine (clone_Tk a n c l _ h.row HN.out (by omega) hnil).mono ?_); rintro e w2 ⟨xa, xc, rfl, own, hb⟩))
  go_wp2_with fail
  go_loopw [9] (fun s9 wr => ∃ (i : Nat) (l2 : List Tk), s9 = .int .i64 i ∧ i ≤ n ∧ Hid (l2.length = i) ∧ Hid (l2.map Tk.key = (l.take i).map Tk.key) ∧ Own wr w.heap.size 52 6 xa n xc (tkCells (l2 ++ l.drop i)) ∧ (∀ t ∈ l2, Own wr w.heap.size 5 1 t.a t.sec.length t.c (t.sec.map encB)) ∧ RowKit.Below w.heap.size w wr) (fun s _ => n - (intOf s).toNat)
  case atStart => exact ⟨0, [], rfl, by omega, Lib.hid rfl, Lib.hid rfl, by simpa using own, by simp, hb⟩
  case round =>
    clear own hb
    obtain ⟨i, l2, rfl, hi, h2, hk, own, secs, be⟩ := hrel
    by_cases hlt : i < n
    · have hil : i < l.length := by rw [← HN.out]; exact hlt
      have kx : (i : Int) < (n : Int) := by omega
      have hdr : l.drop i = l[i] :: l.drop (i + 1) := List.drop_eq_getElem_cons hil
      have hsec := (h.below be (Nat.le_refl _)).sec _ (List.getElem_mem hil)
      have hok := hl _ (List.getElem_mem hil)
      have HTK := Lib.hid (show (l.take (i + 1)).map Tk.key = (l.take i).map Tk.key ++ [l[i].key] by rw [← List.take_append_getElem hil, List.map_append]; rfl)
      obtain ⟨x, hx⟩ : ∃ x, l[i] = x := ⟨_, rfl⟩
      rw [hx] at hdr hsec hok HTK
      rw [hdr] at own
      clear hx hdr
      obtain ⟨g, rfl, gB, -⟩ := own.open_ (by omega)
      have hi2 : i < (l2 ++ x :: l.drop (i + 1)).length := by rw [List.length_append, h2.out]; simp
      have hxi : (l2 ++ x :: l.drop (i + 1))[i] = x := by
        have e := h2.out
        rw [List.getElem_append_right (by omega)]
        simp [e]
      obtain ⟨-, x1, -, -, -, -, xl⟩ := row_tok own.row i hi2
      rw [hxi] at x1
      simp only [Nat.zero_add] at x1
      obtain ⟨us, sec, par, rt, cl, un, la, lc⟩ := x
      obtain ⟨hok1, hok2⟩ := hok
      simp only at x1 hsec hok1 hok2
      have HXI := Lib.hid hxi
      have HOWN := Lib.hid own
      have HI2 := Lib.hid hi2
      clear hxi own
      go_wp2_with ((go_at_call 48; (with_reducible refine (clone_E la sec.length lc sec _ hsec rfl (by omega) hok1).mono ?_); rintro e w4 ⟨ob, oc, rfl, ownO, hb4⟩; ((have own4 := HOWN.out.keep (w' := w4) fun b _ _ hl => hb4.block b hl); (obtain ⟨-, z1, -, -, -, -, zl⟩ := row_tok own4.row i HI2.out); (simp only [Nat.zero_add] at z1); (have zf := own4.frozen))))
      have e := h2.out
      have ownS := own4.set (i * 6 + 1) (.slice ob sec.length oc)
      rw [← tkCells_set1 _ i HI2.out ⟨us, sec, par, rt, cl, un, ob, oc⟩ 1 (.slice ob sec.length oc) (by decide) (by rw [HXI.out]; rfl)] at ownS
      have hset : (l2 ++ ⟨us, sec, par, rt, cl, un, la, lc⟩ :: l.drop (i + 1)).set i ⟨us, sec, par, rt, cl, un, ob, oc⟩ = l2 ++ [⟨us, sec, par, rt, cl, un, ob, oc⟩] ++ l.drop (i + 1) := by rw [← e]; exact mid_set _ _ _ _
      rw [hset] at ownS
      have far : ∀ {m cap : Nat} {b : Option Addr} {xs : List Value}, Own w4 w.heap.size 5 1 b m cap xs → Own (w4.setCell ⟨g, i * 6 + 1, none⟩ (.slice ob sec.length oc)) w.heap.size 5 1 b m cap xs := fun o => o.far (p := ⟨g, _, none⟩) (fun q => own4.apart3 o (by decide) g rfl q) _
      have be4 : RowKit.Below w.heap.size w w4 := (by repeat (first | (with_reducible refine Below.setCell ?_ ?_ _) | (with_reducible refine Below.alloc ?_ ?_ _) | (with_reducible refine Below.drew ?_) | (with_reducible refine below_drewN ?_ _) | (with_reducible exact Below.refl _ _) | (with_reducible refine Below.trans ?_ (Below.mono hb4 ?_)) | (with_reducible refine Below.trans ?_ (Below.mono be ?_)) | (focus (simp; done)) | (focus (simp; omega)) | (focus omega) | (focus (have q0 := Below.size hb4; (try simp at q0); have q1 := Below.size be; (try simp at q1); (try simp); omega))))
      go_roundw
      case rel => exact ⟨i + 1, l2 ++ [⟨us, sec, par, rt, cl, un, ob, oc⟩], by go_num, by omega, Lib.hid (by simp [e]), Lib.hid (by rw [List.map_append, hk.out, HTK.out]; rfl), ownS, fun t ht => by
        rcases List.mem_append.1 ht with q | q
        · exact far ((secs t q).keep fun b _ _ hl => hb4.block b hl)
        · rw [List.mem_singleton.1 q]; exact far (ownO.mono be.size), be4.grown (grownBy_set _ g _ _) be4.size (fun k hk => by injection hk with hk; omega)⟩
      case measure => simp [intOf]; omega
    · obtain rfl : i = n := by omega
      have HD : Hid (l.drop i = []) := Lib.hid (List.drop_of_length_le (by rw [← HN.out]; omega))
      rw [HD.out, List.append_nil] at own
      go_wp2_with fail
      go_ret
      exact ⟨xa, xc, l2, rfl, Lib.hid (by rw [hk.out, HN.out, List.take_length]), Lib.hid h2.out.symm, ⟨by rw [h2.out]; exact own, secs⟩, be⟩
end Go.Proofs.Ytgngmmmdhhjbhaa
