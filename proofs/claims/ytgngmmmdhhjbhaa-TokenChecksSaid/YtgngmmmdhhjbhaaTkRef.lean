/- signalbrokerref14.Copy -/
import Derived.Test.YtgngmmmdhhjbhaaTok
import Derived.Test.YtgngmmmdhhjbhaaApp
import Derived.Test.YtgngmmmdhhjbhaaStr
namespace Go.Proofs.Ytgngmmmdhhjbhaa
set_option linter.unusedVariables false
open Go.RowKit Go.Sort
set_option maxRecDepth 100000

def TkCopyR (l : List Tk) (n : Nat) (w : World) (e : Ending) (w' : World) : Prop :=
  ∃ (xa : Option Addr) (xc : Nat) (l2 : List Tk), e = .returned (.slice xa n xc) ∧ Hid (l2.map Tk.key = l.map Tk.key) ∧ Hid (n = l2.length) ∧ TkL w' w.heap.size l2 xa xc ∧ Below w.heap.size w w'
theorem appB0 {ops : Array Oper} {rest : List Oper} {o : Oper} {a : Act} {Q : Exit → Act → World → Prop} {w : World} (hgd : o.guard = none) (s x : Operand) (ho : o.op = .call { callee := .builtin .append, args := #[s, x], argTypes := #[24, 24] })
    (A : Option Addr) (m c : Nat) (k : List UInt8) (hs : a.eval s = .slice none 0 0) (hx : a.eval x = .slice A m c) (hr : Byt w A k) (hm : m = k.length) (hbig : m ≤ 100000000000)
    (h : ∀ b' cap' w', Own w' w.heap.size 5 1 b' m cap' (k.map encB) → Below w.heap.size w w' → wpList Try.prog ops Q rest (a.put o.dst (.slice b' m cap')) w') : wpList Try.prog ops Q (o :: rest) a w := by
  refine appB hgd s x ho w.heap.size none 0 0 [] hs A m c k hx (Own.nil _ _ _ _) hr hm m (by omega) hbig (Nat.le_refl _) ?_
  intro b' cap' w' own' g bl
  rw [List.nil_append] at own'
  exact h b' cap' w' own' (bl _ (Below.refl _ _))
set_option maxHeartbeats 4000000 in
theorem ref14_Copy (a : Option Addr) (l : List Tk) (n c : Nat) (w : World) (h : Tks w a l) (hn : n = l.length) (l9 : n ≤ 100000) (hl : ∀ r ∈ l, r.sec.length ≤ 100000) :
    Calls Try.prog 41 #[.slice a n c] w (TkCopyR l n w) := by
  subst hn
  go_enter Try.func41, Try.ntmps41
  go_wp2
  go_loopw [3, 8] (fun s3 s8 wr => ∃ (i : Nat) (xa : Option Addr) (xc : Nat) (l2 : List Tk), s3 = .slice xa i xc ∧ s8 = .int .i64 i ∧ i ≤ l.length ∧ l2.length = i ∧ l2.map Tk.key = (l.take i).map Tk.key ∧ TkL wr w.heap.size l2 xa xc ∧ RowKit.Below w.heap.size w wr) (fun _ s _ => l.length - (intOf s).toNat)
  case atStart => exact ⟨0, none, 0, [], rfl, rfl, by omega, rfl, rfl, TkL.nil _ _, (by repeat (first | (with_reducible refine Below.setCell ?_ ?_ _) | (with_reducible refine Below.alloc ?_ ?_ _) | (with_reducible refine Below.drew ?_) | (with_reducible refine below_drewN ?_ _) | (with_reducible exact Below.refl _ _) | (focus (simp; done)) | (focus (simp; omega)) | (focus omega)))⟩
  case round =>
    obtain ⟨i, xa, xc, l2, rfl, rfl, hi, hl2, hk, il, be⟩ := hrel
    have HL2 := Lib.hid hl2
    have HK := Lib.hid hk
    clear hl2 hk
    by_cases hlt : i < l.length
    · obtain ⟨ba, oa, rfl⟩ := h.open (by omega)
      have hr := h.below be (Nat.le_refl _)
      obtain ⟨x0, x1, x2, x3, x4, x5, xb⟩ := row_tok hr.row i hlt
      have hg := hr.sec _ (List.getElem_mem hlt)
      have hgl := hl _ (List.getElem_mem hlt)
      have HX := Lib.hid (show (l.take (i + 1)).map Tk.key = (l.take i).map Tk.key ++ [l[i].key] by rw [← List.take_append_getElem hlt, List.map_append]; rfl)
      obtain ⟨x, hx⟩ : ∃ x, l[i] = x := ⟨_, rfl⟩
      rw [hx] at x0 x1 x2 x3 x4 x5 hg hgl HX
      clear hx hr
      obtain ⟨us, sec, par, rt, cl, un, la, lc⟩ := x
      simp only at x0 x1 x2 x3 x4 x5 hg hgl
      have kx : (i : Int) < (l.length : Int) := by omega
      have hbw := be.size
      go_upto_region 5 with fail
      obtain ⟨V, hV⟩ : ∃ V, wr.heap.size = V := ⟨_, rfl⟩
      refine wp_named (fun Y => Blk Y V 52 #[.bool us, .slice la sec.length lc, .int .i64 par, .int .i64 rt, .int .i64 cl, .int .i64 un] ∧ Byt Y la sec ∧ TkL Y w.heap.size l2 xa xc ∧ RowKit.Below w.heap.size w Y ∧ V + 1 ≤ Y.heap.size) ⟨by rw [← hV]; exact Blk.new _ _ _, Row.alloc hg _, il.alloc _, (by repeat (first | (with_reducible refine Below.setCell ?_ ?_ _) | (with_reducible refine Below.alloc ?_ ?_ _) | (with_reducible refine Below.drew ?_) | (with_reducible refine below_drewN ?_ _) | (with_reducible exact Below.refl _ _) | (with_reducible refine Below.trans ?_ (Below.mono be ?_)) | (focus (simp; done)) | (focus (simp; omega)) | (focus omega) | (focus (have q0 := Below.size be; (try simp at q0); (try simp); omega)))), by rw [← hV]; simp⟩ ?_
      have hVw : w.heap.size ≤ V := by omega
      have hVx : ∀ q, xa.map (·.block) = some q → q < V := by rw [← hV]; exact il.own.lt'
      rw [hV]
      clear hV il be x0 x1 x2 x3 x4 x5 xb hg hbw
      rintro Y ⟨kV, hg, il, be, hYz⟩
      obtain ⟨v0, v1, v2, v3, v4, v5, vf, vl⟩ := kV.six
      go_upto_region 6 with ((at_builtin; refine appB0 rfl _ _ rfl la sec.length lc sec rfl rfl hg rfl (by omega) ?_; intro ob oc w4 ownO hb4; (have kV4 := kV.below hb4 vl); clear v0 v1 v2 v3 v4 v5 vf; (obtain ⟨v0, v1, v2, v3, v4, v5, vf, vl4⟩ := kV4.six)))
      have il4 := il.below hb4
      have far : ∀ {n cap : Nat} {b : Option Addr} {xs : List Value}, Own w4 w.heap.size 5 1 b n cap xs → Own (w4.setCell ⟨V, 1, none⟩ (.slice ob sec.length oc)) w.heap.size 5 1 b n cap xs := fun o => o.far (p := ⟨V, 1, none⟩) (fun e => by
          rcases o.2 with ⟨hv, _⟩ | ⟨g', c', cur, hv, _, hh, _⟩
          · injection hv with ha _ _
            rw [ha] at e
            cases e
          · injection hv with ha _ _
            rw [ha] at e
            injection e with e
            simp only at e
            subst e
            unfold Blk at kV4
            rw [hh] at kV4
            injection kV4 with k
            injection k with _ ht
            exact absurd ht (by decide)) _
      refine wp_named (fun U => Blk U V 52 #[.bool us, .slice ob sec.length oc, .int .i64 par, .int .i64 rt, .int .i64 cl, .int .i64 un] ∧ Own U w.heap.size 5 1 ob sec.length oc (sec.map encB) ∧ TkL U w.heap.size l2 xa xc ∧ RowKit.Below w.heap.size w U ∧ V + 1 ≤ U.heap.size) ⟨kV4.set 1 _, far (ownO.mono be.size), ⟨il4.own.far (p := ⟨V, 1, none⟩) (fun e => by have := hVx _ e; simp only at this; omega) _, fun r hr => far (il4.sec r hr)⟩, (by repeat (first | (with_reducible refine Below.setCell ?_ ?_ _) | (with_reducible refine Below.alloc ?_ ?_ _) | (with_reducible refine Below.drew ?_) | (with_reducible refine below_drewN ?_ _) | (with_reducible exact Below.refl _ _) | (with_reducible refine Below.trans ?_ (Below.mono hb4 ?_)) | (with_reducible refine Below.trans ?_ (Below.mono be ?_)) | (focus (simp; done)) | (focus (simp; omega)) | (focus omega) | (focus (have q0 := Below.size hb4; (try simp at q0); have q1 := Below.size be; (try simp at q1); (try simp); omega)))), by have := hb4.size; simp [World.setCell]; omega⟩ ?_
      clear kV hg il be ownO il4 kV4 v0 v1 v2 v3 v4 v5 vf vl vl4 hb4 far
      rintro U ⟨kV, ownO, il, be, hUz⟩
      obtain ⟨v0, v1, v2, v3, v4, v5, vf, vl⟩ := kV.six
      go_wp2_with ((at_builtin; refine app1Tk rfl _ _ rfl w.heap.size xa i xc l2 rfl HL2.out.symm ⟨us, sec, par, rt, cl, un, ob, oc⟩ U.heap.size rfl (Blk.new _ _ _) (il.alloc _) (by simp; omega) (ownO.alloc _) (by omega) ?_; intro xb xd w5 il5 g5 bl5))
      have be5 := bl5 _ (be.alloc (by omega) _)
      go_roundw
      case rel => exact ⟨i + 1, xb, xd, _, rfl, by go_num, by omega, by simp; exact HL2.out, by rw [List.map_append, HK.out, HX.out]; rfl, il5, be5⟩
      case measure => simp [intOf]; omega
    · obtain rfl : i = l.length := by omega
      go_wp2_with fail
      go_ret
      exact ⟨xa, xc, l2, rfl, Lib.hid (by rw [HK.out, List.take_length]), Lib.hid HL2.out.symm, il, be⟩
theorem tkey_at {l1 l2 : List Tk} (h : l1.map Tk.key = l2.map Tk.key) {i : Nat} (h1 : i < l1.length) (h2 : i < l2.length) : l1[i].key = l2[i].key := by
  have := congrArg (fun l : List TkK => l[i]?) h
  simpa [h1, h2] using this
end Go.Proofs.Ytgngmmmdhhjbhaa
