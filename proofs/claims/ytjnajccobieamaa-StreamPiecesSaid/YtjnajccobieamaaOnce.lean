/- law 04: StreamOnce -/
import Derived.Test.YtjnajccobieamaaAwake
namespace Go.Proofs.Ytjnajccobieamaa
set_option linter.unusedVariables false
open Go.RowKit Go.Sort
set_option maxRecDepth 100000

theorem Own.none_len {w : World} {base : Nat} {e : TypeId} {size n cap : Nat} {a : Option Addr} {xs : List Value} (h : Own w base e size a n cap xs) (ha : a = none) : n = 0 ∧ cap = 0 := by
  subst ha
  rcases h.2 with ⟨hv, h0⟩ | ⟨g, c, cur, hv, _⟩
  · injection hv with _ _ h3
    exact ⟨h0, h3⟩
  · injection hv with h1 _ _; cases h1
theorem isRow_nil {k : IntKind} {w : World} {a : Option Addr} {len cap : Nat} {zs : List Int} (h : IsRow k w a len cap zs) : a = none → len = 0 ∧ cap = 0 := by
  rcases h with ⟨_, h1, h2, _⟩ | ⟨x, rfl, _⟩
  · exact fun _ => ⟨h1, h2⟩
  · intro q; cases q
theorem tRun_len (lim : Nat) (l : List UInt8) : ∀ st : TS, st.keys.length ≤ lim → (tRun lim l st).keys.length ≤ lim := by
  intro st
  induction st using (tRun.induct lim l) with
  | case1 st h ih =>
    intro _
    rw [tRun_go h]
    refine ih ?_
    have := h.1
    rcases tStep_keys st (fParse (l.drop st.used)) with e | e <;> rw [e]
    · omega
    · simp; omega
  | case2 st h => intro h1; rw [tRun_stop h]; exact h1
theorem allK_len (l : List UInt8) : (allK l).length ≤ l.length + 1 := tRun_len _ l _ (by simp)
/-! the plain law -/
def badC (c : Int) : Bool := c == 2 || c == 7 || c == 4
def lastD (d : Bool) : List Key → Bool
  | [] => d
  | k :: ks => lastD (badC k.1) ks
def okK (d : Bool) : List Key → Prop
  | [] => True
  | k :: ks => ¬ (d = true ∧ k.1 = 2) ∧ okK (badC k.1) ks
theorem lastD_snoc (ks : List Key) (k : Key) : ∀ d, lastD d (ks ++ [k]) = badC k.1 := by
  induction ks with
  | nil => intro d; rfl
  | cons x ks ih => intro d; exact ih _
theorem okK_snoc (ks : List Key) (k : Key) : ∀ d, okK d (ks ++ [k]) ↔ okK d ks ∧ ¬ (lastD d ks = true ∧ k.1 = 2) := by
  induction ks with
  | nil => intro d; simp [okK, lastD]
  | cons x ks ih => intro d; rw [List.cons_append, okK, okK, lastD, ih]; simp only [and_assoc]
theorem okK_at {ks : List Key} : ∀ {d : Bool}, okK d ks → ∀ i (h : i < ks.length), ¬ (lastD d (ks.take i) = true ∧ (ks[i]).1 = 2) := by
  induction ks with
  | nil => intro d _ i h; simp at h
  | cons x ks ih =>
    intro d h i hi
    cases i with
    | zero => exact h.1
    | succ i => simp only [List.take_succ_cons, lastD, List.getElem_cons_succ]; exact ih h.2 i (by simpa using hi)
theorem tRun_once (lim : Nat) (l : List UInt8) : ∀ st : TS, okK false st.keys → lastD false st.keys = st.garb → okK false (tRun lim l st).keys ∧ lastD false (tRun lim l st).keys = (tRun lim l st).garb := by
  intro st
  induction st using (tRun.induct lim l) with
  | case1 st h ih =>
    intro h1 h2
    rw [tRun_go h]
    refine ih ?_ ?_
    · unfold tStep
      split
      · cases hg : st.garb
        · rw [if_neg (by simp), okK_snoc]; exact ⟨h1, by rw [h2, hg]; simp⟩
        · rw [if_pos rfl]; exact h1
      · rw [okK_snoc]; exact ⟨h1, by simp only [PR.key]; rename_i hc; exact fun q => hc q.2⟩
    · unfold tStep
      split
      · rename_i hc
        cases hg : st.garb
        · rw [if_neg (by simp), lastD_snoc]; simp [PR.key, badC, hc]
        · rw [if_pos rfl, h2, hg]
      · rename_i hc
        rw [lastD_snoc]
        simp only [PR.key, badC]
        rw [Bool.eq_iff_iff]
        simp
        omega
  | case2 st h => intro h1 h2; rw [tRun_stop h]; exact ⟨h1, h2⟩
theorem allK_once (l : List UInt8) : okK false (allK l) := (tRun_once _ l ⟨0, false, []⟩ trivial rfl).1

set_option maxHeartbeats 4000000 in
theorem streamOnce_walk (a0 : Option Addr) (c0 : Nat) (l0 : List UInt8) (a1 : Option Addr) (c1 : Nat) (l1 : List Int) (w : World) (h0 : Byt w a0 l0) (n0 : l0.length ≤ 9223372036854775807) (k0 : l0.length ≤ c0) (x0 : a0 = none → l0.length = 0 ∧ c0 = 0) (h1 : Ints w a1 l1) (n1 : l1.length ≤ 9223372036854775807) :
    Calls Try.prog 4 #[.slice a0 l0.length c0, .slice a1 l1.length c1] w fun e w' => e = .returned (.bool true) ∧ Below w.heap.size w w' := by
  by_cases hs : l0.length ≤ 400
  case neg =>
    have hs' : decide (400 < l0.length) = true := decide_eq_true (by omega)
    have hs2 : (400 : Int) < (l0.length : Int) := by omega
    clear hs
    go_enter Try.func4, Try.ntmps4
    go_wp2_with ((go_at_call 16; (with_reducible refine (awake_yes _).mono ?_); rintro e w20 ⟨rfl, hb20⟩))
    go_ret
    exact ⟨rfl, (by repeat (first | (with_reducible refine Below.setCell ?_ ?_ _) | (with_reducible refine Below.alloc ?_ ?_ _) | (with_reducible refine Below.drew ?_) | (with_reducible refine below_drewN ?_ _) | (with_reducible exact Below.refl _ _) | (with_reducible refine Below.trans ?_ (Below.mono hb20 ?_)) | (focus (simp; done)) | (focus (simp; omega)) | (focus omega) | (focus (have q0 := Below.size hb20; (try simp at q0); (try simp); omega))))⟩
  have hs' : decide (400 < l0.length) = false := decide_eq_false (by omega)
  have hs2 : ¬ (400 : Int) < (l0.length : Int) := by omega
  go_enter Try.func4, Try.ntmps4
  go_upto_region 4 with (first | (go_at_call 9; (with_reducible refine (mk_New a1 c1 l1 _ h1 n1).mono ?_); rintro e w1 ⟨rfl, hd1, hb1⟩) | (go_at_call 17; (with_reducible refine (law_line _ 12 _ _ _ 12 rfl (by omega) (by omega) hd1).mono ?_); rintro e w2 ⟨ll, k2, la, lc, rfl, hll, own2, hd2, g2⟩; (have be2 : RowKit.Below w.heap.size w w2 := hb1.grown g2 (by have := hb1.size; omega) (fun k hk => by injection hk with hk; omega))))
  have cp2 := own2.cap_le
  have hll' : ll.length ≤ 360 := by omega
  refine wp_named (fun W => (∀ i : Nat, i < 2 → ∃ (xa : Option Addr) (xl : List UInt8) (xc : Nat), W.cell? ⟨w2.heap.size, i, none⟩ = some (.slice xa xl.length xc) ∧ Byt W xa xl ∧ xl.length ≤ 400 ∧ xl.length ≤ xc ∧ (xa = none → xl.length = 0 ∧ xc = 0)) ∧ w2.heap.size < W.heap.size ∧ RowKit.Below w.heap.size w W) ⟨?_, by simp, (by repeat (first | (with_reducible refine Below.setCell ?_ ?_ _) | (with_reducible refine Below.alloc ?_ ?_ _) | (with_reducible refine Below.drew ?_) | (with_reducible refine below_drewN ?_ _) | (with_reducible exact Below.refl _ _) | (with_reducible refine Below.trans ?_ (Below.mono be2 ?_)) | (focus (simp; done)) | (focus (simp; omega)) | (focus omega) | (focus (have q0 := Below.size be2; (try simp at q0); (try simp); omega))))⟩ ?_
  · intro i hi
    have kk := Blk.new w2 25 #[.slice a0 l0.length c0, .slice la ll.length lc]
    have hi' : i = 0 ∨ i = 1 := by omega
    rcases hi' with rfl | rfl
    · exact ⟨a0, l0, c0, kk.cell 0, (h0.below be2 (Nat.le_refl _)).alloc _, by omega, k0, x0⟩
    · exact ⟨la, ll, lc, kk.cell 1, own2.byt.alloc _, by omega, cp2, fun h => own2.none_len h⟩
  rintro W ⟨hx, lB, be⟩
  have HX := Lib.hid hx
  clear hx own2 hd2 hd1 hb1 g2 be2 h0 h1 x0
  go_loopw [20] (fun i wr => ∃ k : Nat, k ≤ 2 ∧ i = .int .i64 k ∧ RowKit.Below W.heap.size W wr) (fun i _ => 2 - (intOf i).toNat)
  case atStart => exact ⟨0, by omega, rfl, RowKit.Below.refl _ _⟩
  case round =>
    obtain ⟨k, hk, rfl, hbr⟩ := hrel
    by_cases hlt : k < 2
    · have hi : (k : Int) < 2 := by omega
      obtain ⟨xa, xl, xc, hc, hxb, hxl, hxc, hxn⟩ := HX.out k hlt
      have hcr : wr.cell? ⟨w2.heap.size, k, none⟩ = some (.slice xa xl.length xc) := by rw [(bcell hbr).1 _ _ lB]; exact hc
      have hxr := hxb.below hbr (Nat.le_refl _)
      clear hc hxb
      go_wp2_with ((go_at_call 15; (with_reducible refine (stream_All xa xl _ xc _ hxr rfl hxc (by omega) hxn).mono ?_); rintro e w5 ⟨its, ia, ic, rfl, hkeys, hits, hb5⟩))
      have hil : its.length ≤ 401 := by have := congrArg List.length hkeys; have h2 := allK_len xl; rw [List.length_map] at this; omega
      have HK := Lib.hid hkeys
      have HO := Lib.hid (allK_once xl)
      clear hkeys
      go_loopw [27, 7] (fun i d wy => ∃ j : Nat, j ≤ its.length ∧ i = .int .i64 j ∧ d = .bool (lastD false ((its.map It.key).take j)) ∧ RowKit.Below w5.heap.size w5 wy) (fun i _ _ => its.length - (intOf i).toNat)
      case atStart => exact ⟨0, by omega, rfl, rfl, RowKit.Below.refl _ _⟩
      case round =>
        obtain ⟨j, hj, rfl, rfl, hby⟩ := hrel
        by_cases hjl : j < its.length
        · obtain ⟨b, off, rfl⟩ := hits.open (by omega)
          have im := hits.below hby (Nat.le_refl _)
          obtain ⟨y0, y1, y2, yb⟩ := row_item im.1 j hjl
          have hij : (j : Int) < (its.length : Int) := by omega
          obtain ⟨D, hD⟩ : ∃ D, lastD false ((its.map It.key).take j) = D := ⟨_, rfl⟩
          obtain ⟨x, hx⟩ : ∃ x, its[j] = x := ⟨_, rfl⟩
          have hno : ¬ (D = true ∧ x.code = 2) := by
            have := okK_at (ks := its.map It.key) (by rw [HK.out]; exact HO.out) j (by simpa using hjl)
            rw [hD] at this
            simpa [hx, It.key] using this
          have hnext : lastD false ((its.map It.key).take (j + 1)) = badC x.code := by
            rw [List.take_succ_eq_append_getElem (by simpa using hjl), lastD_snoc]
            simp [hx, It.key]
          rw [hx] at y0 y1 y2
          rw [hD]
          have HN := Lib.hid hnext
          obtain ⟨cd, hcd⟩ : ∃ cd, x.code = cd := ⟨_, rfl⟩
          obtain ⟨kd, hkd⟩ : ∃ kd, x.kind = kd := ⟨_, rfl⟩
          obtain ⟨py, hpy⟩ : ∃ py, x.pay = py := ⟨_, rfl⟩
          rw [hcd] at y0 hno
          rw [hkd] at y1
          rw [hpy] at y2
          have HCD := Lib.hid hcd
          clear hD hx hnext hcd hkd hpy im
          have hcases : (cd == 2) = false ∧ (cd == 7) = false ∧ (cd == 4) = false ∧ badC cd = false ∨ cd = 7 ∨ cd = 4 ∨ (cd = 2 ∧ D = false) := by
            by_cases e2 : cd = 2
            · right; right; right; exact ⟨e2, by cases D; rfl; exact absurd ⟨rfl, e2⟩ hno⟩
            · by_cases e7 : cd = 7
              · exact .inr (.inl e7)
              · by_cases e4 : cd = 4
                · exact .inr (.inr (.inl e4))
                · left; simp [badC, e2, e7, e4]
          clear hno
          rcases hcases with ⟨e2, e7, e4, eb⟩ | rfl | rfl | ⟨rfl, rfl⟩
          · have HB := Lib.hid eb
            clear eb
            cases D
            all_goals
              go_wp2
              go_roundw
              case rel => exact ⟨j + 1, by omega, by go_num, by rw [HN.out, HCD.out, HB.out], (by repeat (first | (with_reducible refine Below.setCell ?_ ?_ _) | (with_reducible refine Below.alloc ?_ ?_ _) | (with_reducible refine Below.drew ?_) | (with_reducible refine below_drewN ?_ _) | (with_reducible exact Below.refl _ _) | (with_reducible refine Below.trans ?_ (Below.mono hby ?_)) | (focus (simp; done)) | (focus (simp; omega)) | (focus omega) | (focus (have q0 := Below.size hby; (try simp at q0); (try simp); omega))))⟩
              case measure => simp [intOf]; omega
          · cases D
            all_goals
              go_wp2
              go_roundw
              case rel => exact ⟨j + 1, by omega, by go_num, by rw [HN.out, HCD.out]; rfl, (by repeat (first | (with_reducible refine Below.setCell ?_ ?_ _) | (with_reducible refine Below.alloc ?_ ?_ _) | (with_reducible refine Below.drew ?_) | (with_reducible refine below_drewN ?_ _) | (with_reducible exact Below.refl _ _) | (with_reducible refine Below.trans ?_ (Below.mono hby ?_)) | (focus (simp; done)) | (focus (simp; omega)) | (focus omega) | (focus (have q0 := Below.size hby; (try simp at q0); (try simp); omega))))⟩
              case measure => simp [intOf]; omega
          · cases D
            all_goals
              go_wp2
              go_roundw
              case rel => exact ⟨j + 1, by omega, by go_num, by rw [HN.out, HCD.out]; rfl, (by repeat (first | (with_reducible refine Below.setCell ?_ ?_ _) | (with_reducible refine Below.alloc ?_ ?_ _) | (with_reducible refine Below.drew ?_) | (with_reducible refine below_drewN ?_ _) | (with_reducible exact Below.refl _ _) | (with_reducible refine Below.trans ?_ (Below.mono hby ?_)) | (focus (simp; done)) | (focus (simp; omega)) | (focus omega) | (focus (have q0 := Below.size hby; (try simp at q0); (try simp); omega))))⟩
              case measure => simp [intOf]; omega
          · go_wp2
            go_roundw
            case rel => exact ⟨j + 1, by omega, by go_num, by rw [HN.out, HCD.out]; rfl, (by repeat (first | (with_reducible refine Below.setCell ?_ ?_ _) | (with_reducible refine Below.alloc ?_ ?_ _) | (with_reducible refine Below.drew ?_) | (with_reducible refine below_drewN ?_ _) | (with_reducible exact Below.refl _ _) | (with_reducible refine Below.trans ?_ (Below.mono hby ?_)) | (focus (simp; done)) | (focus (simp; omega)) | (focus omega) | (focus (have q0 := Below.size hby; (try simp at q0); (try simp); omega))))⟩
            case measure => simp [intOf]; omega
        · obtain rfl : j = its.length := by omega
          go_wp2
          go_roundw
          case rel => exact ⟨k + 1, by omega, by go_num, (by repeat (first | (with_reducible refine Below.setCell ?_ ?_ _) | (with_reducible refine Below.alloc ?_ ?_ _) | (with_reducible refine Below.drew ?_) | (with_reducible refine below_drewN ?_ _) | (with_reducible exact Below.refl _ _) | (with_reducible refine Below.trans ?_ (Below.mono hby ?_)) | (with_reducible refine Below.trans ?_ (Below.mono hb5 ?_)) | (with_reducible refine Below.trans ?_ (Below.mono hbr ?_)) | (focus (simp; done)) | (focus (simp; omega)) | (focus omega) | (focus (have q0 := Below.size hby; (try simp at q0); have q1 := Below.size hb5; (try simp at q1); have q2 := Below.size hbr; (try simp at q2); (try simp); omega))))⟩
          case measure => simp [intOf]; omega
    · obtain rfl : k = 2 := by omega
      go_wp2_with ((go_at_call 16; (with_reducible refine (awake_yes _).mono ?_); rintro e w20 ⟨rfl, hb20⟩))
      go_ret
      exact ⟨rfl, (by repeat (first | (with_reducible refine Below.setCell ?_ ?_ _) | (with_reducible refine Below.alloc ?_ ?_ _) | (with_reducible refine Below.drew ?_) | (with_reducible refine below_drewN ?_ _) | (with_reducible exact Below.refl _ _) | (with_reducible refine Below.trans ?_ (Below.mono hb20 ?_)) | (with_reducible refine Below.trans ?_ (Below.mono hbr ?_)) | (with_reducible refine Below.trans ?_ (Below.mono be ?_)) | (focus (simp; done)) | (focus (simp; omega)) | (focus omega) | (focus (have q0 := Below.size hb20; (try simp at q0); have q1 := Below.size hbr; (try simp at q1); have q2 := Below.size be; (try simp at q2); (try simp); omega))))⟩
end Go.Proofs.Ytjnajccobieamaa
