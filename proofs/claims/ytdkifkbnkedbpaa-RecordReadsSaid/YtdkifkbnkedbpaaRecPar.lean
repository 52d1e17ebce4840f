/- record.Parse -/
import Derived.Test.YtdkifkbnkedbpaaRecParse
namespace Go.Proofs.Ytdkifkbnkedbpaa
set_option linter.unusedVariables false
open Go.RowKit Go.Sort
set_option maxRecDepth 100000

theorem VxL.alloc {W : World} {B : Nat} {its : List Vx} {xa : Option Addr} {xc : Nat} (h : VxL W B its xa xc) (o : Obj) : VxL (W.alloc o) B its xa xc := h.keep fun b hl => Below.heap_alloc _ _ b hl
def ParR (b : List UInt8) (ps : List Int) (w : World) (e : Ending) (w' : World) : Prop :=
  ∃ (a : Option Addr) (n c : Nat) (k : Int), e = .returned (.tuple #[.slice a n c, .int .i64 k]) ∧ Below w.heap.size w w' ∧
    ((k = 6 ∧ a = none ∧ n = 0 ∧ c = 0 ∧ pRun b ps = none) ∨ (k = 0 ∧ ∃ its : List Vx, pRun b ps = some (its.map Vx.key) ∧ n = its.length ∧ VxL w' w.heap.size its a c))
theorem ParR.no {b : List UInt8} {ps : List Int} {w w' : World} (h : pRun b ps = none) (hb : Below w.heap.size w w') : ParR b ps w (.returned (.tuple #[.slice none 0 0, .int .i64 6])) w' :=
  ⟨none, 0, 0, 6, rfl, hb, .inl ⟨rfl, rfl, rfl, rfl, h⟩⟩
theorem pRun_none_range {b : List UInt8} {ps : List Int} {n : Int} (h : n ∈ ps) (hn : n < 0 ∨ 8 < n) : pRun b ps = none := by
  cases hp : pRun b ps with
  | none => rfl
  | some vs =>
    have := (pRun_some ps b vs hp).2.2.1 n h
    omega
theorem pRun_none_len {b : List UInt8} {ps : List Int} (h : (b.length : Int) ≠ (ps.map (3 + ·)).sum) : pRun b ps = none := by
  cases hp : pRun b ps with
  | none => rfl
  | some vs => exact absurd (pRun_some ps b vs hp).2.2.2.2 h
theorem sum_snoc (l : List Int) (x : Int) : ((l ++ [x]).map (3 + ·)).sum = (l.map (3 + ·)).sum + (3 + x) := by
  simp [List.sum_append]
theorem sum_bd : ∀ (l : List Int), (∀ n ∈ l, 0 ≤ n ∧ n ≤ 8) → 3 * (l.length : Int) ≤ (l.map (3 + ·)).sum ∧ (l.map (3 + ·)).sum ≤ 11 * (l.length : Int)
  | [], _ => by simp
  | x :: l, h => by
    have h1 := sum_bd l fun c hc => h c (List.mem_cons_of_mem _ hc)
    have h2 := h x List.mem_cons_self
    simp only [List.map_cons, List.sum_cons, List.length_cons]
    omega
set_option maxHeartbeats 8000000 in
theorem rec_Parse (a : Option Addr) (b : List UInt8) (n c : Nat) (pa : Option Addr) (ps : List Int) (pn pc : Nat) (w : World) (hb : Byt w a b) (hn : n = b.length) (hc : b.length ≤ c) (hb9 : b.length ≤ 1000000) (hp : Ints w pa ps) (hpn : pn = ps.length) (hp9 : ps.length ≤ 1000) :
    Calls Try.prog 16 #[.slice a n c, .slice pa pn pc] w (ParR b ps w) := by
  subst hpn
  have HN := Lib.hid hn
  have hn9 : n ≤ 1000000 := by omega
  clear hn
  go_enter Try.func16, Try.ntmps16
  go_wp2
  go_loopw [6, 16] (fun s6 s16 wr => ∃ (k : Nat) (T : Int), s6 = .int .i64 T ∧ s16 = .int .i64 k ∧ k ≤ ps.length ∧ T = ((ps.take k).map (3 + ·)).sum ∧ (∀ x ∈ ps.take k, 0 ≤ x ∧ x ≤ 8) ∧ w = wr) (fun _ s _ => ps.length - (intOf s).toNat)
  case atStart => exact ⟨0, 0, rfl, rfl, by omega, by simp, by simp, rfl⟩
  case round =>
    obtain ⟨k, T, rfl, rfl, hk, hT, hr, rfl⟩ := hrel
    have hTb : 0 ≤ T ∧ T ≤ 11000 := by
      have := sum_bd _ hr
      rw [← hT, List.length_take] at this
      omega
    have HT := Lib.hid hT
    have HR := Lib.hid hr
    clear hT hr
    by_cases hlt : k < ps.length
    · have h0 : ps ≠ [] := by intro e; rw [e] at hlt; simp at hlt
      obtain ⟨bp, op_, rfl, lp, xp⟩ := hp.open.resolve_left h0
      have x0 := xp k hlt
      have hmem := List.getElem_mem hlt
      have HS : Hid (((ps.take (k + 1)).map (3 + ·)).sum = T + (3 + ps[k])) := Lib.hid (by rw [← List.take_append_getElem hlt, sum_snoc, HT.out])
      have HR2 : Hid (0 ≤ ps[k] ∧ ps[k] ≤ 8 → ∀ x ∈ ps.take (k + 1), 0 ≤ x ∧ x ≤ 8) := Lib.hid (fun h x hx => by
        rw [← List.take_append_getElem hlt] at hx
        rcases List.mem_append.1 hx with hx | hx
        · exact HR.out x hx
        · rw [List.mem_singleton.1 hx]; exact h)
      have HNo : Hid (ps[k] < 0 ∨ 8 < ps[k] → pRun b ps = none) := Lib.hid (fun h => pRun_none_range hmem h)
      obtain ⟨q, hq⟩ : ∃ q, ps[k] = q := ⟨_, rfl⟩
      rw [hq] at x0 HS HR2 HNo
      clear hq hmem xp
      have kx : (k : Int) < (ps.length : Int) := by omega
      by_cases q0 : q < 0
      · have HN2 := Lib.hid (HNo.out (.inl q0))
        go_wp2_with fail
        refine bodyPost_ret (v := .tuple #[.slice none 0 0, .int .i64 6]) (by simp [results, Try.results16, go_sem]) rfl ?_
        exact ParR.no HN2.out (by repeat (first | (with_reducible refine Below.setCell ?_ ?_ _) | (with_reducible refine Below.alloc ?_ ?_ _) | (with_reducible refine Below.drew ?_) | (with_reducible refine below_drewN ?_ _) | (with_reducible exact Below.refl _ _) | (focus (simp; done)) | (focus (simp; omega)) | (focus omega)))
      · by_cases q8 : 8 < q
        · have HN2 := Lib.hid (HNo.out (.inr q8))
          go_wp2_with fail
          refine bodyPost_ret (v := .tuple #[.slice none 0 0, .int .i64 6]) (by simp [results, Try.results16, go_sem]) rfl ?_
          exact ParR.no HN2.out (by repeat (first | (with_reducible refine Below.setCell ?_ ?_ _) | (with_reducible refine Below.alloc ?_ ?_ _) | (with_reducible refine Below.drew ?_) | (with_reducible refine below_drewN ?_ _) | (with_reducible exact Below.refl _ _) | (focus (simp; done)) | (focus (simp; omega)) | (focus omega)))
        · have q1 : 0 ≤ q ∧ q ≤ 8 := by omega
          go_wp2_with ((go_at_call 23; (with_reducible refine (rec_Size q _ (by omega) (by omega)).mono ?_); rintro e w2 ⟨rfl, rfl⟩))
          go_roundw
          case rel => exact ⟨k + 1, _, rfl, by go_num, by omega, HS.out.symm, HR2.out q1, by trivial⟩
          case measure => simp [intOf]; omega
    · obtain rfl : k = ps.length := by omega
      rw [List.take_length] at HT HR
      by_cases hlen : (n : Int) = T
      · have HSum : Hid ((b.length : Int) = (ps.map (3 + ·)).sum) := Lib.hid (by rw [← HT.out, ← HN.out]; exact hlen)
        have z1 : ((n : Int) != T) = false := by rw [bne_eq_false_iff_eq]; exact hlen
        clear hlen
        go_wp2_with ((with_reducible refine wp_makeV ps.length ?_ ?_ ?_ ?_); (focus rfl); (focus rfl); (focus omega); intro W il be0 z0)
        go_loopw [0, 9, 40] (fun s0 s9 s40 wr => ∃ (k : Nat) (ra : Option Addr) (rn rc : Nat) (rest : List UInt8) (its : List Vx) (va : Option Addr) (vc : Nat), s0 = .slice ra rn rc ∧ s9 = .slice va k vc ∧ s40 = .int .i64 k ∧ k ≤ ps.length ∧ rn = rest.length ∧ rn ≤ rc ∧ Byt w ra rest ∧ pRun b ps = (pRun rest (ps.drop k)).map ((its.map Vx.key) ++ ·) ∧ (rn : Int) = ((ps.drop k).map (3 + ·)).sum ∧ its.length = k ∧ VxL wr w.heap.size its va vc ∧ RowKit.Below w.heap.size w wr ∧ rn ≤ 1000000) (fun _ _ s _ => ps.length - (intOf s).toNat)
        case atStart => exact ⟨0, a, n, c, b, [], _, _, rfl, rfl, rfl, by omega, HN.out, by have := HN.out; omega, hb, by simp, by rw [HN.out, List.drop_zero]; exact HSum.out, rfl, il, be0, by omega⟩
        case round =>
          clear il be0 z0
          obtain ⟨k, ra, rn, rc, rest, its, va, vc, rfl, rfl, rfl, hk, hrn, hrc, hrb, hrun, hsum, hil, il, be, hr9⟩ := hrel
          have HRN := Lib.hid hrn
          have HRUN := Lib.hid hrun
          have HIL := Lib.hid hil
          clear hrn hrun hil
          by_cases hlt : k < ps.length
          · have h0 : ps ≠ [] := by intro e; rw [e] at hlt; simp at hlt
            obtain ⟨bp, op_, rfl, lp, xp⟩ := (Ints.below hp be (Nat.le_refl _)).open.resolve_left h0
            have x0 := xp k hlt
            have hq := HR.out _ (List.getElem_mem hlt)
            have hds := sum_bd (ps.drop (k + 1)) fun x hx => HR.out x (List.mem_of_mem_drop hx)
            rw [List.drop_eq_getElem_cons hlt] at hsum HRUN
            simp only [List.map_cons, List.sum_cons] at hsum
            obtain ⟨q, hqq⟩ : ∃ q, ps[k] = q := ⟨_, rfl⟩
            rw [hqq] at x0 hq hsum HRUN
            obtain ⟨nn, rfl⟩ := Int.eq_ofNat_of_zero_le hq.1
            have hn8 : nn ≤ 8 := by omega
            have hle : 3 + nn ≤ rn := by omega
            have hsum2 : ((rn - (3 + nn) : Nat) : Int) = ((ps.drop (k + 1)).map (3 + ·)).sum := by omega
            have HS2 := Lib.hid hsum2
            clear hqq xp hq hds hsum hsum2
            have hle' : 3 + nn ≤ rest.length := by have := HRN.out; omega
            have HRUN2 : Hid (pRun b ps = ((unV (rest.take (3 + nn))).bind fun v => (pRun (rest.drop (3 + nn)) (ps.drop (k + 1))).map (v :: ·)).map (its.map Vx.key ++ ·)) := Lib.hid (by
              rw [HRUN.out]
              simp only [pRun]
              rw [Int.toNat_natCast, if_neg (by rintro (h | h | h) <;> omega)])
            clear HRUN
            have hrne : rest ≠ [] := by intro e; rw [e] at hle'; simp at hle'
            obtain ⟨ba, oa, rfl, lb, -⟩ := hrb.open.resolve_left hrne
            have hT := Lib.hid (hrb.take (3 + nn))
            have hD := Lib.hid (byt_next (pc := rc) (T := 3 + nn) hrb (by have := HRN.out; omega))
            obtain ⟨ra2, hra⟩ : ∃ r2, (if rc = 3 + nn then some (⟨ba, oa, none⟩ : Addr) else some ⟨ba, oa + (3 + nn), none⟩) = r2 := ⟨_, rfl⟩
            rw [hra] at hD
            have kx : (k : Int) < (ps.length : Int) := by omega
            have HTL : Hid ((rest.take (3 + nn)).length = nn + 3) := Lib.hid (by rw [List.length_take]; omega)
            clear hle'
            have hic : ((3 : Int) + (nn : Int)) ≤ (rc : Int) := by omega
            have hin : 3 + nn ≤ rc := by omega
            have hbw := be.size
            cases hu : unV (rest.take (3 + nn)) with
            | none =>
              have HU := Lib.hid hu
              have HN2 : Hid (pRun b ps = none) := Lib.hid (by rw [HRUN2.out, hu]; rfl)
              clear hu
              go_wp2_with (first | (go_at_call 23; (with_reducible refine (rec_Size (nn : Int) _ (by omega) (by omega)).mono ?_); rintro e w2 ⟨rfl, rfl⟩) | (go_at_call 33; (with_reducible refine (one_N HU (some ⟨ba, oa, none⟩) (3 + nn) nn rc _ (hT.out.below be (Nat.le_refl _)) HTL.out (by omega) hn8).mono ?_); rintro e w3 ⟨fl, ov, n1, n2, ca, cc, na, nc, rfl, hb3⟩))
              refine bodyPost_ret (v := .tuple #[.slice none 0 0, .int .i64 6]) (by simp [results, Try.results16, go_sem]) rfl ?_
              exact ParR.no HN2.out (by repeat (first | (with_reducible refine Below.setCell ?_ ?_ _) | (with_reducible refine Below.alloc ?_ ?_ _) | (with_reducible refine Below.drew ?_) | (with_reducible refine below_drewN ?_ _) | (with_reducible exact Below.refl _ _) | (with_reducible refine Below.trans ?_ (Below.mono hb3 ?_)) | (with_reducible refine Below.trans ?_ (Below.mono be ?_)) | (focus (simp; done)) | (focus (simp; omega)) | (focus omega) | (focus (have q0 := Below.size hb3; (try simp at q0); have q1 := Below.size be; (try simp at q1); (try simp); omega))))
            | some v =>
              obtain ⟨fl, ov, cs, ns⟩ := v
              have HU := Lib.hid hu
              have HC1 : Hid (nn = cs.length) := Lib.hid (by have h := (unV_some hu).2.1; have := HTL.out; simp only at h; omega)
              have HC2 : Hid (nn = ns.length) := Lib.hid (by have h := (unV_some hu).2.2.1; have := HTL.out; simp only at h; omega)
              have HN2 : Hid (pRun b ps = (pRun (rest.drop (3 + nn)) (ps.drop (k + 1))).map (its.map Vx.key ++ [(fl, ov, cs, ns)] ++ ·)) := Lib.hid (by
                rw [HRUN2.out, hu]
                simp only [Option.bind_some, Option.map_map]
                congr 1
                funext q
                simp)
              clear hu
              go_wp2_with (first | (go_at_call 23; (with_reducible refine (rec_Size (nn : Int) _ (by omega) (by omega)).mono ?_); rintro e w2 ⟨rfl, rfl⟩) | (go_at_call 33; (with_reducible refine (one_Y HU (some ⟨ba, oa, none⟩) (3 + nn) nn rc _ (hT.out.below be (Nat.le_refl _)) HTL.out (by omega) hn8).mono ?_); rintro e w3 ⟨ca, cc, na, nc, rfl, hb3, o1, o2⟩) | (at_builtin; refine app1V rfl _ _ rfl w.heap.size va k vc its rfl HIL.out.symm fl ov cs ns ca cc na nc nn nn HC1.out HC2.out (w3.heap.size + 1) rfl (by simp) ((il.below hb3).alloc _) (by have := hb3.size; simp; omega) ((o1.alloc _).mono (Nat.zero_le _)) ((o2.alloc _).mono (Nat.zero_le _)) (by have := HIL.out; omega) ?_; intro xb xd w4 il4 g4))
              have be3 : RowKit.Below w.heap.size w ((w3.alloc (.cells #[.bool fl, .bool ov, .slice ca nn cc, .slice na nn nc] 43)).alloc (.cells #[.bool fl, .bool ov, .slice ca nn cc, .slice na nn nc] 43)) := (by repeat (first | (with_reducible refine Below.setCell ?_ ?_ _) | (with_reducible refine Below.alloc ?_ ?_ _) | (with_reducible refine Below.drew ?_) | (with_reducible refine below_drewN ?_ _) | (with_reducible exact Below.refl _ _) | (with_reducible refine Below.trans ?_ (Below.mono hb3 ?_)) | (with_reducible refine Below.trans ?_ (Below.mono be ?_)) | (focus (simp; done)) | (focus (simp; omega)) | (focus omega) | (focus (have q0 := Below.size hb3; (try simp at q0); have q1 := Below.size be; (try simp at q1); (try simp); omega))))
              have be4 : RowKit.Below w.heap.size w w4 := Grew.below be3 g4 il.own.base_le
              go_roundw
              case rel => exact ⟨k + 1, ra2, rn - (3 + nn), rc - (3 + nn), rest.drop (3 + nn), its ++ [⟨fl, ov, cs, ns, ca, cc, na, nc⟩], xb, xd, by rw [← hra], rfl, by go_num, by omega, by rw [List.length_drop, HRN.out], by omega, hD.out, by rw [HN2.out, List.map_append]; rfl, HS2.out, by rw [List.length_append, HIL.out]; rfl, il4, be4, by omega⟩
              case measure => simp [intOf]; omega
          · obtain rfl : k = ps.length := by omega
            have HE : Hid (pRun b ps = some (its.map Vx.key)) := Lib.hid (by
              rw [List.drop_length] at hsum
              simp at hsum
              have h0 : rest = [] := by have := HRN.out; exact List.eq_nil_of_length_eq_zero (by omega)
              rw [HRUN.out, h0, List.drop_length]
              simp [pRun])
            clear hsum
            go_wp2_with fail
            refine bodyPost_ret (v := .tuple #[.slice va ps.length vc, .int .i64 0]) (by simp [results, Try.results16, go_sem]) rfl ?_
            exact ⟨va, ps.length, vc, 0, rfl, (by repeat (first | (with_reducible refine Below.setCell ?_ ?_ _) | (with_reducible refine Below.alloc ?_ ?_ _) | (with_reducible refine Below.drew ?_) | (with_reducible refine below_drewN ?_ _) | (with_reducible exact Below.refl _ _) | (with_reducible refine Below.trans ?_ (Below.mono be ?_)) | (focus (simp; done)) | (focus (simp; omega)) | (focus omega) | (focus (have q0 := Below.size be; (try simp at q0); (try simp); omega)))), .inr ⟨rfl, its, HE.out, HIL.out.symm, il⟩⟩
      · have HN2 : Hid (pRun b ps = none) := Lib.hid (pRun_none_len (by rw [← HT.out, ← HN.out]; exact hlen))
        have z1 : ((n : Int) != T) = true := by rw [bne_iff_ne]; exact hlen
        clear hlen
        go_wp2_with fail
        refine bodyPost_ret (v := .tuple #[.slice none 0 0, .int .i64 6]) (by simp [results, Try.results16, go_sem]) rfl ?_
        exact ParR.no HN2.out (by repeat (first | (with_reducible refine Below.setCell ?_ ?_ _) | (with_reducible refine Below.alloc ?_ ?_ _) | (with_reducible refine Below.drew ?_) | (with_reducible refine below_drewN ?_ _) | (with_reducible exact Below.refl _ _) | (focus (simp; done)) | (focus (simp; omega)) | (focus omega)))
end Go.Proofs.Ytdkifkbnkedbpaa
