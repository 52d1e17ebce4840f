/- signalbrokerref14.Expire -/
import Derived.Test.YtgngmmmdhhjbhaaTkPl
namespace Go.Proofs.Ytgngmmmdhhjbhaa
set_option linter.unusedVariables false
open Go.RowKit Go.Sort
set_option maxRecDepth 100000

theorem or_bsum (f g : Int → Bool) : ∀ n, bsum f n ||| bsum g n = bsum (fun s => f s || g s) n
  | 0 => by simp [bsum]
  | n + 1 => by
    have hf := bsum_lt f n
    have hg := bsum_lt g n
    have ih := or_bsum f g n
    have hfg : bsum (fun s => f s || g s) n < 2 ^ n := bsum_lt _ n
    have e : ∀ A, A < 2 ^ n → A + 2 ^ n = 2 ^ n ||| A := fun A hA => by
      have := Nat.two_pow_add_eq_or_of_lt hA 1
      rw [Nat.mul_one] at this
      rw [Nat.add_comm, this]
    have id1 : 2 ^ n ||| 2 ^ n = 2 ^ n := Nat.or_self _
    rw [bsum, bsum, bsum]
    by_cases h1 : f n = true
    · by_cases h2 : g n = true
      · rw [if_pos h1, if_pos h2, if_pos (by simp [h1]), e _ hf, e _ hg, e _ hfg, ← ih, Nat.or_assoc, ← Nat.or_assoc (bsum f n), Nat.or_comm (bsum f n), Nat.or_assoc, ← Nat.or_assoc, id1]
      · rw [if_pos h1, if_neg h2, if_pos (by simp [h1]), e _ hf, e _ hfg, ← ih, Nat.add_zero, Nat.or_assoc]
    · by_cases h2 : g n = true
      · rw [if_neg h1, if_pos h2, if_pos (by simp [h2]), e _ hg, e _ hfg, ← ih, Nat.add_zero, ← Nat.or_assoc, Nat.or_comm (bsum f n), Nat.or_assoc]
      · rw [if_neg h1, if_neg h2, if_neg (by simp [h1, h2]), Nat.add_zero, Nat.add_zero, Nat.add_zero]
        exact ih
theorem or_i64 {A B : Nat} (ha : A < 256) (hb : B < 256) : bits .or .i64 (A : Int) (B : Int) = ((A ||| B : Nat) : Int) := by
  have h : A ||| B < 256 := Nat.or_lt_two_pow (n := 8) ha hb
  show IntKind.i64.wrap ((BitVec.ofInt 64 (A : Int) ||| BitVec.ofInt 64 (B : Int)).toNat : Int) = _
  rw [BitVec.toNat_or, ofInt_i64 A (by omega), ofInt_i64 B (by omega), IntKind.wrap_i64]
  omega
/-- the slots below one of the first i slots whose time is over -/
def eF (k : List TkK) (now : Int) (i : Nat) (s : Int) : Bool := (List.range i).any fun j => (tU k j && expB (gK k j).un now) && dscK k 8 s j
theorem eF_succ (k : List TkK) (now : Int) (i : Nat) (s : Int) : eF k now (i + 1) s = (eF k now i s || ((tU k i && expB (gK k i).un now) && dscK k 8 s i)) := by
  unfold eF
  rw [List.range_succ, List.any_append]
  simp
theorem eF_all {k : List TkK} (h8 : k.length = 8) (now : Int) (s : Int) : eF k now 8 s = expF k now s := by
  unfold eF expF
  rw [Bool.eq_iff_iff, List.any_eq_true, List.any_eq_true]
  constructor
  · rintro ⟨j, hj, h⟩
    simp only [Bool.and_eq_true] at h
    exact ⟨j, dsc_iff.1 h.2, h.1.2⟩
  · rintro ⟨a, ha, h⟩
    obtain ⟨j, rfl, hj⟩ := tU_nat (ancK_used ha)
    refine ⟨j, by rw [List.mem_range]; omega, ?_⟩
    simp only [Bool.and_eq_true]
    exact ⟨⟨ancK_used ha, h⟩, dsc_iff.2 ha⟩
set_option maxHeartbeats 4000000 in
theorem ref14_Expire (a : Option Addr) (l : List Tk) (n c : Nat) (now : Int) (w : World) (h : TkG w a l c) (hn : n = l.length) (h8 : l.length = 8) :
    Calls Try.prog 24 #[.slice a n c, .int .i64 now] w (FreeR (l.map Tk.key) (expF (l.map Tk.key) now) n w) := by
  have ht := h.tks
  have HS := Lib.hid (fun t (q : t ∈ l) => (show t.sec.length ≤ 100000 from (h.sec t q).2))
  obtain rfl : n = 8 := by omega
  have HN := Lib.hid h8
  clear hn h h8
  go_enter Try.func24, Try.ntmps24
  go_wp2_with fail
  go_loopw [5, 10] (fun s5 s10 wr => ∃ (i S : Nat), s5 = .int .i64 S ∧ s10 = .int .i64 i ∧ i ≤ 8 ∧ Hid (S = bsum (eF (l.map Tk.key) now i) 8) ∧ RowKit.Below w.heap.size w wr) (fun _ s _ => 8 - (intOf s).toNat)
  case atStart => exact ⟨0, 0, rfl, rfl, by omega, Lib.hid rfl, (by repeat (first | (with_reducible refine Below.setCell ?_ ?_ _) | (with_reducible refine Below.alloc ?_ ?_ _) | (with_reducible refine Below.drew ?_) | (with_reducible refine below_drewN ?_ _) | (with_reducible exact Below.refl _ _) | (focus (simp; done)) | (focus (simp; omega)) | (focus omega)))⟩
  case round =>
    obtain ⟨i, S, rfl, rfl, hi, hS, be⟩ := hrel
    by_cases hlt : i < 8
    · have hil : i < l.length := by rw [HN.out]; exact hlt
      have kx : (i : Int) < 8 := by omega
      have hr := ht.below be (Nat.le_refl _)
      obtain ⟨ba, oa, rfl⟩ := hr.open (by omega)
      obtain ⟨x0, x1, x2, x3, x4, x5, xl⟩ := row_tok hr.row i hil
      have HU := Lib.hid (tU_at hil)
      have HG := Lib.hid (gK_at hil)
      have HNO : Hid ((tU (l.map Tk.key) i && expB (gK (l.map Tk.key) i).un now) = false → S = bsum (eF (l.map Tk.key) now (i + 1)) 8) := Lib.hid (fun q => by
        rw [hS.out]
        exact bsum_ext (fun s => by rw [eF_succ, q]; simp) 8)
      have HYES : Hid ((tU (l.map Tk.key) i && expB (gK (l.map Tk.key) i).un now) = true → S ||| bsum (fun s => dscK (l.map Tk.key) 8 s i) 8 = bsum (eF (l.map Tk.key) now (i + 1)) 8) := Lib.hid (fun q => by
        rw [hS.out, or_bsum]
        exact bsum_ext (fun s => by rw [eF_succ, q]; simp) 8)
      obtain ⟨x, hx⟩ : ∃ x, l[i] = x := ⟨_, rfl⟩
      rw [hx] at x0 x1 x2 x3 x4 x5 HU HG
      clear hx
      obtain ⟨us, sec, par, rt, cl, un, la, lc⟩ := x
      simp only at x0 x1 x2 x3 x4 x5 HU
      rw [HG.out, HU.out] at HNO HYES
      simp only [Tk.key] at HNO HYES
      have hz := be.size
      go_upto_region 5 with fail
      obtain ⟨X, hX⟩ : ∃ X, wr.heap.size = X := ⟨_, rfl⟩
      refine wp_named (fun Z => Blk Z X 52 #[.bool us, .slice la sec.length lc, .int .i64 par, .int .i64 rt, .int .i64 cl, .int .i64 un] ∧ RowKit.Below w.heap.size w Z) ⟨by rw [← hX]; exact Blk.new _ _ _, (by repeat (first | (with_reducible refine Below.setCell ?_ ?_ _) | (with_reducible refine Below.alloc ?_ ?_ _) | (with_reducible refine Below.drew ?_) | (with_reducible refine below_drewN ?_ _) | (with_reducible exact Below.refl _ _) | (with_reducible refine Below.trans ?_ (Below.mono be ?_)) | (focus (simp; done)) | (focus (simp; omega)) | (focus omega) | (focus (have q0 := Below.size be; (try simp at q0); (try simp); omega))))⟩ ?_
      rw [hX]
      clear hX x0 x1 x2 x3 x4 x5 xl be hr hz
      rintro Z ⟨kX, be⟩
      obtain ⟨v0, v1, v2, v3, v4, v5, vf, vl⟩ := kX.six
      cases us with
      | false =>
        have HG2 := Lib.hid (HNO.out rfl)
        go_wp2_with fail
        go_roundw
        case rel => exact ⟨i + 1, S, rfl, by go_num, by omega, HG2, be⟩
        case measure => simp [intOf]; omega
      | true =>
        by_cases hu : un = 0
        · subst hu
          have HG2 := Lib.hid (HNO.out rfl)
          go_wp2_with fail
          go_roundw
          case rel => exact ⟨i + 1, S, rfl, by go_num, by omega, HG2, be⟩
          case measure => simp [intOf]; omega
        · have hu2 : (un == 0) = false := by rw [beq_eq_false_iff_ne]; exact hu
          by_cases hn : un < now
          · have HE := Lib.hid (HYES.out (by simp [expB, hu, hn]))
            have hr := ht.below be (Nat.le_refl _)
            have hSlt : S < 256 := by rw [hS.out]; exact bsum_lt _ 8
            go_wp2_with ((go_at_call 36; (with_reducible refine (ref14_BelowE _ l 8 c i _ hr HN.out.symm HN.out).mono ?_); rintro e w2 ⟨S2, rfl, hS2, hb2⟩; ((have hS2' := hS2.out); (rw [HN.out] at hS2'); (have hS2lt : S2 < 256 := by rw [hS2']; exact bsum_lt _ 8); (have hor := or_i64 hSlt hS2lt); (have HS3 := Lib.hid hS2'); clear hS2')))
            go_roundw
            case rel => exact ⟨i + 1, S ||| S2, rfl, by go_num, by omega, Lib.hid (by rw [HS3.out]; exact HE.out), (by repeat (first | (with_reducible refine Below.setCell ?_ ?_ _) | (with_reducible refine Below.alloc ?_ ?_ _) | (with_reducible refine Below.drew ?_) | (with_reducible refine below_drewN ?_ _) | (with_reducible exact Below.refl _ _) | (with_reducible refine Below.trans ?_ (Below.mono hb2 ?_)) | (with_reducible refine Below.trans ?_ (Below.mono be ?_)) | (focus (simp; done)) | (focus (simp; omega)) | (focus omega) | (focus (have q0 := Below.size hb2; (try simp at q0); have q1 := Below.size be; (try simp at q1); (try simp); omega))))⟩
            case measure => simp [intOf]; omega
          · have HG2 := Lib.hid (HNO.out (by simp [expB, hn]))
            go_wp2_with fail
            go_roundw
            case rel => exact ⟨i + 1, S, rfl, by go_num, by omega, HG2, be⟩
            case measure => simp [intOf]; omega
    · obtain rfl : i = 8 := by omega
      have hr := ht.below be (Nat.le_refl _)
      have HSF : Hid (S = bsum (expF (l.map Tk.key) now) l.length) := Lib.hid (by
        rw [hS.out, HN.out]
        exact bsum_ext (fun s => eF_all (by rw [List.length_map]; exact HN.out) now s) 8)
      go_wp2_with ((go_at_call 52; (with_reducible refine (ref14_free _ l 8 c (expF (l.map Tk.key) now) S _ hr HN.out.symm (by decide) HS.out HSF).mono ?_); rintro e w3 ⟨xa, xc, l2, rfl, hk, hn2, il, hb3⟩))
      go_ret
      exact ⟨xa, xc, l2, rfl, hk, hn2, il.mono be.size, (by repeat (first | (with_reducible refine Below.setCell ?_ ?_ _) | (with_reducible refine Below.alloc ?_ ?_ _) | (with_reducible refine Below.drew ?_) | (with_reducible refine below_drewN ?_ _) | (with_reducible exact Below.refl _ _) | (with_reducible refine Below.trans ?_ (Below.mono hb3 ?_)) | (with_reducible refine Below.trans ?_ (Below.mono be ?_)) | (focus (simp; done)) | (focus (simp; omega)) | (focus omega) | (focus (have q0 := Below.size hb3; (try simp at q0); have q1 := Below.size be; (try simp at q1); (try simp); omega))))⟩
end Go.Proofs.Ytgngmmmdhhjbhaa
