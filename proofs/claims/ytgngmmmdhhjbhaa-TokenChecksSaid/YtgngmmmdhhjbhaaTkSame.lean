/- signalbrokerref14.Same: lists with the same keys -/
import Derived.Test.YtgngmmmdhhjbhaaTkRef
namespace Go.Proofs.Ytgngmmmdhhjbhaa
set_option linter.unusedVariables false
open Go.RowKit Go.Sort
set_option maxRecDepth 100000

set_option maxHeartbeats 4000000 in
theorem ref14_Same (a b : Option Addr) (l1 l2 : List Tk) (n1 c1 n2 c2 : Nat) (w : World) (h1 : Tks w a l1) (h2 : Tks w b l2) (hn1 : n1 = l1.length) (hn2 : n2 = l2.length) (hk : l1.map Tk.key = l2.map Tk.key) (l9 : n1 ≤ 100000) :
    Calls Try.prog 20 #[.slice a n1 c1, .slice b n2 c2] w fun e w' => e = .returned (.bool true) ∧ RowKit.Below w.heap.size w w' := by
  obtain rfl : n1 = n2 := by
    have := congrArg List.length hk
    simp only [List.length_map] at this
    omega
  subst hn1
  have HN2 := Lib.hid hn2
  have HK := Lib.hid hk
  clear hn2 hk
  go_enter Try.func20, Try.ntmps20
  go_wp2_with fail
  go_loopw [15] (fun s15 wr => ∃ i : Nat, s15 = .int .i64 i ∧ i ≤ l1.length ∧ RowKit.Below w.heap.size w wr) (fun s _ => l1.length - (intOf s).toNat)
  case atStart => exact ⟨0, rfl, by omega, (by repeat (first | (with_reducible refine Below.setCell ?_ ?_ _) | (with_reducible refine Below.alloc ?_ ?_ _) | (with_reducible refine Below.drew ?_) | (with_reducible refine below_drewN ?_ _) | (with_reducible exact Below.refl _ _) | (focus (simp; done)) | (focus (simp; omega)) | (focus omega)))⟩
  case round =>
    obtain ⟨i, rfl, hi, bw⟩ := hrel
    by_cases hlt : i < l1.length
    · have hlt2 : i < l2.length := by rw [← HN2.out]; exact hlt
      obtain ⟨ba, oa, rfl⟩ := h1.open (by omega)
      obtain ⟨bb, ob, rfl⟩ := h2.open (by omega)
      have hr1 := h1.below bw (Nat.le_refl _)
      have hr2 := h2.below bw (Nat.le_refl _)
      obtain ⟨x0, x1, x2, x3, x4, x5, xb⟩ := row_tok hr1.row i hlt
      obtain ⟨y0, y1, y2, y3, y4, y5, yb⟩ := row_tok hr2.row i hlt2
      have hg1 := hr1.sec _ (List.getElem_mem hlt)
      have hg2 := hr2.sec _ (List.getElem_mem hlt2)
      have hke := tkey_at HK.out hlt hlt2
      obtain ⟨x, hx⟩ : ∃ x, l1[i] = x := ⟨_, rfl⟩
      obtain ⟨y, hy⟩ : ∃ y, l2[i] = y := ⟨_, rfl⟩
      rw [hx] at x0 x1 x2 x3 x4 x5 hg1 hke
      rw [hy] at y0 y1 y2 y3 y4 y5 hg2 hke
      clear hx hy hr1 hr2 hlt2
      obtain ⟨us, sec, par, rt, cl, un, la, lc⟩ := x
      obtain ⟨us2, sec2, par2, rt2, cl2, un2, la2, lc2⟩ := y
      simp only [Tk.key, TkK.mk.injEq] at hke
      obtain ⟨rfl, rfl, rfl, rfl, rfl, rfl⟩ := hke
      simp only at x0 x1 x2 x3 x4 x5 y0 y1 y2 y3 y4 y5 hg1 hg2
      have kx : (i : Int) < (l1.length : Int) := by omega
      go_upto_region 6 with fail
      obtain ⟨X, hX⟩ : ∃ X, wr.heap.size = X := ⟨_, rfl⟩
      have ba1 : RowKit.Below wr.heap.size wr (wr.alloc (.cells #[.bool us, .slice la sec.length lc, .int .i64 par, .int .i64 rt, .int .i64 cl, .int .i64 un] 52)) := (RowKit.Below.refl _ _).alloc (Nat.le_refl _) _
      refine wp_named (fun Z => Blk Z X 52 #[.bool us, .slice la sec.length lc, .int .i64 par, .int .i64 rt, .int .i64 cl, .int .i64 un] ∧ Byt Z la sec ∧ Byt Z la2 sec ∧ (Z.cell? ⟨bb, ob + i * 6, none⟩ = some (.bool us) ∧ Z.cell? ⟨bb, ob + i * 6 + 1, none⟩ = some (.slice la2 sec.length lc2) ∧ Z.cell? ⟨bb, ob + i * 6 + 2, none⟩ = some (.int .i64 par) ∧ Z.cell? ⟨bb, ob + i * 6 + 3, none⟩ = some (.int .i64 rt) ∧ Z.cell? ⟨bb, ob + i * 6 + 4, none⟩ = some (.int .i64 cl) ∧ Z.cell? ⟨bb, ob + i * 6 + 5, none⟩ = some (.int .i64 un) ∧ bb < Z.heap.size) ∧ RowKit.Below w.heap.size w Z) ⟨by rw [← hX]; exact Blk.new _ _ _, Row.alloc hg1 _, Row.alloc hg2 _, ⟨(Below.cell (p := ⟨bb, _, none⟩) ba1 yb).trans y0, (Below.cell (p := ⟨bb, _, none⟩) ba1 yb).trans y1, (Below.cell (p := ⟨bb, _, none⟩) ba1 yb).trans y2, (Below.cell (p := ⟨bb, _, none⟩) ba1 yb).trans y3, (Below.cell (p := ⟨bb, _, none⟩) ba1 yb).trans y4, (Below.cell (p := ⟨bb, _, none⟩) ba1 yb).trans y5, Nat.lt_of_lt_of_le yb ba1.size⟩, (by repeat (first | (with_reducible refine Below.setCell ?_ ?_ _) | (with_reducible refine Below.alloc ?_ ?_ _) | (with_reducible refine Below.drew ?_) | (with_reducible refine below_drewN ?_ _) | (with_reducible exact Below.refl _ _) | (with_reducible refine Below.trans ?_ (Below.mono bw ?_)) | (focus (simp; done)) | (focus (simp; omega)) | (focus omega) | (focus (have q0 := Below.size bw; (try simp at q0); (try simp); omega))))⟩ ?_
      rw [hX]
      clear hX x0 x1 x2 x3 x4 x5 xb y0 y1 y2 y3 y4 y5 yb hg1 hg2 bw ba1
      rintro Z ⟨kX, hg1, hg2, ⟨y0, y1, y2, y3, y4, y5, yb⟩, bz⟩
      have ba2 : RowKit.Below Z.heap.size Z (Z.alloc (.cells #[.bool us, .slice la2 sec.length lc2, .int .i64 par, .int .i64 rt, .int .i64 cl, .int .i64 un] 52)) := (RowKit.Below.refl _ _).alloc (Nat.le_refl _) _
      go_upto_region 7 with fail
      obtain ⟨X2, hX2⟩ : ∃ X, Z.heap.size = X := ⟨_, rfl⟩
      refine wp_named (fun U => Blk U X 52 #[.bool us, .slice la sec.length lc, .int .i64 par, .int .i64 rt, .int .i64 cl, .int .i64 un] ∧ Blk U X2 52 #[.bool us, .slice la2 sec.length lc2, .int .i64 par, .int .i64 rt, .int .i64 cl, .int .i64 un] ∧ Byt U la sec ∧ Byt U la2 sec ∧ RowKit.Below w.heap.size w U) ⟨kX.alloc _, by rw [← hX2]; exact Blk.new _ _ _, Row.alloc hg1 _, Row.alloc hg2 _, (by repeat (first | (with_reducible refine Below.setCell ?_ ?_ _) | (with_reducible refine Below.alloc ?_ ?_ _) | (with_reducible refine Below.drew ?_) | (with_reducible refine below_drewN ?_ _) | (with_reducible exact Below.refl _ _) | (with_reducible refine Below.trans ?_ (Below.mono bz ?_)) | (focus (simp; done)) | (focus (simp; omega)) | (focus omega) | (focus (have q0 := Below.size bz; (try simp at q0); (try simp); omega))))⟩ ?_
      rw [hX2]
      clear hX2 ba2 y0 y1 y2 y3 y4 y5 yb kX hg1 hg2 bz
      rintro U ⟨kX, kX2, hg1, hg2, bu⟩
      obtain ⟨v0, v1, v2, v3, v4, v5, vf, vl⟩ := kX.six
      obtain ⟨u0, u1, u2, u3, u4, u5, uf, ul⟩ := kX2.six
      obtain ⟨S, hS⟩ : ∃ S, (⟨sec.toArray⟩ : ByteArray) = S := ⟨_, rfl⟩
      have kA : (convert 24 9 (.slice la sec.length lc)).run Try.prog U = .ok (.string S) U := by rw [← hS]; exact conv_str hg1 rfl
      have kB : (convert 24 9 (.slice la2 sec.length lc2)).run Try.prog U = .ok (.string S) U := by rw [← hS]; exact conv_str hg2 rfl
      clear hS hg1 hg2
      go_wp2_with fail
      go_roundw
      case rel => exact ⟨i + 1, by go_num, by omega, bu⟩
      case measure => simp [intOf]; omega
    · obtain rfl : i = l1.length := by omega
      go_wp2_with fail
      go_ret
      exact ⟨rfl, bw⟩
end Go.Proofs.Ytgngmmmdhhjbhaa
