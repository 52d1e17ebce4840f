import Derived.Test.YtcigcijhpnciaaaNear
import Derived.Test.YtcigcijhpnciaaaAwake
import Derived.Test.YtcigcijhpnciaaaQuiet
namespace Go.Proofs.Ytcigcijhpnciaaa
open Go.RowKit Go.Sort
set_option maxRecDepth 20000

theorem take_ne {n m : Nat} (hn : n ≤ 4294967295) (hm : m ≤ 4294967295) (hne : n ≠ m) (k : Nat) (hk : k = min (vEnc n).length (vEnc m).length) : (vEnc n).take k ≠ (vEnc m).take k := by
  intro h
  rcases Nat.le_total (vEnc n).length (vEnc m).length with hl | hl
  · rw [hk, Nat.min_eq_left hl, List.take_length] at h
    exact hne (vEnc_prefix hn hm h.symm)
  · rw [hk, Nat.min_eq_right hl, List.take_length] at h
    exact hne (vEnc_prefix hm hn h).symm
theorem code_len_lt {n m : Nat} (h : (vEnc m).length < (vEnc n).length) : m < n := by
  rcases Nat.lt_or_ge m n with h1 | h1
  · exact h1
  · have := vEnc_mono n m h1; omega
theorem modU (v : Int) : ∃ x : Nat, v % 4294967296 = (x : Int) ∧ (x : Int) ≤ 4294967295 := ⟨(v % 4294967296).toNat, by omega, by omega⟩

set_option maxHeartbeats 1000000 in
theorem varintPrefix_walk (n m : Int) (w : World) : Calls Try.prog 6 #[.int .i64 n, .int .i64 m] w fun e w' => e = .returned (.bool true) ∧ Below w.heap.size w w' := by
  have m1 := mod_wf n 300 (by omega)
  have m2 := mod_wf m 300 (by omega)
  have tok : True := trivial
  have tok2 : True := trivial
  go_enter Try.func6, Try.ntmps6
  go_wp2_with (first | (go_at_call 7; (with_reducible refine (near_any n _).mono ?_); rintro e w1 ⟨v, rfl, hv1, hv2, hb⟩; (have _t := tok; clear tok; obtain ⟨x, hx, hx2⟩ := modU (v + n % 300); have HX := Lib.hid hx2; clear hx2)) | (go_at_call 7; (with_reducible refine (near_any m _).mono ?_); rintro e w2 ⟨v2, rfl, hv3, hv4, hb2⟩; (obtain ⟨y, hy, hy2⟩ := modU (v2 + m % 300); have HY := Lib.hid hy2; clear hy2)) | (go_at_call 8; (with_reducible refine (mk_Mod _ _ _ (by omega) (by omega)).mono ?_); rintro e w' ⟨rfl, rfl⟩))
  clear hx hy m1 m2 hv1 hv2 hv3 hv4
  obtain ⟨c1, hc1⟩ : ∃ c, vEnc (x : Int).toNat = c := ⟨_, rfl⟩
  obtain ⟨c2, hc2⟩ : ∃ c, vEnc (y : Int).toNat = c := ⟨_, rfl⟩
  have l1 : 1 ≤ c1.length ∧ c1.length ≤ 5 := by rw [← hc1]; have := HX.out; exact ⟨vEnc_pos _, vEnc_len5 (by omega)⟩
  have l2 : 1 ≤ c2.length ∧ c2.length ≤ 5 := by rw [← hc2]; have := HY.out; exact ⟨vEnc_pos _, vEnc_len5 (by omega)⟩
  have z1 : ((c1.length : Int) == 0) = false := by rw [beq_eq_false_iff_ne]; omega
  have z2 : ((c2.length : Int) == 0) = false := by rw [beq_eq_false_iff_ne]; omega
  have H1 := Lib.hid hc1
  have H2 := Lib.hid hc2
  clear hc1 hc2
  by_cases hxy : x = y
  · subst hxy
    have h12 : c1 = c2 := H1.out.symm.trans H2.out
    subst h12
    have xx : ((x : Int) == (x : Int)) = true := by simp
    go_wp2_with (first | (go_at_call 9; (with_reducible refine (varint_Encode_yes _ c1 _ (by omega) HX.out H1.out).mono ?_); rintro e w3 ⟨a3, cap3, rfl, own3, hb3⟩; (have _t := tok2; clear tok2)) | (go_at_call 9; (with_reducible refine (varint_Encode_yes _ c1 _ (by omega) HX.out H1.out).mono ?_); rintro e w4 ⟨a4, cap4, rfl, own4, hb4⟩; (have k3 := conv_str (cap := cap3) (own3.below hb4 (Nat.le_refl _)).byt (n := c1.length) rfl; have k4 := conv_str (cap := cap4) own4.byt (n := c1.length) rfl)) | (go_at_call 13; (with_reducible refine (awake_yes _).mono ?_); rintro e w5 ⟨rfl, hb5⟩))
    go_ret
    exact ⟨rfl, (by repeat (first | (with_reducible refine Below.setCell ?_ ?_ _) | (with_reducible refine Below.alloc ?_ ?_ _) | (with_reducible refine Below.drew ?_) | (with_reducible refine below_drewN ?_ _) | (with_reducible exact Below.refl _ _) | (with_reducible refine Below.trans ?_ (Below.mono hb5 ?_)) | (with_reducible refine Below.trans ?_ (Below.mono hb4 ?_)) | (with_reducible refine Below.trans ?_ (Below.mono hb3 ?_)) | (with_reducible refine Below.trans ?_ (Below.mono hb2 ?_)) | (with_reducible refine Below.trans ?_ (Below.mono hb ?_)) | (focus (simp; done)) | (focus (simp; omega)) | (focus omega) | (focus (have q0 := Below.size hb5; (try simp at q0); have q1 := Below.size hb4; (try simp at q1); have q2 := Below.size hb3; (try simp at q2); have q3 := Below.size hb2; (try simp at q3); have q4 := Below.size hb; (try simp at q4); (try simp); omega))))⟩
  · have xx : ((x : Int) == (y : Int)) = false := by rw [beq_eq_false_iff_ne]; omega
    obtain ⟨s1, hs1⟩ : ∃ s : ByteArray, s = ⟨(c1.take (min c1.length c2.length)).toArray⟩ := ⟨_, rfl⟩
    obtain ⟨s2, hs2⟩ : ∃ s : ByteArray, s = ⟨(c2.take (min c1.length c2.length)).toArray⟩ := ⟨_, rfl⟩
    have hne : (s1.toList == s2.toList) = false := by
      rw [hs1, hs2]
      refine str_ne fun h3 => ?_
      have hx := HX.out
      have hy := HY.out
      rw [← H1.out, ← H2.out, Int.toNat_natCast, Int.toNat_natCast] at h3
      exact take_ne (by omega) (by omega) hxy _ rfl h3
    have hmono : c2.length < c1.length → y < x := fun h => code_len_lt (by rw [← H1.out, ← H2.out, Int.toNat_natCast, Int.toNat_natCast] at h; exact h)
    have hmono2 : c1.length < c2.length → x < y := fun h => code_len_lt (by rw [← H1.out, ← H2.out, Int.toNat_natCast, Int.toNat_natCast] at h; exact h)
    have S1 := Lib.hid hs1
    have S2 := Lib.hid hs2
    have N1 := Lib.hid hmono
    have N2 := Lib.hid hmono2
    clear hs1 hs2 hxy hmono hmono2
    have hw4 : ∀ {w3 w4 : World}, RowKit.Below w2.heap.size w2 w3 → RowKit.Below w3.heap.size w3 w4 → RowKit.Below w.heap.size w w4 := fun hb3 hb4 => (by repeat (first | (with_reducible refine Below.setCell ?_ ?_ _) | (with_reducible refine Below.alloc ?_ ?_ _) | (with_reducible refine Below.drew ?_) | (with_reducible refine below_drewN ?_ _) | (with_reducible exact Below.refl _ _) | (with_reducible refine Below.trans ?_ (Below.mono hb4 ?_)) | (with_reducible refine Below.trans ?_ (Below.mono hb3 ?_)) | (with_reducible refine Below.trans ?_ (Below.mono hb2 ?_)) | (with_reducible refine Below.trans ?_ (Below.mono hb ?_)) | (focus (simp; done)) | (focus (simp; omega)) | (focus omega) | (focus (have q0 := Below.size hb4; (try simp at q0); have q1 := Below.size hb3; (try simp at q1); have q2 := Below.size hb2; (try simp at q2); have q3 := Below.size hb; (try simp at q3); (try simp); omega))))
    by_cases hle : c1.length ≤ c2.length
    · have hmin : min c1.length c2.length = c1.length := Nat.min_eq_left hle
      have b1 : decide ((c1.length : Int) ≤ c2.length) = true := decide_eq_true (by omega)
      go_wp2_with (first | (go_at_call 9; (with_reducible refine (varint_Encode_yes _ c1 _ (by omega) HX.out H1.out).mono ?_); rintro e w3 ⟨a3, cap3, rfl, own3, hb3⟩; (have _t := tok2; clear tok2)) | (go_at_call 9; (with_reducible refine (varint_Encode_yes _ c2 _ (by omega) HY.out H2.out).mono ?_); rintro e w4 ⟨a4, cap4, rfl, own4, hb4⟩))
      obtain ⟨g3, rfl, _, _⟩ := own3.open_ (by omega)
      obtain ⟨g4, rfl, _, _⟩ := own4.open_ (by omega)
      have b3 := own3.below hb4 (Nat.le_refl _)
      have kA : ∀ d os, (convert 25 9 (.slice (some ⟨g3, 0, none⟩) c1.length cap3)).run Try.prog (grow (redrawn w4 d) os) = .ok (.string s1) (grow (redrawn w4 d) os) := fun d os => by
        rw [S1.out, hmin]
        exact conv_str ((b3.byt.take c1.length).below (below_regrown w4 d os) (Nat.le_refl _)) (by simp; try omega)
      have kB : ∀ d os, (convert 25 9 (.slice (some ⟨g4, 0, none⟩) c1.length cap4)).run Try.prog (grow (redrawn w4 d) os) = .ok (.string s2) (grow (redrawn w4 d) os) := fun d os => by
        rw [S2.out, hmin]
        exact conv_str ((own4.byt.take c1.length).below (below_regrown w4 d os) (Nat.le_refl _)) (by simp; try omega)
      have hcap4 : c2.length ≤ cap4 := own4.cap_le
      have hcap3 : c1.length ≤ cap3 := own3.cap_le
      by_cases hle2 : c2.length ≤ c1.length
      · have b2 : decide ((c2.length : Int) ≤ c1.length) = true := decide_eq_true (by omega)
        (refine wp_region_quiet_below (by kernel_rfl) (by kernel_rfl) ?_; (repeat (go_big_quiet_step (first | (go_at_call 13; exact qb (awake_yes _))))); refine wpQuiet_nil ?_; intro wq hwq; have hbq := below_of_regrown hwq; clear hwq)
        go_wp2
        go_ret
        exact ⟨rfl, (hw4 hb3 hb4).trans (hbq.mono (hw4 hb3 hb4).size)⟩
      · have b2 : decide ((c2.length : Int) ≤ c1.length) = false := decide_eq_false (by omega)
        have b3' : decide (x < y) = true := decide_eq_true (N2.out (by omega))
        have b4' : decide (c2.length ≤ c1.length) = false := decide_eq_false (by omega)
        (refine wp_region_quiet_below (by kernel_rfl) (by kernel_rfl) ?_; (repeat (go_big_quiet_step (first | (go_at_call 13; exact qb (awake_yes _))))); refine wpQuiet_nil ?_; intro wq hwq; have hbq := below_of_regrown hwq; clear hwq)
        go_wp2
        go_ret
        exact ⟨rfl, (hw4 hb3 hb4).trans (hbq.mono (hw4 hb3 hb4).size)⟩
    · have hmin : min c1.length c2.length = c2.length := Nat.min_eq_right (by omega)
      have b1 : decide ((c1.length : Int) ≤ c2.length) = false := decide_eq_false (by omega)
      have b2 : decide ((c2.length : Int) ≤ c1.length) = true := decide_eq_true (by omega)
      have b3' : decide (y < x) = true := decide_eq_true (N1.out (by omega))
      have b4' : decide (c1.length ≤ c2.length) = false := decide_eq_false (by omega)
      go_wp2_with (first | (go_at_call 9; (with_reducible refine (varint_Encode_yes _ c1 _ (by omega) HX.out H1.out).mono ?_); rintro e w3 ⟨a3, cap3, rfl, own3, hb3⟩; (have _t := tok2; clear tok2)) | (go_at_call 9; (with_reducible refine (varint_Encode_yes _ c2 _ (by omega) HY.out H2.out).mono ?_); rintro e w4 ⟨a4, cap4, rfl, own4, hb4⟩))
      obtain ⟨g3, rfl, _, _⟩ := own3.open_ (by omega)
      obtain ⟨g4, rfl, _, _⟩ := own4.open_ (by omega)
      have b3 := own3.below hb4 (Nat.le_refl _)
      have kA : ∀ d os, (convert 25 9 (.slice (some ⟨g3, 0, none⟩) c2.length cap3)).run Try.prog (grow (redrawn w4 d) os) = .ok (.string s1) (grow (redrawn w4 d) os) := fun d os => by
        rw [S1.out, hmin]
        exact conv_str ((b3.byt.take c2.length).below (below_regrown w4 d os) (Nat.le_refl _)) (by simp; try omega)
      have kB : ∀ d os, (convert 25 9 (.slice (some ⟨g4, 0, none⟩) c2.length cap4)).run Try.prog (grow (redrawn w4 d) os) = .ok (.string s2) (grow (redrawn w4 d) os) := fun d os => by
        rw [S2.out, hmin]
        exact conv_str ((own4.byt.take c2.length).below (below_regrown w4 d os) (Nat.le_refl _)) (by simp; try omega)
      have hcap4 : c2.length ≤ cap4 := own4.cap_le
      have hcap3 : c1.length ≤ cap3 := own3.cap_le
      have hc23 : c2.length ≤ cap3 := by omega
      have hc24 : decide (c2.length ≤ c1.length) = true := decide_eq_true (by omega)
      (refine wp_region_quiet_below (by kernel_rfl) (by kernel_rfl) ?_; (repeat (go_big_quiet_step (first | (go_at_call 13; exact qb (awake_yes _))))); refine wpQuiet_nil ?_; intro wq hwq; have hbq := below_of_regrown hwq; clear hwq)
      go_wp2
      go_ret
      exact ⟨rfl, (hw4 hb3 hb4).trans (hbq.mono (hw4 hb3 hb4).size)⟩
end Go.Proofs.Ytcigcijhpnciaaa
