/- signalbrokerref05.Valid, Encode -/
import Derived.Test.YtpjnajallekjoaaRefPay
namespace Go.Proofs.Ytpjnajallekjoaa
open Go.RowKit Go.Sort
set_option maxRecDepth 100000

def ValR (m : Msg) (w : World) (e : Ending) (w' : World) : Prop := (m.Ok ∧ e = .returned (.bool true) ∨ ¬ m.Ok ∧ e = .returned (.bool false)) ∧ Below w.heap.size w w'
theorem shp_five (k : Int) : ((shpOf k).grp = 0) ∨ ((shpOf k).grp = 4 ∧ (shpOf k).lo = 1 ∧ (shpOf k).hi = 3) ∨ ((shpOf k).grp = 2 ∧ (shpOf k).lo = 1 ∧ (shpOf k).hi = 3) ∨ ((shpOf k).grp = 3 ∧ (shpOf k).lo = 0 ∧ (shpOf k).hi = 16) ∨ ((shpOf k).grp = 2 ∧ (shpOf k).lo = 0 ∧ (shpOf k).hi = 4) := by
  unfold shpOf
  repeat' split
  all_goals simp
/-- the reference's tests -/
theorem grpOk_ref {k : Int} {s : Shp} (hs : shpOf k = s) (A : Nat) : ∃ P H : Int, s.grp * s.lo = P ∧ s.grp * s.hi = H ∧ 0 ≤ P ∧ P ≤ 4 ∧ 0 ≤ H ∧ H ≤ 48 ∧
    (grpOk s A ↔ (s.grp = 0 ∧ (A : Int) - s.fix = 0) ∨ (0 < s.grp ∧ P ≤ (A : Int) - s.fix ∧ (A : Int) - s.fix ≤ H ∧ ((A : Int) - s.fix).tmod s.grp = 0)) := by
  have h5 := shp_five k
  have so := shpOf_ok k
  rw [hs] at h5 so
  obtain ⟨tk, fx, gr, lo, hi, dt⟩ := s
  simp only at h5 ⊢
  have key : ∀ (G L U : Int), 0 < G → 0 ≤ L → (gr = G ∧ lo = L ∧ hi = U) → (∀ D : Int, 0 ≤ D → ((D % G = 0 ∧ L ≤ D / G ∧ D / G ≤ U) ↔ (G * L ≤ D ∧ D ≤ G * U ∧ D % G = 0))) →
      (grpOk ⟨tk, fx, gr, lo, hi, dt⟩ A ↔ (gr = 0 ∧ (A : Int) - fx = 0) ∨ (0 < gr ∧ gr * lo ≤ (A : Int) - fx ∧ (A : Int) - fx ≤ gr * hi ∧ ((A : Int) - fx).tmod gr = 0)) := by
    rintro G L U hG hL ⟨rfl, rfl, rfl⟩ h
    have h0 : gr ≠ 0 := by omega
    have hm : 0 ≤ gr * lo := Int.mul_nonneg (by omega) hL
    unfold grpOk
    simp only
    rw [if_neg h0]
    constructor
    · rintro ⟨a, b, c, d⟩
      obtain ⟨x, y, z⟩ := (h ((A : Int) - fx) (by omega)).1 ⟨b, c, d⟩
      exact .inr ⟨hG, x, y, by rw [Int.tmod_eq_emod_of_nonneg (by omega)]; exact z⟩
    · rintro (⟨a, _⟩ | ⟨_, x, y, z⟩)
      · exact absurd a h0
      · rw [Int.tmod_eq_emod_of_nonneg (by omega)] at z
        obtain ⟨b, c, d⟩ := (h ((A : Int) - fx) (by omega)).2 ⟨x, y, z⟩
        exact ⟨by omega, b, c, d⟩
  rcases h5 with h | h | h | h | h
  · refine ⟨_, _, rfl, rfl, by rw [h]; simp, by rw [h]; simp, by rw [h]; simp, by rw [h]; simp, ?_⟩
    unfold grpOk
    simp only
    rw [if_pos h]
    constructor
    · intro q; exact .inl ⟨h, by omega⟩
    · rintro (⟨_, q⟩ | ⟨q, _⟩) <;> omega
  · refine ⟨_, _, rfl, rfl, ?_, ?_, ?_, ?_, key 4 1 3 (by omega) (by omega) h (fun D h0 => by omega)⟩ <;> (rw [h.1]; first | rw [h.2.1] | rw [h.2.2]) <;> omega
  · refine ⟨_, _, rfl, rfl, ?_, ?_, ?_, ?_, key 2 1 3 (by omega) (by omega) h (fun D h0 => by omega)⟩ <;> (rw [h.1]; first | rw [h.2.1] | rw [h.2.2]) <;> omega
  · refine ⟨_, _, rfl, rfl, ?_, ?_, ?_, ?_, key 3 0 16 (by omega) (by omega) h (fun D h0 => by omega)⟩ <;> (rw [h.1]; first | rw [h.2.1] | rw [h.2.2]) <;> omega
  · refine ⟨_, _, rfl, rfl, ?_, ?_, ?_, ?_, key 2 0 4 (by omega) (by omega) h (fun D h0 => by omega)⟩ <;> (rw [h.1]; first | rw [h.2.1] | rw [h.2.2]) <;> omega
theorem ref05_ForServerV {k : Int} {b : Bool} (h : forSrv k = b) (w : World) : Calls Try.prog 35 #[.int .i64 k] w fun e w' => e = .returned (.bool b) ∧ w = w' := by rw [← h]; exact ref05_ForServer k w

set_option maxHeartbeats 4000000 in
theorem ref05_Valid (m : Msg) (ta : Option Addr) (tc : Nat) (aa da : Option Addr) (ac dc : Nat) (w : World) (hat : MsgAt w m ta tc aa da) {tn an dn : Nat} (e1 : tn = m.tok.length) (e2 : an = m.args.length) (e3 : dn = m.dat.length) :
    Calls Try.prog 20 #[.agg #[.int .i64 m.kind, .slice ta tn tc, .slice aa an ac, .slice da dn dc]] w (ValR m w) := by
  obtain ⟨kind, tok, args, dat⟩ := m
  subst e1 e2 e3
  obtain ⟨L1, L2, L3⟩ := hat.len
  simp only at L1 L2 L3
  by_cases hk : 1 ≤ kind ∧ kind ≤ 22
  case neg =>
    have HN : Hid (¬ Msg.Ok ⟨kind, tok, args, dat⟩) := Lib.hid fun h => hk h.kind
    by_cases h1 : kind < 1
    all_goals
      go_enter Try.func20, Try.ntmps20
      go_wp2
      go_ret
      exact ⟨.inr ⟨HN.out, rfl⟩, (by repeat (first | (with_reducible refine Below.setCell ?_ ?_ _) | (with_reducible refine Below.alloc ?_ ?_ _) | (with_reducible refine Below.drew ?_) | (with_reducible refine below_drewN ?_ _) | (with_reducible exact Below.refl _ _) | (focus (simp; done)) | (focus (simp; omega)) | (focus omega)))⟩
  obtain ⟨h1, h2⟩ := hk
  obtain ⟨tk, fx, gr, lo, hi, dt, hs⟩ : ∃ tk fx gr lo hi dt, shpOf kind = ⟨tk, fx, gr, lo, hi, dt⟩ := ⟨_, _, _, _, _, _, rfl⟩
  have so := shpOf_ok kind
  have stk := shpOf_tok h1 h2
  obtain ⟨P, H, hP, hH, P0, P1, H0, H1, hgi⟩ := grpOk_ref hs args.length
  rw [hs] at so stk
  obtain ⟨-, f1, f2, -, -, f5⟩ := so
  simp only at f1 f2 f5 stk hP hH hgi
  have HGI := Lib.hid hgi
  have HS := Lib.hid hs
  clear hgi
  obtain ⟨fb, hfb, hft⟩ : ∃ fb, forSrv kind = fb ∧ ((fb = true ∧ tk = 10) ∨ (fb = false ∧ tk = 0)) := by
    refine ⟨_, rfl, ?_⟩
    unfold forSrv
    by_cases h12 : kind ≤ 12
    · left; simp [h1, h12, stk]
    · right; simp [h12, stk]
  clear stk
  have hFS := fun W => ref05_ForServerV hfb W
  clear hfb
  by_cases ht : (tok.length : Int) = tk
  case neg =>
    have HN : Hid (¬ Msg.Ok ⟨kind, tok, args, dat⟩) := Lib.hid fun h => ht (by have := h.tok; simp only [HS.out] at this; exact this)
    rcases hft with ⟨rfl, rfl⟩ | ⟨rfl, rfl⟩
    all_goals
      first
      | have z1 : ((tok.length : Int) != 10) = true := by rw [bne_iff_ne]; exact ht
      | have z1 : ((tok.length : Int) != 0) = true := by rw [bne_iff_ne]; exact ht
      clear ht
      go_enter Try.func20, Try.ntmps20
      go_wp2_with (first | (go_at_call 34; (with_reducible refine (ref05_ofE _ h1 h2 hs).mono ?_); rintro e w1 ⟨rfl, hb1⟩; (have bM : Blk w1 w.heap.size 44 #[.int .i64 kind, .slice ta tok.length tc, .slice aa args.length ac, .slice da dat.length dc] := (Blk.new w _ _).below hb1 (by simp)); (have lM := bM.lt); obtain ⟨m0, m1, m2, m3⟩ := bM.four) | (go_at_call 35; (with_reducible refine (hFS _).mono ?_); rintro e w' ⟨rfl, rfl⟩))
      go_ret
      exact ⟨.inr ⟨HN.out, rfl⟩, (by repeat (first | (with_reducible refine Below.setCell ?_ ?_ _) | (with_reducible refine Below.alloc ?_ ?_ _) | (with_reducible refine Below.drew ?_) | (with_reducible refine below_drewN ?_ _) | (with_reducible exact Below.refl _ _) | (with_reducible refine Below.trans ?_ (Below.mono hb1 ?_)) | (focus (simp; done)) | (focus (simp; omega)) | (focus omega) | (focus (have q0 := Below.size hb1; (try simp at q0); (try simp); omega))))⟩
  have hft2 : (fb = true ∧ ((tok.length : Int) != 10) = false) ∨ (fb = false ∧ ((tok.length : Int) != 0) = false) := by
    rcases hft with ⟨a, b⟩ | ⟨a, b⟩
    · left; exact ⟨a, by rw [bne_eq_false_iff_eq]; omega⟩
    · right; exact ⟨a, by rw [bne_eq_false_iff_eq]; omega⟩
  have HT := Lib.hid ht
  have htl : tok.length ≤ 10 := by rcases hft with ⟨_, b⟩ | ⟨_, b⟩ <;> omega
  clear hft ht
  obtain ⟨D, hD⟩ : ∃ D, (args.length : Int) - fx = D := ⟨_, rfl⟩
  obtain ⟨R, hR⟩ : ∃ R, D.tmod gr = R := ⟨_, rfl⟩
  have D0 : -4 ≤ D := by omega
  have D1 : D ≤ 1000000 := by omega
  have HGI2 : Hid (grpOk ⟨tk, fx, gr, lo, hi, dt⟩ args.length ↔ (gr = 0 ∧ D = 0) ∨ (0 < gr ∧ P ≤ D ∧ D ≤ H ∧ R = 0)) := by
    have := HGI.out
    rw [hD, hR] at this
    exact this
  clear HGI
  by_cases hg : grpOk ⟨tk, fx, gr, lo, hi, dt⟩ args.length
  case neg =>
    have HN : Hid (¬ Msg.Ok ⟨kind, tok, args, dat⟩) := Lib.hid fun h => hg (by have := h.grp; simp only [HS.out] at this; exact this)
    have hc : ((gr == 0) = true ∧ (D != 0) = true) ∨ ((gr == 0) = false ∧ decide (0 < gr) = true ∧ 0 < gr ∧ decide (D < P) = true) ∨ ((gr == 0) = false ∧ decide (0 < gr) = true ∧ 0 < gr ∧ decide (D < P) = false ∧ decide (H < D) = true) ∨ ((gr == 0) = false ∧ decide (0 < gr) = true ∧ 0 < gr ∧ decide (D < P) = false ∧ decide (H < D) = false ∧ (R != 0) = true) := by
      rw [HGI2.out] at hg
      simp only [beq_iff_eq, bne_iff_ne, beq_eq_false_iff_ne, decide_eq_true_eq, decide_eq_false_iff_not]
      omega
    clear hg
    rcases hc with ⟨y1, y2⟩ | ⟨y1, y2, gp, y3⟩ | ⟨y1, y2, gp, y3, y4⟩ | ⟨y1, y2, gp, y3, y4, y5⟩ <;> rcases hft2 with ⟨rfl, z1⟩ | ⟨rfl, z1⟩
    all_goals
      go_enter Try.func20, Try.ntmps20
      go_wp2_with (first | (go_at_call 34; (with_reducible refine (ref05_ofE _ h1 h2 hs).mono ?_); rintro e w1 ⟨rfl, hb1⟩; (have bM : Blk w1 w.heap.size 44 #[.int .i64 kind, .slice ta tok.length tc, .slice aa args.length ac, .slice da dat.length dc] := (Blk.new w _ _).below hb1 (by simp)); (have lM := bM.lt); obtain ⟨m0, m1, m2, m3⟩ := bM.four) | (go_at_call 35; (with_reducible refine (hFS _).mono ?_); rintro e w' ⟨rfl, rfl⟩))
      go_ret
      exact ⟨.inr ⟨HN.out, rfl⟩, (by repeat (first | (with_reducible refine Below.setCell ?_ ?_ _) | (with_reducible refine Below.alloc ?_ ?_ _) | (with_reducible refine Below.drew ?_) | (with_reducible refine below_drewN ?_ _) | (with_reducible exact Below.refl _ _) | (with_reducible refine Below.trans ?_ (Below.mono hb1 ?_)) | (focus (simp; done)) | (focus (simp; omega)) | (focus omega) | (focus (have q0 := Below.size hb1; (try simp at q0); (try simp); omega))))⟩
  have hc : ((gr == 0) = true ∧ decide (0 < gr) = false ∧ (D != 0) = false) ∨ ((gr == 0) = false ∧ decide (0 < gr) = true ∧ 0 < gr ∧ decide (D < P) = false ∧ decide (H < D) = false ∧ (R != 0) = false) := by
    have := HGI2.out.1 hg
    simp only [beq_iff_eq, bne_eq_false_iff_eq, beq_eq_false_iff_ne, decide_eq_true_eq, decide_eq_false_iff_not]
    omega
  have HG := Lib.hid hg
  clear hg HGI2
  by_cases hd : dt = -1 ∨ (dat.length : Int) = dt
  case neg =>
    have HN : Hid (¬ Msg.Ok ⟨kind, tok, args, dat⟩) := Lib.hid fun h => hd (by have := h.dat; simp only [HS.out] at this; exact this)
    have x1 : decide (0 ≤ dt) = true := decide_eq_true (by omega)
    have x2 : ((dat.length : Int) != dt) = true := by rw [bne_iff_ne]; exact fun q => hd (.inr q)
    clear hd
    rcases hc with ⟨y1, y2, y3⟩ | ⟨y1, y2, gp, y3, y4, y5⟩ <;> rcases hft2 with ⟨rfl, z1⟩ | ⟨rfl, z1⟩
    all_goals
      go_enter Try.func20, Try.ntmps20
      go_wp2_with (first | (go_at_call 34; (with_reducible refine (ref05_ofE _ h1 h2 hs).mono ?_); rintro e w1 ⟨rfl, hb1⟩; (have bM : Blk w1 w.heap.size 44 #[.int .i64 kind, .slice ta tok.length tc, .slice aa args.length ac, .slice da dat.length dc] := (Blk.new w _ _).below hb1 (by simp)); (have lM := bM.lt); obtain ⟨m0, m1, m2, m3⟩ := bM.four) | (go_at_call 35; (with_reducible refine (hFS _).mono ?_); rintro e w' ⟨rfl, rfl⟩))
      go_ret
      exact ⟨.inr ⟨HN.out, rfl⟩, (by repeat (first | (with_reducible refine Below.setCell ?_ ?_ _) | (with_reducible refine Below.alloc ?_ ?_ _) | (with_reducible refine Below.drew ?_) | (with_reducible refine below_drewN ?_ _) | (with_reducible exact Below.refl _ _) | (with_reducible refine Below.trans ?_ (Below.mono hb1 ?_)) | (focus (simp; done)) | (focus (simp; omega)) | (focus omega) | (focus (have q0 := Below.size hb1; (try simp at q0); (try simp); omega))))⟩
  have hdd : (decide (0 ≤ dt) = false) ∨ (decide (0 ≤ dt) = true ∧ ((dat.length : Int) != dt) = false) := by
    simp only [bne_eq_false_iff_eq, decide_eq_true_eq, decide_eq_false_iff_not]
    omega
  by_cases hl : 200 < dat.length
  case pos =>
    have HN : Hid (¬ Msg.Ok ⟨kind, tok, args, dat⟩) := Lib.hid fun h => by have := h.dlen; simp only at this; omega
    have x1 : decide (0 ≤ dt) = false := decide_eq_false (by omega)
    clear hd hdd
    rcases hc with ⟨y1, y2, y3⟩ | ⟨y1, y2, gp, y3, y4, y5⟩ <;> rcases hft2 with ⟨rfl, z1⟩ | ⟨rfl, z1⟩
    all_goals
      go_enter Try.func20, Try.ntmps20
      go_wp2_with (first | (go_at_call 34; (with_reducible refine (ref05_ofE _ h1 h2 hs).mono ?_); rintro e w1 ⟨rfl, hb1⟩; (have bM : Blk w1 w.heap.size 44 #[.int .i64 kind, .slice ta tok.length tc, .slice aa args.length ac, .slice da dat.length dc] := (Blk.new w _ _).below hb1 (by simp)); (have lM := bM.lt); obtain ⟨m0, m1, m2, m3⟩ := bM.four) | (go_at_call 35; (with_reducible refine (hFS _).mono ?_); rintro e w' ⟨rfl, rfl⟩))
      go_ret
      exact ⟨.inr ⟨HN.out, rfl⟩, (by repeat (first | (with_reducible refine Below.setCell ?_ ?_ _) | (with_reducible refine Below.alloc ?_ ?_ _) | (with_reducible refine Below.drew ?_) | (with_reducible refine below_drewN ?_ _) | (with_reducible exact Below.refl _ _) | (with_reducible refine Below.trans ?_ (Below.mono hb1 ?_)) | (focus (simp; done)) | (focus (simp; omega)) | (focus omega) | (focus (have q0 := Below.size hb1; (try simp at q0); (try simp); omega))))⟩
  have z5 : decide (200 < dat.length) = false := decide_eq_false hl
  have HOK := Lib.hid (msg_ok h1 h2 hs HT.out hd HG.out (by omega))
  have ia : Ints w aa args := hat.args
  have HP : Hid (∀ (hall : ∀ n ∈ args, argOk n) (W : World), RowKit.Below w.heap.size w W → Calls Try.prog 36 #[.agg #[.int .i64 kind, .slice ta tok.length tc, .slice aa args.length ac, .slice da dat.length dc]] W (PayR ⟨kind, tok, args, dat⟩ W)) :=
    Lib.hid fun hall W hb => ref05_payload_ok ta tc aa da ac dc W h1 h2 hs htl HG.out hall (hat.below hb (Nat.le_refl _))
  clear hd hat
  rcases hc with ⟨y1, y2, y3⟩ | ⟨y1, y2, gp, y3, y4, y5⟩ <;> rcases hft2 with ⟨rfl, z1⟩ | ⟨rfl, z1⟩ <;> rcases hdd with x1 | ⟨x1, x2⟩
  all_goals
    go_enter Try.func20, Try.ntmps20
    go_wp2_with (first | (go_at_call 34; (with_reducible refine (ref05_ofE _ h1 h2 hs).mono ?_); rintro e w1 ⟨rfl, hb1⟩; (have bM : Blk w1 w.heap.size 44 #[.int .i64 kind, .slice ta tok.length tc, .slice aa args.length ac, .slice da dat.length dc] := (Blk.new w _ _).below hb1 (by simp)); (have lM := bM.lt); obtain ⟨m0, m1, m2, m3⟩ := bM.four) | (go_at_call 35; (with_reducible refine (hFS _).mono ?_); rintro e w' ⟨rfl, rfl⟩))
    have hb01 : RowKit.Below w.heap.size w w1 := (by repeat (first | (with_reducible refine Below.setCell ?_ ?_ _) | (with_reducible refine Below.alloc ?_ ?_ _) | (with_reducible refine Below.drew ?_) | (with_reducible refine below_drewN ?_ _) | (with_reducible exact Below.refl _ _) | (with_reducible refine Below.trans ?_ (Below.mono hb1 ?_)) | (focus (simp; done)) | (focus (simp; omega)) | (focus omega) | (focus (have q0 := Below.size hb1; (try simp at q0); (try simp); omega))))
    have ia1 : Ints w1 aa args := ia.below hb01 (Nat.le_refl _)
    clear ia
    go_loop [99] (fun i => ∃ k : Nat, k ≤ args.length ∧ i = .int .i64 k ∧ ∀ n ∈ args.take k, argOk n) (fun i => args.length - (intOf i).toNat)
    case atStart => exact ⟨0, Nat.zero_le _, rfl, by simp⟩
    case round =>
      obtain ⟨k, hk, rfl, hall⟩ := hrel
      have HA := Lib.hid hall
      clear hall
      by_cases hlt : k < args.length
      · rcases ia1.open with h | ⟨b, off, rfl, hbl, hc⟩
        · rw [h] at hlt; simp at hlt
        have hi : (k : Int) < (args.length : Int) := by omega
        have hck := hc k hlt
        obtain ⟨x, hx⟩ : ∃ x, args[k] = x := ⟨_, rfl⟩
        rw [hx] at hck
        have HX := Lib.hid hx
        clear hx hc
        by_cases c0 : x < 0
        · have HN : Hid (¬ Msg.Ok ⟨kind, tok, args, dat⟩) := Lib.hid fun h => by have := h.args _ (List.getElem_mem hlt); rw [HX.out] at this; have := this.1; omega
          go_wp2
          go_ret
          exact ⟨.inr ⟨HN.out, rfl⟩, (by repeat (first | (with_reducible refine Below.setCell ?_ ?_ _) | (with_reducible refine Below.alloc ?_ ?_ _) | (with_reducible refine Below.drew ?_) | (with_reducible refine below_drewN ?_ _) | (with_reducible exact Below.refl _ _) | (with_reducible refine Below.trans ?_ (Below.mono hb1 ?_)) | (focus (simp; done)) | (focus (simp; omega)) | (focus omega) | (focus (have q0 := Below.size hb1; (try simp at q0); (try simp); omega))))⟩
        by_cases c1 : 4294967295 < x
        · have HN : Hid (¬ Msg.Ok ⟨kind, tok, args, dat⟩) := Lib.hid fun h => by have := h.args _ (List.getElem_mem hlt); rw [HX.out] at this; have := this.2; omega
          go_wp2
          go_ret
          exact ⟨.inr ⟨HN.out, rfl⟩, (by repeat (first | (with_reducible refine Below.setCell ?_ ?_ _) | (with_reducible refine Below.alloc ?_ ?_ _) | (with_reducible refine Below.drew ?_) | (with_reducible refine below_drewN ?_ _) | (with_reducible exact Below.refl _ _) | (with_reducible refine Below.trans ?_ (Below.mono hb1 ?_)) | (focus (simp; done)) | (focus (simp; omega)) | (focus omega) | (focus (have q0 := Below.size hb1; (try simp at q0); (try simp); omega))))⟩
        · have HA2 : Hid (∀ n ∈ args.take (k + 1), argOk n) := by
            show ∀ n ∈ _, _
            rw [List.take_succ_eq_append_getElem hlt, HX.out]
            intro n hn
            rcases List.mem_append.1 hn with h | h
            · exact HA.out n h
            · rw [List.mem_singleton.1 h]; exact ⟨by omega, by omega⟩
          go_wp2
          go_round
          case rel => exact ⟨k + 1, by omega, by go_num, HA2.out⟩
          case measure => simp [intOf]; omega
      · have hi : ¬ ((k : Int) < (args.length : Int)) := by omega
        have HALL : Hid (∀ n ∈ args, argOk n) := by
          have := HA.out
          rw [List.take_of_length_le (by omega)] at this
          exact this
        go_wp2_with (first | (go_at_call 36; (with_reducible refine (HP.out HALL.out _ (by repeat (first | (with_reducible refine Below.setCell ?_ ?_ _) | (with_reducible refine Below.alloc ?_ ?_ _) | (with_reducible refine Below.drew ?_) | (with_reducible refine below_drewN ?_ _) | (with_reducible exact Below.refl _ _) | (with_reducible refine Below.trans ?_ (Below.mono hb1 ?_)) | (focus (simp; done)) | (focus (simp; omega)) | (focus omega) | (focus (have q0 := Below.size hb1; (try simp at q0); (try simp); omega))))).mono ?_); rintro e w2 ⟨pa, pn, pc, rfl, hpn, ownp, hb2⟩))
        go_ret
        by_cases hp : pn ≤ 200
        · exact ⟨.inl ⟨HOK.out HALL.out (by omega), ret_bool (decide_eq_true (by omega))⟩, (by repeat (first | (with_reducible refine Below.setCell ?_ ?_ _) | (with_reducible refine Below.alloc ?_ ?_ _) | (with_reducible refine Below.drew ?_) | (with_reducible refine below_drewN ?_ _) | (with_reducible exact Below.refl _ _) | (with_reducible refine Below.trans ?_ (Below.mono hb1 ?_)) | (with_reducible refine Below.trans ?_ (Below.mono hb2 ?_)) | (focus (simp; done)) | (focus (simp; omega)) | (focus omega) | (focus (have q0 := Below.size hb1; (try simp at q0); have q1 := Below.size hb2; (try simp at q1); (try simp); omega))))⟩
        · exact ⟨.inr ⟨fun h => by have := h.plen; omega, ret_bool (decide_eq_false (by omega))⟩, (by repeat (first | (with_reducible refine Below.setCell ?_ ?_ _) | (with_reducible refine Below.alloc ?_ ?_ _) | (with_reducible refine Below.drew ?_) | (with_reducible refine below_drewN ?_ _) | (with_reducible exact Below.refl _ _) | (with_reducible refine Below.trans ?_ (Below.mono hb1 ?_)) | (with_reducible refine Below.trans ?_ (Below.mono hb2 ?_)) | (focus (simp; done)) | (focus (simp; omega)) | (focus omega) | (focus (have q0 := Below.size hb1; (try simp at q0); have q1 := Below.size hb2; (try simp at q1); (try simp); omega))))⟩
end Go.Proofs.Ytpjnajallekjoaa
