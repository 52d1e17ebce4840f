/- law 05: MessageGroups -/
import Derived.Test.YthkoijgobigdnaaFrameR
import Derived.Test.YthkoijgobigdnaaReads
import Derived.Test.YthkoijgobigdnaaAppZ
import Derived.Outline
namespace Go.Proofs.Ythkoijgobigdnaa
open Go.RowKit Go.Sort
set_option maxRecDepth 100000

theorem Blk.sixteen {w : World} {b : Nat} {t : TypeId} {x0 x1 x2 x3 x4 x5 x6 x7 x8 x9 x10 x11 x12 x13 x14 x15 : Int} (h : Blk w b t #[.int .i64 x0, .int .i64 x1, .int .i64 x2, .int .i64 x3, .int .i64 x4, .int .i64 x5, .int .i64 x6, .int .i64 x7, .int .i64 x8, .int .i64 x9, .int .i64 x10, .int .i64 x11, .int .i64 x12, .int .i64 x13, .int .i64 x14, .int .i64 x15]) (i : Nat) (hi : i < 4) :
    ∃ k0 k1 k2 k3 : Int, ((k0, k1, k2, k3) = (x0, x1, x2, x3) ∨ (k0, k1, k2, k3) = (x4, x5, x6, x7) ∨ (k0, k1, k2, k3) = (x8, x9, x10, x11) ∨ (k0, k1, k2, k3) = (x12, x13, x14, x15)) ∧ w.cell? ⟨b, i * 4, none⟩ = some (.int .i64 k0) ∧ w.cell? ⟨b, i * 4 + 1, none⟩ = some (.int .i64 k1) ∧ w.cell? ⟨b, i * 4 + 2, none⟩ = some (.int .i64 k2) ∧ w.cell? ⟨b, i * 4 + 3, none⟩ = some (.int .i64 k3) := by
  have hi' : i = 0 ∨ i = 1 ∨ i = 2 ∨ i = 3 := by omega
  rcases hi' with rfl | rfl | rfl | rfl
  · exact ⟨_, _, _, _, .inl rfl, h.cell 0, h.cell 1, h.cell 2, h.cell 3⟩
  · exact ⟨_, _, _, _, .inr (.inl rfl), h.cell 4, h.cell 5, h.cell 6, h.cell 7⟩
  · exact ⟨_, _, _, _, .inr (.inr (.inl rfl)), h.cell 8, h.cell 9, h.cell 10, h.cell 11⟩
  · exact ⟨_, _, _, _, .inr (.inr (.inr rfl)), h.cell 12, h.cell 13, h.cell 14, h.cell 15⟩
theorem Touch.set4 {W : List Nat} {lo hi : Nat → Nat} (w : World) {b k : Nat} (hk : k ∈ W) (h1 : lo k ≤ b) (h2 : b < hi k) (v0 v1 v2 v3 : Value) : Touch W lo hi w ((((w.setCell ⟨b, 0, none⟩ v0).setCell ⟨b, 1, none⟩ v1).setCell ⟨b, 2, none⟩ v2).setCell ⟨b, 3, none⟩ v3) :=
  (((Touch.set w hk h1 h2 0 v0).trans (Touch.set _ hk h1 h2 1 v1)).trans (Touch.set _ hk h1 h2 2 v2)).trans (Touch.set _ hk h1 h2 3 v3)
theorem Blk.set4 {w : World} {b : Nat} {t : TypeId} {u0 u1 u2 u3 : Value} (h : Blk w b t #[u0, u1, u2, u3]) (v0 v1 v2 v3 : Value) : Blk ((((w.setCell ⟨b, 0, none⟩ v0).setCell ⟨b, 1, none⟩ v1).setCell ⟨b, 2, none⟩ v2).setCell ⟨b, 3, none⟩ v3) b t #[v0, v1, v2, v3] :=
  (((h.set 0 v0).set 1 v1).set 2 v2).set 3 v3
/-- make([]int, n), an operation's obligation -/
theorem obl_makeI {w : World} {ρ : Operand → Value} {R : Value → World → Prop} {dst : Option Tmp} {x y : Operand} {ty : TypeId} {pos : String} {after : Array Edge} {guard : Option (Nat × Bool)}
    (n : Nat) (hx : ρ x = .int .i64 n) (hy : ρ y = .int .i64 n) (hn : n ≤ 100000)
    (h : Blk (w.alloc (.cells ((List.replicate n (0 : Int)).map encI).toArray 3)) w.heap.size 3 ((List.replicate n (0 : Int)).map encI).toArray → R (.slice (some ⟨w.heap.size, 0, none⟩) n n) (w.alloc (.cells ((List.replicate n (0 : Int)).map encI).toArray 3))) :
    oblUpon Try.prog R ((execOp ρ { dst, op := .makeSlice 23 x y, type := ty, pos, after, guard }).run Try.prog w) := by
  obtain ⟨i0, hi, hz0, hz1, hz2⟩ := info_parts info_int
  have hrun := run_make (P := Try.prog) w 23 3 i0 _ Try.underlying23 hi hz0 .i64 .i64 n n (by omega) (by omega) (by rw [hz2]; omega) (by omega)
  have e : madeCells (Value.int .i64 0).cells (n * 1) = ((List.replicate n (0 : Int)).map encI).toArray := by
    rw [Nat.mul_one, List.map_replicate]
    exact madeCells_one _ _
  simp only [Int.toNat_natCast, hz1] at hrun
  rw [e] at hrun
  simp only [execOp, hx, hy, Sem.run_bind, Result.andThen_ok, hrun]
  exact h (Blk.new _ _ _)

/-- the message of a round, in memory -/
structure GMsg (w W : World) (O J c : Nat) (k0 k1 k2 k3 : Int) (A : Nat) (ta : Option Addr) (tc : Nat) (tok : List UInt8) (args : List Int) : Prop where
  kK : Blk W O 41 #[.int .i64 k0, .int .i64 k1, .int .i64 k2, .int .i64 k3]
  blk : Blk W J 27 #[.int .i64 k0, .slice ta tok.length tc, .slice (some ⟨c, 0, none⟩) A A, .slice none 0 0]
  arg : Blk W c 3 (args.map encI).toArray
  tokB : Byt W ta tok
  len : A = args.length ∧ A ≤ 100 ∧ tok.length ≤ 10
  tnil : ta = none → tok.length = 0 ∧ tc = 0
  tnew : ∀ q, ta.map (·.block) = some q → q ≠ J ∧ q ≠ c
  jc : J ≠ c ∧ w.heap.size ≤ J ∧ w.heap.size ≤ c ∧ O < w.heap.size
  be : RowKit.Below w.heap.size w W
section
variable {w W W' : World} {O J c : Nat} {k0 k1 k2 k3 : Int} {A : Nat} {ta : Option Addr} {tc : Nat} {tok : List UInt8} {args : List Int}
theorem GMsg.below (h : GMsg w W O J c k0 k1 k2 k3 A ta tc tok args) (hb : RowKit.Below W.heap.size W W') : GMsg w W' O J c k0 k1 k2 k3 A ta tc tok args :=
  ⟨h.kK.below hb h.kK.lt, h.blk.below hb h.blk.lt, h.arg.below hb h.arg.lt, h.tokB.below hb (Nat.le_refl _), h.len, h.tnil, h.tnew, h.jc, h.be.trans (hb.mono h.be.size)⟩
theorem GMsg.at (h : GMsg w W O J c k0 k1 k2 k3 A ta tc tok args) : MsgAt W ⟨k0, tok, args, []⟩ ta tc (some ⟨c, 0, none⟩) none :=
  ⟨h.tokB, h.arg.rowL, Byt.nil _ _, h.tnil, by have := h.len; simp only [List.length_nil]; omega⟩
/-- the token is stored -/
theorem GMsg.token (h : GMsg w W O J c k0 k1 k2 k3 A none 0 [] args) {W2 : World} (hb : RowKit.Below W.heap.size W W2) {l : List UInt8} (hl : l.length = 10) {b : Nat} (hB : Blk W2 b 5 (l.map encB).toArray) (hbl : W.heap.size ≤ b) :
    GMsg w (W2.setCell ⟨J, 1, none⟩ (.slice (some ⟨b, 0, none⟩) 10 10)) O J c k0 k1 k2 k3 A (some ⟨b, 0, none⟩) 10 l args := by
  have q := h.below hb
  have hJ := h.blk.lt
  have hc := h.arg.lt
  obtain ⟨j1, j2, j3, j4⟩ := h.jc
  refine ⟨q.kK.far (by simp only; omega) _, by rw [hl]; exact q.blk.set 1 _, q.arg.far (by simp only; omega) _, (hB.rowL).far (fun e => by simp at e; omega) _, (by have := h.len; omega), (fun e => by cases e), (fun x e => by simp at e; omega), h.jc, (by repeat (first | (with_reducible refine Below.setCell ?_ ?_ _) | (with_reducible refine Below.alloc ?_ ?_ _) | (with_reducible refine Below.drew ?_) | (with_reducible refine below_drewN ?_ _) | (with_reducible exact Below.refl _ _) | (with_reducible refine Below.trans ?_ (Below.mono q.be ?_)) | (focus (simp; done)) | (focus (simp; omega)) | (focus omega) | (focus (have q0 := Below.size q.be; (try simp at q0); (try simp); omega))))⟩
/-- an argument is stored -/
theorem GMsg.argSet (h : GMsg w W O J c k0 k1 k2 k3 A ta tc tok args) (i : Nat) (x : Int) : GMsg w (W.setCell ⟨c, i, none⟩ (.int .i64 x)) O J c k0 k1 k2 k3 A ta tc tok (args.set i x) := by
  obtain ⟨j1, j2, j3, j4⟩ := h.jc
  exact ⟨h.kK.far (by simp only; omega) _, h.blk.far (by simp only; omega) _, h.arg.setL i x rfl, h.tokB.far (fun e => (h.tnew _ e).2 rfl) _, by rw [List.length_set]; exact h.len, h.tnil, h.tnew, h.jc, (by repeat (first | (with_reducible refine Below.setCell ?_ ?_ _) | (with_reducible refine Below.alloc ?_ ?_ _) | (with_reducible refine Below.drew ?_) | (with_reducible refine below_drewN ?_ _) | (with_reducible exact Below.refl _ _) | (with_reducible refine Below.trans ?_ (Below.mono h.be ?_)) | (focus (simp; done)) | (focus (simp; omega)) | (focus omega) | (focus (have q0 := Below.size h.be; (try simp at q0); (try simp); omega))))⟩
end

section
variable {kind : Int} {tok : List UInt8} {args : List Int} {l : List UInt8} {c : Int} (ta : Option Addr) (tc : Nat) (aa : Option Addr) (A : Nat) (w : World) (hat : MsgAt w ⟨kind, tok, args, []⟩ ta tc aa none) (hd : Hid (encP ⟨kind, tok, args, []⟩ = (l, c))) (hA : A = args.length)
include hat hd hA
theorem msg_EncodeA : Calls Try.prog 19 #[.agg #[.int .i64 kind, .slice ta tok.length tc, .slice aa A A, .slice none 0 0]] w (BytV l c w) := by
  subst hA
  have := msg_EncodeV ta tc aa none args.length 0 w hat hd
  simp only [List.length_nil] at this
  exact this
theorem ref05_EncodeA : Calls Try.prog 13 #[.agg #[.int .i64 kind, .slice ta tok.length tc, .slice aa A A, .slice none 0 0]] w (BytV l c w) := by
  subst hA
  have := ref05_EncodeV ta tc aa none args.length 0 w hat hd
  simp only [List.length_nil] at this
  exact this
end

theorem msg_DecodeA {k : Int} {p : List UInt8} {mk : Int} {mt : List UInt8} {ma : List Int} {md : List UInt8} {c : Int} (hd : Hid (decP k p = (⟨mk, mt, ma, md⟩, c))) {base n : Nat} (pa : Option Addr) (pc : Nat) (w : World) (own : Own w base 5 1 pa n pc (p.map encB)) (hn : n = p.length) :
    Calls Try.prog 16 #[.int .i64 k, .slice pa n pc] w (DecV ⟨mk, mt, ma, md⟩ c w) := by
  subst hn
  exact msg_DecodeV hd pa pc w own.byt own.cap_le (fun h => own.none_len h)
theorem ref05_DecodeA {k : Int} {p : List UInt8} {mk : Int} {mt : List UInt8} {ma : List Int} {md : List UInt8} {c : Int} (hd : Hid (decP k p = (⟨mk, mt, ma, md⟩, c))) {base n : Nat} (pa : Option Addr) (pc : Nat) (w : World) (own : Own w base 5 1 pa n pc (p.map encB)) (hn : n = p.length) (hp : n ≤ 1000) :
    Calls Try.prog 17 #[.int .i64 k, .slice pa n pc] w (DecV ⟨mk, mt, ma, md⟩ c w) := by
  subst hn
  exact ref05_DecodeV hd pa pc w own.byt hp own.cap_le (fun h => own.none_len h)

set_option maxHeartbeats 4000000 in
theorem messageGroups_walk (n value : Int) (w : World) :
    Calls Try.prog 4 #[.int .i64 n, .int .i64 value] w fun e w' => e = .returned (.bool true) ∧ Below w.heap.size w w' := by
  go_enter Try.func4, Try.ntmps4
  go_upto_region 2 with fail
  refine wp_named (fun W => Blk W w.heap.size 41 #[.int .i64 6, .int .i64 3, .int .i64 4, .int .i64 3, .int .i64 7, .int .i64 1, .int .i64 2, .int .i64 3, .int .i64 18, .int .i64 1, .int .i64 3, .int .i64 16, .int .i64 19, .int .i64 0, .int .i64 2, .int .i64 4] ∧ RowKit.Below w.heap.size w W) ⟨Blk.new _ _ _, (by repeat (first | (with_reducible refine Below.setCell ?_ ?_ _) | (with_reducible refine Below.alloc ?_ ?_ _) | (with_reducible refine Below.drew ?_) | (with_reducible refine below_drewN ?_ _) | (with_reducible exact Below.refl _ _) | (focus (simp; done)) | (focus (simp; omega)) | (focus omega)))⟩ ?_
  rintro W0 ⟨kb, be0⟩
  have lb := kb.lt
  have HK := Lib.hid (Blk.sixteen kb)
  clear kb
  go_loopw [25] (fun i wr => ∃ k : Nat, k ≤ 4 ∧ i = .int .i64 k ∧ RowKit.Below W0.heap.size W0 wr) (fun i _ => 4 - (intOf i).toNat)
  case atStart => exact ⟨0, by omega, rfl, RowKit.Below.refl _ _⟩
  case round =>
    obtain ⟨k, hk, rfl, hbr⟩ := hrel
    by_cases hlt : k < 4
    · have hi : (k : Int) < 4 := by omega
      obtain ⟨k0, k1, k2, k3, hor, y0, y1, y2, y3⟩ := HK.out k hlt
      have z0 : wr.cell? ⟨w.heap.size, k * 4, none⟩ = some (.int .i64 k0) := by rw [(bcell hbr).1 _ _ lb]; exact y0
      have z1 : wr.cell? ⟨w.heap.size, k * 4 + 1, none⟩ = some (.int .i64 k1) := by rw [(bcell hbr).1 _ _ lb]; exact y1
      have z2 : wr.cell? ⟨w.heap.size, k * 4 + 2, none⟩ = some (.int .i64 k2) := by rw [(bcell hbr).1 _ _ lb]; exact y2
      have z3 : wr.cell? ⟨w.heap.size, k * 4 + 3, none⟩ = some (.int .i64 k3) := by rw [(bcell hbr).1 _ _ lb]; exact y3
      have bk : 6 ≤ k0 ∧ k0 ≤ 19 ∧ 0 ≤ k1 ∧ k1 ≤ 3 ∧ 2 ≤ k2 ∧ k2 ≤ 4 ∧ 3 ≤ k3 ∧ k3 ≤ 16 := by
        simp only [Prod.mk.injEq] at hor
        omega
      clear y0 y1 y2 y3 hor
      obtain ⟨b1, b2, b3, b4, b5, b6, b7, b8⟩ := bk
      obtain ⟨wO, rfl⟩ : ∃ W', W' = wr := ⟨_, rfl⟩
      go_upto_region 5 with fail
      refine wp_named (fun W => Blk W wO.heap.size 41 #[.int .i64 k0, .int .i64 k1, .int .i64 k2, .int .i64 k3] ∧ (∀ j : Nat, j < 5 → ∃ g : Nat, W.cell? ⟨wO.heap.size + 1, j, none⟩ = some (.int .i64 g) ∧ g ≤ 17) ∧ wO.heap.size + 1 < W.heap.size ∧ RowKit.Below wO.heap.size wO W) ⟨(Blk.new _ _ _).alloc _, ?_, by simp, (by repeat (first | (with_reducible refine Below.setCell ?_ ?_ _) | (with_reducible refine Below.alloc ?_ ?_ _) | (with_reducible refine Below.drew ?_) | (with_reducible refine below_drewN ?_ _) | (with_reducible exact Below.refl _ _) | (focus (simp; done)) | (focus (simp; omega)) | (focus omega)))⟩ ?_
      · intro j hj
        have kk := Blk.next wO (.cells #[.int .i64 k0, .int .i64 k1, .int .i64 k2, .int .i64 k3] 41) 3 #[.int .i64 0, .int .i64 1, .int .i64 (k3 - 1), .int .i64 k3, .int .i64 (k3 + 1)]
        obtain ⟨q, rfl⟩ := Int.eq_ofNat_of_zero_le (show 0 ≤ k3 by omega)
        have hj' : j = 0 ∨ j = 1 ∨ j = 2 ∨ j = 3 ∨ j = 4 := by omega
        rcases hj' with rfl | rfl | rfl | rfl | rfl
        · exact ⟨0, kk.cell 0, by omega⟩
        · exact ⟨1, kk.cell 1, by omega⟩
        · exact ⟨q - 1, (kk.cell 2).trans (by simp; omega), by omega⟩
        · exact ⟨q, kk.cell 3, by omega⟩
        · exact ⟨q + 1, (kk.cell 4).trans (by simp), by omega⟩
      rintro W1 ⟨kK, hG, lG, be1⟩
      have HG := Lib.hid hG
      have lK := kK.lt
      clear hG z0 z1 z2 z3
      go_loopw [39] (fun i wy => ∃ j : Nat, j ≤ 5 ∧ i = .int .i64 j ∧ RowKit.Below W1.heap.size W1 wy) (fun i _ => 5 - (intOf i).toNat)
      case atStart => exact ⟨0, by omega, rfl, RowKit.Below.refl _ _⟩
      case round =>
        obtain ⟨j, hj, rfl, hby⟩ := hrel
        by_cases hjl : j < 5
        · have hij : (j : Int) < 5 := by omega
          obtain ⟨g, hg, hg17⟩ := HG.out j hjl
          have hgr : wr.cell? ⟨wO.heap.size + 1, j, none⟩ = some (.int .i64 g) := by rw [(bcell hby).1 _ _ lG]; exact hg
          have kK2 := kK.below hby lK
          have lK2 := kK2.lt
          clear hg
          obtain ⟨r, Er, r0, r1⟩ := modName n 9 (by omega)
          obtain ⟨q, hq, q0, q1⟩ : ∃ q : Int, r.tdiv 8 = q ∧ 0 ≤ q ∧ q ≤ 1 := ⟨_, rfl, by rw [Int.tdiv_eq_ediv_of_nonneg r0]; omega, by rw [Int.tdiv_eq_ediv_of_nonneg r0]; omega⟩
          obtain ⟨M, hM⟩ := Int.eq_ofNat_of_zero_le (show 0 ≤ k2 * (g : Int) from Int.mul_nonneg (by omega) (by omega))
          have hM2 : k2 * (g : Int) ≤ 4 * 17 := Int.mul_le_mul (by omega) (by omega) (by omega) (by omega)
          rw [hM] at hM2
          have hM68 : M ≤ 68 := by omega
          obtain ⟨K1, rfl⟩ := Int.eq_ofNat_of_zero_le b3
          obtain ⟨Q, rfl⟩ := Int.eq_ofNat_of_zero_le q0
          have e1 : IntKind.i64.wrap (k2 * (g : Int)) = (M : Int) := by rw [hM, IntKind.wrap_i64]; omega
          have e2 : IntKind.i64.wrap ((K1 : Int) + (M : Int)) = ((K1 + M : Nat) : Int) := by rw [IntKind.wrap_i64]; omega
          have e3 : IntKind.i64.wrap (((K1 + M : Nat) : Int) + (Q : Int)) = ((K1 + M + Q : Nat) : Int) := by rw [IntKind.wrap_i64]; omega
          have e4 : IntKind.i64.wrap (Q : Int) = (Q : Int) := by rw [IntKind.wrap_i64]; omega
          obtain ⟨A, hA⟩ : ∃ A, K1 + M + Q = A := ⟨_, rfl⟩
          obtain ⟨B, hB⟩ : ∃ B, K1 + M = B := ⟨_, rfl⟩
          rw [hA] at e3
          rw [hB] at e2 e3
          have hA100 : A ≤ 100 := by omega
          clear hM hM2 hA hB
          go_upto_region 7 with fail
          apply wp_region_tab [] 17 139 [some 43, some 44, some 45, some 46, some 47, some 48, some 49, some 50, some 51, some 52, some 53, some 54, some 55, some 56, some 57, some 9, none] [⟨[], [], [], []⟩, ⟨[0], [0], [0], []⟩, ⟨[], [], [], []⟩, ⟨[2], [2], [2], []⟩, ⟨[], [], [], []⟩, ⟨[4], [4], [4], []⟩, ⟨[], [], [], []⟩, ⟨[4, 5, 6], [5, 6], [5, 6], []⟩, ⟨[2, 3, 4, 5, 6, 7], [3, 7], [3, 7], []⟩, ⟨[], [], [], []⟩, ⟨[9], [9], [9], []⟩, ⟨[9, 10], [10], [10], []⟩, ⟨[2, 3, 4, 5, 6, 7, 8, 9, 10, 11], [8, 11], [8, 11], []⟩, ⟨[2, 3, 4, 5, 6, 7, 8, 9, 10, 11, 12], [12], [12], []⟩, ⟨[0, 1, 2, 3, 4, 5, 6, 7, 8, 9, 10, 11, 12, 13], [1, 13], [1, 13], []⟩, ⟨[], [], [], []⟩, ⟨[0, 1, 2, 3, 4, 5, 6, 7, 8, 9, 10, 11, 12, 13, 14, 15], [13, 14, 15], [13, 14, 15], [15]⟩] [0, 1, 2, 3, 4, 5, 6, 7, 8, 9, 10, 11, 12, 13, 14, 15, 16] [13, 16] [psiTrue, psiTrue, psiTrue, psiTrue, psiTrue, psiTrue, psiTrue, psiTrue, psiTrue, psiTrue, psiTrue, psiTrue, psiTrue, (fun f lo hi v b0 b1 W => ∃ b, v = .slice (some ⟨b, 0, none⟩) A A ∧ b0 ≤ b ∧ b < b1 ∧ Blk W b 3 ((List.replicate A (0 : Int)).map encI).toArray), (fun f lo hi v b0 b1 W => ∃ b, f 13 = .slice (some ⟨b, 0, none⟩) A A ∧ v = .agg #[.int .i64 k0, .slice none 0 0, .slice (some ⟨b, 0, none⟩) A A, .slice none 0 0]), (fun f lo hi v b0 b1 W => ∃ b u0 u1 u2 u3, v = .pointer (some ⟨b, 0, none⟩) ∧ b0 ≤ b ∧ b < b1 ∧ Blk W b 27 #[u0, u1, u2, u3]), (fun f lo hi v b0 b1 W => ∃ b c, f 15 = .pointer (some ⟨b, 0, none⟩) ∧ lo (15) ≤ b ∧ b < hi (15) ∧ f 13 = .slice (some ⟨c, 0, none⟩) A A ∧ Blk W b 27 #[.int .i64 k0, .slice none 0 0, .slice (some ⟨c, 0, none⟩) A A, .slice none 0 0])] [kVal _, kVal _, kVal _, kVal _, kVal _, kVal _, kVal _, kVal _, kVal _, kVal _, kVal _, kVal _, kVal _, kTrue, kTrue, kTrue, kTrue]
          · kernel_rfl
          · kernel_rfl
          · rfl
          · rfl
          · exact trivial
          · exact trivial
          refine ⟨?oR1_0, ?oR1_1, ?oR1_2, ?oR1_3, ?oR1_4, ?oR1_5, ?oR1_6, ?oR1_7, ?oR1_8, ?oR1_9, ?oR1_10, ?oR1_11, ?oR1_12, ?oR1_13, ?oR1_14, ?oR1_15, ?oR1_16, trivial⟩
          case oR1_0 => intro f lo hi w hb hx hf hk hrg R hR; (try replace hb := BelX.zero hb); (try simp (decide := true) only [go_sem] at hf); (try simp (decide := true) only [go_sem] at hk); go_simp; exact hR _ _ (rpost_val rfl rfl (Below.refl _ _) rfl)
          case oR1_1 =>
            intro f lo hi w hb hx hf hk hrg R hR; (try replace hb := BelX.zero hb); (try simp (decide := true) only [go_sem] at hf); (try simp (decide := true) only [go_sem] at hk)
            obtain ⟨c0, c1, c2, c3⟩ := (kK2.below hb lK2).four
            go_simp
            exact hR _ _ (rpost_val rfl rfl (Below.refl _ _) rfl)
          case oR1_2 => intro f lo hi w hb hx hf hk hrg R hR; (try replace hb := BelX.zero hb); (try simp (decide := true) only [go_sem] at hf); (try simp (decide := true) only [go_sem] at hk); go_simp; exact hR _ _ (rpost_val rfl rfl (Below.refl _ _) rfl)
          case oR1_3 =>
            intro f lo hi w hb hx hf hk hrg R hR; (try replace hb := BelX.zero hb); (try simp (decide := true) only [go_sem] at hf); (try simp (decide := true) only [go_sem] at hk)
            obtain ⟨c0, c1, c2, c3⟩ := (kK2.below hb lK2).four
            go_simp
            exact hR _ _ (rpost_val rfl rfl (Below.refl _ _) rfl)
          case oR1_4 => intro f lo hi w hb hx hf hk hrg R hR; (try replace hb := BelX.zero hb); (try simp (decide := true) only [go_sem] at hf); (try simp (decide := true) only [go_sem] at hk); go_simp; exact hR _ _ (rpost_val rfl rfl (Below.refl _ _) rfl)
          case oR1_5 =>
            intro f lo hi w hb hx hf hk hrg R hR; (try replace hb := BelX.zero hb); (try simp (decide := true) only [go_sem] at hf); (try simp (decide := true) only [go_sem] at hk)
            obtain ⟨c0, c1, c2, c3⟩ := (kK2.below hb lK2).four
            go_simp
            exact hR _ _ (rpost_val rfl rfl (Below.refl _ _) rfl)
          case oR1_6 => intro f lo hi w hb hx hf hk hrg R hR; (try replace hb := BelX.zero hb); (try simp (decide := true) only [go_sem] at hf); (try simp (decide := true) only [go_sem] at hk); go_simp; exact hR _ _ (rpost_val rfl rfl (Below.refl _ _) rfl)
          case oR1_7 => intro f lo hi w hb hx hf hk hrg R hR; (try replace hb := BelX.zero hb); (try simp (decide := true) only [go_sem] at hf); (try simp (decide := true) only [go_sem] at hk); go_simp; exact hR _ _ (rpost_val rfl rfl (Below.refl _ _) rfl)
          case oR1_8 => intro f lo hi w hb hx hf hk hrg R hR; (try replace hb := BelX.zero hb); (try simp (decide := true) only [go_sem] at hf); (try simp (decide := true) only [go_sem] at hk); go_simp; exact hR _ _ (rpost_val rfl rfl (Below.refl _ _) rfl)
          case oR1_9 => intro f lo hi w hb hx hf hk hrg R hR; (try replace hb := BelX.zero hb); (try simp (decide := true) only [go_sem] at hf); (try simp (decide := true) only [go_sem] at hk); go_simp; exact hR _ _ (rpost_val rfl rfl (Below.refl _ _) rfl)
          case oR1_10 => intro f lo hi w hb hx hf hk hrg R hR; (try replace hb := BelX.zero hb); (try simp (decide := true) only [go_sem] at hf); (try simp (decide := true) only [go_sem] at hk); go_simp; (with_reducible refine (mk_ModE Er.out _ (by omega) (by omega)).mono ?_); rintro e w' ⟨rfl, rfl⟩; exact ⟨_, rfl, hR _ _ (rpost_val rfl rfl (Below.refl _ _) rfl)⟩
          case oR1_11 => intro f lo hi w hb hx hf hk hrg R hR; (try replace hb := BelX.zero hb); (try simp (decide := true) only [go_sem] at hf); (try simp (decide := true) only [go_sem] at hk); go_simp; exact hR _ _ (rpost_val rfl rfl (Below.refl _ _) rfl)
          case oR1_12 => intro f lo hi w hb hx hf hk hrg R hR; (try replace hb := BelX.zero hb); (try simp (decide := true) only [go_sem] at hf); (try simp (decide := true) only [go_sem] at hk); go_simp; exact hR _ _ (rpost_val rfl rfl (Below.refl _ _) rfl)
          case oR1_13 =>
            intro f lo hi w hb hx hf hk hrg R hR; (try replace hb := BelX.zero hb); (try simp (decide := true) only [go_sem] at hf); (try simp (decide := true) only [go_sem] at hk)
            refine obl_makeI A ?_ ?_ (by omega) fun kk => ?_
            · go_simp
            · go_simp
            refine hR _ _ (rpost_none rfl (by repeat (first | (with_reducible refine Below.setCell ?_ ?_ _) | (with_reducible refine Below.alloc ?_ ?_ _) | (with_reducible refine Below.drew ?_) | (with_reducible refine below_drewN ?_ _) | (with_reducible exact Below.refl _ _) | (focus (simp; done)) | (focus (simp; omega)) | (focus omega))) ?_)
            (try simp (decide := true) only [go_sem])
            exact ⟨_, rfl, Nat.le_refl _, by simp, kk⟩
          case oR1_14 =>
            intro f lo hi w hb hx hf hk hrg R hR; (try replace hb := BelX.zero hb); (try simp (decide := true) only [go_sem] at hf); (try simp (decide := true) only [go_sem] at hk)
            obtain ⟨b, h56, -⟩ := hf
            go_simp
            refine hR _ _ (rpost_none rfl (Below.refl _ _) ?_)
            (try simp (decide := true) only [go_sem])
            exact ⟨b, h56, rfl⟩
          case oR1_15 =>
            intro f lo hi w hb hx hf hk hrg R hR; (try replace hb := BelX.zero hb); (try simp (decide := true) only [go_sem] at hf); (try simp (decide := true) only [go_sem] at hk)
            go_simp
            refine hR _ _ (rpost_none rfl (by repeat (first | (with_reducible refine Below.setCell ?_ ?_ _) | (with_reducible refine Below.alloc ?_ ?_ _) | (with_reducible refine Below.drew ?_) | (with_reducible refine below_drewN ?_ _) | (with_reducible exact Below.refl _ _) | (focus (simp; done)) | (focus (simp; omega)) | (focus omega))) ?_)
            (try simp (decide := true) only [go_sem])
            exact ⟨_, _, _, _, _, rfl, Nat.le_refl _, by simp, Blk.new _ _ _⟩
          case oR1_16 =>
            intro f lo hi w hb hx hf hk hrg R hR; (try replace hb := BelX.zero hb); (try simp (decide := true) only [go_sem] at hf); (try simp (decide := true) only [go_sem] at hk)
            obtain ⟨-, ⟨c, h56, h57⟩, b, u0, u1, u2, u3, h9, h2, h3, kb⟩ := hf
            obtain ⟨c0, c1, c2, c3⟩ := kb.four
            have kf := kb.frozen
            go_simp
            refine hR _ _ (rpost_some rfl rfl (Touch.set4 _ (List.mem_singleton.2 rfl) h2 h3 _ _ _ _) ?_)
            (try simp (decide := true) only [go_sem])
            exact ⟨b, c, h9, h2, h3, h56, kb.set4 _ _ _ _⟩
          case hcl =>
            refine ⟨Closed.true _ _ _ _, Closed.true _ _ _ _, Closed.true _ _ _ _, Closed.true _ _ _ _, Closed.true _ _ _ _, Closed.true _ _ _ _, Closed.true _ _ _ _, Closed.true _ _ _ _, Closed.true _ _ _ _, Closed.true _ _ _ _, Closed.true _ _ _ _, Closed.true _ _ _ _, Closed.true _ _ _ _, ?cR1_13, ?cR1_14, ?cR1_15, ?cR1_16, trivial⟩
            · exact fun f lo hi v b0 b1 w w' h hs hB hown hU hX => by
                obtain ⟨b, rfl, h2, h3, h4⟩ := h
                exact ⟨b, rfl, h2, h3, (hown b h2 h3).trans h4⟩
            · exact fun _ _ _ _ _ _ _ _ h _ _ _ _ _ => h
            · exact fun f lo hi v b0 b1 w w' h hs hB hown hU hX => by
                obtain ⟨b, u0, u1, u2, u3, rfl, h2, h3, h4⟩ := h
                exact ⟨b, u0, u1, u2, u3, rfl, h2, h3, (hown b h2 h3).trans h4⟩
            · exact fun f lo hi v b0 b1 w w' h hs hB hown hU hX => by
                obtain ⟨b, c, h1, h2, h3, h4, h5⟩ := h
                exact ⟨b, c, h1, h2, h3, h4, (hU 15 (by simp) b h2 h3).trans h5⟩
          intro f lo hi W7 hbr hx hf hk hrg; (try replace hbr := BelX.zero hbr); clear hx; (try simp (decide := true) only [go_sem] at hf); (try simp (decide := true) only [go_sem] at hk)
          obtain ⟨⟨c', h56, hc0, hc1, ka⟩, J, c, h9, hj0, hj1, h56', kJ⟩ := hf
          obtain rfl : c' = c := by
            rw [h56] at h56'
            injection h56' with e
            injection e with e
            injection e
          have r13 := hrg.out 13 (by simp)
          have r15 := hrg.out 15 (by simp)
          have gm : GMsg wr W7 wO.heap.size J c' k0 (K1 : Int) k2 k3 A none 0 [] (List.replicate A 0) :=
            ⟨kK2.below hbr kK2.lt, kJ, ka, Byt.nil _ _, (by simp; omega), fun _ => ⟨rfl, rfl⟩, (fun q e => by cases e), ⟨(fun e => by subst e; have := kJ.symm.trans ka; simp at this), by omega, by omega, lK2⟩, hbr⟩
          clear hrg ka kJ h56' hc0 hc1 hj0 hj1 r13 r15 hbr
          go_simp
          have HE1 := Lib.hid e1
          clear hk h56 h9 e1 e2 e3 e4
          obtain ⟨d0, d1, d2, d3⟩ := gm.kK.four
          have dl := gm.kK.lt
          go_upto_if 60 with fail
          go_cut [9] from 43 to 135 (fun s9 wx => ∃ ta tc tok, s9 = .pointer (some ⟨J, 0, none⟩) ∧ GMsg wr wx wO.heap.size J c' k0 (K1 : Int) k2 k3 A ta tc tok (List.replicate A 0))
          case first =>
            obtain ⟨m0, m1, m2, m3⟩ := gm.blk.four
            have ml := gm.blk.lt
            have mf := gm.blk.frozen
            by_cases h12 : k0 ≤ 12
            · have z12 : decide (k0 ≤ 12) = true := decide_eq_true h12
              go_wp2_with ((with_reducible refine wp_makeB 10 10 ?_ ?_ ?_ ?_ ?_); (focus rfl); (focus rfl); (focus omega); (focus omega); intro W' B0 be0 z0; (have gm2 := gm.below be0); (have n1 := gm2.blk.cell 1); (have nf := gm2.blk.frozen); (have nl := gm2.blk.lt))
              go_meet
              exact ⟨_, 10, _, rfl, gm.token be0 (by simp) B0 (Nat.le_refl _)⟩
            · have z12 : decide (k0 ≤ 12) = false := decide_eq_false h12
              go_wp2_with fail
              go_meet
              exact ⟨none, 0, [], rfl, gm⟩
          case rest =>
            obtain ⟨ta, tc, tok, rfl, gm⟩ := hcut
            clear d0 d1 d2 d3 dl
            obtain ⟨m0, m1, m2, m3⟩ := gm.blk.four
            have ml := gm.blk.lt
            have mf := gm.blk.frozen
            go_upto_if 66 with fail
            go_cut [9] from 43 to 135 (fun s9 wx => ∃ args, s9 = .pointer (some ⟨J, 0, none⟩) ∧ GMsg wr wx wO.heap.size J c' k0 (K1 : Int) k2 k3 A ta tc tok args)
            case first =>
              by_cases hA : 0 < A
              · have zA : decide (0 < A) = true := decide_eq_true hA
                go_upto_region 11 with fail
                obtain ⟨iv, Ei, i0, i1⟩ := modName n (A : Int) (by omega)
                obtain ⟨xv, Ex, x0, x1⟩ := modName value 8589934592 (by omega)
                obtain ⟨I, rfl⟩ := Int.eq_ofNat_of_zero_le i0
                have hIA : I < A := by omega
                have hsz := gm.be.size
                obtain ⟨j1, j2, j3, j4⟩ := gm.jc
                have cl := gm.arg.lt
                obtain ⟨args0, ha0⟩ : ∃ l, List.replicate A (0 : Int) = l := ⟨_, rfl⟩
                rw [ha0] at gm
                clear ha0
                apply wp_region_tab [(c', (c'+1))] 11 139 [some 67, some 68, some 69, some 70, some 71, some 72, some 73, some 74, some 75, some 76, none] [⟨[11], [], [], []⟩, ⟨[0, 11], [0], [0], []⟩, ⟨[11], [], [], []⟩, ⟨[11], [], [], []⟩, ⟨[3, 11], [3], [3], []⟩, ⟨[3, 4, 11], [4], [4], []⟩, ⟨[2, 3, 4, 5, 11], [2, 5], [2, 5], []⟩, ⟨[11], [], [], []⟩, ⟨[2, 3, 4, 5, 6, 7, 11], [7], [7], []⟩, ⟨[0, 1, 2, 3, 4, 5, 6, 7, 8, 11], [1, 6], [1, 6], []⟩, ⟨[0, 1, 2, 3, 4, 5, 6, 7, 8, 9, 11], [8, 9, 11], [8, 9, 11], [11]⟩, ⟨[], [], [], []⟩] [0, 1, 2, 3, 4, 5, 6, 7, 8, 9, 10] [10] [psiTrue, psiTrue, psiTrue, psiTrue, psiTrue, psiTrue, psiTrue, psiTrue, psiTrue, psiTrue, (fun f lo hi v b0 b1 W => Blk W c' 3 ((args0.set I xv).map encI).toArray), (fun f lo hi v b0 b1 W => (b0 = c' ∧ b1 = (c'+1)) ∧ Blk W c' 3 (args0.map encI).toArray)] [kVal _, kVal _, kVal _, kVal _, kVal _, kVal _, kVal _, kVal _, kVal _, kVal _, kTrue]
                · kernel_rfl
                · kernel_rfl
                · rfl
                · rfl
                rotate_left 2
                refine ⟨?oR2_0, ?oR2_1, ?oR2_2, ?oR2_3, ?oR2_4, ?oR2_5, ?oR2_6, ?oR2_7, ?oR2_8, ?oR2_9, ?oR2_10, trivial⟩
                case hx => exact ⟨⟨by omega, by omega⟩, by simp, trivial⟩
                case hX => exact ⟨fun _ _ _ _ => ⟨⟨rfl, rfl⟩, gm.arg⟩, trivial⟩
                case oR2_0 => intro f lo hi w hb hx hf hk hrg R hR; (try replace hb := BelX.zero hb); (try simp (decide := true) only [go_sem] at hf); (try simp (decide := true) only [go_sem] at hk); go_simp; exact hR _ _ (rpost_val rfl rfl (Below.refl _ _) rfl)
                case oR2_1 =>
                  intro f lo hi w hb hx hf hk hrg R hR; (try replace hb := BelX.zero hb); (try simp (decide := true) only [go_sem] at hf); (try simp (decide := true) only [go_sem] at hk)
                  obtain ⟨c0, c1, c2, c3⟩ := (hb.blk gm.blk (fun r hr => by simp at hr; subst hr; simp only; omega)).four
                  go_simp
                  exact hR _ _ (rpost_val rfl rfl (Below.refl _ _) rfl)
                case oR2_2 => intro f lo hi w hb hx hf hk hrg R hR; (try replace hb := BelX.zero hb); (try simp (decide := true) only [go_sem] at hf); (try simp (decide := true) only [go_sem] at hk); go_simp; exact hR _ _ (rpost_val rfl rfl (Below.refl _ _) rfl)
                case oR2_3 => intro f lo hi w hb hx hf hk hrg R hR; (try replace hb := BelX.zero hb); (try simp (decide := true) only [go_sem] at hf); (try simp (decide := true) only [go_sem] at hk); go_simp; exact hR _ _ (rpost_val rfl rfl (Below.refl _ _) rfl)
                case oR2_4 =>
                  intro f lo hi w hb hx hf hk hrg R hR; (try replace hb := BelX.zero hb); (try simp (decide := true) only [go_sem] at hf); (try simp (decide := true) only [go_sem] at hk)
                  obtain ⟨c0, c1, c2, c3⟩ := (hb.blk gm.blk (fun r hr => by simp at hr; subst hr; simp only; omega)).four
                  go_simp
                  exact hR _ _ (rpost_val rfl rfl (Below.refl _ _) rfl)
                case oR2_5 => intro f lo hi w hb hx hf hk hrg R hR; (try replace hb := BelX.zero hb); (try simp (decide := true) only [go_sem] at hf); (try simp (decide := true) only [go_sem] at hk); go_simp; exact hR _ _ (rpost_val rfl rfl (Below.refl _ _) rfl)
                case oR2_6 => intro f lo hi w hb hx hf hk hrg R hR; (try replace hb := BelX.zero hb); (try simp (decide := true) only [go_sem] at hf); (try simp (decide := true) only [go_sem] at hk); go_simp; (with_reducible refine (mk_ModE Ei.out _ (by omega) (by omega)).mono ?_); rintro e w' ⟨rfl, rfl⟩; exact ⟨_, rfl, hR _ _ (rpost_val rfl rfl (Below.refl _ _) rfl)⟩
                case oR2_7 => intro f lo hi w hb hx hf hk hrg R hR; (try replace hb := BelX.zero hb); (try simp (decide := true) only [go_sem] at hf); (try simp (decide := true) only [go_sem] at hk); go_simp; exact hR _ _ (rpost_val rfl rfl (Below.refl _ _) rfl)
                case oR2_8 => intro f lo hi w hb hx hf hk hrg R hR; (try replace hb := BelX.zero hb); (try simp (decide := true) only [go_sem] at hf); (try simp (decide := true) only [go_sem] at hk); go_simp; (with_reducible refine (mk_ModE Ex.out _ (by omega) (by omega)).mono ?_); rintro e w' ⟨rfl, rfl⟩; exact ⟨_, rfl, hR _ _ (rpost_val rfl rfl (Below.refl _ _) rfl)⟩
                case oR2_9 =>
                  intro f lo hi w hb hx hf hk hrg R hR; (try replace hb := BelX.zero hb); (try simp (decide := true) only [go_sem] at hf); (try simp (decide := true) only [go_sem] at hk)
                  have q9 : (I : Int) < (A : Int) := by omega
                  go_simp
                  exact hR _ _ (rpost_val rfl rfl (Below.refl _ _) rfl)
                case oR2_10 =>
                  intro f lo hi w hb hx hf hk hrg R hR; (try replace hb := BelX.zero hb); (try simp (decide := true) only [go_sem] at hf); (try simp (decide := true) only [go_sem] at hk)
                  obtain ⟨-, kb⟩ := hf
                  have e0 := kb.cellL I (by have := gm.len; omega)
                  have e1 := kb.frozen I
                  go_simp
                  refine hR _ _ (rpost_some rfl rfl (Touch.set _ (List.mem_singleton.2 rfl) (Nat.le_of_eq (XOk.get _ _ hx 0 _ rfl).1) (by rw [(XOk.get _ _ hx 0 _ rfl).2]; exact Nat.lt_succ_self _) _ _) ?_)
                  (try simp (decide := true) only [go_sem])
                  exact kb.setL I xv rfl
                case hcl =>
                  refine ⟨Closed.true _ _ _ _, Closed.true _ _ _ _, Closed.true _ _ _ _, Closed.true _ _ _ _, Closed.true _ _ _ _, Closed.true _ _ _ _, Closed.true _ _ _ _, Closed.true _ _ _ _, Closed.true _ _ _ _, Closed.true _ _ _ _, ?cR2_10, ?cR2_11, trivial⟩
                  · exact fun f lo hi v b0 b1 w w' h hs hB hown hU hX => (hX 0 _ rfl (by simp) c' (Nat.le_refl _) (Nat.lt_succ_self _)).trans h
                  · exact fun f lo hi v b0 b1 w w' h hs hB hown hU hX => by
                      obtain ⟨⟨rfl, rfl⟩, kb⟩ := h
                      exact ⟨⟨rfl, rfl⟩, (hown _ (Nat.le_refl _) (Nat.lt_succ_self _)).trans kb⟩
                intro f lo hi W9 hbr hx hf hk hrg; (try replace hbr := BelX.zero hbr); clear hx; (try simp (decide := true) only [go_sem] at hf); (try simp (decide := true) only [go_sem] at hk)
                have hold : ∀ q, q < wc.heap.size → q ≠ c' → W9.heap[q]? = wc.heap[q]? := fun q h1 h2 => hbr.2.2.2.2 q ⟨h1, fun r hr => by simp at hr; subst hr; simp only; omega⟩
                have gm9 : GMsg wr W9 wO.heap.size J c' k0 (K1 : Int) k2 k3 A ta tc tok (args0.set I xv) :=
                  ⟨(hold _ gm.kK.lt (by omega)).trans gm.kK, (hold _ gm.blk.lt (by omega)).trans gm.blk, hf, gm.tokB.keep fun b off e hl => hold b hl (gm.tnew b (by rw [e]; rfl)).2, by rw [List.length_set]; exact gm.len, gm.tnil, gm.tnew, gm.jc, ⟨hbr.1.trans gm.be.os, hbr.2.1.trans gm.be.tape, hbr.2.2.1.trans gm.be.output, Nat.le_trans hsz hbr.2.2.2.1, fun q hq => (hold q (by omega) (by omega)).trans (gm.be.block q hq)⟩⟩
                clear hrg hbr hold hf
                go_simp
                clear hk
                go_wp2_with fail
                go_meet
                exact ⟨_, rfl, gm9⟩
              · have zA : decide (0 < A) = false := decide_eq_false hA
                go_wp2_with fail
                go_meet
                exact ⟨_, rfl, gm⟩
            case rest =>
              obtain ⟨args, rfl, gm⟩ := hcut
              clear m0 m1 m2 m3 ml mf
              obtain ⟨m0, m1, m2, m3⟩ := gm.blk.four
              have ml := gm.blk.lt
              have mf := gm.blk.frozen
              obtain ⟨el, ec, HE⟩ : ∃ el ec, Hid (encP ⟨k0, tok, args, []⟩ = (el, ec)) := ⟨_, _, Lib.hid rfl⟩
              obtain ⟨S1, hS1⟩ : ∃ s : ByteArray, s = ⟨el.toArray⟩ := ⟨_, rfl⟩
              have HS1 := Lib.hid hS1
              have HLN := Lib.hid gm.len.1
              have x3 : (ec != ec) = false := by simp
              have x5 : (S1.toList == S1.toList) = true := by simp
              clear hS1
              go_upto_region 16 with (first | (go_at_call 19; (with_reducible refine (msg_EncodeA ta tc _ A _ gm.at HE HLN.out).mono ?_); rintro e w2 ⟨ea, ek, rfl, eb2, hb2⟩; (have gm2 := gm.below hb2; clear m0 m1 m2 m3 ml mf; obtain ⟨m0, m1, m2, m3⟩ := gm2.blk.four; (have ml := gm2.blk.lt); (have mf := gm2.blk.frozen))) | (go_at_call 13; (with_reducible refine (ref05_EncodeA ta tc _ A _ gm2.at HE HLN.out).mono ?_); rintro e w3 ⟨ga, gk, rfl, eb3, hb3⟩; ((have gm3 := gm2.below hb3; clear m0 m1 m2 m3 ml mf; obtain ⟨m0, m1, m2, m3⟩ := gm3.blk.four; (have ml := gm3.blk.lt); (have mf := gm3.blk.frozen)); (have kA : (convert 22 9 (.slice ea el.length ek)).run Try.prog w3 = .ok (.string S1) w3 := by rw [HS1.out]; exact conv_str (eb2.below hb3 (Nat.le_refl _)) rfl); (have kB : (convert 22 9 (.slice ga el.length gk)).run Try.prog w3 = .ok (.string S1) w3 := by rw [HS1.out]; exact conv_str eb3 rfl))))
              obtain ⟨T, hT⟩ : ∃ T, T = tok.length := ⟨_, rfl⟩
              have hT10 : T ≤ 10 := by have := gm3.len.2.2; omega
              rw [← hT] at m1
              have HT := Lib.hid hT
              clear kA kB eb2 eb3 hT
              apply wp_region_tab [] 7 139 [some 97, some 98, some 99, some 100, some 101, some 102, some 14] [⟨[], [], [], []⟩, ⟨[0], [0], [0], []⟩, ⟨[0, 1], [1], [1], []⟩, ⟨[], [], [], []⟩, ⟨[3], [3], [3], []⟩, ⟨[0, 1, 2, 3, 4], [2, 4], [2, 4], [2]⟩, ⟨[0, 1, 2, 3, 4, 5], [5], [5], []⟩] [0, 1, 2, 3, 4, 5, 6] [5, 6] [psiTrue, psiTrue, (fun f lo hi v b0 b1 W => ∃ a c, v = .slice a T c ∧ Own W b0 5 1 a T c (tok.map encB) ∧ ∀ x, a.map (·.block) = some x → x < b1), psiTrue, psiTrue, (fun f lo hi v b0 b1 W => ∃ a c, v = .slice a (T + K1) c ∧ Own W 0 5 1 a (T + K1) c ((tok ++ List.replicate K1 0).map encB) ∧ ∀ x, a.map (·.block) = some x → (lo (2) ≤ x ∧ x < hi (2)) ∨ (b0 ≤ x ∧ x < b1)), (fun f _ _ v _ _ _ => v = f 5)] [kVal _, kVal _, kTrue, kVal _, kVal _, kTrue, kTrue]
              · kernel_rfl
              · kernel_rfl
              · rfl
              · rfl
              · exact trivial
              · exact trivial
              refine ⟨?oR3_0, ?oR3_1, ?oR3_2, ?oR3_3, ?oR3_4, ?oR3_5, ?oR3_6, trivial⟩
              case oR3_0 => intro f lo hi w hb hx hf hk hrg R hR; (try replace hb := BelX.zero hb); (try simp (decide := true) only [go_sem] at hf); (try simp (decide := true) only [go_sem] at hk); go_simp; exact hR _ _ (rpost_val rfl rfl (Below.refl _ _) rfl)
              case oR3_1 =>
                intro f lo hi w hb hx hf hk hrg R hR; (try replace hb := BelX.zero hb); (try simp (decide := true) only [go_sem] at hf); (try simp (decide := true) only [go_sem] at hk)
                obtain ⟨c0, c1, c2, c3⟩ := (gm3.blk.below hb gm3.blk.lt).four
                have hl := gm3.blk.lt
                rw [← HT.out] at c1
                go_simp
                exact hR _ _ (rpost_val rfl rfl (Below.refl _ _) rfl)
              case oR3_2 =>
                intro f lo hi w hb hx hf hk hrg R hR; (try replace hb := BelX.zero hb); (try simp (decide := true) only [go_sem] at hf); (try simp (decide := true) only [go_sem] at hk)
                refine obl_appB w.heap.size none 0 0 [] ?_ ta T tc tok ?_ (Own.nil _ _ _ _) (gm3.tokB.below hb (Nat.le_refl _)) HT.out T (by omega) (by omega) (Nat.le_refl _) ?_
                · go_simp
                · go_simp
                intro b2 c2 w2 own2 g2 bl2
                refine hR _ _ (rpost_none rfl g2.below0 ?_)
                (try simp (decide := true) only [go_sem])
                exact ⟨_, _, rfl, own2, own2.lt'⟩
              case oR3_3 => intro f lo hi w hb hx hf hk hrg R hR; (try replace hb := BelX.zero hb); (try simp (decide := true) only [go_sem] at hf); (try simp (decide := true) only [go_sem] at hk); go_simp; exact hR _ _ (rpost_val rfl rfl (Below.refl _ _) rfl)
              case oR3_4 =>
                intro f lo hi w hb hx hf hk hrg R hR; (try replace hb := BelX.zero hb); (try simp (decide := true) only [go_sem] at hf); (try simp (decide := true) only [go_sem] at hk)
                obtain ⟨c0, c1, c2, c3⟩ := (gm3.kK.below hb gm3.kK.lt).four
                have hl := gm3.kK.lt
                go_simp
                exact hR _ _ (rpost_val rfl rfl (Below.refl _ _) rfl)
              case oR3_5 =>
                intro f lo hi w hb hx hf hk hrg R hR; (try replace hb := BelX.zero hb); (try simp (decide := true) only [go_sem] at hf); (try simp (decide := true) only [go_sem] at hk)
                obtain ⟨a3, c3, h3, own3, lt3⟩ := hf
                refine obl_appZ (lo 2) a3 T c3 tok ?_ K1 ?_ own3 (T + K1) rfl (by omega) (by have := hrg.out 2 (by simp); omega) ?_
                · go_simp
                · go_simp
                intro b2 c2 w2 own2 g2 bl2
                refine hR _ _ (rpost_some rfl rfl (g2.touch fun x hx => ⟨2, by simp, (own3.base_le x hx), lt3 x hx⟩) ?_)
                (try simp (decide := true) only [go_sem])
                refine ⟨_, _, rfl, own2.mono (Nat.zero_le _), fun x hx => ?_⟩
                rcases g2.2.1 with e | e
                · exact .inl ⟨own3.base_le x (e ▸ hx), lt3 x (e ▸ hx)⟩
                · rw [e] at hx
                  exact .inr ⟨by injection hx with hx; omega, own2.lt' x (e ▸ hx)⟩
              case oR3_6 => intro f lo hi w hb hx hf hk hrg R hR; (try replace hb := BelX.zero hb); (try simp (decide := true) only [go_sem] at hf); (try simp (decide := true) only [go_sem] at hk); go_simp; exact hR _ _ (rpost_none rfl (Below.refl _ _) rfl)
              case hcl =>
                refine ⟨Closed.true _ _ _ _, Closed.true _ _ _ _, ?cR3_2, Closed.true _ _ _ _, Closed.true _ _ _ _, ?cR3_5, ?cR3_6, trivial⟩
                · intro f lo hi v l h w w' hp _ _ hown _ _
                  obtain ⟨a, c, rfl, own, lt⟩ := hp
                  exact ⟨a, c, rfl, own.keep fun b hb hl _ => hown b hl (lt b (by rw [hb]; rfl)), lt⟩
                · intro f lo hi v l h w w' hp _ _ hown hU _
                  obtain ⟨a, c, rfl, own, lt⟩ := hp
                  exact ⟨a, c, rfl, own.keep fun b hb _ _ => (lt b (by rw [hb]; rfl)).elim (fun q => hU 2 (by simp) b q.1 q.2) fun q => hown b q.1 q.2, lt⟩
                · exact fun _ _ _ _ _ _ _ _ h _ _ _ _ _ => h
              intro f lo hi W16 hbr hx hf hk hrg; (try replace hbr := BelX.zero hbr); clear hx; (try simp (decide := true) only [go_sem] at hf); (try simp (decide := true) only [go_sem] at hk)
              obtain ⟨⟨pa, pc, h102, own16, lt16⟩, h14⟩ := hf
              rw [h102] at h14
              have gm16 := gm3.below hbr
              have hpn : ∀ x, pa.map (·.block) = some x → w3.heap.size ≤ x ∧ x < W16.heap.size := by
                intro x hx
                have r2 := hrg.out 2 (by simp)
                have r5 := hrg.out 5 (by simp)
                have := lt16 x hx
                omega
              have hs3 := gm3.be.size
              clear hrg lt16 gm3 hbr
              go_simp
              clear hk h14 h102
              go_upto_region 17 with fail
              obtain ⟨l0, hl0⟩ : ∃ l0, tok ++ List.replicate K1 (0 : UInt8) = l0 := ⟨_, rfl⟩
              rw [hl0] at own16
              have hl0n : l0.length = T + K1 := by rw [← hl0, List.length_append, List.length_replicate, ← HT.out]
              have HL0 := Lib.hid hl0n
              obtain ⟨z, hz⟩ : ∃ z : UInt8, Value.int .u8 (IntKind.u8.wrap (g : Int)) = encB z := ⟨_, by rw [show IntKind.u8.wrap (g : Int) = (g : Int) % 256 by simp [IntKind.wrap, IntKind.signed, IntKind.bits]]; exact byte_mod _⟩
              have HZ := Lib.hid hz
              have e1 := HE1.out
              clear hl0 hl0n hz
              obtain ⟨gl, gh, x1, x2, y1, x4⟩ : ∃ gl gh, gl ≤ gh ∧ gh ≤ W16.heap.size ∧ ((gl = 0 ∧ gh = 0) ∨ w3.heap.size ≤ gl) ∧ ∀ k, pa.map (·.block) = some k ↔ gl ≤ k ∧ k < gh := by
                cases haa : pa with
                | none => exact ⟨0, 0, Nat.le_refl _, Nat.zero_le _, .inl ⟨rfl, rfl⟩, fun k => by simp⟩
                | some ad =>
                  have q1 := hpn ad.block (by rw [haa]; rfl)
                  exact ⟨ad.block, ad.block + 1, by omega, by omega, .inr q1.1, fun k => by simp; omega⟩
              have HX4 := Lib.hid x4
              have hTK : T + K1 + 1 + M ≤ 100 := by omega
              clear x4 hpn
              apply wp_region_tab [(gl, gh)] 11 139 [some 103, some 104, some 105, some 106, some 107, some 108, some 109, some 110, some 111, some 112, some 14] [⟨[11], [], [], []⟩, ⟨[11], [], [], []⟩, ⟨[1, 11], [1], [1], []⟩, ⟨[1, 2, 11], [2], [2], []⟩, ⟨[0, 1, 2, 3, 11], [0, 3, 11], [0, 3, 11], [11]⟩, ⟨[11], [], [], []⟩, ⟨[5, 11], [5], [5], []⟩, ⟨[11], [], [], []⟩, ⟨[5, 6, 7, 11], [6, 7], [6, 7], []⟩, ⟨[0, 1, 2, 3, 4, 5, 6, 7, 8, 11], [4, 8, 11], [4, 8], [11, 4]⟩, ⟨[0, 1, 2, 3, 4, 5, 6, 7, 8, 9, 11], [9], [9], []⟩, ⟨[], [], [], []⟩] [0, 1, 2, 3, 4, 5, 6, 7, 8, 9, 10] [9, 10] [psiTrue, psiTrue, psiTrue, (fun f lo hi v b0 b1 W => ∃ b, v = .slice (some ⟨b, 0, none⟩) 1 1 ∧ b0 ≤ b ∧ b < b1 ∧ Byt W (some ⟨b, 0, none⟩) [z]), (fun f lo hi v b0 b1 W => ∃ a c, v = .slice a (T + K1 + 1) c ∧ Own W 0 5 1 a (T + K1 + 1) c ((l0 ++ [z]).map encB) ∧ ∀ x, a.map (·.block) = some x → (gl ≤ x ∧ x < gh) ∨ (b0 ≤ x ∧ x < b1)), psiTrue, psiTrue, psiTrue, psiTrue, (fun f lo hi v b0 b1 W => ∃ a c, v = .slice a (T + K1 + 1 + M) c ∧ Own W 0 5 1 a (T + K1 + 1 + M) c ((l0 ++ [z] ++ List.replicate M 0).map encB) ∧ ∀ x, a.map (·.block) = some x → (gl ≤ x ∧ x < gh) ∨ (lo (4) ≤ x ∧ x < hi (4)) ∨ (b0 ≤ x ∧ x < b1)), (fun f _ _ v _ _ _ => v = f 9), (fun f lo hi v b0 b1 W => (b0 = gl ∧ b1 = gh) ∧ Own W 0 5 1 pa (T + K1) pc (l0.map encB))] [kVal _, kVal _, kVal _, kTrue, kTrue, kVal _, kVal _, kVal _, kVal _, kTrue, kTrue]
              · kernel_rfl
              · kernel_rfl
              · rfl
              · rfl
              rotate_left 2
              refine ⟨?oR4_0, ?oR4_1, ?oR4_2, ?oR4_3, ?oR4_4, ?oR4_5, ?oR4_6, ?oR4_7, ?oR4_8, ?oR4_9, ?oR4_10, trivial⟩
              case hx => exact ⟨⟨by omega, by omega⟩, by simp, trivial⟩
              case hX => exact ⟨fun _ _ _ _ => ⟨⟨rfl, rfl⟩, own16⟩, trivial⟩
              case oR4_0 => intro f lo hi w hb hx hf hk hrg R hR; (try replace hb := BelX.zero hb); (try simp (decide := true) only [go_sem] at hf); (try simp (decide := true) only [go_sem] at hk); go_simp; exact hR _ _ (rpost_val rfl rfl (Below.refl _ _) rfl)
              case oR4_1 => intro f lo hi w hb hx hf hk hrg R hR; (try replace hb := BelX.zero hb); (try simp (decide := true) only [go_sem] at hf); (try simp (decide := true) only [go_sem] at hk); go_simp; exact hR _ _ (rpost_val rfl rfl (Below.refl _ _) rfl)
              case oR4_2 => intro f lo hi w hb hx hf hk hrg R hR; (try replace hb := BelX.zero hb); (try simp (decide := true) only [go_sem] at hf); (try simp (decide := true) only [go_sem] at hk); go_simp; exact hR _ _ (rpost_val rfl rfl (Below.refl _ _) rfl)
              case oR4_3 =>
                intro f lo hi w hb hx hf hk hrg R hR; (try replace hb := BelX.zero hb); (try simp (decide := true) only [go_sem] at hf); (try simp (decide := true) only [go_sem] at hk)
                go_simp
                refine hR _ _ (rpost_none rfl (by repeat (first | (with_reducible refine Below.setCell ?_ ?_ _) | (with_reducible refine Below.alloc ?_ ?_ _) | (with_reducible refine Below.drew ?_) | (with_reducible refine below_drewN ?_ _) | (with_reducible exact Below.refl _ _) | (focus (simp; done)) | (focus (simp; omega)) | (focus omega))) ?_)
                (try simp (decide := true) only [go_sem])
                exact ⟨_, rfl, Nat.le_refl _, by simp, byt_new (by rw [HZ.out]; rfl)⟩
              case oR4_4 =>
                intro f lo hi w hb hx hf hk hrg R hR; (try replace hb := BelX.zero hb); (try simp (decide := true) only [go_sem] at hf); (try simp (decide := true) only [go_sem] at hk)
                obtain ⟨⟨b6, h6, h6a, h6b, byt6⟩, -, own3⟩ := hf
                refine obl_appB 0 pa (T + K1) pc l0 ?_ (some ⟨b6, 0, none⟩) 1 1 [z] ?_ own3 byt6 rfl (T + K1 + 1) rfl (by omega) (Nat.zero_le _) ?_
                · go_simp
                · go_simp
                intro b2 c2 w2 own2 g2 bl2
                refine hR _ _ (rpost_some rfl rfl (Grew.touch g2 fun k hk' => ⟨11, by simp, ?_⟩) ?_)
                · obtain ⟨q1, q2⟩ : lo 11 = gl ∧ hi 11 = gh := XOk.get _ _ hx 0 _ rfl
                  have h4 := (HX4.out k).1 hk'
                  omega
                (try simp (decide := true) only [go_sem])
                refine ⟨_, _, rfl, own2, fun k hk' => ?_⟩
                rcases g2.2.1 with e | e
                · exact .inl ((HX4.out k).1 (e ▸ hk'))
                · rw [e] at hk'
                  exact .inr ⟨by injection hk' with hk'; omega, own2.lt' k (e ▸ hk')⟩
              case oR4_5 => intro f lo hi w hb hx hf hk hrg R hR; (try replace hb := BelX.zero hb); (try simp (decide := true) only [go_sem] at hf); (try simp (decide := true) only [go_sem] at hk); go_simp; exact hR _ _ (rpost_val rfl rfl (Below.refl _ _) rfl)
              case oR4_6 =>
                intro f lo hi w hb hx hf hk hrg R hR; (try replace hb := BelX.zero hb); (try simp (decide := true) only [go_sem] at hf); (try simp (decide := true) only [go_sem] at hk)
                obtain ⟨c0, c1, c2, c3⟩ := (hb.blk gm16.kK (fun r hr => by have := gm16.jc; have := gm16.be.size; simp at hr; subst hr; simp only; omega)).four
                go_simp
                exact hR _ _ (rpost_val rfl rfl (Below.refl _ _) rfl)
              case oR4_7 => intro f lo hi w hb hx hf hk hrg R hR; (try replace hb := BelX.zero hb); (try simp (decide := true) only [go_sem] at hf); (try simp (decide := true) only [go_sem] at hk); go_simp; exact hR _ _ (rpost_val rfl rfl (Below.refl _ _) rfl)
              case oR4_8 => intro f lo hi w hb hx hf hk hrg R hR; (try replace hb := BelX.zero hb); (try simp (decide := true) only [go_sem] at hf); (try simp (decide := true) only [go_sem] at hk); go_simp; exact hR _ _ (rpost_val rfl rfl (Below.refl _ _) rfl)
              case oR4_9 =>
                intro f lo hi w hb hx hf hk hrg R hR; (try replace hb := BelX.zero hb); (try simp (decide := true) only [go_sem] at hf); (try simp (decide := true) only [go_sem] at hk)
                obtain ⟨a7, c7, h7, own7, lt7⟩ := hf
                have h8 := hk.1
                refine obl_appZ 0 a7 (T + K1 + 1) c7 (l0 ++ [z]) ?_ M ?_ own7 (T + K1 + 1 + M) rfl (by omega) (Nat.zero_le _) ?_
                · go_simp
                · go_simp
                intro b2 c2 w2 own2 g2 bl2
                refine hR _ _ (rpost_some rfl rfl (g2.touch fun x hx' => (lt7 x hx').elim (fun h => ⟨11, by simp, ?_⟩) fun h => ⟨4, by simp, h⟩) ?_)
                · obtain ⟨q1, q2⟩ : lo 11 = gl ∧ hi 11 = gh := XOk.get _ _ hx 0 _ rfl
                  omega
                (try simp (decide := true) only [go_sem])
                refine ⟨_, _, rfl, own2, fun x hx => ?_⟩
                rcases g2.2.1 with e | e
                · exact (lt7 x (e ▸ hx)).elim (fun h => .inl h) fun h => .inr (.inl h)
                · rw [e] at hx
                  exact .inr (.inr ⟨by injection hx with hx; omega, own2.lt' x (e ▸ hx)⟩)
              case oR4_10 => intro f lo hi w hb hx hf hk hrg R hR; (try replace hb := BelX.zero hb); (try simp (decide := true) only [go_sem] at hf); (try simp (decide := true) only [go_sem] at hk); go_simp; exact hR _ _ (rpost_none rfl (Below.refl _ _) rfl)
              case hcl =>
                refine ⟨Closed.true _ _ _ _, Closed.true _ _ _ _, Closed.true _ _ _ _, ?cR4_3, ?cR4_4, Closed.true _ _ _ _, Closed.true _ _ _ _, Closed.true _ _ _ _, Closed.true _ _ _ _, ?cR4_9, ?cR4_10, ?cR4_11, trivial⟩
                · exact fun f lo hi v l h w w' hp _ _ hown _ _ => by
                    obtain ⟨b, rfl, h1, h2, hby⟩ := hp
                    exact ⟨b, rfl, h1, h2, Row.keep hby fun b' off e _ => hown b' (by injection e with e; injection e with e; omega) (by injection e with e; injection e with e; omega)⟩
                · exact fun f lo hi z b0 b1 w w' h hs hB hown hU hX => by
                    obtain ⟨a, c, h1, own, lt⟩ := h
                    exact ⟨a, c, h1, own.keep fun b hb hl _ => (lt b (by rw [hb]; rfl)).elim (fun h => hX 0 _ rfl (by simp) b h.1 h.2) (fun h => hown b h.1 h.2), lt⟩
                · exact fun f lo hi z b0 b1 w w' h hs hB hown hU hX => by
                    obtain ⟨a, c, h1, own, lt⟩ := h
                    exact ⟨a, c, h1, own.keep fun b hb hl _ => (lt b (by rw [hb]; rfl)).elim (fun h => hX 0 _ rfl (by simp) b h.1 h.2) (fun h => h.elim (fun h => hU 4 (by simp) b h.1 h.2) fun h => hown b h.1 h.2), lt⟩
                · exact fun _ _ _ _ _ _ _ _ h _ _ _ _ _ => h
                · exact fun f lo hi z b0 b1 w w' h hs hB hown hU hX => by
                    obtain ⟨⟨rfl, rfl⟩, own⟩ := h
                    exact ⟨⟨rfl, rfl⟩, own.keep fun b hb hl _ => by have := (HX4.out b).1 (by rw [hb]; rfl); exact hown b this.1 this.2⟩
              intro f lo hi W17 hbr hx hf hk hrg; (try replace hbr := BelX.zero hbr); clear hx; (try simp (decide := true) only [go_sem] at hf); (try simp (decide := true) only [go_sem] at hk)
              obtain ⟨⟨pa2, pc2, h112, own17, -⟩, h14⟩ := hf
              rw [h112] at h14
              have kK17 := hbr.blk gm16.kK (fun r hr => by have := gm16.jc; simp at hr; subst hr; simp only; omega)
              have be17 : RowKit.Below wr.heap.size wr W17 := ⟨hbr.1.trans gm16.be.os, hbr.2.1.trans gm16.be.tape, hbr.2.2.1.trans gm16.be.output, Nat.le_trans gm16.be.size hbr.2.2.2.1, fun q hq => (hbr.2.2.2.2 q ⟨Nat.lt_of_lt_of_le hq gm16.be.size, fun r hr => by simp at hr; subst hr; simp only; omega⟩).trans (gm16.be.block q hq)⟩
              obtain ⟨N, hN⟩ : ∃ N, N = T + K1 + 1 + M := ⟨_, rfl⟩
              rw [← hN] at own17 h14
              obtain ⟨P, hP⟩ : ∃ P, l0 ++ [z] ++ List.replicate M (0 : UInt8) = P := ⟨_, rfl⟩
              rw [hP] at own17
              have HPN : Hid (N = P.length) := Lib.hid (by rw [← hP, hN]; simp; have := HL0.out; omega)
              have hN100 : N ≤ 100 := by omega
              clear hrg hbr gm16 own16 h112 hP hN
              go_simp
              clear hk h14 e1
              obtain ⟨mk, mt, ma, md, c, hd⟩ : ∃ mk mt ma md c, Hid (decP k0 P = (⟨mk, mt, ma, md⟩, c)) := ⟨_, _, _, _, _, Lib.hid rfl⟩
              have hsame := sameM_yes (m := ⟨mk, mt, ma, md⟩) rfl
              obtain ⟨d0, d1, d2, d3⟩ := kK17.four
              have dl := kK17.lt
              have x6 : (c != c) = false := by simp
              go_wp2_with (first | (go_at_call 16; (with_reducible refine (msg_DecodeA hd pa2 pc2 _ own17 HPN.out).mono ?_); rintro e w5 ⟨ya, yc, za, zc, va, vc, rfl, hm5, hb5⟩; ((have kn := Blk.new w5 27 #[.int .i64 mk, .slice ya mt.length yc, .slice za ma.length zc, .slice va md.length vc]); (have hb5' : RowKit.Below W17.heap.size W17 (w5.alloc (.cells #[.int .i64 mk, .slice ya mt.length yc, .slice za ma.length zc, .slice va md.length vc] 27)) := (by repeat (first | (with_reducible refine Below.setCell ?_ ?_ _) | (with_reducible refine Below.alloc ?_ ?_ _) | (with_reducible refine Below.drew ?_) | (with_reducible refine below_drewN ?_ _) | (with_reducible exact Below.refl _ _) | (with_reducible refine Below.trans ?_ (Below.mono hb5 ?_)) | (focus (simp; done)) | (focus (simp; omega)) | (focus omega) | (focus (have q0 := Below.size hb5; (try simp at q0); (try simp); omega))))); (have own18 := own17.below hb5' (Nat.le_refl _)); (have kK18 := kK17.below hb5' kK17.lt); clear d0 d1 d2 d3 dl; obtain ⟨d0, d1, d2, d3⟩ := kK18.four; (have dl := kK18.lt))) | (go_at_call 17; (with_reducible refine (ref05_DecodeA hd pa2 pc2 _ own18 HPN.out (by omega)).mono ?_); rintro e w6 ⟨sa, sc, ba, bc, fa, fc, rfl, hm6, hb6⟩; ((have kn6 := kn.below hb6 kn.lt); obtain ⟨q0, q1, q2, q3⟩ := kn6.four; (have ql := kn6.lt))) | (go_at_call 18; (with_reducible refine (ref05_SameV hsame ya yc za va zc vc sa sc ba fa bc fc _ ((hm5.below (B := w5.heap.size) (show RowKit.Below w5.heap.size w5 _ from (by repeat (first | (with_reducible refine Below.setCell ?_ ?_ _) | (with_reducible refine Below.alloc ?_ ?_ _) | (with_reducible refine Below.drew ?_) | (with_reducible refine below_drewN ?_ _) | (with_reducible exact Below.refl _ _) | (with_reducible refine Below.trans ?_ (Below.mono hb6 ?_)) | (focus (simp; done)) | (focus (simp; omega)) | (focus omega) | (focus (have q0 := Below.size hb6; (try simp at q0); (try simp); omega))))) (Nat.le_refl _))) (hm6.below (B := w6.heap.size) (by repeat (first | (with_reducible refine Below.setCell ?_ ?_ _) | (with_reducible refine Below.alloc ?_ ?_ _) | (with_reducible refine Below.drew ?_) | (with_reducible refine below_drewN ?_ _) | (with_reducible exact Below.refl _ _) | (focus (simp; done)) | (focus (simp; omega)) | (focus omega))) (Nat.le_refl _))).mono ?_); rintro e w7 ⟨rfl, hb7⟩))
              go_roundw
              case rel => exact ⟨j + 1, by omega, by go_num, (by repeat (first | (with_reducible refine Below.setCell ?_ ?_ _) | (with_reducible refine Below.alloc ?_ ?_ _) | (with_reducible refine Below.drew ?_) | (with_reducible refine below_drewN ?_ _) | (with_reducible exact Below.refl _ _) | (with_reducible refine Below.trans ?_ (Below.mono hb7 ?_)) | (with_reducible refine Below.trans ?_ (Below.mono hb6 ?_)) | (with_reducible refine Below.trans ?_ (Below.mono hb5 ?_)) | (with_reducible refine Below.trans ?_ (Below.mono be17 ?_)) | (with_reducible refine Below.trans ?_ (Below.mono hby ?_)) | (focus (simp; done)) | (focus (simp; omega)) | (focus omega) | (focus (have q0 := Below.size hb7; (try simp at q0); have q1 := Below.size hb6; (try simp at q1); have q2 := Below.size hb5; (try simp at q2); have q3 := Below.size be17; (try simp at q3); have q4 := Below.size hby; (try simp at q4); (try simp); omega))))⟩
              case measure => simp [intOf]; omega
        · obtain rfl : j = 5 := by omega
          go_wp2
          go_roundw
          case rel => exact ⟨k + 1, by omega, by go_num, (by repeat (first | (with_reducible refine Below.setCell ?_ ?_ _) | (with_reducible refine Below.alloc ?_ ?_ _) | (with_reducible refine Below.drew ?_) | (with_reducible refine below_drewN ?_ _) | (with_reducible exact Below.refl _ _) | (with_reducible refine Below.trans ?_ (Below.mono hby ?_)) | (with_reducible refine Below.trans ?_ (Below.mono be1 ?_)) | (with_reducible refine Below.trans ?_ (Below.mono hbr ?_)) | (focus (simp; done)) | (focus (simp; omega)) | (focus omega) | (focus (have q0 := Below.size hby; (try simp at q0); have q1 := Below.size be1; (try simp at q1); have q2 := Below.size hbr; (try simp at q2); (try simp); omega))))⟩
          case measure => simp [intOf]; omega
    · obtain rfl : k = 4 := by omega
      go_wp2_with (first | (go_at_call 10; (with_reducible refine (awake_yes _).mono ?_); rintro e w20 ⟨rfl, hb20⟩))
      go_ret
      exact ⟨rfl, (by repeat (first | (with_reducible refine Below.setCell ?_ ?_ _) | (with_reducible refine Below.alloc ?_ ?_ _) | (with_reducible refine Below.drew ?_) | (with_reducible refine below_drewN ?_ _) | (with_reducible exact Below.refl _ _) | (with_reducible refine Below.trans ?_ (Below.mono hb20 ?_)) | (with_reducible refine Below.trans ?_ (Below.mono hbr ?_)) | (with_reducible refine Below.trans ?_ (Below.mono be0 ?_)) | (focus (simp; done)) | (focus (simp; omega)) | (focus omega) | (focus (have q0 := Below.size hb20; (try simp at q0); have q1 := Below.size hbr; (try simp at q1); have q2 := Below.size be0; (try simp at q2); (try simp); omega))))⟩
end Go.Proofs.Ythkoijgobigdnaa
