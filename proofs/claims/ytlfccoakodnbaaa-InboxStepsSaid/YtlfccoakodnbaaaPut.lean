/- stream.Put, stream.Valid, and the reference's -/
import Derived.Test.YtlfccoakodnbaaaRefStr
namespace Go.Proofs.Ytlfccoakodnbaaa
set_option linter.unusedVariables false
open Go.RowKit Go.Sort
set_option maxRecDepth 100000

/-- what fits -/
def putL (s b : List UInt8) : List UInt8 := s ++ b.take (256 - s.length)
/-- what Put hands back -/
def PutR (s b : List UInt8) (g : Bool) (w : World) (e : Ending) (w' : World) : Prop :=
  ∃ (a : Option Addr) (c : Nat) (n : Nat) (ok : Bool), e = .returned (.tuple #[.agg #[.slice a n c, .bool g], .bool ok]) ∧ n = (putL s b).length ∧ ok = decide (s.length + b.length ≤ 256) ∧ Own w' w.heap.size 5 1 a n c ((putL s b).map encB) ∧ Below w.heap.size w w'
theorem putL_len (s b : List UInt8) (h : s.length ≤ 256) : (putL s b).length = min (s.length + b.length) 256 := by
  unfold putL
  rw [List.length_append, List.length_take]
  omega

set_option maxHeartbeats 2000000 in
theorem stream_Put (a : Option Addr) (s : List UInt8) (c : Nat) (g : Bool) (ba : Option Addr) (b : List UInt8) (bc : Nat) (w : World) (hs : Byt w a s) (hb : Byt w ba b) (h256 : s.length ≤ 256) (hcb : b.length ≤ bc) (hbl : b.length ≤ 1000000) :
    Calls Try.prog 31 #[.agg #[.slice a s.length c, .bool g], .slice ba b.length bc] w (PutR s b g w) := by
  obtain ⟨F, hF⟩ : ∃ F, F = min b.length (256 - s.length) := ⟨_, rfl⟩
  have hFi : (if 256 - (s.length : Int) < (b.length : Int) then 256 - (s.length : Int) else (b.length : Int)) = (F : Int) := by split <;> omega
  have hFb : F ≤ b.length := by omega
  have hFs : s.length + F ≤ 256 := by omega
  have hFc : (F : Int) ≤ (bc : Int) := by omega
  have htk : b.take F = b.take (256 - s.length) := by
    by_cases h : b.length ≤ 256 - s.length
    · rw [List.take_of_length_le (by omega), List.take_of_length_le h]
    · rw [show F = 256 - s.length by omega]
  have HPL : Hid (putL s b = s ++ b.take F) := Lib.hid (by unfold putL; rw [htk])
  have hlt : (b.take F).length = F := by rw [List.length_take]; omega
  have HTL := Lib.hid hlt
  have heq : ((F : Int) == (b.length : Int)) = decide (s.length + b.length ≤ 256) := by
    rw [Bool.eq_iff_iff]; simp; omega
  obtain ⟨okb, hok⟩ : ∃ ok, decide (s.length + b.length ≤ 256) = ok := ⟨_, rfl⟩
  rw [hok] at heq
  have HOKB := Lib.hid hok
  clear hF htk hlt hok
  go_enter Try.func31, Try.ntmps31
  go_upto_region 1 with fail
  refine wp_named (fun W => Blk W w.heap.size 28 #[.slice a s.length c, .bool g] ∧ Blk W (w.heap.size + 1) 28 #[.slice none 0 0, .bool false] ∧ w.heap.size + 2 ≤ W.heap.size ∧ RowKit.Below w.heap.size w W) ⟨(Blk.new _ _ _).alloc _, Blk.next _ _ _ _, by simp, (by repeat (first | (with_reducible refine Below.setCell ?_ ?_ _) | (with_reducible refine Below.alloc ?_ ?_ _) | (with_reducible refine Below.drew ?_) | (with_reducible refine below_drewN ?_ _) | (with_reducible exact Below.refl _ _) | (focus (simp; done)) | (focus (simp; omega)) | (focus omega)))⟩ ?_
  rintro W ⟨kS, kR, sz, be⟩
  have s0 := kS.cell 0
  have s1 := kS.cell 1
  have sl := kS.lt
  have hsW := hs.below be (Nat.le_refl _)
  have hbW := hb.below be (Nat.le_refl _)
  go_wp2_with (first | ((with_reducible refine wp_makeB 0 (s.length + F) ?_ ?_ ?_ ?_ ?_); (focus rfl); (focus rfl); (focus omega); (focus omega); intro W0 B0 be0 z0; (have own0 := (B0.ownL (base := W.heap.size) (n := s.length + F) (Nat.le_refl _) (by simp) (by simp only [maxLen]; omega)).takeB 0 (Nat.zero_le _)); (have kS0 := kS.below be0 sl); clear s0 s1 sl; (have s0 := kS0.cell 0); (have s1 := kS0.cell 1); (have sl := kS0.lt)) | (at_builtin; refine appB rfl _ _ rfl W.heap.size (some ⟨W.heap.size, 0, none⟩) 0 (s.length + F) [] rfl a _ c s rfl own0 (hsW.below be0 (Nat.le_refl _)) rfl s.length (by omega) (by omega) (by omega) ?_; intro b2 c2 w2 own2 gr2 bl2; (have hb2 := bl2 W be0); (have kS2 := kS.below hb2 kS.lt); clear s0 s1 sl; (have s0 := kS2.cell 0); (have s1 := kS2.cell 1); (have sl := kS2.lt)) | (at_builtin; refine appB rfl _ _ rfl W.heap.size b2 s.length c2 ([] ++ s) rfl ba F bc (b.take F) rfl own2 ((hbW.take F).below hb2 (Nat.le_refl _)) HTL.out.symm (s.length + F) rfl (by omega) hb2.size ?_; intro b3 c3 w3 own3 gr3 bl3; (have hb3 := bl3 W hb2); (have kS3 := kS.below hb3 kS.lt); (have kR3 := kR.below hb3 kR.lt); clear s0 s1 sl; (have s0 := kS3.cell 0); (have s1 := kS3.cell 1); (have sl := kS3.lt); (have y0 := kR3.cell 0); (have y1 := kR3.cell 1); (have yf := kR3.frozen); (have yl := kR3.lt)))
  refine bodyPost_ret (v := .tuple #[.agg #[.slice b3 (s.length + F) c3, .bool g], .bool okb]) (by simp [results, Try.results31, go_sem, y0, y1]) rfl ?_
  have hs3 := be.size
  have ob := own3.base_le
  refine ⟨b3, c3, s.length + F, okb, rfl, by rw [HPL.out, List.length_append, HTL.out], HOKB.out.symm, ?_, (by repeat (first | (with_reducible refine Below.setCell ?_ ?_ _) | (with_reducible refine Below.alloc ?_ ?_ _) | (with_reducible refine Below.drew ?_) | (with_reducible refine below_drewN ?_ _) | (with_reducible exact Below.refl _ _) | (with_reducible refine Below.trans ?_ (Below.mono hb3 ?_)) | (with_reducible refine Below.trans ?_ (Below.mono be ?_)) | (focus (simp; done)) | (focus (simp; omega)) | (focus omega) | (focus (have q0 := Below.size hb3; (try simp at q0); have q1 := Below.size be; (try simp at q1); (try simp); omega))))⟩
  rw [HPL.out]
  have o1 : Own w3 W.heap.size 5 1 b3 (s.length + F) c3 ((s ++ b.take F).map encB) := by simpa using own3
  exact ((o1.far (fun e => by have := ob _ e; simp only at this; omega) _).far (fun e => by have := ob _ e; simp only at this; omega) _).mono hs3
set_option maxHeartbeats 2000000 in
theorem ref04_Put (a : Option Addr) (s : List UInt8) (c : Nat) (g : Bool) (ba : Option Addr) (b : List UInt8) (bc : Nat) (w : World) (hs : Byt w a s) (hb : Byt w ba b) (h256 : s.length ≤ 256) (hcb : b.length ≤ bc) (hbl : b.length ≤ 1000000) :
    Calls Try.prog 36 #[.agg #[.slice a s.length c, .bool g], .slice ba b.length bc] w (PutR s b g w) := by
  obtain ⟨F, hF⟩ : ∃ F, F = min b.length (256 - s.length) := ⟨_, rfl⟩
  have hFi : (if 256 - (s.length : Int) < (b.length : Int) then 256 - (s.length : Int) else (b.length : Int)) = (F : Int) := by split <;> omega
  have hFb : F ≤ b.length := by omega
  have hFs : s.length + F ≤ 256 := by omega
  have hFc : (F : Int) ≤ (bc : Int) := by omega
  have htk : b.take F = b.take (256 - s.length) := by
    by_cases h : b.length ≤ 256 - s.length
    · rw [List.take_of_length_le (by omega), List.take_of_length_le h]
    · rw [show F = 256 - s.length by omega]
  have HPL : Hid (putL s b = s ++ b.take F) := Lib.hid (by unfold putL; rw [htk])
  have hlt : (b.take F).length = F := by rw [List.length_take]; omega
  have HTL := Lib.hid hlt
  have heq : ((F : Int) == (b.length : Int)) = decide (s.length + b.length ≤ 256) := by
    rw [Bool.eq_iff_iff]; simp; omega
  obtain ⟨okb, hok⟩ : ∃ ok, decide (s.length + b.length ≤ 256) = ok := ⟨_, rfl⟩
  rw [hok] at heq
  have HOKB := Lib.hid hok
  clear hF htk hlt hok
  go_enter Try.func36, Try.ntmps36
  go_upto_region 1 with fail
  refine wp_named (fun W => Blk W w.heap.size 28 #[.slice a s.length c, .bool g] ∧ Blk W (w.heap.size + 1) 28 #[.slice none 0 0, .bool false] ∧ w.heap.size + 2 ≤ W.heap.size ∧ RowKit.Below w.heap.size w W) ⟨(Blk.new _ _ _).alloc _, Blk.next _ _ _ _, by simp, (by repeat (first | (with_reducible refine Below.setCell ?_ ?_ _) | (with_reducible refine Below.alloc ?_ ?_ _) | (with_reducible refine Below.drew ?_) | (with_reducible refine below_drewN ?_ _) | (with_reducible exact Below.refl _ _) | (focus (simp; done)) | (focus (simp; omega)) | (focus omega)))⟩ ?_
  rintro W ⟨kS, kR, sz, be⟩
  have s0 := kS.cell 0
  have s1 := kS.cell 1
  have sl := kS.lt
  have hsW := hs.below be (Nat.le_refl _)
  have hbW := (hb.below be (Nat.le_refl _)).take F
  have hsb : s ≠ [] → ∀ k, a.map (·.block) = some k → k < w.heap.size := fun hne k hk => by
    rcases hs.open with h | ⟨b, off, rfl, hlt, _⟩
    · exact absurd h hne
    · simp at hk; omega
  have hbb : b.take F ≠ [] → ∀ k, ba.map (·.block) = some k → k < w.heap.size := fun hne k hk => by
    rcases hb.open with h | ⟨b, off, rfl, hlt, _⟩
    · rw [h] at hne; simp at hne
    · simp at hk; omega
  have hF0 : (0 : Int) ≤ (F : Int) := by omega
  obtain ⟨N, hN⟩ : ∃ N, N = s.length + F := ⟨_, rfl⟩
  have HN := Lib.hid hN
  clear hN s0 s1
  have s0 := kS.cell 0
  go_upto_region 2 with fail
  apply wp_region_tab [((w.heap.size+1), (w.heap.size+1+1))] 16 28 [some 14, some 15, some 16, some 17, some 18, some 19, some 20, some 21, some 22, some 23, some 24, some 25, some 26, some 27, none, some 5] [⟨[16], [], [], []⟩, ⟨[0, 16], [0], [0], []⟩, ⟨[0, 1, 16], [1], [1], []⟩, ⟨[16], [], [], []⟩, ⟨[16], [], [], []⟩, ⟨[3, 4, 16], [3, 4], [3, 4], []⟩, ⟨[0, 1, 2, 3, 4, 5, 16], [2, 5], [2, 5], [2]⟩, ⟨[16], [], [], []⟩, ⟨[7, 16], [7], [7], []⟩, ⟨[0, 1, 2, 3, 4, 5, 6, 7, 8, 16], [6, 8], [6, 8], []⟩, ⟨[16], [], [], []⟩, ⟨[16], [], [], []⟩, ⟨[11, 16], [11], [11], []⟩, ⟨[10, 11, 12, 16], [10, 12], [10, 12], []⟩, ⟨[0, 1, 2, 3, 4, 5, 6, 7, 8, 9, 16], [6, 9, 16], [6, 9, 16], [16]⟩, ⟨[0, 1, 2, 3, 4, 5, 6, 7, 8, 9, 10, 11, 12, 13, 14, 16], [13], [13], []⟩, ⟨[], [], [], []⟩] [0, 1, 2, 3, 4, 5, 6, 7, 8, 9, 10, 11, 12, 13, 14, 15] [6, 14, 15] [psiTrue, psiTrue, (fun f lo hi v b0 b1 W => ∃ a c, v = .slice a s.length c ∧ Own W b0 5 1 a s.length c (s.map encB) ∧ ∀ x, a.map (·.block) = some x → x < b1), psiTrue, psiTrue, psiTrue, (fun f lo hi v b0 b1 W => ∃ a c, v = .slice a N c ∧ Own W 0 5 1 a N c ((s ++ b.take F).map encB) ∧ ∀ x, a.map (·.block) = some x → (lo (2) ≤ x ∧ x < hi (2)) ∨ (b0 ≤ x ∧ x < b1)), psiTrue, psiTrue, (fun f lo hi v b0 b1 W => ∃ a c, f 6 = .slice a N c ∧ v = .agg #[.slice a N c, .bool g]), psiTrue, psiTrue, psiTrue, psiTrue, (fun f lo hi v b0 b1 W => ∃ a c, f 6 = .slice a N c ∧ Blk W (w.heap.size+1) 28 #[.slice a N c, .bool g]), psiTrue, (fun f lo hi v b0 b1 W => (b0 = (w.heap.size+1) ∧ b1 = (w.heap.size+1+1)) ∧ Blk W (w.heap.size+1) 28 #[.slice none 0 0, .bool false])] [kVal _, kVal _, kTrue, kVal _, kVal _, kVal _, kTrue, kVal _, kVal _, kTrue, kVal _, kVal _, kVal _, kVal _, kTrue, kVal _]
  · kernel_rfl
  · kernel_rfl
  · rfl
  · rfl
  rotate_left 2
  refine ⟨?oR1_0, ?oR1_1, ?oR1_2, ?oR1_3, ?oR1_4, ?oR1_5, ?oR1_6, ?oR1_7, ?oR1_8, ?oR1_9, ?oR1_10, ?oR1_11, ?oR1_12, ?oR1_13, ?oR1_14, ?oR1_15, trivial⟩
  case hx => exact ⟨⟨by omega, by omega⟩, by simp, trivial⟩
  case hX => exact ⟨fun _ _ _ _ => ⟨⟨rfl, rfl⟩, kR⟩, trivial⟩
  case oR1_0 => intro f lo hi w hb hx hf hk hrg R hR; (try replace hb := BelX.zero hb); (try simp (decide := true) only [go_sem] at hf); (try simp (decide := true) only [go_sem] at hk); go_simp; exact hR _ _ (rpost_val rfl rfl (Below.refl _ _) rfl)
  case oR1_1 =>
    intro f lo hi w hb hx hf hk hrg R hR; (try replace hb := BelX.zero hb); (try simp (decide := true) only [go_sem] at hf); (try simp (decide := true) only [go_sem] at hk)
    have e := (hb.blk kS (by simp; omega)).cell 0
    go_simp
    exact hR _ _ (rpost_val rfl rfl (Below.refl _ _) rfl)
  case oR1_2 =>
    intro f lo hi w hb hx hf hk hrg R hR; (try replace hb := BelX.zero hb); (try simp (decide := true) only [go_sem] at hf); (try simp (decide := true) only [go_sem] at hk)
    have bw : Byt w a s := by
      by_cases hne : s = []
      · rw [hne]; exact Byt.nil _ _
      · exact hb.row (show Row _ _ _ from hsW) (fun b hb' r hr => by have := hsb hne b hb'; simp at hr; subst hr; simp only; omega)
    refine obl_appB w.heap.size none 0 0 [] ?_ a s.length c s ?_ (Own.nil _ _ _ _) bw rfl s.length (by omega) (by omega) (Nat.le_refl _) ?_
    · go_simp
    · go_simp
    intro b2 c2 w2 own2 g2 bl2
    refine hR _ _ (rpost_none rfl g2.below0 ?_)
    (try simp (decide := true) only [go_sem])
    exact ⟨_, _, rfl, own2, own2.lt'⟩
  case oR1_3 => intro f lo hi w hb hx hf hk hrg R hR; (try replace hb := BelX.zero hb); (try simp (decide := true) only [go_sem] at hf); (try simp (decide := true) only [go_sem] at hk); go_simp; exact hR _ _ (rpost_val rfl rfl (Below.refl _ _) rfl)
  case oR1_4 => intro f lo hi w hb hx hf hk hrg R hR; (try replace hb := BelX.zero hb); (try simp (decide := true) only [go_sem] at hf); (try simp (decide := true) only [go_sem] at hk); go_simp; exact hR _ _ (rpost_val rfl rfl (Below.refl _ _) rfl)
  case oR1_5 => intro f lo hi w hb hx hf hk hrg R hR; (try replace hb := BelX.zero hb); (try simp (decide := true) only [go_sem] at hf); (try simp (decide := true) only [go_sem] at hk); go_simp; exact hR _ _ (rpost_val rfl rfl (Below.refl _ _) rfl)
  case oR1_6 =>
    intro f lo hi w hb hx hf hk hrg R hR; (try replace hb := BelX.zero hb); (try simp (decide := true) only [go_sem] at hf); (try simp (decide := true) only [go_sem] at hk)
    obtain ⟨a3, c3, h3, own3, lt3⟩ := hf
    have bw : Byt w ba (b.take F) := by
      by_cases hne : b.take F = []
      · rw [hne]; exact Byt.nil _ _
      · exact hb.row (show Row _ _ _ from hbW) (fun b hb' r hr => by have := hbb hne b hb'; simp at hr; subst hr; simp only; omega)
    refine obl_appB (lo 2) a3 s.length c3 s ?_ ba F bc (b.take F) ?_ own3 bw HTL.out.symm N HN.out (by have := HN.out; omega) (by have := hrg.out 2 (by simp); omega) ?_
    · go_simp
    · go_simp
    intro b2 c2 w2 own2 g2 bl2
    refine hR _ _ (rpost_some rfl rfl (g2.touch fun x hx => ⟨2, by simp, (own3.base_le x hx), lt3 x hx⟩) ?_)
    (try simp (decide := true) only [go_sem])
    refine ⟨_, _, rfl, own2.mono (Nat.zero_le _), fun x hx => ?_⟩
    rcases g2.2.1 with e | e
    · exact .inl ⟨own3.base_le x (e ▸ hx), lt3 x (e ▸ hx)⟩
    · rw [e] at hx
      exact .inr ⟨by injection hx with hx; omega, own2.lt' x (e ▸ hx)⟩
  case oR1_7 => intro f lo hi w hb hx hf hk hrg R hR; (try replace hb := BelX.zero hb); (try simp (decide := true) only [go_sem] at hf); (try simp (decide := true) only [go_sem] at hk); go_simp; exact hR _ _ (rpost_val rfl rfl (Below.refl _ _) rfl)
  case oR1_8 =>
    intro f lo hi w hb hx hf hk hrg R hR; (try replace hb := BelX.zero hb); (try simp (decide := true) only [go_sem] at hf); (try simp (decide := true) only [go_sem] at hk)
    have e := (hb.blk kS (by simp; omega)).cell 1
    go_simp
    exact hR _ _ (rpost_val rfl rfl (Below.refl _ _) rfl)
  case oR1_9 =>
    intro f lo hi w hb hx hf hk hrg R hR; (try replace hb := BelX.zero hb); (try simp (decide := true) only [go_sem] at hf); (try simp (decide := true) only [go_sem] at hk)
    obtain ⟨a6, c6, h6, -⟩ := hf
    go_simp
    refine hR _ _ (rpost_none rfl (Below.refl _ _) ?_)
    (try simp (decide := true) only [go_sem])
    exact ⟨a6, c6, h6, rfl⟩
  case oR1_10 => intro f lo hi w hb hx hf hk hrg R hR; (try replace hb := BelX.zero hb); (try simp (decide := true) only [go_sem] at hf); (try simp (decide := true) only [go_sem] at hk); go_simp; exact hR _ _ (rpost_val rfl rfl (Below.refl _ _) rfl)
  case oR1_11 => intro f lo hi w hb hx hf hk hrg R hR; (try replace hb := BelX.zero hb); (try simp (decide := true) only [go_sem] at hf); (try simp (decide := true) only [go_sem] at hk); go_simp; exact hR _ _ (rpost_val rfl rfl (Below.refl _ _) rfl)
  case oR1_12 => intro f lo hi w hb hx hf hk hrg R hR; (try replace hb := BelX.zero hb); (try simp (decide := true) only [go_sem] at hf); (try simp (decide := true) only [go_sem] at hk); go_simp; exact hR _ _ (rpost_val rfl rfl (Below.refl _ _) rfl)
  case oR1_13 => intro f lo hi w hb hx hf hk hrg R hR; (try replace hb := BelX.zero hb); (try simp (decide := true) only [go_sem] at hf); (try simp (decide := true) only [go_sem] at hk); go_simp; exact hR _ _ (rpost_val rfl rfl (Below.refl _ _) rfl)
  case oR1_14 =>
    intro f lo hi w hb hx hf hk hrg R hR; (try replace hb := BelX.zero hb); (try simp (decide := true) only [go_sem] at hf); (try simp (decide := true) only [go_sem] at hk)
    obtain ⟨-, ⟨a6, c6, h6, h23⟩, -, kb⟩ := hf
    have e0 := kb.cell 0
    have e1 := kb.cell 1
    have fz := kb.frozen
    have p1 : lo 16 = _ := (XOk.get _ _ hx 0 _ rfl).1
    have p2 : hi 16 = _ := (XOk.get _ _ hx 0 _ rfl).2
    go_simp
    refine hR _ _ (rpost_some rfl rfl ((Touch.set w (List.mem_singleton.2 rfl) (Nat.le_of_eq p1) (by rw [p2]; exact Nat.lt_succ_self _) 0 _).trans (Touch.set _ (List.mem_singleton.2 rfl) (Nat.le_of_eq p1) (by rw [p2]; exact Nat.lt_succ_self _) 1 _)) ?_)
    (try simp (decide := true) only [go_sem])
    exact ⟨a6, c6, h6, (kb.set 0 _).set 1 _⟩
  case oR1_15 => intro f lo hi w hb hx hf hk hrg R hR; (try replace hb := BelX.zero hb); (try simp (decide := true) only [go_sem] at hf); (try simp (decide := true) only [go_sem] at hk); go_simp; exact hR _ _ (rpost_val rfl rfl (Below.refl _ _) rfl)
  case hcl =>
    refine ⟨Closed.true _ _ _ _, Closed.true _ _ _ _, ?cR1_2, Closed.true _ _ _ _, Closed.true _ _ _ _, Closed.true _ _ _ _, ?cR1_6, Closed.true _ _ _ _, Closed.true _ _ _ _, ?cR1_9, Closed.true _ _ _ _, Closed.true _ _ _ _, Closed.true _ _ _ _, Closed.true _ _ _ _, ?cR1_14, Closed.true _ _ _ _, ?cR1_16, trivial⟩
    all_goals first
      | exact fun f lo hi v b0 b1 w w' h hs hB hown hU hX => by
          obtain ⟨a', c', h1, own, lt⟩ := h
          exact ⟨a', c', h1, own.keep fun b hb hl _ => hown b hl (lt b (by rw [hb]; rfl)), lt⟩
      | exact fun f lo hi v b0 b1 w w' h hs hB hown hU hX => by
          obtain ⟨a, c, h1, own, lt⟩ := h
          exact ⟨a, c, h1, own.keep fun b hb _ _ => (lt b (by rw [hb]; rfl)).elim (fun q => hU 2 (by simp) b q.1 q.2) fun q => hown b q.1 q.2, lt⟩
      | exact fun f lo hi v b0 b1 w w' h hs hB hown hU hX => by
          obtain ⟨a', c', h1, h2⟩ := h
          exact ⟨a', c', h1, (hX 0 _ rfl (by simp) _ (Nat.le_refl _) (Nat.lt_succ_self _)).trans h2⟩
      | exact fun f lo hi v b0 b1 w w' h hs hB hown hU hX => by
          obtain ⟨⟨rfl, rfl⟩, kb⟩ := h
          exact ⟨⟨rfl, rfl⟩, (hown _ (Nat.le_refl _) (Nat.lt_succ_self _)).trans kb⟩
      | exact fun _ _ _ _ _ _ _ _ h _ _ _ _ _ => h
  intro f lo hi W7 hbr hx hf hk hrg; (try replace hbr := BelX.zero hbr); clear hx; (try simp (decide := true) only [go_sem] at hf); (try simp (decide := true) only [go_sem] at hk)
  obtain ⟨⟨a2, c2, h20, own7, lt7⟩, a3, c3, h20', k7⟩ := hf
  obtain ⟨rfl, rfl⟩ : a2 = a3 ∧ c2 = c3 := by
    rw [h20] at h20'
    injection h20' with e1 _ e2
    exact ⟨e1, e2⟩
  have r2 := hrg.out 2 (by simp)
  have r6 := hrg.out 6 (by simp)
  have own8 : Own W7 w.heap.size 5 1 a2 N c2 ((s ++ b.take F).map encB) := by
    rcases own7.2 with h | ⟨gg, cp, cur, h1, -, h3⟩
    · exact ⟨own7.1, .inl h⟩
    · refine ⟨own7.1, .inr ⟨gg, cp, cur, h1, ?_, h3⟩⟩
      injection h1 with h1
      have := lt7 gg (by rw [h1]; rfl)
      have := be.size
      omega
  have bel7 : RowKit.Below w.heap.size w W7 := ⟨hbr.1.trans be.os, hbr.2.1.trans be.tape, hbr.2.2.1.trans be.output, Nat.le_trans be.size hbr.2.2.2.1, fun q hq => (hbr.2.2.2.2 q ⟨Nat.lt_of_lt_of_le hq be.size, fun r hr => by simp at hr; subst hr; simp only; omega⟩).trans (be.block q hq)⟩
  have y0 := k7.cell 0
  have y1 := k7.cell 1
  clear hrg hbr h20' r2 r6 own7 lt7
  go_simp
  clear hk h20
  go_wp2
  refine bodyPost_ret (v := .tuple #[.agg #[.slice a2 N c2, .bool g], .bool okb]) (by simp [results, Try.results36, go_sem, y0, y1]) rfl ?_
  exact ⟨a2, c2, N, okb, rfl, by rw [HPL.out, List.length_append, HTL.out, HN.out], HOKB.out.symm, by rw [HPL.out]; exact own8, bel7⟩
end Go.Proofs.Ytlfccoakodnbaaa
