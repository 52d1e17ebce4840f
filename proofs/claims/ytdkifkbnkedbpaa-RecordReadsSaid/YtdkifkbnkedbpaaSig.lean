/- signalbrokerlaw23.awake, signal -/
import Derived.Test.YtdkifkbnkedbpaaRefPar
import Derived.Test.YtdkifkbnkedbpaaService
import Derived.Test.YtdkifkbnkedbpaaStr
namespace Go.Proofs.Ytdkifkbnkedbpaa
set_option linter.unusedVariables false
open Go.RowKit Go.Sort
set_option maxRecDepth 100000

theorem rec_ParseN {b : List UInt8} {ps : List Int} (h : Hid (pRun b ps = none)) (a : Option Addr) (n c : Nat) (pa : Option Addr) (pn pc : Nat) (w : World) (hb : Byt w a b) (hn : n = b.length) (hc : b.length ≤ c) (hb9 : b.length ≤ 1000000) (hp : Ints w pa ps) (hpn : pn = ps.length) (hp9 : ps.length ≤ 1000) :
    Calls Try.prog 16 #[.slice a n c, .slice pa pn pc] w fun e w' => e = .returned (.tuple #[.slice none 0 0, .int .i64 6]) ∧ Below w.heap.size w w' :=
  (rec_Parse a b n c pa ps pn pc w hb hn hc hb9 hp hpn hp9).mono fun e w' ⟨x, m, cc, k, he, hbl, hr⟩ => by
    rcases hr with ⟨rfl, rfl, rfl, rfl, _⟩ | ⟨rfl, its, h2, _⟩
    · exact ⟨he, hbl⟩
    · rw [h.out] at h2; cases h2
theorem rec_ParseY {b : List UInt8} {ps : List Int} {vs : List Vk} (h : Hid (pRun b ps = some vs)) (a : Option Addr) (n c : Nat) (pa : Option Addr) (pn pc : Nat) (w : World) (hb : Byt w a b) (hn : n = b.length) (hc : b.length ≤ c) (hb9 : b.length ≤ 1000000) (hp : Ints w pa ps) (hpn : pn = ps.length) (hp9 : ps.length ≤ 1000) :
    Calls Try.prog 16 #[.slice a n c, .slice pa pn pc] w fun e w' => ∃ (x : Option Addr) (m cc : Nat) (its : List Vx), e = .returned (.tuple #[.slice x m cc, .int .i64 0]) ∧ Below w.heap.size w w' ∧ Hid (its.map Vx.key = vs) ∧ Hid (m = its.length) ∧ VxL w' w.heap.size its x cc :=
  (rec_Parse a b n c pa ps pn pc w hb hn hc hb9 hp hpn hp9).mono fun e w' ⟨x, m, cc, k, he, hbl, hr⟩ => by
    rcases hr with ⟨rfl, rfl, rfl, rfl, h2⟩ | ⟨rfl, its, h2, h3, h4⟩
    · rw [h.out] at h2; cases h2
    · rw [h.out] at h2
      injection h2 with h2
      exact ⟨x, m, cc, its, he, hbl, Lib.hid h2.symm, Lib.hid h3, h4⟩
theorem ref23_ParseN {b : List UInt8} {ps : List Int} (h : Hid (pRun b ps = none)) (a : Option Addr) (n c : Nat) (pa : Option Addr) (pn pc : Nat) (w : World) (hb : Byt w a b) (hn : n = b.length) (hc : b.length ≤ c) (hb9 : b.length ≤ 1000000) (hp : Ints w pa ps) (hpn : pn = ps.length) (hp9 : ps.length ≤ 1000) :
    Calls Try.prog 17 #[.slice a n c, .slice pa pn pc] w fun e w' => e = .returned (.tuple #[.slice none 0 0, .int .i64 6]) ∧ Below w.heap.size w w' :=
  (ref23_Parse a b n c pa ps pn pc w hb hn hc hb9 hp hpn hp9).mono fun e w' ⟨x, m, cc, k, he, hbl, hr⟩ => by
    rcases hr with ⟨rfl, rfl, rfl, rfl, _⟩ | ⟨rfl, its, h2, _⟩
    · exact ⟨he, hbl⟩
    · rw [h.out] at h2; cases h2
theorem ref23_ParseY {b : List UInt8} {ps : List Int} {vs : List Vk} (h : Hid (pRun b ps = some vs)) (a : Option Addr) (n c : Nat) (pa : Option Addr) (pn pc : Nat) (w : World) (hb : Byt w a b) (hn : n = b.length) (hc : b.length ≤ c) (hb9 : b.length ≤ 1000000) (hp : Ints w pa ps) (hpn : pn = ps.length) (hp9 : ps.length ≤ 1000) :
    Calls Try.prog 17 #[.slice a n c, .slice pa pn pc] w fun e w' => ∃ (x : Option Addr) (m cc : Nat) (its : List Vx), e = .returned (.tuple #[.slice x m cc, .int .i64 0]) ∧ Below w.heap.size w w' ∧ Hid (its.map Vx.key = vs) ∧ Hid (m = its.length) ∧ VxL w' w.heap.size its x cc :=
  (ref23_Parse a b n c pa ps pn pc w hb hn hc hb9 hp hpn hp9).mono fun e w' ⟨x, m, cc, k, he, hbl, hr⟩ => by
    rcases hr with ⟨rfl, rfl, rfl, rfl, h2⟩ | ⟨rfl, its, h2, h3, h4⟩
    · rw [h.out] at h2; cases h2
    · rw [h.out] at h2
      injection h2 with h2
      exact ⟨x, m, cc, its, he, hbl, Lib.hid h2.symm, Lib.hid h3, h4⟩
theorem rec_BytesE {l : List Vx} {bs : List UInt8} (h : Hid (bytesOf (l.map Vx.key) = bs)) (a : Option Addr) (n ca : Nat) (w : World) (hl : Vws w a l) (ha : n = l.length) (l9 : l.length ≤ 1000000) (hc : ∀ v ∈ l, OkK v.key) :
    Calls Try.prog 22 #[.slice a n ca] w fun e w' => ∃ (b : Option Addr) (c m : Nat), e = .returned (.slice b m c) ∧ Hid (m = bs.length) ∧ Own w' w.heap.size 5 1 b m c (bs.map encB) ∧ Below w.heap.size w w' :=
  (rec_Bytes a l n ca w hl ha l9 hc).mono fun e w' ⟨b, c, m, h1, h2, h3, h4⟩ => by
    rw [h.out] at h1 h3
    exact ⟨b, c, m, h2, h1, h3, h4⟩
theorem ref23_BytesE {l : List Vx} {bs : List UInt8} (h : Hid (bytesOf (l.map Vx.key) = bs)) (a : Option Addr) (n ca : Nat) (w : World) (hl : Vws w a l) (ha : n = l.length) (l9 : l.length ≤ 1000000) (hc : ∀ v ∈ l, OkK v.key) :
    Calls Try.prog 14 #[.slice a n ca] w fun e w' => ∃ (b : Option Addr) (c m : Nat), e = .returned (.slice b m c) ∧ Hid (m = bs.length) ∧ Own w' w.heap.size 5 1 b m c (bs.map encB) ∧ Below w.heap.size w w' :=
  (ref23_Bytes a l n ca w hl ha l9 hc).mono fun e w' ⟨b, c, m, h1, h2, h3, h4⟩ => by
    rw [h.out] at h1 h3
    exact ⟨b, c, m, h2, h1, h3, h4⟩
theorem ints_one {w : World} {b : Nat} {x : Int} (h : Blk w b 3 #[.int .i64 x]) : Ints w (some ⟨b, 0, none⟩) [x] := Blk.rowL (enc := encI) (l := [x]) h
set_option maxHeartbeats 4000000 in
theorem awake_yes (w : World) : Calls Try.prog 9 #[] w fun e w' => e = .returned (.bool true) ∧ Below w.heap.size w w' := by
  have HP : Hid (pRun [4, 0, 0, 0] [1] = none) := Lib.hid (by decide)
  have HBY : Hid (bytesOf (([⟨false, true, [1], [4], some ⟨w.heap.size, 0, none⟩, 1, some ⟨w.heap.size + 1, 0, none⟩, 1⟩] : List Vx).map Vx.key) = [2, 0, 1, 4]) := Lib.hid (by
    show bytesOf [(false, true, [1], [4])] = [2, 0, 1, 4]
    decide)
  obtain ⟨vl, hvl⟩ : ∃ vl : List Vx, [⟨false, true, [1], [4], some ⟨w.heap.size, 0, none⟩, 1, some ⟨w.heap.size + 1, 0, none⟩, 1⟩] = vl := ⟨_, rfl⟩
  have HL := Lib.hid hvl
  rw [hvl] at HBY
  clear hvl
  have hvw : ∀ W : World, Blk W w.heap.size 3 #[.int .i64 1] → Blk W (w.heap.size + 1) 3 #[.int .i64 4] → Row W (some ⟨w.heap.size + 2, 0, none⟩) [.bool false, .bool true, .slice (some ⟨w.heap.size, 0, none⟩) 1 1, .slice (some ⟨w.heap.size + 1, 0, none⟩) 1 1] → Vws W (some ⟨w.heap.size + 2, 0, none⟩) vl := fun W h1 h2 h3 => by
    rw [← HL.out]
    exact ⟨h3, fun v hv => by rw [List.mem_singleton.1 hv]; exact ints_one h1, fun v hv => by rw [List.mem_singleton.1 hv]; exact ints_one h2⟩
  have HVW := Lib.hid hvw
  have HL1 : Hid (1 = vl.length) := Lib.hid (by rw [← HL.out]; rfl)
  have HOK : Hid (∀ v ∈ vl, OkK v.key) := Lib.hid (by rw [← HL.out]; intro v hv; rw [List.mem_singleton.1 hv]; show OkK (false, true, [1], [4]); exact ⟨by decide, by decide, by decide⟩)
  clear hvw
  have F1 := Lib.hid (show ∀ W : World, Byt ((W.alloc (.cells #[.int .u8 4, .int .u8 0, .int .u8 0, .int .u8 0] 5)).alloc (.cells #[.int .i64 1] 3)) (some ⟨W.heap.size, 0, none⟩) [4, 0, 0, 0] from fun W => (byt_new (l := [4, 0, 0, 0]) rfl).alloc _)
  have F2 := Lib.hid (show ∀ W : World, Ints ((W.alloc (.cells #[.int .u8 4, .int .u8 0, .int .u8 0, .int .u8 0] 5)).alloc (.cells #[.int .i64 1] 3)) (some ⟨W.heap.size + 1, 0, none⟩) [1] from fun W => ints_one (Blk.next _ _ _ _))
  go_enter Try.func9, Try.ntmps9
  go_upto_region 2 with ((go_at_call 22; (with_reducible refine (rec_BytesE HBY (some ⟨w.heap.size + 2, 0, none⟩) 1 1 _ (HVW.out _ (((Blk.new _ _ _).alloc _).alloc _) ((Blk.next _ _ _ _).alloc _) (by have := row_new ((w.alloc (.cells #[.int .i64 1] 3)).alloc (.cells #[.int .i64 4] 3)) #[.bool false, .bool true, .slice (some ⟨w.heap.size, 0, none⟩) 1 1, .slice (some ⟨w.heap.size + 1, 0, none⟩) 1 1] 43 (0, 0); simpa using this)) HL1.out (by have := HL1.out; omega) HOK.out).mono ?_); rintro e w1 ⟨b, c, m, rfl, hm, own, hb1⟩))
  have bw : RowKit.Below w.heap.size w w1 := (by repeat (first | (with_reducible refine Below.setCell ?_ ?_ _) | (with_reducible refine Below.alloc ?_ ?_ _) | (with_reducible refine Below.drew ?_) | (with_reducible refine below_drewN ?_ _) | (with_reducible exact Below.refl _ _) | (with_reducible refine Below.trans ?_ (Below.mono hb1 ?_)) | (focus (simp; done)) | (focus (simp; omega)) | (focus omega) | (focus (have q0 := Below.size hb1; (try simp at q0); (try simp); omega))))
  obtain rfl : m = 4 := hm.out
  have hbyt := own.byt
  clear hm own hb1
  have kS : ∀ W, RowKit.Below w1.heap.size w1 W → (convert 22 9 (.slice b 4 c)).run Try.prog W = .ok (.string ⟨#[2, 0, 1, 4]⟩) W := fun W hW => conv_str (hbyt.below hW (Nat.le_refl _)) rfl
  go_upto_region 3 with (((go_at_call 16; (with_reducible refine (rec_ParseN HP (some ⟨w1.heap.size, 0, none⟩) 4 4 (some ⟨w1.heap.size + 1, 0, none⟩) 1 1 _ (F1.out _) rfl (by decide) (by decide) (F2.out _) rfl (by decide)).mono ?_); rintro e w2 ⟨rfl, hb2⟩)))
  have kS2 := kS w2 (by repeat (first | (with_reducible refine Below.setCell ?_ ?_ _) | (with_reducible refine Below.alloc ?_ ?_ _) | (with_reducible refine Below.drew ?_) | (with_reducible refine below_drewN ?_ _) | (with_reducible exact Below.refl _ _) | (with_reducible refine Below.trans ?_ (Below.mono hb2 ?_)) | (focus (simp; done)) | (focus (simp; omega)) | (focus omega) | (focus (have q0 := Below.size hb2; (try simp at q0); (try simp); omega))))
  clear kS
  go_wp2_with ((go_at_call 23; (with_reducible refine (rec_Size 8 _ (by omega) (by omega)).mono ?_); rintro e w3 ⟨rfl, rfl⟩))
  go_ret
  exact ⟨rfl, (by repeat (first | (with_reducible refine Below.setCell ?_ ?_ _) | (with_reducible refine Below.alloc ?_ ?_ _) | (with_reducible refine Below.drew ?_) | (with_reducible refine below_drewN ?_ _) | (with_reducible exact Below.refl _ _) | (with_reducible refine Below.trans ?_ (Below.mono hb2 ?_)) | (with_reducible refine Below.trans ?_ (Below.mono bw ?_)) | (focus (simp; done)) | (focus (simp; omega)) | (focus omega) | (focus (have q0 := Below.size hb2; (try simp at q0); have q1 := Below.size bw; (try simp at q1); (try simp); omega))))⟩
/-- a junction of the deck's, as one that is at hand -/
def JunP (p : Nat) (d : Dk) (w : World) (e : Ending) (w' : World) : Prop :=
  ∃ (k jb jc jb2 jc2 : Nat) (ps : List Ph) (cs : List Int) (s : Int), e = .returned (jAgg jb jc jb2 jc2 ps.length s) ∧ JAt w' w'.heap.size jb jc jb2 jc2 ps cs s ∧ w.heap.size ≤ jb ∧ w.heap.size ≤ jb2 ∧ DeckAt w' p d k ∧ w.grownBy w' (some p)
theorem deck_JunP (p : Nat) (d : Dk) (k : Nat) (w : World) (hd : DeckAt w p d k) :
    Calls Try.prog 26 #[.pointer (some ⟨p, 0, none⟩)] w (JunP p d w) :=
  (deck_Junction p w d k hd).mono fun e w' ⟨v, he, ⟨b, c, b2, c2, ps, cs, s, hv, h1, h2, h3, h4, h5, h6, h7, h8, h9⟩, hd', g⟩ => by
    have hbd := shapeLen_bd (dVal d.l k 6)
    have hl : 1 ≤ ps.length ∧ ps.length ≤ 8 := by rw [h3]; exact hbd
    have hp0 : phCells ps ≠ [] := fun e => by have := phCells_len ps; rw [e] at this; simp at this; omega
    have hc0 : cs.map encI ≠ [] := fun e => by have := congrArg List.length e; simp at this; subst this; simp at h5; omega
    have q1 : b < w'.heap.size := by
      obtain ⟨x, o, e, q, _⟩ := h8.resolve_left hp0
      injection e with e
      injection e with e _ _
      omega
    have q2 : b2 < w'.heap.size := by
      obtain ⟨x, o, e, q, _⟩ := Or.resolve_left h9 hc0
      injection e with e
      injection e with e _ _
      omega
    rw [hv, ← h3] at he
    exact ⟨junPos d.l k, b, c, b2, c2, ps, cs, s, he, ⟨h8, h9, q1, q2, Nat.le_refl _, hl, by omega, h4, h6, h7⟩, h1, h2, hd', g⟩
end Go.Proofs.Ytdkifkbnkedbpaa
