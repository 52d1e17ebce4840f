/- law 03: 'same' answers yes; the sanity check -/
import Derived.Test.YtiipflbhgjojeaaRefParse
import Derived.Test.YtiipflbhgjojeaaSame
import Derived.Test.YtiipflbhgjojeaaMk
namespace Go.Proofs.Ytiipflbhgjojeaa
open Go.RowKit Go.Sort
set_option maxRecDepth 20000

theorem Items.one {w : World} {C : Array Value} {t : TypeId} (x : It) (h : C.toList = x.cells) (hb : Byt w x.a x.pay) : Items (w.alloc (.cells C t)) (some ⟨w.heap.size, 0, none⟩) [x] := by
  refine ⟨?_, fun y hy => ?_⟩
  · have := row_new w C t (0, 0)
    rw [h] at this
    simpa [itCells] using this
  · rw [List.mem_singleton.1 hy]; exact hb.alloc _
theorem Items.alloc {w : World} {a : Option Addr} {l : List It} (h : Items w a l) (o : Obj) : Items (w.alloc o) a l := ⟨h.1.alloc o, fun x hx => (h.2 x hx).alloc o⟩

theorem parse_E {l : List UInt8} {rc rk : Int} {rp : List UInt8} {rn : Nat} {ro : Bool} (h : Hid (fParse l = ⟨rc, rk, rp, rn, ro⟩)) (a : Option Addr) (n c : Nat) (w : World) (hb : Byt w a l) (hn : n = l.length) (hl : l.length ≤ 9223372036854775807) (hc : l.length ≤ c) :
    Calls Try.prog 17 #[.slice a n c] w fun e w' => ∃ a' c', e = .returned (.tuple #[.agg #[.int .i64 rc, .int .i64 rk, .slice a' rp.length c'], .int .i64 rn, .bool ro]) ∧ Byt w' a' rp ∧ Below w.heap.size w w' := by
  subst hn
  have := frame_Parse a l c w hb hl hc
  rw [h.out] at this
  exact this
theorem encode_E (k : Int) (a : Option Addr) (n : Nat) (p : List UInt8) (c : Nat) (w : World) (h0 : 0 ≤ k) (h1 : k ≤ 255) (hb : Byt w a p) (hn : n = p.length) (hp : p.length ≤ 200) :
    Calls Try.prog 11 #[.int .i64 k, .slice a n c] w (FrmRet k p w) := by subst hn; exact frame_Encode k a p c w h0 h1 hb hp
theorem refencode_E (k : Int) (a : Option Addr) (n : Nat) (p : List UInt8) (c : Nat) (w : World) (h0 : 0 ≤ k) (h1 : k ≤ 255) (hb : Byt w a p) (hn : n = p.length) (hp : p.length ≤ 200) :
    Calls Try.prog 12 #[.int .i64 k, .slice a n c] w (FrmRet k p w) := by subst hn; exact ref03_Encode k a p c w h0 h1 hb hp
theorem refparse_E {l : List UInt8} {rc rk : Int} {rp : List UInt8} {rn : Nat} {ro : Bool} (h : Hid (fParse l = ⟨rc, rk, rp, rn, ro⟩)) (a : Option Addr) (n c : Nat) (w : World) (hb : Byt w a l) (hn : n = l.length) (hl : l.length ≤ 9223372036854775807) (hc : l.length ≤ c) :
    Calls Try.prog 21 #[.slice a n c] w fun e w' => ∃ a' c', e = .returned (.tuple #[.agg #[.int .i64 rc, .int .i64 rk, .slice a' rp.length c'], .int .i64 rn, .bool ro]) ∧ Byt w' a' rp ∧ Below w.heap.size w w' := by
  subst hn
  have := ref03_Parse a l c w hb hl hc
  rw [h.out] at this
  exact this

theorem fParse_pay (l : List UInt8) : (fParse l).pay.length ≤ l.length := by
  unfold fParse
  repeat' split
  all_goals first | (show ([] : List UInt8).length ≤ _; simp; done) | (show ((l.drop 6).take (fLen l)).length ≤ _; rw [List.length_take, List.length_drop]; omega)

/-- two lists of one item each, as a law makes them -/
theorem two_items {w : World} {o : Obj} {t : TypeId} {c1 k1 c2 k2 : Int} {p1 p2 : List UInt8} {a1 a2 : Option Addr} {n1 n2 : Nat} (h1 : Byt w a1 p1) (h2 : Byt w a2 p2) :
    Items (((w.alloc o).alloc (.cells #[.int .i64 c1, .int .i64 k1, .slice a1 p1.length n1] t)).alloc (.cells #[.int .i64 c2, .int .i64 k2, .slice a2 p2.length n2] t)) (some ⟨w.heap.size + 1, 0, none⟩) [⟨c1, k1, p1, a1, n1⟩] ∧
    Items (((w.alloc o).alloc (.cells #[.int .i64 c1, .int .i64 k1, .slice a1 p1.length n1] t)).alloc (.cells #[.int .i64 c2, .int .i64 k2, .slice a2 p2.length n2] t)) (some ⟨w.heap.size + 1 + 1, 0, none⟩) [⟨c2, k2, p2, a2, n2⟩] := by
  have q1 := (Items.one (w := w.alloc o) (C := #[.int .i64 c1, .int .i64 k1, .slice a1 p1.length n1]) (t := t) ⟨c1, k1, p1, a1, n1⟩ rfl (h1.alloc _)).alloc (.cells #[.int .i64 c2, .int .i64 k2, .slice a2 p2.length n2] t)
  have q2 := Items.one (w := (w.alloc o).alloc (.cells #[.int .i64 c1, .int .i64 k1, .slice a1 p1.length n1] t)) (C := #[.int .i64 c2, .int .i64 k2, .slice a2 p2.length n2]) (t := t) ⟨c2, k2, p2, a2, n2⟩ rfl ((h2.alloc _).alloc _)
  have z1 : (w.alloc o).heap.size = w.heap.size + 1 := by simp
  have z2 : ((w.alloc o).alloc (.cells #[.int .i64 c1, .int .i64 k1, .slice a1 p1.length n1] t)).heap.size = w.heap.size + 1 + 1 := by simp
  rw [z1] at q1
  rw [z2] at q2
  exact ⟨q1, q2⟩
theorem same_E (a b : Option Addr) (l m : List It) (na nb ca cb : Nat) (w : World) (hl : Items w a l) (hm : Items w b m) (ha : na = l.length) (hb : nb = m.length) (l9 : l.length ≤ 1000000000000) (m9 : m.length ≤ 1000000000000) (hk : l.map It.key = m.map It.key) :
    Calls Try.prog 18 #[.slice a na ca, .slice b nb cb] w fun e w' => e = .returned (.bool true) ∧ Below w.heap.size w w' := by
  have := ref03_Same a b l m na nb ca cb w hl hm ha hb l9 m9
  rwa [sameL_yes hk] at this
set_option maxHeartbeats 1000000 in
theorem same_yes (a : Option Addr) (l : List UInt8) (n c : Nat) (w : World) (hb : Byt w a l) (hn : n = l.length) (hl : l.length ≤ 100000000000) (hc : l.length ≤ c) :
    Calls Try.prog 15 #[.slice a n c] w fun e w' => e = .returned (.bool true) ∧ Below w.heap.size w w' := by
  subst hn
  obtain ⟨r, hr⟩ : ∃ r, fParse l = r := ⟨_, rfl⟩
  obtain ⟨rc, rk, rp, rn, ro⟩ := r
  have HR := Lib.hid hr
  clear hr
  go_enter Try.func15, Try.ntmps15
  go_wp2_with (first | (go_at_call 17; (with_reducible refine (parse_E HR a _ _ _ hb rfl (by omega) hc).mono ?_); rintro e w1 ⟨a1, c1, rfl, b1, hb1⟩; (have hbw := (hb.below hb1 (Nat.le_refl _)).alloc (.cells #[.int .i64 rc, .int .i64 rk, .slice a1 rp.length c1] 36); have k1 := Blk.new w1 36 #[.int .i64 rc, .int .i64 rk, .slice a1 rp.length c1])) | (go_at_call 21; (with_reducible refine (refparse_E HR a _ _ _ hbw rfl (by omega) hc).mono ?_); rintro e w2 ⟨a2, c2, rfl, b2, hb2⟩; (have k2 := k1.below hb2 (by simp); have b12 := (b1.alloc (.cells #[.int .i64 rc, .int .i64 rk, .slice a1 rp.length c1] 36)).below hb2 (Nat.le_refl _); have f0 := k2.cell 0; have f1 := k2.cell 1; have f2 := k2.cell 2; have fl := k2.lt)) | (go_at_call 18; (with_reducible refine (same_E _ _ [⟨rc, rk, rp, a1, c1⟩] [⟨rc, rk, rp, a2, c2⟩] _ _ _ _ _ (two_items b12 b2).1 (two_items b12 b2).2 (by simp) (by simp) (by simp) (by simp) rfl).mono ?_); rintro e w3 ⟨rfl, hb3⟩))
  go_ret
  exact ⟨rfl, (by repeat (first | (with_reducible refine Below.setCell ?_ ?_ _) | (with_reducible refine Below.alloc ?_ ?_ _) | (with_reducible refine Below.drew ?_) | (with_reducible refine below_drewN ?_ _) | (with_reducible exact Below.refl _ _) | (with_reducible refine Below.trans ?_ (Below.mono hb3 ?_)) | (with_reducible refine Below.trans ?_ (Below.mono hb2 ?_)) | (with_reducible refine Below.trans ?_ (Below.mono hb1 ?_)) | (focus (simp; done)) | (focus (simp; omega)) | (focus omega) | (focus (have q0 := Below.size hb3; (try simp at q0); have q1 := Below.size hb2; (try simp at q1); have q2 := Below.size hb1; (try simp at q2); (try simp); omega))))⟩

theorem byt_lit1 {w : World} {o : Obj} {t : TypeId} : Byt ((w.alloc o).alloc (.cells #[.int .u8 90] t)) (some ⟨w.heap.size + 1, 0, none⟩) [0x5a] := by
  have h := byt_new (w := w.alloc o) (C := #[.int .u8 90]) (e := t) (m := (0, 0)) (l := [0x5a]) rfl
  simpa using h
set_option maxHeartbeats 1000000 in
theorem awake_yes (w : World) : Calls Try.prog 9 #[] w fun e w' => e = .returned (.bool true) ∧ Below w.heap.size w w' := by
  have H1 : Hid (fParse (frm 9 []) = ⟨0, 9, [], 10, true⟩) := Lib.hid (by have := fParse_frm (k := 9) (p := []) [] (by omega) (by omega) (by simp); simpa using this)
  have H2 : Hid (fParse [0x5a] = ⟨0, 0, [], 0, false⟩) := Lib.hid (by rw [fp_more6 (by simp) (by rfl) (by simp) (by simp)]; rfl)
  have L1 : (frm 9 []).length = 10 := frm_len 9 []
  have HL := Lib.hid L1
  clear L1
  go_enter Try.func9, Try.ntmps9
  go_wp2_with (first | (go_at_call 11; (with_reducible refine (encode_E 9 none 0 [] 0 _ (by omega) (by omega) (Byt.nil _ _) (by simp) (by simp)).mono ?_); rintro e w1 ⟨a1, c1, rfl, own1, hb1⟩; (have b1 : Byt w1 a1 (frm 9 []) := own1.byt; have cl : 10 ≤ c1 := (by simpa using own1.cap_le))) | (go_at_call 17; (with_reducible refine (parse_E H1 a1 _ _ _ b1 (by have := HL.out; first | omega | (simp; omega)) (by have := HL.out; omega) (by have := HL.out; omega)).mono ?_); rintro e w2 ⟨a2, c2, rfl, b2, hb2⟩; (have k2 := Blk.new w2 36 #[.int .i64 0, .int .i64 9, .slice a2 0 c2]; have b9 := byt_lit1 (w := w2) (o := .cells #[.int .i64 0, .int .i64 9, .slice a2 0 c2] 36) (t := 5))) | (go_at_call 17; (with_reducible refine (parse_E H2 _ _ _ _ b9 (by simp) (by simp) (by simp)).mono ?_); rintro e w3 ⟨a3, c3, rfl, b3, hb3⟩; (have k3 := (k2.alloc (.cells #[.int .u8 90] 5)).below hb3 (by simp; omega); have f0 := k3.cell 0; have f1 := k3.cell 1; have f2 := k3.cell 2; have fl := k3.lt)))
  go_ret
  exact ⟨rfl, (by repeat (first | (with_reducible refine Below.setCell ?_ ?_ _) | (with_reducible refine Below.alloc ?_ ?_ _) | (with_reducible refine Below.drew ?_) | (with_reducible refine below_drewN ?_ _) | (with_reducible exact Below.refl _ _) | (with_reducible refine Below.trans ?_ (Below.mono hb3 ?_)) | (with_reducible refine Below.trans ?_ (Below.mono hb2 ?_)) | (with_reducible refine Below.trans ?_ (Below.mono hb1 ?_)) | (focus (simp; done)) | (focus (simp; omega)) | (focus omega) | (focus (have q0 := Below.size hb3; (try simp at q0); have q1 := Below.size hb2; (try simp at q1); have q2 := Below.size hb1; (try simp at q2); (try simp); omega))))⟩
end Go.Proofs.Ytiipflbhgjojeaa
