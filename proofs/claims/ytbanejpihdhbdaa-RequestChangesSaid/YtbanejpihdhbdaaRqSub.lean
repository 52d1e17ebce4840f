/- request.Submit -/
import Derived.Test.YtbanejpihdhbdaaInsert
import Derived.Deep.CutBlock
namespace Go.Proofs.Ytbanejpihdhbdaa
set_option linter.unusedVariables false
open Go.RowKit Go.Sort
set_option maxRecDepth 100000

def RqIn (l : List Rq) (a : Option Addr) (p : Nat → Prop) : Prop := (∀ x, a.map (·.block) = some x → p x) ∧ ∀ r ∈ l, ∀ x, r.a.map (·.block) = some x → p x
theorem RqL.keepP {W W' : World} {B : Nat} {l : List Rq} {a : Option Addr} {c : Nat} {p : Nat → Prop} (h : RqL W B l a c) (hp : RqIn l a p) (hk : ∀ b, b < W.heap.size → p b → W'.heap[b]? = W.heap[b]?) : RqL W' B l a c :=
  ⟨h.own.keep fun b hb _ hl => hk b hl (hp.1 b (by rw [hb]; rfl)), fun r hr => (h.legs r hr).keep fun b hb _ hl => hk b hl (hp.2 r hr b (by rw [hb]; rfl)), h.ap⟩
set_option maxHeartbeats 8000000 in
theorem request_Submit (a : Option Addr) (l : List Rq) (n c : Nat) (q id vid vcls life : Int) (xa : Option Addr) (x : List Lg) (xn xc : Nat) (now : Int) (w : World) (h : Rqs w a l) (hn : n = l.length) (l9 : n ≤ 1000) (hl : ∀ r ∈ l, LgOk r ∧ r.legs.length ≤ r.c)
    (hx : Row w xa (lgCells x)) (hxn : xn = x.length) (hxc : xn ≤ xc) (hx9 : xn ≤ 10000) (hxnil : xa = none → xc = 0) :
    Calls Try.prog 10 #[.slice a n c, .int .i64 q, .int .i64 id, .agg #[.int .i64 vid, .int .i64 vcls], .int .i64 life, .slice xa xn xc, .int .i64 now] w (SubR (l.map Rq.key) q id vid vcls life x now w) := by
  subst hn hxn
  have hml : (l.map Rq.key).length = l.length := by simp
  have HXNIL := Lib.hid hxnil
  clear hxnil
  go_enter Try.func10, Try.ntmps10
  go_upto_region 1 with fail
  refine wp_named (fun W => Blk W w.heap.size 34 #[.int .i64 vid, .int .i64 vcls] ∧ Rqs W a l ∧ Row W xa (lgCells x) ∧ RowKit.Below w.heap.size w W ∧ W.heap.size = w.heap.size + 1) ⟨Blk.new _ _ _, h.alloc _, hx.alloc _, (by repeat (first | (with_reducible refine Below.setCell ?_ ?_ _) | (with_reducible refine Below.alloc ?_ ?_ _) | (with_reducible refine Below.drew ?_) | (with_reducible refine below_drewN ?_ _) | (with_reducible exact Below.refl _ _) | (focus (simp; done)) | (focus (simp; omega)) | (focus omega))), by simp⟩ ?_
  obtain ⟨V, hV⟩ : ∃ V, w.heap.size = V := ⟨_, rfl⟩
  rw [hV]
  clear h hx
  rintro W ⟨kv, h, hx, beW, hWs⟩
  have HWS := Lib.hid hWs
  clear hWs
  obtain ⟨v0, v1, vl⟩ : W.cell? ⟨V, 0, none⟩ = _ ∧ W.cell? ⟨V, 1, none⟩ = _ ∧ V < W.heap.size := ⟨kv.cell 0, kv.cell 1, kv.lt⟩
  by_cases hp : RqsOk (l.map Rq.key) q
  · have P0 := Lib.hid hp
    clear hp
    cases hb1 : (decide (0 ≤ vid) && decide (vid ≤ 4294967295)) with
    | false =>
      have B1 := Lib.hid hb1
      have HF : Hid (subM (l.map Rq.key) q id vid vcls life x now = (1, [])) := Lib.hid (subM_1 (fun qq => within_false hb1 qq.2.1))
      clear hb1
      go_wp2_with (first | (go_at_call 12; (with_reducible refine (Says.y (request_Valid a l l.length c q _ h rfl (by omega) (fun r hr => ⟨(hl r hr).2, by have := (hl r hr).1.n; omega⟩)) P0.out).mono ?_); rintro e w1 ⟨rfl, hb1⟩; ((have kv1 := kv.below hb1 vl); clear v0 v1; (obtain ⟨v0, v1, vl1⟩ : w1.cell? ⟨V, 0, none⟩ = _ ∧ w1.cell? ⟨V, 1, none⟩ = _ ∧ V < w1.heap.size := ⟨kv1.cell 0, kv1.cell 1, kv1.lt⟩))) | (go_at_call 36; (with_reducible refine (request_numberE B1 _).mono ?_); rintro e w' ⟨rfl, rfl⟩))
      refine bodyPost_ret (v := .tuple #[.slice none 0 0, .int .i64 _]) (by simp [results, Try.results10, go_sem]; rfl) rfl ?_
      exact SubR.err HF.out (by repeat (first | (with_reducible refine Below.setCell ?_ ?_ _) | (with_reducible refine Below.alloc ?_ ?_ _) | (with_reducible refine Below.drew ?_) | (with_reducible refine below_drewN ?_ _) | (with_reducible exact Below.refl _ _) | (with_reducible refine Below.trans ?_ (Below.mono hb1 ?_)) | (with_reducible refine Below.trans ?_ (Below.mono beW ?_)) | (focus (simp; done)) | (focus (simp; omega)) | (focus omega) | (focus (have q0 := Below.size hb1; (try simp at q0); have q1 := Below.size beW; (try simp at q1); (try simp); omega))))
    | true =>
      have B1 := Lib.hid hb1
      clear hb1
      cases hb2 : (decide (0 ≤ vcls) && decide (vcls ≤ 3)) with
      | false =>
        have B2 := Lib.hid hb2
        have HF : Hid (subM (l.map Rq.key) q id vid vcls life x now = (1, [])) := Lib.hid (subM_1 (fun qq => within_false hb2 qq.2.2.1))
        clear hb2
        go_wp2_with (first | (go_at_call 12; (with_reducible refine (Says.y (request_Valid a l l.length c q _ h rfl (by omega) (fun r hr => ⟨(hl r hr).2, by have := (hl r hr).1.n; omega⟩)) P0.out).mono ?_); rintro e w1 ⟨rfl, hb1⟩; ((have kv1 := kv.below hb1 vl); clear v0 v1; (obtain ⟨v0, v1, vl1⟩ : w1.cell? ⟨V, 0, none⟩ = _ ∧ w1.cell? ⟨V, 1, none⟩ = _ ∧ V < w1.heap.size := ⟨kv1.cell 0, kv1.cell 1, kv1.lt⟩))) | (go_at_call 36; (with_reducible refine (request_numberE B1 _).mono ?_); rintro e w' ⟨rfl, rfl⟩) | (go_at_call 37; (with_reducible refine (request_classE B2 _).mono ?_); rintro e w' ⟨rfl, rfl⟩))
        refine bodyPost_ret (v := .tuple #[.slice none 0 0, .int .i64 _]) (by simp [results, Try.results10, go_sem]; rfl) rfl ?_
        exact SubR.err HF.out (by repeat (first | (with_reducible refine Below.setCell ?_ ?_ _) | (with_reducible refine Below.alloc ?_ ?_ _) | (with_reducible refine Below.drew ?_) | (with_reducible refine below_drewN ?_ _) | (with_reducible exact Below.refl _ _) | (with_reducible refine Below.trans ?_ (Below.mono hb1 ?_)) | (with_reducible refine Below.trans ?_ (Below.mono beW ?_)) | (focus (simp; done)) | (focus (simp; omega)) | (focus omega) | (focus (have q0 := Below.size hb1; (try simp at q0); have q1 := Below.size beW; (try simp at q1); (try simp); omega))))
      | true =>
        have B2 := Lib.hid hb2
        clear hb2
        cases hb3 : (decide (0 ≤ now) && decide (now ≤ 1073741824)) with
        | false =>
          have B3 := Lib.hid hb3
          have HF : Hid (subM (l.map Rq.key) q id vid vcls life x now = (1, [])) := Lib.hid (subM_1 (fun qq => within_false hb3 qq.2.2.2))
          clear hb3
          go_wp2_with (first | (go_at_call 12; (with_reducible refine (Says.y (request_Valid a l l.length c q _ h rfl (by omega) (fun r hr => ⟨(hl r hr).2, by have := (hl r hr).1.n; omega⟩)) P0.out).mono ?_); rintro e w1 ⟨rfl, hb1⟩; ((have kv1 := kv.below hb1 vl); clear v0 v1; (obtain ⟨v0, v1, vl1⟩ : w1.cell? ⟨V, 0, none⟩ = _ ∧ w1.cell? ⟨V, 1, none⟩ = _ ∧ V < w1.heap.size := ⟨kv1.cell 0, kv1.cell 1, kv1.lt⟩))) | (go_at_call 36; (with_reducible refine (request_numberE B1 _).mono ?_); rintro e w' ⟨rfl, rfl⟩) | (go_at_call 37; (with_reducible refine (request_classE B2 _).mono ?_); rintro e w' ⟨rfl, rfl⟩) | (go_at_call 38; (with_reducible refine (request_tickE B3 _).mono ?_); rintro e w' ⟨rfl, rfl⟩))
          refine bodyPost_ret (v := .tuple #[.slice none 0 0, .int .i64 _]) (by simp [results, Try.results10, go_sem]; rfl) rfl ?_
          exact SubR.err HF.out (by repeat (first | (with_reducible refine Below.setCell ?_ ?_ _) | (with_reducible refine Below.alloc ?_ ?_ _) | (with_reducible refine Below.drew ?_) | (with_reducible refine below_drewN ?_ _) | (with_reducible exact Below.refl _ _) | (with_reducible refine Below.trans ?_ (Below.mono hb1 ?_)) | (with_reducible refine Below.trans ?_ (Below.mono beW ?_)) | (focus (simp; done)) | (focus (simp; omega)) | (focus omega) | (focus (have q0 := Below.size hb1; (try simp at q0); have q1 := Below.size beW; (try simp at q1); (try simp); omega))))
        | true =>
          have B3 := Lib.hid hb3
          clear hb3
          have H0 : Hid (RqsOk (l.map Rq.key) q ∧ (0 ≤ vid ∧ vid ≤ 4294967295) ∧ (0 ≤ vcls ∧ vcls ≤ 3) ∧ (0 ≤ now ∧ now ≤ 1073741824)) := Lib.hid ⟨P0.out, within_true B1.out, within_true B2.out, within_true B3.out⟩
          go_upto_region 3 with (first | (go_at_call 12; (with_reducible refine (Says.y (request_Valid a l l.length c q _ h rfl (by omega) (fun r hr => ⟨(hl r hr).2, by have := (hl r hr).1.n; omega⟩)) P0.out).mono ?_); rintro e w1 ⟨rfl, hb1⟩; ((have kv1 := kv.below hb1 vl); clear v0 v1; (obtain ⟨v0, v1, vl1⟩ : w1.cell? ⟨V, 0, none⟩ = _ ∧ w1.cell? ⟨V, 1, none⟩ = _ ∧ V < w1.heap.size := ⟨kv1.cell 0, kv1.cell 1, kv1.lt⟩))) | (go_at_call 36; (with_reducible refine (request_numberE B1 _).mono ?_); rintro e w' ⟨rfl, rfl⟩) | (go_at_call 37; (with_reducible refine (request_classE B2 _).mono ?_); rintro e w' ⟨rfl, rfl⟩) | (go_at_call 38; (with_reducible refine (request_tickE B3 _).mono ?_); rintro e w' ⟨rfl, rfl⟩))
          have beq : RowKit.Below w.heap.size w w1 := (by repeat (first | (with_reducible refine Below.setCell ?_ ?_ _) | (with_reducible refine Below.alloc ?_ ?_ _) | (with_reducible refine Below.drew ?_) | (with_reducible refine below_drewN ?_ _) | (with_reducible exact Below.refl _ _) | (with_reducible refine Below.trans ?_ (Below.mono hb1 ?_)) | (with_reducible refine Below.trans ?_ (Below.mono beW ?_)) | (focus (simp; done)) | (focus (simp; omega)) | (focus omega) | (focus (have q0 := Below.size hb1; (try simp at q0); have q1 := Below.size beW; (try simp at q1); (try simp); omega))))
          have hrq := h.below hb1 (Nat.le_refl _)
          have hxq := hx.below hb1 (Nat.le_refl _)
          have kvq := kv.below hb1 vl
          clear v0 v1 h hx kv hb1 beW
          cases hb4 : (decide (0 ≤ id) && decide (id ≤ 4294967295)) with
          | false =>
            have B4 := Lib.hid hb4
            have HF : Hid (subM (l.map Rq.key) q id vid vcls life x now = (8, [])) := Lib.hid (subM_8 H0.out (fun qq => within_false hb4 qq.1))
            clear hb4
            go_wp2_with ((go_at_call 36; (with_reducible refine (request_numberE B4 _).mono ?_); rintro e wz ⟨rfl, rfl⟩))
            refine bodyPost_ret (v := .tuple #[.slice none 0 0, .int .i64 _]) (by simp [results, Try.results10, go_sem]; rfl) rfl ?_
            exact SubR.err HF.out (by repeat (first | (with_reducible refine Below.setCell ?_ ?_ _) | (with_reducible refine Below.alloc ?_ ?_ _) | (with_reducible refine Below.drew ?_) | (with_reducible refine below_drewN ?_ _) | (with_reducible exact Below.refl _ _) | (with_reducible refine Below.trans ?_ (Below.mono beq ?_)) | (focus (simp; done)) | (focus (simp; omega)) | (focus omega) | (focus (have q0 := Below.size beq; (try simp at q0); (try simp); omega))))
          | true =>
            have B4 := Lib.hid hb4
            clear hb4
            by_cases hl1 : life < 1
            · have HF : Hid (subM (l.map Rq.key) q id vid vcls life x now = (8, [])) := Lib.hid (subM_8 H0.out (fun qq => by have := qq.2.1.1; omega))
              go_wp2_with ((go_at_call 36; (with_reducible refine (request_numberE B4 _).mono ?_); rintro e wz ⟨rfl, rfl⟩))
              refine bodyPost_ret (v := .tuple #[.slice none 0 0, .int .i64 _]) (by simp [results, Try.results10, go_sem]; rfl) rfl ?_
              exact SubR.err HF.out (by repeat (first | (with_reducible refine Below.setCell ?_ ?_ _) | (with_reducible refine Below.alloc ?_ ?_ _) | (with_reducible refine Below.drew ?_) | (with_reducible refine below_drewN ?_ _) | (with_reducible exact Below.refl _ _) | (with_reducible refine Below.trans ?_ (Below.mono beq ?_)) | (focus (simp; done)) | (focus (simp; omega)) | (focus omega) | (focus (have q0 := Below.size beq; (try simp at q0); (try simp); omega))))
            · by_cases hl2 : 600 < life
              · have HF : Hid (subM (l.map Rq.key) q id vid vcls life x now = (8, [])) := Lib.hid (subM_8 H0.out (fun qq => by have := qq.2.1.2; omega))
                go_wp2_with ((go_at_call 36; (with_reducible refine (request_numberE B4 _).mono ?_); rintro e wz ⟨rfl, rfl⟩))
                refine bodyPost_ret (v := .tuple #[.slice none 0 0, .int .i64 _]) (by simp [results, Try.results10, go_sem]; rfl) rfl ?_
                exact SubR.err HF.out (by repeat (first | (with_reducible refine Below.setCell ?_ ?_ _) | (with_reducible refine Below.alloc ?_ ?_ _) | (with_reducible refine Below.drew ?_) | (with_reducible refine below_drewN ?_ _) | (with_reducible exact Below.refl _ _) | (with_reducible refine Below.trans ?_ (Below.mono beq ?_)) | (focus (simp; done)) | (focus (simp; omega)) | (focus omega) | (focus (have q0 := Below.size beq; (try simp at q0); (try simp); omega))))
              · by_cases hp6 : LegsOk x
                · have P6 := Lib.hid hp6
                  have H1 := Lib.hid (subM_more (life := life) H0.out ⟨within_true B4.out, (⟨by omega, by omega⟩ : 1 ≤ life ∧ life ≤ 600), hp6⟩)
                  have HLIFE := Lib.hid (⟨⟨by omega, by omega⟩, (within_true B3.out)⟩ : (1 ≤ life ∧ life ≤ 600) ∧ 0 ≤ now ∧ now ≤ 1073741824)
                  clear hp6
                  go_upto_if 58 with (first | (go_at_call 36; (with_reducible refine (request_numberE B4 _).mono ?_); rintro e wz ⟨rfl, rfl⟩) | (go_at_call 39; (with_reducible refine (Says.y (request_validLegs xa x x.length xc _ hxq rfl hxc (by omega)) P6.out).mono ?_); rintro e w2 ⟨rfl, hb2⟩) | (go_at_call 40; (with_reducible refine (request_index a l l.length c id _ (hrq.below hb2 (Nat.le_refl _)) rfl (by omega)).mono ?_); rintro e w3 ⟨r, rfl, hr, hb3⟩))
                  have be3 : RowKit.Below w.heap.size w w3 := (by repeat (first | (with_reducible refine Below.setCell ?_ ?_ _) | (with_reducible refine Below.alloc ?_ ?_ _) | (with_reducible refine Below.drew ?_) | (with_reducible refine below_drewN ?_ _) | (with_reducible exact Below.refl _ _) | (with_reducible refine Below.trans ?_ (Below.mono hb3 ?_)) | (with_reducible refine Below.trans ?_ (Below.mono hb2 ?_)) | (with_reducible refine Below.trans ?_ (Below.mono beq ?_)) | (focus (simp; done)) | (focus (simp; omega)) | (focus omega) | (focus (have q0 := Below.size hb3; (try simp at q0); have q1 := Below.size hb2; (try simp at q1); have q2 := Below.size beq; (try simp at q2); (try simp); omega))))
                  have kv := (kvq.below hb2 kvq.lt).below hb3 (kvq.below hb2 kvq.lt).lt
                  have hrr := (hrq.below hb2 (Nat.le_refl _)).below hb3 (Nat.le_refl _)
                  have hxl := (hxq.below hb2 (Nat.le_refl _)).below hb3 (Nat.le_refl _)
                  have hVs : V < w3.heap.size := kv.lt
                  clear hb2 hb3 kvq hrq hxq beq
                  rcases hr.out with ⟨rfl, hno⟩ | ⟨i, hi, rfl, hP, ho⟩
                  · have hfs := Lib.hid (findM_no hno)
                    clear hno
                    by_cases hfull : q ≤ (l.length : Int) ∨ 4 ≤ l.length
                    · have HF : Hid (subM (l.map Rq.key) q id vid vcls life x now = (14, [])) := Lib.hid (by rw [H1.out, if_neg (by rw [hfs.out]; decide), hml, if_pos hfull])
                      by_cases hq1 : q ≤ (l.length : Int)
                      · clear hfull
                        go_wp2_with fail
                        refine bodyPost_ret (v := .tuple #[.slice none 0 0, .int .i64 _]) (by simp [results, Try.results10, go_sem]; rfl) rfl ?_
                        exact SubR.err HF.out (by repeat (first | (with_reducible refine Below.setCell ?_ ?_ _) | (with_reducible refine Below.alloc ?_ ?_ _) | (with_reducible refine Below.drew ?_) | (with_reducible refine below_drewN ?_ _) | (with_reducible exact Below.refl _ _) | (with_reducible refine Below.trans ?_ (Below.mono be3 ?_)) | (focus (simp; done)) | (focus (simp; omega)) | (focus omega) | (focus (have q0 := Below.size be3; (try simp at q0); (try simp); omega))))
                      · have hq2 : 4 ≤ l.length := hfull.resolve_left hq1
                        have hq3 : decide (4 ≤ l.length) = true := decide_eq_true hq2
                        clear hfull
                        go_wp2_with fail
                        refine bodyPost_ret (v := .tuple #[.slice none 0 0, .int .i64 _]) (by simp [results, Try.results10, go_sem]; rfl) rfl ?_
                        exact SubR.err HF.out (by repeat (first | (with_reducible refine Below.setCell ?_ ?_ _) | (with_reducible refine Below.alloc ?_ ?_ _) | (with_reducible refine Below.drew ?_) | (with_reducible refine below_drewN ?_ _) | (with_reducible exact Below.refl _ _) | (with_reducible refine Below.trans ?_ (Below.mono be3 ?_)) | (focus (simp; done)) | (focus (simp; omega)) | (focus omega) | (focus (have q0 := Below.size be3; (try simp at q0); (try simp); omega))))
                    · have hq1 : (l.length : Int) < q := by omega
                      have hq2 : l.length < 4 := by omega
                      have hq3 : decide (4 ≤ l.length) = false := decide_eq_false (by omega)
                      have HF : Hid (subM (l.map Rq.key) q id vid vcls life x now = (0, insM (l.map Rq.key) (id, vid, vcls, now + life, x))) := Lib.hid (by rw [H1.out, if_neg (by rw [hfs.out]; decide), hml, if_neg hfull])
                      clear hfull
                      have HA := Lib.hid (show 0 < l.length → ∃ b off, a = some ⟨b, off, none⟩ from fun h => hrr.open h)
                      go_upto_block 0 with fail
                      go_cut [16] (fun s16 wx => ∃ i : Nat, s16 = .int .i64 i ∧ i ≤ l.length ∧ Hid (∀ k (hk : k < l.length), k < i → l[k].id < id) ∧ Hid (∀ h : i < l.length, ¬ l[i].id < id) ∧ w3 = wx)
                      case first =>
                        go_wp2_with fail
                        go_loopw [16] (fun s16 wr => ∃ i : Nat, s16 = .int .i64 i ∧ i ≤ l.length ∧ Hid (∀ k (hk : k < l.length), k < i → l[k].id < id) ∧ w3 = wr) (fun s _ => l.length - (intOf s).toNat)
                        case atStart => exact ⟨0, rfl, by omega, Lib.hid fun k _ h => by omega, rfl⟩
                        case round =>
                          obtain ⟨i, rfl, hi, hlo, rfl⟩ := hrel
                          by_cases hlt : i < l.length
                          · obtain ⟨ba, oa, rfl⟩ := HA.out (by omega)
                            obtain ⟨x0, -, -, -, -, xb⟩ := row_req hrr.row i hlt
                            obtain ⟨y, hy⟩ : ∃ y, l[i].id = y := ⟨_, rfl⟩
                            rw [hy] at x0
                            have HY := Lib.hid hy
                            clear hy
                            have kx : (i : Int) < (l.length : Int) := by omega
                            by_cases hyi : y < id
                            · go_wp2_with fail
                              go_roundw
                              case rel => exact ⟨i + 1, by go_num, by omega, Lib.hid fun k hk h1 => by
                                by_cases e : k = i
                                · subst e; rw [HY.out]; exact hyi
                                · exact hlo.out k hk (by omega), (by first | rfl | trivial)⟩
                              case measure => simp [intOf]; omega
                            · go_wp2_with fail
                              go_meet
                              exact ⟨i, rfl, hi, hlo, Lib.hid fun h => by rw [HY.out]; exact hyi, rfl⟩
                          · obtain rfl : i = l.length := by omega
                            go_wp2_with fail
                            go_meet
                            exact ⟨l.length, rfl, Nat.le_refl _, hlo, Lib.hid fun h => by omega, rfl⟩
                      case rest =>
                        obtain ⟨i, rfl, hi, hlo, hat, rfl⟩ := hcut
                        have HIN := Lib.hid (insM_at (r := (id, vid, vcls, now + life, x)) hi hlo.out hat.out)
                        have HT : Hid (IntKind.i64.wrap (now + life) = now + life) := Lib.hid (by have := HLIFE.out; rw [IntKind.wrap_i64]; omega)
                        have ht := HT.out
                        go_upto_region 12 with fail
                        have hbz := be3.size
                        apply wp_region_tab [] 13 100 [some 83, some 84, some 85, some 86, some 87, some 88, some 89, some 90, some 91, some 92, some 93, some 17, none] [⟨[], [], [], []⟩, ⟨[], [], [], []⟩, ⟨[1], [1], [1], []⟩, ⟨[], [], [], []⟩, ⟨[3], [3], [3], []⟩, ⟨[], [], [], []⟩, ⟨[], [], [], []⟩, ⟨[5, 6], [5, 6], [5, 6], []⟩, ⟨[], [], [], []⟩, ⟨[8], [8], [8], []⟩, ⟨[0, 1, 2, 3, 4, 5, 6, 7, 8, 9], [0, 2, 4, 7, 9], [0, 2, 4, 7, 9], []⟩, ⟨[], [], [], []⟩, ⟨[0, 1, 2, 3, 4, 5, 6, 7, 8, 9, 10, 11], [9, 10, 11], [9, 10, 11], [11]⟩] [0, 1, 2, 3, 4, 5, 6, 7, 8, 9, 10, 11, 12] [9, 12] [psiTrue, psiTrue, psiTrue, psiTrue, psiTrue, psiTrue, psiTrue, psiTrue, psiTrue, (fun f lo hi v b0 b1 W => ∃ (ca : Option Addr) (cc : Nat), v = .slice ca x.length cc ∧ Own W b0 25 5 ca x.length cc (lgCells x) ∧ ∀ y, ca.map (·.block) = some y → y < b1), (fun f lo hi v b0 b1 W => v = .agg #[.int .i64 id, .int .i64 vid, .int .i64 vcls, .int .i64 (now + life), f 9]), (fun f lo hi v b0 b1 W => ∃ g, v = .pointer (some ⟨g, 0, none⟩) ∧ b0 ≤ g ∧ g < b1 ∧ Blk W g 45 #[.int .i64 0, .int .i64 0, .int .i64 0, .int .i64 0, .slice none 0 0]), (fun f lo hi v b0 b1 W => ∃ (g : Nat), f 11 = .pointer (some ⟨g, 0, none⟩) ∧ lo (11) ≤ g ∧ g < hi (11) ∧ Blk W g 45 #[.int .i64 id, .int .i64 vid, .int .i64 vcls, .int .i64 (now + life), f 9])] [kVal _, kVal _, kVal _, kVal _, kVal _, kVal _, kVal _, kVal _, kVal _, kTrue, kTrue, kTrue, kTrue]
                        · kernel_rfl
                        · kernel_rfl
                        · rfl
                        · rfl
                        · exact trivial
                        · exact trivial
                        refine ⟨?oR1_0, ?oR1_1, ?oR1_2, ?oR1_3, ?oR1_4, ?oR1_5, ?oR1_6, ?oR1_7, ?oR1_8, ?oR1_9, ?oR1_10, ?oR1_11, ?oR1_12, trivial⟩
                        case oR1_0 => intro f lo hi w hb hx hf hk hrg R hR; (try replace hb := BelX.zero hb); (try simp (decide := true) only [go_sem] at hf); (try simp (decide := true) only [go_sem] at hk); go_simp; exact hR _ _ (rpost_val rfl rfl (Below.refl _ _) rfl)
                        case oR1_1 => intro f lo hi w hb hx hf hk hrg R hR; (try replace hb := BelX.zero hb); (try simp (decide := true) only [go_sem] at hf); (try simp (decide := true) only [go_sem] at hk); go_simp; exact hR _ _ (rpost_val rfl rfl (Below.refl _ _) rfl)
                        case oR1_2 => intro f lo hi w hb hx hf hk hrg R hR; (try replace hb := BelX.zero hb); (try simp (decide := true) only [go_sem] at hf); (try simp (decide := true) only [go_sem] at hk); have kk := Blk.below kv hb hVs; have c0 := kk.cell 0; have hl := kk.lt; go_simp; exact hR _ _ (rpost_val rfl rfl (Below.refl _ _) rfl)
                        case oR1_3 => intro f lo hi w hb hx hf hk hrg R hR; (try replace hb := BelX.zero hb); (try simp (decide := true) only [go_sem] at hf); (try simp (decide := true) only [go_sem] at hk); go_simp; exact hR _ _ (rpost_val rfl rfl (Below.refl _ _) rfl)
                        case oR1_4 => intro f lo hi w hb hx hf hk hrg R hR; (try replace hb := BelX.zero hb); (try simp (decide := true) only [go_sem] at hf); (try simp (decide := true) only [go_sem] at hk); have kk := Blk.below kv hb hVs; have c0 := kk.cell 1; have hl := kk.lt; go_simp; exact hR _ _ (rpost_val rfl rfl (Below.refl _ _) rfl)
                        case oR1_5 => intro f lo hi w hb hx hf hk hrg R hR; (try replace hb := BelX.zero hb); (try simp (decide := true) only [go_sem] at hf); (try simp (decide := true) only [go_sem] at hk); go_simp; exact hR _ _ (rpost_val rfl rfl (Below.refl _ _) rfl)
                        case oR1_6 => intro f lo hi w hb hx hf hk hrg R hR; (try replace hb := BelX.zero hb); (try simp (decide := true) only [go_sem] at hf); (try simp (decide := true) only [go_sem] at hk); go_simp; exact hR _ _ (rpost_val rfl rfl (Below.refl _ _) rfl)
                        case oR1_7 => intro f lo hi w hb hx hf hk hrg R hR; (try replace hb := BelX.zero hb); (try simp (decide := true) only [go_sem] at hf); (try simp (decide := true) only [go_sem] at hk); go_simp; exact hR _ _ (rpost_val rfl rfl (Below.refl _ _) rfl)
                        case oR1_8 => intro f lo hi w hb hx hf hk hrg R hR; (try replace hb := BelX.zero hb); (try simp (decide := true) only [go_sem] at hf); (try simp (decide := true) only [go_sem] at hk); go_simp; exact hR _ _ (rpost_val rfl rfl (Below.refl _ _) rfl)
                        case oR1_9 =>
                          intro f lo hi w hb hx hf hk hrg R hR; (try replace hb := BelX.zero hb); (try simp (decide := true) only [go_sem] at hf); (try simp (decide := true) only [go_sem] at hk)
                          go_simp
                          (with_reducible refine (clone_Lg xa x.length xc x w (hxl.below hb (Nat.le_refl _)) rfl (by omega) HXNIL.out).mono ?_)
                          rintro e w' ⟨ca, cc, rfl, own, hb2⟩
                          exact ⟨_, rfl, hR _ _ (rpost_none rfl hb2 ⟨ca, cc, rfl, own, own.lt'⟩)⟩
                        case oR1_10 =>
                          intro f lo hi w hb hx hf hk hrg R hR; (try replace hb := BelX.zero hb); (try simp (decide := true) only [go_sem] at hf); (try simp (decide := true) only [go_sem] at hk)
                          obtain ⟨ca, cc, h92, -⟩ := hf
                          have H92 := Lib.hid h92
                          go_simp
                          refine hR _ _ (rpost_none rfl (Below.refl _ _) ?_)
                          (try simp (decide := true) only [go_sem])
                          rw [H92.out]
                        case oR1_11 =>
                          intro f lo hi w hb hx hf hk hrg R hR; (try replace hb := BelX.zero hb); (try simp (decide := true) only [go_sem] at hf); (try simp (decide := true) only [go_sem] at hk)
                          go_simp
                          refine hR _ _ (rpost_none rfl (by repeat (first | (with_reducible refine Below.setCell ?_ ?_ _) | (with_reducible refine Below.alloc ?_ ?_ _) | (with_reducible refine Below.drew ?_) | (with_reducible refine below_drewN ?_ _) | (with_reducible exact Below.refl _ _) | (focus (simp; done)) | (focus (simp; omega)) | (focus omega))) ?_)
                          (try simp (decide := true) only [go_sem])
                          exact ⟨_, rfl, Nat.le_refl _, by simp, Blk.new _ _ _⟩
                        case oR1_12 =>
                          intro f lo hi w hb hx hf hk hrg R hR; (try replace hb := BelX.zero hb); (try simp (decide := true) only [go_sem] at hf); (try simp (decide := true) only [go_sem] at hk)
                          obtain ⟨⟨ca, cc, h92, -⟩, h93, g, h17, q1, q2, kg⟩ := hf
                          have H92 := Lib.hid h92
                          have H17 := Lib.hid h17
                          rw [h92] at h93
                          clear h92
                          obtain ⟨g0, g1, g2, g3, g4, gf, gl⟩ := kg.five
                          have kg2 := Lib.hid (kg.set5 (.int .i64 id) (.int .i64 vid) (.int .i64 vcls) (.int .i64 (now + life)) (.slice ca x.length cc))
                          go_simp
                          refine hR _ _ (rpost_some rfl rfl ⟨rfl, rfl, rfl, by simp [World.setCell], fun b hb hne => ((((grownBy_set w g 0 _).trans (grownBy_set _ g 1 _)).trans ((grownBy_set _ g 2 _).trans (grownBy_set _ g 3 _))).trans (grownBy_set _ g 4 _)).block b hb (fun e => hne 11 (by simp) (by injection e with e; subst e; exact ⟨q1, q2⟩))⟩ ?_)
                          (try simp (decide := true) only [go_sem])
                          exact ⟨g, H17.out, q1, q2, by rw [H92.out]; exact kg2.out⟩
                        case hcl =>
                          refine ⟨Closed.true _ _ _ _, Closed.true _ _ _ _, Closed.true _ _ _ _, Closed.true _ _ _ _, Closed.true _ _ _ _, Closed.true _ _ _ _, Closed.true _ _ _ _, Closed.true _ _ _ _, Closed.true _ _ _ _, ?cR1_9, ?cR1_10, ?cR1_11, ?cR1_12, trivial⟩
                          all_goals first | (intro f lo hi v b0 b1 w w' h hs hB hown hU hX; obtain ⟨ca, cc, h1, own, lt⟩ := h; exact ⟨ca, cc, h1, own.keep fun b hb hl _ => hown b hl (lt b (by rw [hb]; rfl)), lt⟩) | (intro f lo hi v b0 b1 w w' h hs hB hown hU hX; obtain ⟨g, h1, h2, h3, h4⟩ := h; exact ⟨g, h1, h2, h3, (hown g h2 h3).trans h4⟩) | (intro f lo hi v b0 b1 w w' h hs hB hown hU hX; obtain ⟨g, h1, h2, h3, h4⟩ := h; exact ⟨g, h1, h2, h3, (hU 11 (by simp) g h2 h3).trans h4⟩) | (exact fun _ _ _ _ _ _ _ _ h _ _ _ _ _ => h)
                        intro f lo hi W7 hbr hx hf hk hrg; (try replace hbr := BelX.zero hbr); clear hx; (try simp (decide := true) only [go_sem] at hf); (try simp (decide := true) only [go_sem] at hk)
                        obtain ⟨⟨ca, cc, h92, own7, lt7⟩, g, h17, q1, q2, kg⟩ := hf
                        have hr9 := hrg.out 9 (by simp)
                        rw [h92] at kg
                        have be7 : RowKit.Below w.heap.size w W7 := (by repeat (first | (with_reducible refine Below.setCell ?_ ?_ _) | (with_reducible refine Below.alloc ?_ ?_ _) | (with_reducible refine Below.drew ?_) | (with_reducible refine below_drewN ?_ _) | (with_reducible exact Below.refl _ _) | (with_reducible refine Below.trans ?_ (Below.mono hbr ?_)) | (with_reducible refine Below.trans ?_ (Below.mono be3 ?_)) | (focus (simp; done)) | (focus (simp; omega)) | (focus omega) | (focus (have q0 := Below.size hbr; (try simp at q0); have q1 := Below.size be3; (try simp at q1); (try simp); omega))))
                        have hrr7 := hrr.below hbr (Nat.le_refl _)
                        have hgl := kg.lt
                        have own8 := own7.mono (show V ≤ lo 9 by omega)
                        have hV7 : V ≤ W7.heap.size := by omega
                        clear h92 lt7 own7 hrg hr9 hbr kv hxl hVs be3 hrr q1 q2 hbz
                        go_simp
                        clear hk h17
                        go_upto_region 13 with fail
                        apply wp_region_tab [] 8 100 [some 94, some 95, some 96, some 97, some 98, some 99, some 14, some 15] [⟨[], [], [], []⟩, ⟨[0], [0], [0], []⟩, ⟨[], [], [], []⟩, ⟨[], [], [], []⟩, ⟨[3], [3], [3], []⟩, ⟨[0, 1, 2, 3, 4], [1, 2, 4], [1, 2, 4], [1]⟩, ⟨[0, 1, 2, 3, 4, 5], [5], [5], []⟩, ⟨[0, 1, 2, 3, 4, 5, 6], [], [], []⟩] [0, 1, 2, 3, 4, 5, 6, 7] [5, 6] [psiTrue, (fun f lo hi v b0 b1 W => ∃ (ya : Option Addr) (yc : Nat) (l2 : List Rq), v = .slice ya l.length yc ∧ Hid (l2.map Rq.key = l.map Rq.key) ∧ Hid (l.length = l2.length) ∧ RqL W b0 l2 ya yc ∧ RqLt l2 ya b1), psiTrue, psiTrue, (fun f lo hi v b0 b1 W => ∃ b, v = .slice (some ⟨b, 0, none⟩) 1 1 ∧ b0 ≤ b ∧ b < b1 ∧ Blk W b 45 #[.int .i64 id, .int .i64 vid, .int .i64 vcls, .int .i64 (now + life), .slice ca x.length cc]), (fun f lo hi v b0 b1 W => ∃ (ya : Option Addr) (yc : Nat) (l3 : List Rq), v = .slice ya (l.length + 1) yc ∧ Hid (l3.map Rq.key = insM (l.map Rq.key) (id, vid, vcls, now + life, x)) ∧ Hid (l.length + 1 = l3.length) ∧ RqL W V l3 ya yc ∧ RqIn l3 ya (fun z => z < W7.heap.size ∨ (lo (1) ≤ z ∧ z < hi (1)) ∨ (b0 ≤ z ∧ z < b1))), (fun f lo hi v b0 b1 W => v = f 5), psiTrue] [kVal _, kTrue, kVal _, kVal _, kTrue, kTrue, kTrue, kVal _]
                        · kernel_rfl
                        · kernel_rfl
                        · rfl
                        · rfl
                        · exact trivial
                        · exact trivial
                        refine ⟨?oR2_0, ?oR2_1, ?oR2_2, ?oR2_3, ?oR2_4, ?oR2_5, ?oR2_6, ?oR2_7, trivial⟩
                        case oR2_0 => intro f lo hi w hb hx hf hk hrg R hR; (try replace hb := BelX.zero hb); (try simp (decide := true) only [go_sem] at hf); (try simp (decide := true) only [go_sem] at hk); go_simp; exact hR _ _ (rpost_val rfl rfl (Below.refl _ _) rfl)
                        case oR2_1 =>
                          intro f lo hi w hb hx hf hk hrg R hR; (try replace hb := BelX.zero hb); (try simp (decide := true) only [go_sem] at hf); (try simp (decide := true) only [go_sem] at hk)
                          go_simp
                          (with_reducible refine (request_cloneAll a l l.length c w (hrr7.below hb (Nat.le_refl _)) rfl (by omega) (fun r hr => (hl r hr).1)).mono ?_)
                          rintro e w' ⟨ya, yc, l2, rfl, hk2, hn2, il2, hb2⟩
                          exact ⟨_, rfl, hR _ _ (rpost_none rfl hb2 ⟨ya, yc, l2, rfl, hk2, hn2, il2, il2.rlt⟩)⟩
                        case oR2_2 => intro f lo hi w hb hx hf hk hrg R hR; (try replace hb := BelX.zero hb); (try simp (decide := true) only [go_sem] at hf); (try simp (decide := true) only [go_sem] at hk); go_simp; exact hR _ _ (rpost_val rfl rfl (Below.refl _ _) rfl)
                        case oR2_3 =>
                          intro f lo hi w hb hx hf hk hrg R hR; (try replace hb := BelX.zero hb); (try simp (decide := true) only [go_sem] at hf); (try simp (decide := true) only [go_sem] at hk)
                          have kk := kg.below hb hgl
                          obtain ⟨c0, c1, c2, c3, c4, -, hl⟩ := kk.five
                          go_simp
                          exact hR _ _ (rpost_val rfl rfl (Below.refl _ _) rfl)
                        case oR2_4 =>
                          intro f lo hi w hb hx hf hk hrg R hR; (try replace hb := BelX.zero hb); (try simp (decide := true) only [go_sem] at hf); (try simp (decide := true) only [go_sem] at hk)
                          go_simp
                          refine hR _ _ (rpost_none rfl (by repeat (first | (with_reducible refine Below.setCell ?_ ?_ _) | (with_reducible refine Below.alloc ?_ ?_ _) | (with_reducible refine Below.drew ?_) | (with_reducible refine below_drewN ?_ _) | (with_reducible exact Below.refl _ _) | (focus (simp; done)) | (focus (simp; omega)) | (focus omega))) ?_)
                          (try simp (decide := true) only [go_sem])
                          exact ⟨_, rfl, Nat.le_refl _, by simp, Blk.new _ _ _⟩
                        case oR2_5 =>
                          intro f lo hi w hb hx hf hk hrg R hR; (try replace hb := BelX.zero hb); (try simp (decide := true) only [go_sem] at hf); (try simp (decide := true) only [go_sem] at hk)
                          obtain ⟨⟨ya, yc, l2, h5, hk2, hn2, il2, lt2⟩, b6, h6, h6a, h6b, k6⟩ := hf
                          have hr1 := hrg.out 1 (by simp)
                          have hd := hr1.2.2.2 4 (by simp) (by decide)
                          have hbs := hb.size
                          have own9 : Own w V 25 5 ca x.length cc (lgCells x) := own8.keep fun b _ _ hl => hb.block b hl
                          have il9 : RqL w V l2 ya yc := il2.mono (by omega)
                          have hba := il2.own.base_le
                          have hap : ∀ r ∈ l2, Apart r.a ca := fun r hr k h1 h2 => by
                            have e1 := (il2.legs r hr).base_le k h1
                            have e2 := own8.lt' k h2
                            omega
                          have hXn : ya.map (·.block) ≠ some b6 := fun e => by
                            have e1 := hba b6 e
                            have e2 := lt2.1 b6 e
                            omega
                          go_simp
                          (with_reducible refine (insert_Rq l2 ya l.length yc i id vid vcls (now + life) x ca x.length cc b6 V w il9 hn2 (by omega) k6 (Lib.hid rfl) own9 (Lib.hid hap) (Lib.hid hXn) (by omega) (by omega)).mono ?_)
                          rintro e w' ⟨za, zc, rfl, il3, hb3, g3, hz3⟩
                          refine ⟨_, rfl, hR _ _ (rpost_some rfl rfl ⟨g3.os, g3.tape, g3.output, g3.size, fun b hb hne => g3.block b hb (fun e => hne 1 (by simp) ⟨hba b e.symm, lt2.1 b e.symm⟩)⟩ ?_)⟩
                          (try simp (decide := true) only [go_sem])
                          refine ⟨za, zc, _, rfl, Lib.hid ?_, Lib.hid ?_, il3, ?_⟩
                          · rw [HIN.out, List.map_append, List.map_append, List.map_take, List.map_drop, hk2.out, List.map_take, List.map_drop]
                            rfl
                          · have := hn2.out
                            simp
                            omega
                          · refine ⟨fun z hz => ?_, fun r hr z hz => ?_⟩
                            · rcases hz3 z hz with h | h
                              · exact .inr (.inl ⟨hba z h, lt2.1 z h⟩)
                              · exact .inr (.inr ⟨h, il3.own.lt' z hz⟩)
                            · rcases List.mem_append.1 hr with hr | hr
                              · rcases List.mem_append.1 hr with hr | hr
                                · exact .inr (.inl ⟨(il2.legs r (List.mem_of_mem_take hr)).base_le z hz, lt2.2 r (List.mem_of_mem_take hr) z hz⟩)
                                · rw [List.mem_singleton.1 hr] at hz
                                  exact .inl (own8.lt' z hz)
                              · exact .inr (.inl ⟨(il2.legs r (List.mem_of_mem_drop hr)).base_le z hz, lt2.2 r (List.mem_of_mem_drop hr) z hz⟩)
                        case oR2_6 =>
                          intro f lo hi w hb hx hf hk hrg R hR; (try replace hb := BelX.zero hb); (try simp (decide := true) only [go_sem] at hf); (try simp (decide := true) only [go_sem] at hk)
                          go_simp
                          refine hR _ _ (rpost_none rfl (Below.refl _ _) ?_)
                          (try simp (decide := true) only [go_sem])
                        case oR2_7 => intro f lo hi w hb hx hf hk hrg R hR; (try replace hb := BelX.zero hb); (try simp (decide := true) only [go_sem] at hf); (try simp (decide := true) only [go_sem] at hk); go_simp; exact hR _ _ (rpost_val rfl rfl (Below.refl _ _) rfl)
                        case hcl =>
                          refine ⟨Closed.true _ _ _ _, ?cR2_1, Closed.true _ _ _ _, Closed.true _ _ _ _, ?cR2_4, ?cR2_5, ?cR2_6, Closed.true _ _ _ _, trivial⟩
                          all_goals first | (intro f lo hi v b0 b1 w w' h hs hB hown hU hX; obtain ⟨b, h1, h2, h3, h4⟩ := h; exact ⟨b, h1, h2, h3, (hown b h2 h3).trans h4⟩) | (intro f lo hi v b0 b1 w w' h hs hB hown hU hX; obtain ⟨a, c, l2, h1, h2, h3, h4, h5⟩ := h; exact ⟨a, c, l2, h1, h2, h3, h4.keepIn h5 hown, h5⟩) | (intro f lo hi v b0 b1 w w' h hs hB hown hU hX; obtain ⟨a, c, l2, h1, h2, h3, h4, h5⟩ := h; exact ⟨a, c, l2, h1, h2, h3, h4.keepP h5 fun b hl hp => hp.elim (fun h => hB b ⟨h, fun r hr => by simp at hr⟩) (fun h => h.elim (fun h => hU 1 (by simp) b h.1 h.2) (fun h => hown b h.1 h.2)), h5⟩) | (exact fun _ _ _ _ _ _ _ _ h _ _ _ _ _ => h)
                        intro f lo hi W9 hbr hx hf hk hrg; (try replace hbr := BelX.zero hbr); clear hx; (try simp (decide := true) only [go_sem] at hf); (try simp (decide := true) only [go_sem] at hk)
                        obtain ⟨⟨ya, yc, l3, h5, hk5, hn5, il5, -⟩, e14⟩ := hf
                        rw [h5] at e14
                        clear h5 hrg
                        go_simp
                        clear hk
                        go_wp2_with fail
                        refine bodyPost_ret (v := .tuple #[.slice ya (l.length + 1) yc, .int .i64 0]) (by simp [results, Try.results10, go_sem]) rfl ?_
                        exact ⟨ya, l.length + 1, yc, l3, 0, rfl, Lib.hid (by rw [HF.out, hk5.out]), hn5, by rw [hV]; exact il5, (by repeat (first | (with_reducible refine Below.setCell ?_ ?_ _) | (with_reducible refine Below.alloc ?_ ?_ _) | (with_reducible refine Below.drew ?_) | (with_reducible refine below_drewN ?_ _) | (with_reducible exact Below.refl _ _) | (with_reducible refine Below.trans ?_ (Below.mono hbr ?_)) | (with_reducible refine Below.trans ?_ (Below.mono be7 ?_)) | (focus (simp; done)) | (focus (simp; omega)) | (focus omega) | (focus (have q0 := Below.size hbr; (try simp at q0); have q1 := Below.size be7; (try simp at q1); (try simp); omega))))⟩
                  · have HF : Hid (subM (l.map Rq.key) q id vid vcls life x now = (11, [])) := Lib.hid (by rw [H1.out, if_pos]; obtain ⟨h, e⟩ := findM_at hP ho; rw [e]; rfl)
                    clear hP ho
                    go_wp2_with fail
                    refine bodyPost_ret (v := .tuple #[.slice none 0 0, .int .i64 _]) (by simp [results, Try.results10, go_sem]; rfl) rfl ?_
                    exact SubR.err HF.out (by repeat (first | (with_reducible refine Below.setCell ?_ ?_ _) | (with_reducible refine Below.alloc ?_ ?_ _) | (with_reducible refine Below.drew ?_) | (with_reducible refine below_drewN ?_ _) | (with_reducible exact Below.refl _ _) | (with_reducible refine Below.trans ?_ (Below.mono be3 ?_)) | (focus (simp; done)) | (focus (simp; omega)) | (focus omega) | (focus (have q0 := Below.size be3; (try simp at q0); (try simp); omega))))
                · have P6 := Lib.hid hp6
                  have HF : Hid (subM (l.map Rq.key) q id vid vcls life x now = (8, [])) := Lib.hid (subM_8 H0.out (fun qq => hp6 qq.2.2))
                  clear hp6
                  go_wp2_with (first | (go_at_call 36; (with_reducible refine (request_numberE B4 _).mono ?_); rintro e wz ⟨rfl, rfl⟩) | (go_at_call 39; (with_reducible refine (Says.n (request_validLegs xa x x.length xc _ hxq rfl hxc (by omega)) P6.out).mono ?_); rintro e w2 ⟨rfl, hb2⟩))
                  refine bodyPost_ret (v := .tuple #[.slice none 0 0, .int .i64 _]) (by simp [results, Try.results10, go_sem]; rfl) rfl ?_
                  exact SubR.err HF.out (by repeat (first | (with_reducible refine Below.setCell ?_ ?_ _) | (with_reducible refine Below.alloc ?_ ?_ _) | (with_reducible refine Below.drew ?_) | (with_reducible refine below_drewN ?_ _) | (with_reducible exact Below.refl _ _) | (with_reducible refine Below.trans ?_ (Below.mono hb2 ?_)) | (with_reducible refine Below.trans ?_ (Below.mono beq ?_)) | (focus (simp; done)) | (focus (simp; omega)) | (focus omega) | (focus (have q0 := Below.size hb2; (try simp at q0); have q1 := Below.size beq; (try simp at q1); (try simp); omega))))
  · have P0 := Lib.hid hp
    have HF : Hid (subM (l.map Rq.key) q id vid vcls life x now = (1, [])) := Lib.hid (subM_1 (fun qq => hp qq.1))
    clear hp
    go_wp2_with (first | (go_at_call 12; (with_reducible refine (Says.n (request_Valid a l l.length c q _ h rfl (by omega) (fun r hr => ⟨(hl r hr).2, by have := (hl r hr).1.n; omega⟩)) P0.out).mono ?_); rintro e w1 ⟨rfl, hb1⟩; ((have kv1 := kv.below hb1 vl); clear v0 v1; (obtain ⟨v0, v1, vl1⟩ : w1.cell? ⟨V, 0, none⟩ = _ ∧ w1.cell? ⟨V, 1, none⟩ = _ ∧ V < w1.heap.size := ⟨kv1.cell 0, kv1.cell 1, kv1.lt⟩))))
    refine bodyPost_ret (v := .tuple #[.slice none 0 0, .int .i64 _]) (by simp [results, Try.results10, go_sem]; rfl) rfl ?_
    exact SubR.err HF.out (by repeat (first | (with_reducible refine Below.setCell ?_ ?_ _) | (with_reducible refine Below.alloc ?_ ?_ _) | (with_reducible refine Below.drew ?_) | (with_reducible refine below_drewN ?_ _) | (with_reducible exact Below.refl _ _) | (with_reducible refine Below.trans ?_ (Below.mono hb1 ?_)) | (with_reducible refine Below.trans ?_ (Below.mono beW ?_)) | (focus (simp; done)) | (focus (simp; omega)) | (focus omega) | (focus (have q0 := Below.size hb1; (try simp at q0); have q1 := Below.size beW; (try simp at q1); (try simp); omega))))
end Go.Proofs.Ytbanejpihdhbdaa
