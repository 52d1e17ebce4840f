/- signalbrokerref19.Copy, Valid, Find -/
import Derived.Test.YtbanejpihdhbdaaRef19
namespace Go.Proofs.Ytbanejpihdhbdaa
set_option linter.unusedVariables false
open Go.RowKit Go.Sort
set_option maxRecDepth 100000

theorem Blk.fives {w : World} {g : Nat} {t : TypeId} {a b c d e : Value} (h : Blk w g t #[a, b, c, d, e]) (e' : Value) : Blk (w.setCell ⟨g, 4, none⟩ e') g t #[a, b, c, d, e'] := h.set 4 e'
def CopyR (l : List Rq) (n : Nat) (w : World) (e : Ending) (w' : World) : Prop :=
  ∃ (xa : Option Addr) (xc : Nat) (l2 : List Rq), e = .returned (.slice xa n xc) ∧ Hid (l2.map Rq.key = l.map Rq.key) ∧ Hid (n = l2.length) ∧ RqL w' w.heap.size l2 xa xc ∧ Below w.heap.size w w'
set_option maxHeartbeats 4000000 in
theorem ref19_Copy (a : Option Addr) (l : List Rq) (n c : Nat) (w : World) (h : Rqs w a l) (hn : n = l.length) (l9 : n ≤ 100000) (hl : ∀ r ∈ l, r.legs.length ≤ 100000) :
    Calls Try.prog 51 #[.slice a n c] w (CopyR l n w) := by
  subst hn
  go_enter Try.func51, Try.ntmps51
  go_wp2
  go_loopw [3, 8] (fun s3 s8 wr => ∃ (i : Nat) (xa : Option Addr) (xc : Nat) (l2 : List Rq), s3 = .slice xa i xc ∧ s8 = .int .i64 i ∧ i ≤ l.length ∧ l2.length = i ∧ l2.map Rq.key = (l.take i).map Rq.key ∧ RqL wr w.heap.size l2 xa xc ∧ RowKit.Below w.heap.size w wr) (fun _ s _ => l.length - (intOf s).toNat)
  case atStart => exact ⟨0, none, 0, [], rfl, rfl, by omega, rfl, rfl, RqL.nil _ _, (by repeat (first | (with_reducible refine Below.setCell ?_ ?_ _) | (with_reducible refine Below.alloc ?_ ?_ _) | (with_reducible refine Below.drew ?_) | (with_reducible refine below_drewN ?_ _) | (with_reducible exact Below.refl _ _) | (focus (simp; done)) | (focus (simp; omega)) | (focus omega)))⟩
  case round =>
    obtain ⟨i, xa, xc, l2, rfl, rfl, hi, hl2, hk, il, be⟩ := hrel
    have HL2 := Lib.hid hl2
    have HK := Lib.hid hk
    clear hl2 hk
    by_cases hlt : i < l.length
    · obtain ⟨ba, oa, rfl⟩ := h.open (by omega)
      have hr := h.below be (Nat.le_refl _)
      obtain ⟨x0, x1, x2, x3, x4, xb⟩ := row_req hr.row i hlt
      have hg := hr.legs _ (List.getElem_mem hlt)
      have hgl := hl _ (List.getElem_mem hlt)
      have HX := Lib.hid (show (l.take (i + 1)).map Rq.key = (l.take i).map Rq.key ++ [l[i].key] by rw [← List.take_append_getElem hlt, List.map_append]; rfl)
      obtain ⟨x, hx⟩ : ∃ x, l[i] = x := ⟨_, rfl⟩
      rw [hx] at x0 x1 x2 x3 x4 hg hgl HX
      clear hx hr
      obtain ⟨id, veh, cls, til, lg, la, lc⟩ := x
      simp only at x0 x1 x2 x3 x4 hg hgl
      have kx : (i : Int) < (l.length : Int) := by omega
      have hbw := be.size
      go_upto_region 5 with fail
      obtain ⟨V, hV⟩ : ∃ V, wr.heap.size = V := ⟨_, rfl⟩
      refine wp_named (fun Y => Blk Y V 45 #[.int .i64 id, .int .i64 veh, .int .i64 cls, .int .i64 til, .slice la lg.length lc] ∧ Row Y la (lgCells lg) ∧ RqL Y w.heap.size l2 xa xc ∧ RowKit.Below w.heap.size w Y ∧ V + 1 ≤ Y.heap.size) ⟨by rw [← hV]; exact Blk.new _ _ _, hg.alloc _, il.alloc _, (by repeat (first | (with_reducible refine Below.setCell ?_ ?_ _) | (with_reducible refine Below.alloc ?_ ?_ _) | (with_reducible refine Below.drew ?_) | (with_reducible refine below_drewN ?_ _) | (with_reducible exact Below.refl _ _) | (with_reducible refine Below.trans ?_ (Below.mono be ?_)) | (focus (simp; done)) | (focus (simp; omega)) | (focus omega) | (focus (have q0 := Below.size be; (try simp at q0); (try simp); omega)))), by rw [← hV]; simp⟩ ?_
      have hVw : w.heap.size ≤ V := by omega
      have hVx : ∀ q, xa.map (·.block) = some q → q < V := by rw [← hV]; exact il.own.lt'
      rw [hV]
      clear hV il be x0 x1 x2 x3 x4 xb hg hbw
      rintro Y ⟨kV, hg, il, be, hYz⟩
      obtain ⟨v0, v1, v2, v3, v4, vf, vl⟩ := kV.five
      go_upto_region 6 with ((at_builtin; refine wp_appLg0 rfl _ _ rfl la lg.length lc lg rfl rfl hg rfl (by omega) ?_; intro ob oc w4 ownO hb4; (have kV4 := kV.below hb4 vl); clear v0 v1 v2 v3 v4 vf; (obtain ⟨v0, v1, v2, v3, v4, vf, vl4⟩ := kV4.five)))
      have HAP := Lib.hid (show ∀ r ∈ l2, Apart r.a ob from fun r hr k ha hb => by
        have h1 := (il.legs r hr).lt' k ha
        have h2 := ownO.base_le k hb
        omega)
      have il4 := il.below hb4
      refine wp_named (fun U => Blk U V 45 #[.int .i64 id, .int .i64 veh, .int .i64 cls, .int .i64 til, .slice ob lg.length oc] ∧ Own U w.heap.size 25 5 ob lg.length oc (lgCells lg) ∧ RqL U w.heap.size l2 xa xc ∧ RowKit.Below w.heap.size w U ∧ V + 1 ≤ U.heap.size) ⟨kV4.set 4 _, ?_, ?_, (by repeat (first | (with_reducible refine Below.setCell ?_ ?_ _) | (with_reducible refine Below.alloc ?_ ?_ _) | (with_reducible refine Below.drew ?_) | (with_reducible refine below_drewN ?_ _) | (with_reducible exact Below.refl _ _) | (with_reducible refine Below.trans ?_ (Below.mono hb4 ?_)) | (with_reducible refine Below.trans ?_ (Below.mono be ?_)) | (focus (simp; done)) | (focus (simp; omega)) | (focus omega) | (focus (have q0 := Below.size hb4; (try simp at q0); have q1 := Below.size be; (try simp at q1); (try simp); omega)))), by have := hb4.size; simp [World.setCell]; omega⟩ ?_
      · exact (ownO.far (p := ⟨V, 4, none⟩) (fun e => by have := ownO.base_le _ e; simp only at this; omega) _).mono be.size
      · exact ⟨il4.own.far (p := ⟨V, 4, none⟩) (fun e => by have := hVx _ e; simp only at this; omega) _, fun r hr => (il4.legs r hr).far (p := ⟨V, 4, none⟩) (fun e => by
          rcases (il4.legs r hr).2 with ⟨hv, _⟩ | ⟨g', c', cur, hv, _, hh, _⟩
          · injection hv with ha _ _
            rw [ha] at e
            cases e
          · injection hv with ha _ _
            rw [ha] at e
            injection e with e
            simp only at e
            subst e
            unfold Blk at kV4
            rw [hh] at kV4
            injection kV4 with k
            injection k with _ ht
            exact absurd ht (by decide)) _, il4.ap⟩
      clear kV hg il be ownO il4 kV4 v0 v1 v2 v3 v4 vf vl vl4 hb4
      rintro U ⟨kV, ownO, il, be, hUz⟩
      obtain ⟨v0, v1, v2, v3, v4, vf, vl⟩ := kV.five
      go_wp2_with ((at_builtin; refine app1Rq rfl _ _ rfl w.heap.size xa i xc l2 rfl HL2.out.symm id veh cls til lg ob lg.length oc rfl U.heap.size rfl (Blk.new _ _ _) (il.alloc _) (by simp; omega) (ownO.alloc _) HAP.out (by omega) ?_; intro xb xd w5 il5 g5 bl5))
      have be5 := bl5 _ (be.alloc (by omega) _)
      go_roundw
      case rel => exact ⟨i + 1, xb, xd, _, rfl, by go_num, by omega, by simp; exact HL2.out, by rw [List.map_append, HK.out, HX.out]; rfl, il5, be5⟩
      case measure => simp [intOf]; omega
    · obtain rfl : i = l.length := by omega
      go_wp2_with fail
      go_ret
      exact ⟨xa, xc, l2, rfl, Lib.hid (by rw [HK.out, List.take_length]), Lib.hid HL2.out.symm, il, be⟩
end Go.Proofs.Ytbanejpihdhbdaa
