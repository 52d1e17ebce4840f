/- status.Message, Feed; signalbrokerref24.Message, Feed -/
import Derived.Test.YtpjnajallekjoaaStCodes
import Derived.Test.YtpjnajallekjoaaSameM
import Derived.Test.YtpjnajallekjoaaBytesR
namespace Go.Proofs.Ytpjnajallekjoaa
set_option linter.unusedVariables false
open Go.RowKit Go.Sort
set_option maxRecDepth 100000

def MsgSR (K now : Int) (dat : List UInt8) (w : World) (e : Ending) (w' : World) : Prop :=
  ∃ (aa da : Option Addr) (dn dc : Nat), e = .returned (.agg #[.int .i64 K, .slice none 0 0, .slice aa 1 1, .slice da dn dc]) ∧ Hid (dn = dat.length) ∧ MsgAt w' ⟨K, [], [now], dat⟩ none 0 aa da ∧ Below w.heap.size w w'
theorem okK_len {its : List Vx} (hc : ∀ v ∈ its, OkK v.key) (hl : its.length ≤ 1000) : (bytesOf (its.map Vx.key)).length ≤ 11000 := by
  have := bytesOf_len (its.map Vx.key) (by intro v hv; obtain ⟨x, hx, rfl⟩ := List.mem_map.1 hv; exact hc x hx)
  rw [List.length_map] at this
  omega
set_option maxHeartbeats 4000000 in
theorem status_Feed (va : Option Addr) (its : List Vx) (vn vc : Nat) (now : Int) (w : World) (hv : Vws w va its) (hvn : vn = its.length) (hc : ∀ v ∈ its, OkK v.key) (hl : its.length ≤ 1000) :
    Calls Try.prog 18 #[.int .i64 now, .slice va vn vc] w (MsgSR 21 now (bytesOf (its.map Vx.key)) w) := by
  subst hvn
  have HLB := Lib.hid (okK_len hc hl)
  go_enter Try.func18, Try.ntmps18
  go_wp2_with ((go_at_call 31; (with_reducible refine (rec_Bytes va its its.length vc _ ((hv.alloc _).alloc _) rfl (by omega) hc).mono ?_); rintro e w2 ⟨ba, bc, bn, hbn, rfl, own, hb2⟩; ((have kR := (((Blk.new w 44 #[.int .i64 0, .slice none 0 0, .slice none 0 0, .slice none 0 0]).alloc (.cells #[.int .i64 now] 3)).below hb2 (by simp; omega))); (have kA := ((Blk.next w (.cells #[.int .i64 0, .slice none 0 0, .slice none 0 0, .slice none 0 0] 44) 3 #[.int .i64 now]).below hb2 (by simp))); (obtain ⟨m0, m1, m2, m3⟩ := kR.four); (have lR := kR.lt); (have fR := kR.frozen))))
  have k4 := kR.set4 (.int .i64 21) (.slice none 0 0) (.slice (some ⟨w.heap.size + 1, 0, none⟩) 1 1) (.slice ba bn bc)
  have hlt := hb2.size
  simp at hlt
  refine bodyPost_ret (v := .agg #[.int .i64 21, .slice none 0 0, .slice (some ⟨w.heap.size + 1, 0, none⟩) 1 1, .slice ba bn bc]) (by simp [results, Try.results18, go_sem, m0, m1, m2, m3]) rfl ?_
  have kA2 : Blk _ (w.heap.size + 1) 3 #[.int .i64 now] := (((kA.far (p := ⟨w.heap.size, 0, none⟩) (by simp) (.int .i64 21)).far (p := ⟨w.heap.size, 1, none⟩) (by simp) (.slice none 0 0)).far (p := ⟨w.heap.size, 2, none⟩) (by simp) (.slice (some ⟨w.heap.size + 1, 0, none⟩) 1 1)).far (p := ⟨w.heap.size, 3, none⟩) (by simp) (.slice ba bn bc)
  have q : ba.map (·.block) ≠ some w.heap.size := fun e => by have := own.base_le _ e; simp at this; omega
  have own4 := (((own.far (p := ⟨w.heap.size, 0, none⟩) q (.int .i64 21)).far (p := ⟨w.heap.size, 1, none⟩) q (.slice none 0 0)).far (p := ⟨w.heap.size, 2, none⟩) q (.slice (some ⟨w.heap.size + 1, 0, none⟩) 1 1)).far (p := ⟨w.heap.size, 3, none⟩) q (.slice ba bn bc)
  exact ⟨_, _, _, _, rfl, hbn, ⟨.inl rfl, Blk.rowL (enc := encI) (l := [now]) kA2, own4.byt, fun _ => ⟨rfl, rfl⟩, by simp; have := HLB.out; omega⟩, (by repeat (first | (with_reducible refine Below.setCell ?_ ?_ _) | (with_reducible refine Below.alloc ?_ ?_ _) | (with_reducible refine Below.drew ?_) | (with_reducible refine below_drewN ?_ _) | (with_reducible exact Below.refl _ _) | (with_reducible refine Below.trans ?_ (Below.mono hb2 ?_)) | (focus (simp; done)) | (focus (simp; omega)) | (focus omega) | (focus (have q0 := Below.size hb2; (try simp at q0); (try simp); omega))))⟩
set_option maxHeartbeats 4000000 in
theorem ref24_Feed (va : Option Addr) (its : List Vx) (vn vc : Nat) (now : Int) (w : World) (hv : Vws w va its) (hvn : vn = its.length) (hc : ∀ v ∈ its, OkK v.key) (hl : its.length ≤ 1000) :
    Calls Try.prog 19 #[.int .i64 now, .slice va vn vc] w (MsgSR 21 now (bytesOf (its.map Vx.key)) w) := by
  subst hvn
  have HLB := Lib.hid (okK_len hc hl)
  go_enter Try.func19, Try.ntmps19
  go_wp2_with ((go_at_call 32; (with_reducible refine (ref23_Bytes va its its.length vc _ ((hv.alloc _).alloc _) rfl (by omega) hc).mono ?_); rintro e w2 ⟨ba, bc, bn, hbn, rfl, own, hb2⟩; ((have kR := (((Blk.new w 44 #[.int .i64 0, .slice none 0 0, .slice none 0 0, .slice none 0 0]).alloc (.cells #[.int .i64 now] 3)).below hb2 (by simp; omega))); (have kA := ((Blk.next w (.cells #[.int .i64 0, .slice none 0 0, .slice none 0 0, .slice none 0 0] 44) 3 #[.int .i64 now]).below hb2 (by simp))); (obtain ⟨m0, m1, m2, m3⟩ := kR.four); (have lR := kR.lt); (have fR := kR.frozen))))
  have k4 := kR.set4 (.int .i64 21) (.slice none 0 0) (.slice (some ⟨w.heap.size + 1, 0, none⟩) 1 1) (.slice ba bn bc)
  have hlt := hb2.size
  simp at hlt
  refine bodyPost_ret (v := .agg #[.int .i64 21, .slice none 0 0, .slice (some ⟨w.heap.size + 1, 0, none⟩) 1 1, .slice ba bn bc]) (by simp [results, Try.results19, go_sem, m0, m1, m2, m3]) rfl ?_
  have kA2 : Blk _ (w.heap.size + 1) 3 #[.int .i64 now] := (((kA.far (p := ⟨w.heap.size, 0, none⟩) (by simp) (.int .i64 21)).far (p := ⟨w.heap.size, 1, none⟩) (by simp) (.slice none 0 0)).far (p := ⟨w.heap.size, 2, none⟩) (by simp) (.slice (some ⟨w.heap.size + 1, 0, none⟩) 1 1)).far (p := ⟨w.heap.size, 3, none⟩) (by simp) (.slice ba bn bc)
  have q : ba.map (·.block) ≠ some w.heap.size := fun e => by have := own.base_le _ e; simp at this; omega
  have own4 := (((own.far (p := ⟨w.heap.size, 0, none⟩) q (.int .i64 21)).far (p := ⟨w.heap.size, 1, none⟩) q (.slice none 0 0)).far (p := ⟨w.heap.size, 2, none⟩) q (.slice (some ⟨w.heap.size + 1, 0, none⟩) 1 1)).far (p := ⟨w.heap.size, 3, none⟩) q (.slice ba bn bc)
  exact ⟨_, _, _, _, rfl, hbn, ⟨.inl rfl, Blk.rowL (enc := encI) (l := [now]) kA2, own4.byt, fun _ => ⟨rfl, rfl⟩, by simp; have := HLB.out; omega⟩, (by repeat (first | (with_reducible refine Below.setCell ?_ ?_ _) | (with_reducible refine Below.alloc ?_ ?_ _) | (with_reducible refine Below.drew ?_) | (with_reducible refine below_drewN ?_ _) | (with_reducible exact Below.refl _ _) | (with_reducible refine Below.trans ?_ (Below.mono hb2 ?_)) | (focus (simp; done)) | (focus (simp; omega)) | (focus omega) | (focus (have q0 := Below.size hb2; (try simp at q0); (try simp); omega))))⟩
set_option maxHeartbeats 4000000 in
theorem status_Message (va : Option Addr) (its : List Vx) (vn vc : Nat) (now : Int) (ca : Option Addr) (cs : List UInt8) (cn cc : Nat) (w : World) (hv : Vws w va its) (hvn : vn = its.length) (hc : ∀ v ∈ its, OkK v.key) (hl : its.length ≤ 1000) (hcs : Byt w ca cs) (hcn : cn = cs.length) (hcl : cn ≤ 11000) :
    Calls Try.prog 15 #[.int .i64 now, .slice va vn vc, .slice ca cn cc] w (MsgSR 17 now (bytesOf (its.map Vx.key) ++ cs) w) := by
  subst hvn
  have HCN := Lib.hid hcn
  clear hcn
  have HLB := Lib.hid (okK_len hc hl)
  go_enter Try.func15, Try.ntmps15
  go_wp2_with (first | (go_at_call 31; (with_reducible refine (rec_Bytes va its its.length vc _ ((hv.alloc _).alloc _) rfl (by omega) hc).mono ?_); rintro e w2 ⟨ba, bc, bn, hbn, rfl, own, hb2⟩; ((have kR := (((Blk.new w 44 #[.int .i64 0, .slice none 0 0, .slice none 0 0, .slice none 0 0]).alloc (.cells #[.int .i64 now] 3)).below hb2 (by simp; omega))); (have kA := ((Blk.next w (.cells #[.int .i64 0, .slice none 0 0, .slice none 0 0, .slice none 0 0] 44) 3 #[.int .i64 now]).below hb2 (by simp))); (have hcs2 := (((hcs.alloc (.cells #[.int .i64 0, .slice none 0 0, .slice none 0 0, .slice none 0 0] 44)).alloc (.cells #[.int .i64 now] 3)).below hb2 (Nat.le_refl _))); (have hlt := hb2.size); (simp at hlt); (have be2 : RowKit.Below w.heap.size w w2 := (by repeat (first | (with_reducible refine Below.setCell ?_ ?_ _) | (with_reducible refine Below.alloc ?_ ?_ _) | (with_reducible refine Below.drew ?_) | (with_reducible refine below_drewN ?_ _) | (with_reducible exact Below.refl _ _) | (with_reducible refine Below.trans ?_ (Below.mono hb2 ?_)) | (focus (simp; done)) | (focus (simp; omega)) | (focus omega) | (focus (have q0 := Below.size hb2; (try simp at q0); (try simp); omega))))); (have own := own.mono (show w.heap.size + 2 ≤ _ by simp)))) | (at_builtin; refine appB rfl _ _ rfl (w.heap.size + 2) ba bn bc (bytesOf (its.map Vx.key)) rfl ca cn cc cs rfl own hcs2 HCN.out (bn + cn) rfl (by have := HLB.out; have := hbn.out; omega) (by omega) ?_; intro xb xd w3 own3 g3 bl3; (have kR3 := kR.ofGrown g3 (fun e => by have := own.base_le _ e; omega)); (have kA3 := kA.ofGrown g3 (fun e => by have := own.base_le _ e; omega)); (have be3 : RowKit.Below w.heap.size w w3 := ⟨g3.1.os.trans be2.os, g3.1.tape.trans be2.tape, g3.1.output.trans be2.output, Nat.le_trans be2.size g3.1.size, fun k hk => (g3.1.block k (by omega) (fun e => by have := own.base_le k e.symm; omega)).trans (be2.block k hk)⟩); (obtain ⟨m0, m1, m2, m3⟩ := kR3.four); (have lR := kR3.lt); (have fR := kR3.frozen)))
  have k4 := kR3.set4 (.int .i64 17) (.slice none 0 0) (.slice (some ⟨w.heap.size + 1, 0, none⟩) 1 1) (.slice xb (bn + cn) xd)
  refine bodyPost_ret (v := .agg #[.int .i64 17, .slice none 0 0, .slice (some ⟨w.heap.size + 1, 0, none⟩) 1 1, .slice xb (bn + cn) xd]) (by simp [results, Try.results15, go_sem, m0, m1, m2, m3]) rfl ?_
  have kA2 : Blk _ (w.heap.size + 1) 3 #[.int .i64 now] := (((kA3.far (p := ⟨w.heap.size, 0, none⟩) (by simp) (.int .i64 17)).far (p := ⟨w.heap.size, 1, none⟩) (by simp) (.slice none 0 0)).far (p := ⟨w.heap.size, 2, none⟩) (by simp) (.slice (some ⟨w.heap.size + 1, 0, none⟩) 1 1)).far (p := ⟨w.heap.size, 3, none⟩) (by simp) (.slice xb (bn + cn) xd)
  have q : xb.map (·.block) ≠ some w.heap.size := fun e => by have := own3.base_le _ e; omega
  have own4 := (((own3.far (p := ⟨w.heap.size, 0, none⟩) q (.int .i64 17)).far (p := ⟨w.heap.size, 1, none⟩) q (.slice none 0 0)).far (p := ⟨w.heap.size, 2, none⟩) q (.slice (some ⟨w.heap.size + 1, 0, none⟩) 1 1)).far (p := ⟨w.heap.size, 3, none⟩) q (.slice xb (bn + cn) xd)
  exact ⟨_, _, _, _, rfl, Lib.hid (by rw [List.length_append, ← hbn.out, ← HCN.out]), ⟨.inl rfl, Blk.rowL (enc := encI) (l := [now]) kA2, own4.byt, fun _ => ⟨rfl, rfl⟩, by simp; have := HLB.out; have := HCN.out; omega⟩, (by repeat (first | (with_reducible refine Below.setCell ?_ ?_ _) | (with_reducible refine Below.alloc ?_ ?_ _) | (with_reducible refine Below.drew ?_) | (with_reducible refine below_drewN ?_ _) | (with_reducible exact Below.refl _ _) | (with_reducible refine Below.trans ?_ (Below.mono be3 ?_)) | (focus (simp; done)) | (focus (simp; omega)) | (focus omega) | (focus (have q0 := Below.size be3; (try simp at q0); (try simp); omega))))⟩
set_option maxHeartbeats 4000000 in
theorem ref24_Message (va : Option Addr) (its : List Vx) (vn vc : Nat) (now : Int) (ca : Option Addr) (cs : List UInt8) (cn cc : Nat) (w : World) (hv : Vws w va its) (hvn : vn = its.length) (hc : ∀ v ∈ its, OkK v.key) (hl : its.length ≤ 1000) (hcs : Byt w ca cs) (hcn : cn = cs.length) (hcl : cn ≤ 11000) :
    Calls Try.prog 16 #[.int .i64 now, .slice va vn vc, .slice ca cn cc] w (MsgSR 17 now (bytesOf (its.map Vx.key) ++ cs) w) := by
  subst hvn
  have HCN := Lib.hid hcn
  clear hcn
  have HLB := Lib.hid (okK_len hc hl)
  go_enter Try.func16, Try.ntmps16
  go_wp2_with (first | (go_at_call 32; (with_reducible refine (ref23_Bytes va its its.length vc _ ((hv.alloc _).alloc _) rfl (by omega) hc).mono ?_); rintro e w2 ⟨ba, bc, bn, hbn, rfl, own, hb2⟩; ((have kR := (((Blk.new w 44 #[.int .i64 0, .slice none 0 0, .slice none 0 0, .slice none 0 0]).alloc (.cells #[.int .i64 now] 3)).below hb2 (by simp; omega))); (have kA := ((Blk.next w (.cells #[.int .i64 0, .slice none 0 0, .slice none 0 0, .slice none 0 0] 44) 3 #[.int .i64 now]).below hb2 (by simp))); (have hcs2 := (((hcs.alloc (.cells #[.int .i64 0, .slice none 0 0, .slice none 0 0, .slice none 0 0] 44)).alloc (.cells #[.int .i64 now] 3)).below hb2 (Nat.le_refl _))); (have hlt := hb2.size); (simp at hlt); (have be2 : RowKit.Below w.heap.size w w2 := (by repeat (first | (with_reducible refine Below.setCell ?_ ?_ _) | (with_reducible refine Below.alloc ?_ ?_ _) | (with_reducible refine Below.drew ?_) | (with_reducible refine below_drewN ?_ _) | (with_reducible exact Below.refl _ _) | (with_reducible refine Below.trans ?_ (Below.mono hb2 ?_)) | (focus (simp; done)) | (focus (simp; omega)) | (focus omega) | (focus (have q0 := Below.size hb2; (try simp at q0); (try simp); omega))))); (have own := own.mono (show w.heap.size + 2 ≤ _ by simp)))) | (at_builtin; refine appB rfl _ _ rfl (w.heap.size + 2) ba bn bc (bytesOf (its.map Vx.key)) rfl ca cn cc cs rfl own hcs2 HCN.out (bn + cn) rfl (by have := HLB.out; have := hbn.out; omega) (by omega) ?_; intro xb xd w3 own3 g3 bl3; (have kR3 := kR.ofGrown g3 (fun e => by have := own.base_le _ e; omega)); (have kA3 := kA.ofGrown g3 (fun e => by have := own.base_le _ e; omega)); (have be3 : RowKit.Below w.heap.size w w3 := ⟨g3.1.os.trans be2.os, g3.1.tape.trans be2.tape, g3.1.output.trans be2.output, Nat.le_trans be2.size g3.1.size, fun k hk => (g3.1.block k (by omega) (fun e => by have := own.base_le k e.symm; omega)).trans (be2.block k hk)⟩); (obtain ⟨m0, m1, m2, m3⟩ := kR3.four); (have lR := kR3.lt); (have fR := kR3.frozen)))
  have k4 := kR3.set4 (.int .i64 17) (.slice none 0 0) (.slice (some ⟨w.heap.size + 1, 0, none⟩) 1 1) (.slice xb (bn + cn) xd)
  refine bodyPost_ret (v := .agg #[.int .i64 17, .slice none 0 0, .slice (some ⟨w.heap.size + 1, 0, none⟩) 1 1, .slice xb (bn + cn) xd]) (by simp [results, Try.results16, go_sem, m0, m1, m2, m3]) rfl ?_
  have kA2 : Blk _ (w.heap.size + 1) 3 #[.int .i64 now] := (((kA3.far (p := ⟨w.heap.size, 0, none⟩) (by simp) (.int .i64 17)).far (p := ⟨w.heap.size, 1, none⟩) (by simp) (.slice none 0 0)).far (p := ⟨w.heap.size, 2, none⟩) (by simp) (.slice (some ⟨w.heap.size + 1, 0, none⟩) 1 1)).far (p := ⟨w.heap.size, 3, none⟩) (by simp) (.slice xb (bn + cn) xd)
  have q : xb.map (·.block) ≠ some w.heap.size := fun e => by have := own3.base_le _ e; omega
  have own4 := (((own3.far (p := ⟨w.heap.size, 0, none⟩) q (.int .i64 17)).far (p := ⟨w.heap.size, 1, none⟩) q (.slice none 0 0)).far (p := ⟨w.heap.size, 2, none⟩) q (.slice (some ⟨w.heap.size + 1, 0, none⟩) 1 1)).far (p := ⟨w.heap.size, 3, none⟩) q (.slice xb (bn + cn) xd)
  exact ⟨_, _, _, _, rfl, Lib.hid (by rw [List.length_append, ← hbn.out, ← HCN.out]), ⟨.inl rfl, Blk.rowL (enc := encI) (l := [now]) kA2, own4.byt, fun _ => ⟨rfl, rfl⟩, by simp; have := HLB.out; have := HCN.out; omega⟩, (by repeat (first | (with_reducible refine Below.setCell ?_ ?_ _) | (with_reducible refine Below.alloc ?_ ?_ _) | (with_reducible refine Below.drew ?_) | (with_reducible refine below_drewN ?_ _) | (with_reducible exact Below.refl _ _) | (with_reducible refine Below.trans ?_ (Below.mono be3 ?_)) | (focus (simp; done)) | (focus (simp; omega)) | (focus omega) | (focus (have q0 := Below.size be3; (try simp at q0); (try simp); omega))))⟩
end Go.Proofs.Ytpjnajallekjoaa
