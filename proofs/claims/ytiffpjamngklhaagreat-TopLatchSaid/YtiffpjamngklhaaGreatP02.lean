/- Lemmas, part 02. -/
import Derived.Deep.DeepCutAuto
import Derived.Outline
import Derived.Test.YtiffpjamngklhaaGreatP01
namespace Go.Proofs.YtiffpjamngklhaaGreat
set_option linter.all false
set_option maxRecDepth 100000
set_option maxHeartbeats 16000000
open Go.RowKit Tryz
open Go.Sort hiding Below
variable{w w0:ak}{base jc jb aQ aY:Nat}{s:Int}{ps:List Ph}
theorem grown_fresh{w1 w2:ak}{r:Option Nat}{J:Nat}(h:w0.grownBy w1 (some J))(g:w1.grownBy w2 r)(hr: ∀k,r=some k→w0.heap.size≤k):w0.grownBy w2 (some J):=
 ⟨g.os.trans h.os,g.tape.trans h.tape,g.output.trans h.output,dA h.size g.size,fun k hk hne=>(g.block k (jL hk h.size) (fun e=>by have:=hr k e.symm;omega)).trans (h.block k hk hne)⟩
structure Jh(w:ak)(base:Nat)(jb jc aQ aY:Nat)(ps:List Ph)(cs:aO)(s:Int):Prop where
 ph:Row w (some ⟨jb,0,none⟩) (jI ps)
 cf:Ints w (some ⟨aQ,0,none⟩) cs
 lb:jb<base
 WC:aQ<base
 lw:base≤w.heap.size
 n1:1≤ps.length∧ps.length≤8
 cl:cs.length=ps.length
 ok: ∀p∈ps,mO p
 s0:0≤s∧s≤2
theorem Jh.below{w':ak}{cs:aO}(h:Jh w base jb jc aQ aY ps cs s)(hb:Below base w w'):Jh w' base jb jc aQ aY ps cs s:=
 ⟨h.ph.keep fun b off e _=>hb.block b (by injection e with e;injection e with e _ _;have:=h.lb;omega),Row.keep h.cf fun b off e _=>hb.block b (by injection e with e;injection e with e _ _;have:=h.WC;omega),h.lb,h.WC,dA h.lw hb.size,h.n1,h.cl,h.ok,h.s0⟩
theorem Jh.mono{base':Nat}{cs:aO}(h:Jh w base jb jc aQ aY ps cs s)(hb:base≤base')(hw:base'≤w.heap.size):Jh w base' jb jc aQ aY ps cs s:=
 ⟨h.ph,h.cf,jL h.lb hb,jL h.WC hb,hw,h.n1,h.cl,h.ok,h.s0⟩
@[reducible] def VW(jb jc aQ aY n:Nat)(s:Int):Value:= .agg #[.slice (some ⟨jb,0,none⟩) n jc,.slice (some ⟨aQ,0,none⟩) n aY,ae s]
theorem av4{ops:Array Oper}{rest:List Oper}{o:Oper}{a:Act}{Q:dR}(hgd:o.guard=none)(s x:Operand)(ho:o.op= .call {callee:= .builtin .append,args:= #[s,x],argTypes:= #[22,22]})
  (base:Nat) (b:az) (n cap:Nat) (l:aO) (hs:a.eval s= .slice b n cap) (q:Int) (X:Nat) (hx:a.eval x= .slice (some ⟨X,0,none⟩) 1 1) (hX:ah w X 3 #[ae q])
  (own:Own w base 3 1 b n cap (l.map encI)) (hbig:n≤1000000) (hbase:base≤w.heap.size)
  (h: ∀b' cap' w',Own w' base 3 1 b' (n+1) cap' ((l++ [q]).map encI)→Grew base w w' b b'→(∀W,Below base W w→Below base W w')→wpList prog ops Q rest (a.put o.dst (.slice b' (n+1) cap')) w'):
  wpList prog ops Q (o::rest) a w:=by
 obtain⟨i0,hi,hz0,hz1,hz2⟩:=info_parts Nr;have hr:Row w (some ⟨X,0,none⟩) [ae q]:= .inr ⟨X,0,rfl,hX.lt,fun i hi=>by
  obtain rfl:i=0:=by simpa using hi
  exact hX.cell 0⟩
 refine zL _ hgd s x _ ho base _ i0 _ 1 8 underlying22 hi hz0 hz1 hz2 rfl ay b n cap _ hs (some ⟨X,0,none⟩) 1 1 hx own [ae q] rfl hr (by simp[Value.oneCell']) tK aj hbase ?_;intro b' cap' w' own' g;refine h b' cap' w' (by simpa [encI]using own') g (Grew.step own g)
end Go.Proofs.YtiffpjamngklhaaGreat
