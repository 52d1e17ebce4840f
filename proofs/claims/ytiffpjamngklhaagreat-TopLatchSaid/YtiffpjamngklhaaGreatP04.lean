/- Lemmas, part 04. -/
import Derived.Test.YtiffpjamngklhaaGreatProg
import Derived.WalkSpells
import Derived.Shelf.RegionOpen
import Derived.OwnWalkIn
import Derived.TacticsInMore
import Derived.LoopNIn
import Derived.LoopIn
import Derived.Test.YtiffpjamngklhaaGreatP03
namespace Go.Proofs.YtiffpjamngklhaaGreat
set_option linter.all false
set_option maxRecDepth 100000
set_option maxHeartbeats 16000000
open Go.RowKit Tryz
open Go.Sort hiding Below
variable{n i:Nat}{s:Int}
def Bz(p:Ph):Int:=if p.qy<p.walk+p.clear_ then p.walk+p.clear_ else p.qy
theorem ZC{p:Ph}(h:mO p):1≤Bz p∧Bz p≤4∧p.qy≤Bz p∧p.walk+p.clear_≤Bz p:=by
 have h1:=h.qy;have h2:=h.walk;unfold Bz
 split<;>omega
def mD(p:Ph)(a t:Int)(leave:Bool):Int × Int:=
 if a=1 then(if leave=true∧Bz p≤t+1 then(2,0)else(1,if 1073741824≤t then 1073741824 else t+1))
 else if a=2 then(if t+1<p.mV then(2,t+1)else if p.red=0 then(0,0)else(3,0))
 else if a=3 then(if t+1<p.red then(3,t+1)else(0,0))
 else(a,t)
def Di(p:Ph)(a t:Int):Int:=
 if a=1 then(if Bz p -1 -t<0 then 0 else Bz p -1 -t)else if a=2 then p.mV -1 -t else if a=3 then p.red -1 -t else 0
def xZ(p:Ph)(a t:Int):Prop:=(a=0∧t=0)∨(a=1∧0≤t∧t≤1073741824)∨(a=2∧0≤t∧t<p.mV)∨(a=3∧0≤t∧t<p.red)
theorem asA{p:Ph}{a t:Int}(hp:mO p)(h:xZ p a t)(leave:Bool):xZ p (mD p a t leave).1 (mD p a t leave).2:=by
 have h1:=hp.mV;have h2:=hp.red;have h3:=ZC hp;unfold mD xZ at*;rcases h with⟨rfl,rfl⟩|⟨rfl,h⟩|⟨rfl,h⟩|⟨rfl,h⟩
 ·simp
 ·simp only[if_true]
  split
  ·simp;omega
  ·simp;split<;>omega
 ·simp only[show ¬ (2:Int)=1 by decide,if_false,if_true]
  split
  ·simp;omega
  ·split<;>simp<;>omega
 ·simp only[show ¬ (3:Int)=1 by decide,show ¬ (3:Int)=2 by decide,if_false,if_true]
  split<;>simp<;>omega
structure PhB(r g mg xg y rd wk cl:Int):Prop where
 qy:1≤mg∧mg≤3
 qA:mg≤xg∧xg≤7
 mV:1≤y∧y≤2
 red:0≤rd∧rd≤2
 walk:0≤wk∧wk≤2
 clr:0≤cl∧cl≤2
theorem mO.b{r g mg xg y rd wk cl:Int}(h:mO ⟨r,g,mg,xg,y,rd,wk,cl⟩):PhB r g mg xg y rd wk cl:=
 ⟨h.qy,⟨h.qA.1,h.qA.2.2⟩,h.mV,h.red,by have:=h.walk;simp only at this;omega,by have:=h.walk;simp only at this;omega⟩
theorem ahd(p:Ph)(w:ak)(hp:mO p):aH 127 #[p.agg] w fun e w'=>e= .returned (ae (Bz p))∧Below w.heap.size w w':=by
 obtain⟨r,g,mg,xg,y,rd,wk,cl⟩:=p;obtain⟨a1,a2,a3,a4,a5,a6⟩:=hp.b;have e1:wrap64 (wk+cl)=wk+cl:=by rw[wrap64];omega
 unfold Ph.agg
 go_enter func127,ntmps127
 go_wp2
 all_goals
  go_ret;exact⟨yT (by unfold Bz;simp only;split<;>omega),bel⟩
theorem Yu{P:Prop}(h:P:=by
 unfold Ph.agg
 go_enter func94,ntmps94
 go_wp2
 go_ret;exact⟨yT (by rw[H.out]),bel⟩):P:=h
theorem aqE(p:Ph)(a t:Int)(w:ak)(hp:mO p)(ht: -1000000000000≤t∧t≤1000000000000):aH 94 #[p.agg,.agg #[ae a,ae t]] w fun e w'=>e= .returned (ae (Di p a t))∧Below w.heap.size w w':=by
 have nb:=ZC hp;obtain⟨nd,hnd⟩:=aI (Bz p);rw[hnd]at nb;have HN: ∀w,aH 127 #[p.agg] w fun e w'=>e= .returned (ae nd)∧Below w.heap.size w w':=fun w=>hnd▸ahd p w hp;by_cases c1:a=1
 ·subst c1;have H:=ax (show Di p 1 t=(if nd -1 -t<0 then 0 else nd -1 -t)by unfold Di;rw[hnd];rfl);have HD:=ax hnd;clear hnd;have HN':=ax HN;clear HN;obtain⟨r,g,mg,xg,y,rd,wk,cl⟩:=p;obtain⟨a1,a2,a3,a4,a5,a6⟩:=hp.b;have e1:IntKind.i64.wrap (nd -1)=nd -1:=by rw[IntKind.wrap_i64];omega
  have e2:IntKind.i64.wrap (nd -1 -t)=nd -1 -t:=by rw[IntKind.wrap_i64];omega
  unfold Ph.agg at*
  go_enter func94,ntmps94
  go_wp2
  refine aW (fun W=>Below w.heap.size w W∧ah W w.heap.size 71 #[ae r,ae g,ae mg,ae xg,ae y,ae rd,ae wk,ae cl]∧ah W (w.heap.size+1) 194 #[ae 1,ae t]) ⟨bel,(ah.new w _ _).alloc _,by have h:=ah.new (w.alloc (.cells #[ae r,ae g,ae mg,ae xg,ae y,ae rd,ae wk,ae cl] 71)) 194 #[ae 1,ae t];simpa using h⟩ ?_;rintro W ⟨uS,kp,kl⟩;have l1:=kp.lt;have l2:=kl.lt;obtain⟨f0,f1,f2,f3,f4,f5,f6,f7⟩:=kp.eight;have g1:=kl.cell 1;have WE: ∀d os o,(grow (redrawn W d) os).cell? ⟨w.heap.size,o,none⟩=W.cell? ⟨w.heap.size,o,none⟩:=fun d os o=>dC W d os _ o l1;have Fb: ∀d os o,(grow (redrawn W d) os).cell? ⟨w.heap.size+1,o,none⟩=W.cell? ⟨w.heap.size+1,o,none⟩:=fun d os o=>dC W d os _ o l2;(refine wp_region_quiet_below bP bP ?_;(repeat(go_big_quiet_step (first|(go_at_call 127;exact qb (HN'.out _)))));refine wpQuiet_nil ?_;intro wq hwq;have hbq:=TZ hwq;clear hwq)
  go_wp2
  all_goals
   go_ret;exact⟨yT (by rw[H.out];split<;>omega),uS.trans (hbq.mono uS.size)⟩
 clear HN hnd nb;have d1:(a==1)=false:=by rw[iL];exact c1
 by_cases c2:a=2
 ·subst c2;have H:=ax (show Di p 2 t=p.mV -1 -t by rfl);obtain⟨r,g,mg,xg,y,rd,wk,cl⟩:=p;obtain⟨a1,a2,a3,a4,a5,a6⟩:=hp.b;have e1:wrap64 (y -1)=y -1:=by rw[wrap64];omega
  have e2:wrap64 (y -1 -t)=y -1 -t:=by rw[wrap64];omega
  exact Yu
 have d2:(a==2)=false:=by rw[iL];exact c2
 by_cases c3:a=3
 ·subst c3;have H:=ax (show Di p 3 t=p.red -1 -t by rfl);obtain⟨r,g,mg,xg,y,rd,wk,cl⟩:=p;obtain⟨a1,a2,a3,a4,a5,a6⟩:=hp.b;have e1:wrap64 (rd -1)=rd -1:=by rw[wrap64];omega
  have e2:wrap64 (rd -1 -t)=rd -1 -t:=by rw[wrap64];omega
  exact Yu
 ·have d3:(a==3)=false:=by rw[iL];exact c3
  have H:=ax (show Di p a t=0 by unfold Di;rw[if_neg c1,if_neg c2,if_neg c3]);clear c1 c2 c3;obtain⟨r,g,mg,xg,y,rd,wk,cl⟩:=p;exact Yu
theorem ZE(w:ak)(c1 c2 c3:aZ)(t1 t2 t3:aK):Below w.heap.size w (((w.alloc (.cells c1 t1)).alloc (.cells c2 t2)).alloc (.cells c3 t3))∧ah (((w.alloc (.cells c1 t1)).alloc (.cells c2 t2)).alloc (.cells c3 t3)) w.heap.size t1 c1∧ah (((w.alloc (.cells c1 t1)).alloc (.cells c2 t2)).alloc (.cells c3 t3)) (w.heap.size+1) t2 c2∧ah (((w.alloc (.cells c1 t1)).alloc (.cells c2 t2)).alloc (.cells c3 t3)) (w.heap.size+2) t3 c3:=by
 refine⟨bel,((ah.new w _ _).alloc _).alloc _,?_,?_⟩
 ·have h:=(ah.new (w.alloc (.cells c1 t1)) t2 c2).alloc (.cells c3 t3);simpa using h
 ·have h:=ah.new ((w.alloc (.cells c1 t1)).alloc (.cells c2 t2)) t3 c3;simpa using h
theorem Yv{P:Prop}(h:P:=by
 go_enter func214,ntmps214
 go_wp2
 exact bodyPost_ret (v:= .agg #[ae 0,ae 0]) (by simp[results,results214,go_sem]) rfl ⟨by rw[H.out],bel⟩):P:=h
theorem aro(p:Ph)(a t:Int)(leave:Bool)(w:ak)(hp:mO p)(hx:xZ p a t):aH 214 #[p.agg,.agg #[ae a,ae t],.bool leave] w fun e w'=>e= .returned (.agg #[ae (mD p a t leave).1,ae (mD p a t leave).2])∧Below w.heap.size w w':=by
 have nb:=ZC hp;obtain⟨nd,hnd⟩:=aI (Bz p);rw[hnd]at nb;have HN0: ∀w,aH 127 #[p.agg] w fun e w'=>e= .returned (ae nd)∧Below w.heap.size w w':=fun w=>hnd▸ahd p w hp;have HN:=ax HN0;clear HN0;obtain⟨r,g,mg,xg,y,rd,wk,cl⟩:=p;obtain⟨a1,a2,a3,a4,a5,a6⟩:=hp.b;unfold xZ at hx;simp only at hx;have HD:=ax hnd;clear hnd;unfold Ph.agg at*;rcases hx with⟨rfl,rfl⟩|⟨rfl,t0,t1⟩|⟨rfl,t0,t1⟩|⟨rfl,t0,t1⟩
 ·have H:=ax (show mD ⟨r,g,mg,xg,y,rd,wk,cl⟩ 0 0 leave=(0,0)by rfl);exact Yv
 ·cases leave with
  |true=>
   by_cases c1:nd≤t+1
   ·have H:=ax (show mD ⟨r,g,mg,xg,y,rd,wk,cl⟩ 1 t true=(2,0)by unfold mD;simp only[if_true];rw[if_pos ⟨trivial,by rw[HD.out];exact c1⟩]);have e1:IntKind.i64.wrap (t+1)=t+1:=by rw[IntKind.wrap_i64];omega
    have e2:wrap64 (t+1)=t+1:=by rw[wrap64];omega
    go_enter func214,ntmps214
    go_wp2
    refine aW (fun W=>Below w.heap.size w W∧ah W w.heap.size 71 #[ae r,ae g,ae mg,ae xg,ae y,ae rd,ae wk,ae cl]∧ah W (w.heap.size+1) 194 #[ae 1,ae t]∧ah W (w.heap.size+2) 194 #[ae 0,ae 0]) (ZE w _ _ _ _ _ _) ?_;rintro W ⟨uS,kp,kl,kr⟩;have l1:=kp.lt;have l2:=kl.lt;obtain⟨f0,f1,f2,f3,f4,f5,f6,f7⟩:=kp.eight;have g1:=kl.cell 1;have WE: ∀d os o,(grow (redrawn W d) os).cell? ⟨w.heap.size,o,none⟩=W.cell? ⟨w.heap.size,o,none⟩:=fun d os o=>dC W d os _ o l1;have Fb: ∀d os o,(grow (redrawn W d) os).cell? ⟨w.heap.size+1,o,none⟩=W.cell? ⟨w.heap.size+1,o,none⟩:=fun d os o=>dC W d os _ o l2;(refine wp_region_quiet_below bP bP ?_;(repeat(go_big_quiet_step (first|(go_at_call 127;exact qb (HN.out _)))));refine wpQuiet_nil ?_;intro wq hwq;have hbq:=TZ hwq;clear hwq);clear WE Fb f0 f1 f2 f3 f4 f5 f6 f7 g1;have kl:=kl.below hbq kl.lt;have kr:=kr.below hbq kr.lt;have g0:=kl.cell 0;have g1:=kl.cell 1;have r0:=kr.cell 0;have r1:=kr.cell 1;have rf:=kr.frozen;have rl:=kr.lt
    go_wp2
    exact bodyPost_ret (v:= .agg #[ae 2,ae 0]) (by simp[results,results214,go_sem,r0,r1]) rfl ⟨by rw[H.out],by have b1:=uS.trans (hbq.mono uS.size);exact bel⟩
   ·have c1:t+1<nd:=by omega
    have H:=ax (show mD ⟨r,g,mg,xg,y,rd,wk,cl⟩ 1 t true=(1,t+1)by unfold mD;simp only[if_true];rw[if_neg (fun q=>by have:=q.2;rw[HD.out]at this;omega),if_neg aj]);have e1:IntKind.i64.wrap (t+1)=t+1:=by rw[IntKind.wrap_i64];omega
    have e2:wrap64 (t+1)=t+1:=by rw[wrap64];omega
    go_enter func214,ntmps214
    go_wp2
    refine aW (fun W=>Below w.heap.size w W∧ah W w.heap.size 71 #[ae r,ae g,ae mg,ae xg,ae y,ae rd,ae wk,ae cl]∧ah W (w.heap.size+1) 194 #[ae 1,ae t]∧ah W (w.heap.size+2) 194 #[ae 0,ae 0]) (ZE w _ _ _ _ _ _) ?_;rintro W ⟨uS,kp,kl,kr⟩;have l1:=kp.lt;have l2:=kl.lt;obtain⟨f0,f1,f2,f3,f4,f5,f6,f7⟩:=kp.eight;have g1:=kl.cell 1;have WE: ∀d os o,(grow (redrawn W d) os).cell? ⟨w.heap.size,o,none⟩=W.cell? ⟨w.heap.size,o,none⟩:=fun d os o=>dC W d os _ o l1;have Fb: ∀d os o,(grow (redrawn W d) os).cell? ⟨w.heap.size+1,o,none⟩=W.cell? ⟨w.heap.size+1,o,none⟩:=fun d os o=>dC W d os _ o l2;(refine wp_region_quiet_below bP bP ?_;(repeat(go_big_quiet_step (first|(go_at_call 127;exact qb (HN.out _)))));refine wpQuiet_nil ?_;intro wq hwq;have hbq:=TZ hwq;clear hwq);clear WE Fb f0 f1 f2 f3 f4 f5 f6 f7 g1;have kl:=kl.below hbq kl.lt;have kr:=kr.below hbq kr.lt;have g0:=kl.cell 0;have g1:=kl.cell 1;have r0:=kr.cell 0;have r1:=kr.cell 1;have rf:=kr.frozen;have rl:=kr.lt
    go_wp2
    exact bodyPost_ret (v:= .agg #[ae 1,ae (t+1)]) (by simp[results,results214,go_sem,r0,r1]) rfl ⟨by rw[H.out],by have b1:=uS.trans (hbq.mono uS.size);exact bel⟩
  |false=>
   have e1:IntKind.i64.wrap (t+1)=t+1:=by rw[IntKind.wrap_i64];omega
   have e2:wrap64 (t+1)=t+1:=by rw[wrap64];omega
   by_cases c2:t=1073741824
   ·subst c2;have H:=ax (show mD ⟨r,g,mg,xg,y,rd,wk,cl⟩ 1 1073741824 false=(1,1073741824)by unfold mD;simp)
    go_enter func214,ntmps214
    go_wp2
    go_quiet (fail)
    go_wp2
    exact bodyPost_ret (v:= .agg #[ae 1,ae 1073741824]) (by simp[results,results214,go_sem]) rfl ⟨by rw[H.out],bel⟩
   ·have c3:t<1073741824:=by omega
    have H:=ax (show mD ⟨r,g,mg,xg,y,rd,wk,cl⟩ 1 t false=(1,t+1)by unfold mD;simp only[if_true];rw[if_neg aF,if_neg aj])
    go_enter func214,ntmps214
    go_wp2
    go_quiet (fail)
    go_wp2
    exact bodyPost_ret (v:= .agg #[ae 1,ae (t+1)]) (by simp[results,results214,go_sem]) rfl ⟨by rw[H.out],bel⟩
 ·have e2:wrap64 (t+1)=t+1:=by rw[wrap64];omega
  by_cases c1:t+1<y
  ·have H:=ax (show mD ⟨r,g,mg,xg,y,rd,wk,cl⟩ 2 t leave=(2,t+1)by unfold mD;simp[c1])
   go_enter func214,ntmps214
   go_wp2
   exact bodyPost_ret (v:= .agg #[ae 2,ae (t+1)]) (by simp[results,results214,go_sem]) rfl ⟨by rw[H.out],bel⟩
  ·by_cases c2:rd=0
   ·subst c2;have H:=ax (show mD ⟨r,g,mg,xg,y,0,wk,cl⟩ 2 t leave=(0,0)by unfold mD;simp[c1]);exact Yv
   ·have c3:(rd==0)=false:=by rw[iL];exact c2
    have c4:0<rd:=by omega
    have H:=ax (show mD ⟨r,g,mg,xg,y,rd,wk,cl⟩ 2 t leave=(3,0)by unfold mD;simp[c1,c2]);clear c2
    go_enter func214,ntmps214
    go_wp2
    exact bodyPost_ret (v:= .agg #[ae 3,ae 0]) (by simp[results,results214,go_sem]) rfl ⟨by rw[H.out],bel⟩
 ·have e2:wrap64 (t+1)=t+1:=by rw[wrap64];omega
  by_cases c1:t+1<rd
  ·have H:=ax (show mD ⟨r,g,mg,xg,y,rd,wk,cl⟩ 3 t leave=(3,t+1)by unfold mD;simp[c1])
   go_enter func214,ntmps214
   go_wp2
   exact bodyPost_ret (v:= .agg #[ae 3,ae (t+1)]) (by simp[results,results214,go_sem]) rfl ⟨by rw[H.out],bel⟩
  ·have H:=ax (show mD ⟨r,g,mg,xg,y,rd,wk,cl⟩ 3 t leave=(0,0)by unfold mD;simp[c1]);exact Yv
def yx(i:TypeInfo):Bool × Option Nat × Nat × Nat:=(i.zero.isSome,i.zero.map (fun z=>z.cells.size),i.size,i.bytes)
def Ag(T:aK)(k:Nat)(a:az)(n:Nat)(xs:aP)(w:ak)(e:Ending)(w':ak):Prop:= ∃(a':az) (c':Nat),e= .returned (.slice a' n c')∧Own w' w.heap.size T k a' n c' xs∧Below w.heap.size w w'
theorem apH{P:Program}{T:aK}{k s b:Nat}(hk:(P.info? T).map yx=some (true,some k,s,b)): ∃i0 z,Hid (P.info? T=some i0)∧Hid (i0.zero=some z)∧Hid (z.cells.size=k)∧Hid (i0.size=s)∧Hid (i0.bytes=b):=by
 cases hq:P.info? T with
 |none=>rw[hq]at hk;cases hk
 |some i0=>
  rw[hq]at hk;simp only[Option.map_some,Option.some.injEq,yx,Prod.mk.injEq]at hk;obtain⟨k1,k2,k3,k4⟩:=hk;cases hz:i0.zero with
  |none=>rw[hz]at k1;cases k1
  |some z=>rw[hz]at k2;simp at k2;exact⟨i0,z,ax rfl,ax hz,ax k2,ax k3,ax k4⟩
theorem an8:(prog.info? 3).map yx=some (true,some 1,1,8):=by kernel_rfl
theorem zO{P:Prop}(h:P:=by
 have HL:=ax hlen;clear hlen hnil0;obtain⟨i0,z,HI,HZ0,GN,HZ1,HZ2⟩:=apH IC;have HU:=ax U;clear U IC
 go_enter F,T
 clear F T
 go_wp2_with ((at_builtin;refine zL (P:=prog) _ rfl _ _ _ rfl w.heap.size _ i0 z _ _ HU.out HI.out HZ0.out HZ1.out HZ2.out GN.out ay (some ⟨w.heap.size,0,none⟩) 0 0 [] rfl (some ad) n c rfl (Qb _ #[] _ _ 0 rfl (by simp[maxLen])) xs HL.out (hrow.alloc _) h1 tK aj aF ?_;intro b' cap' w3 jE g3;rw[dX]at jE⊢))
 go_ret;exact⟨_,_,rfl,by simpa using jE,Grew.below (Below.alloc bD aA _) g3 PV⟩):P:=h
theorem zQ{P:Prop}(h:P:=by
 obtain⟨rfl,rfl⟩:=hnil0 rfl;obtain rfl:xs= []:=Gp aj;have HU:=ax U;have HC:=ax IC;clear U IC
 go_enter F,T
 clear F T
 go_wp2
 go_ret;exact⟨none,0,rfl,Own.nil _ _ _ _,Below.refl _ _⟩):P:=h
theorem Ip(a:az)(n c:Nat)(xs:aP)(w:ak)(h:Sl w 3 1 a n c xs)(h1: ∀u∈xs,u.oneCell'=true)(hl:n≤1000000):
  aH 101 #[.slice a n c] w (Ag 3 1 a n xs w):=by
 have F:=func101;have T:=ntmps101;have U:=underlying22;have IC:=an8;have hnil:=fun(w:ak) (a:az) (n c:Nat)=>Lib.run_eql_slice_nil (P:=prog) w _ _ a n c 0 0 U;have hlen:=h.len;have hrow:=h.row;have hnil0:=h.nil0;clear h;cases a with
 |none=>
  exact zQ
 |some ad=>
  exact zO
theorem aoy:(prog.info? 5).map yx=some (true,some 1,1,1):=by kernel_rfl
theorem U3(a:az)(n c:Nat)(xs:aP)(w:ak)(h:Sl w 5 1 a n c xs)(h1: ∀u∈xs,u.oneCell'=true)(hl:n≤1000000):
  aH 71 #[.slice a n c] w (Ag 5 1 a n xs w):=by
 have F:=func71;have T:=ntmps71;have U:=underlying30;have IC:=aoy;have hnil:=fun(w:ak) (a:az) (n c:Nat)=>Lib.run_eql_slice_nil (P:=prog) w _ _ a n c 0 0 U;have hlen:=h.len;have hrow:=h.row;have hnil0:=h.nil0;clear h;cases a with
 |none=>
  exact zQ
 |some ad=>
  exact zO
theorem anL:(prog.info? 4).map yx=some (true,some 1,1,1):=by kernel_rfl
theorem aqN(a:az)(n c:Nat)(xs:aP)(w:ak)(h:Sl w 4 1 a n c xs)(h1: ∀u∈xs,u.oneCell'=true)(hl:n≤1000000):
  aH 132 #[.slice a n c] w (Ag 4 1 a n xs w):=by
 have F:=func132;have T:=ntmps132;have U:=underlying87;have IC:=anL;have hnil:=fun(w:ak) (a:az) (n c:Nat)=>Lib.run_eql_slice_nil (P:=prog) w _ _ a n c 0 0 U;have hlen:=h.len;have hrow:=h.row;have hnil0:=h.nil0;clear h;cases a with
 |none=>
  exact zQ
 |some ad=>
  exact zO
theorem aoz:(prog.info? 30).map yx=some (true,some 1,1,24):=by kernel_rfl
theorem asT(a:az)(n c:Nat)(xs:aP)(w:ak)(h:Sl w 30 1 a n c xs)(h1: ∀u∈xs,u.oneCell'=true)(hl:n≤1000000):
  aH 131 #[.slice a n c] w (Ag 30 1 a n xs w):=by
 have F:=func131;have T:=ntmps131;have U:=underlying50;have IC:=aoz;have hnil:=fun(w:ak) (a:az) (n c:Nat)=>Lib.run_eql_slice_nil (P:=prog) w _ _ a n c 0 0 U;have hlen:=h.len;have hrow:=h.row;have hnil0:=h.nil0;clear h;cases a with
 |none=>
  exact zQ
 |some ad=>
  exact zO
theorem aoA:(prog.info? 194).map yx=some (true,some 2,2,16):=by kernel_rfl
theorem ahJ(a:az)(n c:Nat)(xs:aP)(w:ak)(h:Sl w 194 2 a n c xs)(h1: ∀u∈xs,u.oneCell'=true)(hl:n≤1000000):
  aH 133 #[.slice a n c] w (Ag 194 2 a n xs w):=by
 have F:=func133;have T:=ntmps133;have U:=underlying116;have IC:=aoA;have hnil:=fun(w:ak) (a:az) (n c:Nat)=>Lib.run_eql_slice_nil (P:=prog) w _ _ a n c 0 0 U;have hlen:=h.len;have hrow:=h.row;have hnil0:=h.nil0;clear h;cases a with
 |none=>
  exact zQ
 |some ad=>
  exact zO
theorem aoB:(prog.info? 262).map yx=some (true,some 2,2,16):=by kernel_rfl
theorem ahK(a:az)(n c:Nat)(xs:aP)(w:ak)(h:Sl w 262 2 a n c xs)(h1: ∀u∈xs,u.oneCell'=true)(hl:n≤1000000):
  aH 158 #[.slice a n c] w (Ag 262 2 a n xs w):=by
 have F:=func158;have T:=ntmps158;have U:=underlying81;have IC:=aoB;have hnil:=fun(w:ak) (a:az) (n c:Nat)=>Lib.run_eql_slice_nil (P:=prog) w _ _ a n c 0 0 U;have hlen:=h.len;have hrow:=h.row;have hnil0:=h.nil0;clear h;cases a with
 |none=>
  exact zQ
 |some ad=>
  exact zO
theorem an9:(prog.info? 260).map yx=some (true,some 6,6,64):=by kernel_rfl
theorem ahm(a:az)(n c:Nat)(xs:aP)(w:ak)(h:Sl w 260 6 a n c xs)(h1: ∀u∈xs,u.oneCell'=true)(hl:n≤1000000):
  aH 157 #[.slice a n c] w (Ag 260 6 a n xs w):=by
 have F:=func157;have T:=ntmps157;have U:=underlying80;have IC:=an9;have hnil:=fun(w:ak) (a:az) (n c:Nat)=>Lib.run_eql_slice_nil (P:=prog) w _ _ a n c 0 0 U;have hlen:=h.len;have hrow:=h.row;have hnil0:=h.nil0;clear h;cases a with
 |none=>
  exact zQ
 |some ad=>
  exact zO
theorem aoC:(prog.info? 139).map yx=some (true,some 5,5,56):=by kernel_rfl
theorem asU(a:az)(n c:Nat)(xs:aP)(w:ak)(h:Sl w 139 5 a n c xs)(h1: ∀u∈xs,u.oneCell'=true)(hl:n≤1000000):
  aH 129 #[.slice a n c] w (Ag 139 5 a n xs w):=by
 have F:=func129;have T:=ntmps129;have U:=underlying86;have IC:=aoC;have hnil:=fun(w:ak) (a:az) (n c:Nat)=>Lib.run_eql_slice_nil (P:=prog) w _ _ a n c 0 0 U;have hlen:=h.len;have hrow:=h.row;have hnil0:=h.nil0;clear h;cases a with
 |none=>
  exact zQ
 |some ad=>
  exact zO
theorem an_:(prog.info? 187).map yx=some (true,some 5,5,40):=by kernel_rfl
theorem arD(a:az)(n c:Nat)(xs:aP)(w:ak)(h:Sl w 187 5 a n c xs)(h1: ∀u∈xs,u.oneCell'=true)(hl:n≤1000000):
  aH 130 #[.slice a n c] w (Ag 187 5 a n xs w):=by
 have F:=func130;have T:=ntmps130;have U:=underlying137;have IC:=an_;have hnil:=fun(w:ak) (a:az) (n c:Nat)=>Lib.run_eql_slice_nil (P:=prog) w _ _ a n c 0 0 U;have hlen:=h.len;have hrow:=h.row;have hnil0:=h.nil0;clear h;cases a with
 |none=>
  exact zQ
 |some ad=>
  exact zO
theorem aoD:(prog.info? 73).map yx=some (true,some 4,4,56):=by kernel_rfl
theorem asV(a:az)(n c:Nat)(xs:aP)(w:ak)(h:Sl w 73 4 a n c xs)(h1: ∀u∈xs,u.oneCell'=true)(hl:n≤1000000):
  aH 134 #[.slice a n c] w (Ag 73 4 a n xs w):=by
 have F:=func134;have T:=ntmps134;have U:=underlying43;have IC:=aoD;have hnil:=fun(w:ak) (a:az) (n c:Nat)=>Lib.run_eql_slice_nil (P:=prog) w _ _ a n c 0 0 U;have hlen:=h.len;have hrow:=h.row;have hnil0:=h.nil0;clear h;cases a with
 |none=>
  exact zQ
 |some ad=>
  exact zO
theorem aoE:(prog.info? 120).map yx=some (true,some 5,5,72):=by kernel_rfl
theorem asW(a:az)(n c:Nat)(xs:aP)(w:ak)(h:Sl w 120 5 a n c xs)(h1: ∀u∈xs,u.oneCell'=true)(hl:n≤1000000):
  aH 97 #[.slice a n c] w (Ag 120 5 a n xs w):=by
 have F:=func97;have T:=ntmps97;have U:=underlying41;have IC:=aoE;have hnil:=fun(w:ak) (a:az) (n c:Nat)=>Lib.run_eql_slice_nil (P:=prog) w _ _ a n c 0 0 U;have hlen:=h.len;have hrow:=h.row;have hnil0:=h.nil0;clear h;cases a with
 |none=>
  exact zQ
 |some ad=>
  exact zO
theorem aoF:(prog.info? 123).map yx=some (true,some 3,3,40):=by kernel_rfl
theorem asX(a:az)(n c:Nat)(xs:aP)(w:ak)(h:Sl w 123 3 a n c xs)(h1: ∀u∈xs,u.oneCell'=true)(hl:n≤1000000):
  aH 99 #[.slice a n c] w (Ag 123 3 a n xs w):=by
 have F:=func99;have T:=ntmps99;have U:=underlying42;have IC:=aoF;have hnil:=fun(w:ak) (a:az) (n c:Nat)=>Lib.run_eql_slice_nil (P:=prog) w _ _ a n c 0 0 U;have hlen:=h.len;have hrow:=h.row;have hnil0:=h.nil0;clear h;cases a with
 |none=>
  exact zQ
 |some ad=>
  exact zO
theorem aoG:(prog.info? 89).map yx=some (true,some 17,17,248):=by kernel_rfl
theorem asY(a:az)(n c:Nat)(xs:aP)(w:ak)(h:Sl w 89 17 a n c xs)(h1: ∀u∈xs,u.oneCell'=true)(hl:n≤1000000):
  aH 95 #[.slice a n c] w (Ag 89 17 a n xs w):=by
 have F:=func95;have T:=ntmps95;have U:=underlying40;have IC:=aoG;have hnil:=fun(w:ak) (a:az) (n c:Nat)=>Lib.run_eql_slice_nil (P:=prog) w _ _ a n c 0 0 U;have hlen:=h.len;have hrow:=h.row;have hnil0:=h.nil0;clear h;cases a with
 |none=>
  exact zQ
 |some ad=>
  exact zO
section
open Go.RowKit Go.Sort Go.Shelf
attribute [local go_sem] Oper.semAt_some
def tU(k:List ny)(s:Int):Bool:=decide (0≤s) && match k[s.toNat]? with
 |some t=>t.us
 |none=>false
def tP(k:List ny)(s:Int):Int:=match k[s.toNat]? with
 |some t=>t.par
 |none=> -1
def qB(k:List ny):Nat→Int→aO
 |0,_=> []
 |n+1,s=>if tU k s=true then s::qB k n (tP k s)else []
section
variable{l:List Tk}{s:Int}{i:Nat}
theorem awc(h:i<l.length):tU (l.map Tk.key) (i:Int)=l[i].us:=by simp[tU,h,Tk.key]
theorem awd(h:i<l.length):tP (l.map Tk.key) (i:Int)=l[i].par:=by simp[tP,h,Tk.key]
theorem aiK(h:s<0):tU (l.map Tk.key) s=false:=by simp[tU];omega
theorem aiL(h:(l.length:Int)≤s):tU (l.map Tk.key) s=false:=by
 have:(l.map Tk.key)[s.toNat]?=none:=by rw[List.getElem?_eq_none];simp;omega
 simp[tU,this]
theorem aaI(h:tU (l.map Tk.key) s=true): ∃i:Nat,s=i∧i<l.length:=by
 rcases Int.lt_or_le s 0 with q|q
 ·rw[aiK q]at h;cases h
 ·rcases Int.lt_or_le s l.length with q2|q2
  ·exact⟨s.toNat,by omega,by omega⟩
  ·rw[aiL q2]at h;cases h
end
theorem YH{P:Prop}(h:P:=by
 go_enter func219,ntmps219
 go_wp2_with fail
 go_ret;exact⟨rfl,rfl⟩):P:=h
theorem Y9(a:az)(l:List Tk)(n c:Nat)(s:Int)(w:ak)(h:DY w a l)(hn:n=l.length):
  aH 219 #[.slice a n c,ae s] w fun e w'=>e= .returned (.bool (tU (l.map Tk.key) s))∧w=w':=by
 subst hn;rcases Int.lt_or_le s 0 with h0|h0
 ·rw[aiK h0];exact YH
 ·rcases Int.lt_or_le s l.length with h1|h1
  ·obtain⟨i,rfl⟩: ∃i:Nat,s=i:=⟨s.toNat,by omega⟩;have hi:i<l.length:=by omega
   obtain⟨ba,oa,rfl⟩:=h.open aj;obtain⟨x0, -, -, -, -, -,xl⟩:=EC h.row i hi;rw[awc hi];exact YH
  ·rw[aiL h1];have h1': ¬ s<(l.length:Int):=by omega
   exact YH
theorem as1{k:List ny}(h:tU k s=true):qB k (n+1) s=s::qB k n (tP k s):=by simp[qB,h]
theorem aug{k:List ny}(h:tU k s=false):qB k (n+1) s= []:=by simp[qB,h]
theorem ahn{k:List ny}: ∀{n:Nat} {s x:Int},x∈qB k n s→tU k x=true
 |0,s,x,h=>by simp[qB]at h
 |n+1,s,x,h=>by
  unfold qB at h
  split at h
  ·rcases List.mem_cons.1 h with rfl|h
   ·assumption
   ·exact ahn h
  ·simp at h
theorem YI{P:Prop}(h:P:=by
 exact⟨⟨_,rfl⟩,.inl ⟨pre,HP.out,hJ0⟩⟩):P:=h
theorem aoI(n:Nat)(hn:1≤n)(a:az)(l:List Tk)(c:Nat)(s:Int)(Bs Bl:Nat)(w:ak)(hs:ah w Bs 3 #[ae s])(hl:ah w Bl 80 #[.slice a l.length c])(h:DY w a l):
  QP Fence.wide n prog 218 #[.pointer (some ⟨Bs,0,none⟩),.pointer (some ⟨Bl,0,none⟩)] (fun x:Int=> #[ae x]) (fun pre x _=> ∃t,qB (l.map Tk.key) 8 s=pre++x::t) (Below w.heap.size) (fun xs=>xs=qB (l.map Tk.key) 8 s) (fun pre=> ∃t,qB (l.map Tk.key) 8 s=pre++t) w:=fun L J Jx W hW hJ hJx hY h0=>by
 refine callsIn_of_wp func218 rfl trivial ?_ rfl;simp only[ntmps218,List.size_toArray,jJ,List.length_nil,Nat.reduceAdd,Nat.reduceSub,Array.replicate_succ,Array.replicate_zero,List.push_toArray,List.append_toArray,List.nil_append,List.cons_append];have kS:=hs.below hW hs.lt;have e0:=kS.cell 0;have el:=kS.lt
 gi_wp2
 gi_loopw [4,6] (fun s4 s6 wr=> ∃(i:Nat) (at_:Int) (pre:aO),s4=ae at_∧s6=ae i∧i≤8∧Hid (qB (l.map Tk.key) 8 s=pre++qB (l.map Tk.key) (8 -i) at_)∧J pre wr∧Below w.heap.size w wr) (fun _ s6 _=>8 -(intOf s6).toNat)
 case atStart=>exact⟨0,s,[],rfl,rfl,by omega,ax rfl,h0,hW⟩
 case round=>
  obtain⟨i,at_,pre,rfl,rfl,hi,hp,hJ0,hb⟩:=hrel;have kL:=hl.below hb hl.lt;have l0:=kL.cell 0;have ll:=kL.lt;have ht:=h.below hb aA;by_cases hi8:i<8
  ·have ki:(i:Int)<8:=by omega
   cases hu:tU (l.map Tk.key) at_ with
   |false=>
    have HU:=ax hu;have HP:Hid (pre=qB (l.map Tk.key) 8 s):=ax (by rw[hp.out,show 8 -i=(7 -i)+1 by omega,aug hu,iK]);have hus:=Y9 a l l.length c at_ wr ht rfl;rw[hu]at hus
    gi_wp2_with (refine⟨trivial,?_⟩;gi_at_call 219;refine(callsIn_wide.2 hus).mono ?_;rintro e w2 ⟨rfl,rfl⟩)
    refine⟨fun _ h=>(by cases h),?_⟩
    gi_wp2
    refine bodyPost_ret (results_none rfl _ _ _) rfl ?_;exact YI
   |true=>
    obtain⟨j,rfl,hj⟩:=aaI hu;have HN:Hid (qB (l.map Tk.key) 8 s=pre++(j:Int)::qB (l.map Tk.key) (7 -i) (tP (l.map Tk.key) j)):=ax (by rw[hp.out,show 8 -i=(7 -i)+1 by omega,as1 hu]);have hus:=Y9 a l l.length c j wr ht rfl;rw[hu]at hus;have HPJ:=ax (awd hj);have jx:(j:Int)<(l.length:Int):=by omega
    obtain⟨fn,tmps,assign,body,hy,hR⟩:=hY pre (j:Int) wr hJ0 ⟨_,HN.out⟩
    gi_wp2_with (refine⟨trivial,?_⟩;gi_at_call 219;refine(callsIn_wide.2 hus).mono ?_;rintro e w2 ⟨rfl,rfl⟩)
    refine hR.mono ?_;rintro e W3 (⟨rfl,hJ3,hk3⟩|⟨rfl,hJx3⟩)
    ·have hb3:Below w.heap.size w W3:=hb.trans hk3;have ht3:=h.below hb3 aA;have kL3:=hl.below hb3 hl.lt;have l3:=kL3.cell 0;have ll3:=kL3.lt;obtain⟨ba,oa,rfl⟩:=ht3.open aj;obtain⟨-, -,x2, -, -, -,xl⟩:=EC ht3.row j hj
     gi_wp2
     go_roundw
     case rel=>exact⟨i+1,l[j].par,pre++ [(j:Int)],rfl,by go_num,by omega,ax (by rw[HN.out,HPJ.out,uM,show 8 -(i+1)=7 -i by omega];rfl),hJ3,hb3⟩
     case measure=>simp[intOf];omega
    ·gi_wp2
     refine bodyPost_ret (results_none rfl _ _ _) rfl ?_;exact⟨⟨_,rfl⟩,.inr ⟨pre++ [(j:Int)],⟨_,by rw[HN.out,uM];rfl⟩,hJx3⟩⟩
  ·obtain rfl:i=8:=by omega
   have HP:Hid (pre=qB (l.map Tk.key) 8 s):=ax (by rw[hp.out];simp[qB])
   gi_wp2
   go_end0
   exact YI
end
section
open Go.RowKit Go.Sort Go.Shelf
attribute [local go_sem] Oper.semAt_some
theorem anM(a:az)(n c:Nat)(s:Int)(w:ak):aH 196 #[.slice a n c,ae s] w fun e w'=>e= .returned (.func (.func 218) #[] #[.pointer (some ⟨w.heap.size+1,0,none⟩),.pointer (some ⟨w.heap.size,0,none⟩)])∧w'=(w.alloc (.cells #[.slice a n c] 80)).alloc (.cells #[ae s] 3):=by
 go_enter func196,ntmps196
 go_wp2
 go_ret;exact⟨rfl,rfl⟩
end
section
open Go.RowKit Go.Sort Go.Shelf
def Gw(f:Int→Bool):Nat→Nat
 |0=>0
 |n+1=>Gw f n+(if f n=true then 2 ^ n else 0)
theorem aac(f:Int→Bool): ∀n,Gw f n<2 ^ n
 |0=>by simp[Gw]
 |n+1=>by
  have:=aac f n;rw[Gw,Nat.pow_succ]
  split<;>omega
end
section
open Go.RowKit Go.Sort Go.Shelf
theorem aho(a:Nat)(ha:a<9223372036854775808):(BitVec.ofInt 64 (a:Int)).toNat=a:=by
 exact Yp
theorem aaJ(h:i<8):2 ^ i≤128:=Nat.pow_le_pow_right (n:=2) ay (show i≤7 by omega)
theorem as2(h:i<8):wrap64 ((2:Int) ^ i)=((2 ^ i:Nat):Int):=by
 have h1:=aaJ h;have h2:((2:Int) ^ i)=((2 ^ i:Nat):Int):=by simp
 rw[h2];obtain⟨p,hp⟩: ∃p:Nat,2 ^ i=p:=⟨_,rfl⟩;rw[hp]at h1⊢;unfold wrap64;omega
theorem or_bit{S:Nat}(h:S<2 ^ i)(hi:i<8):bits .or .i64 (S:Int) ((2 ^ i:Nat):Int)=((S+2 ^ i:Nat):Int):=by
 have h1:=aaJ hi;have e:S|||2 ^ i=S+2 ^ i:=by
  have:=Nat.two_pow_add_eq_or_of_lt h 1;rw[Nat.mul_one]at this;rw[Nat.or_comm,←this,Nat.add_comm]
 show IntKind.i64.wrap ((BitVec.ofInt 64 (S:Int)|||BitVec.ofInt 64 ((2 ^ i:Nat):Int)).toNat:Int)=_;rw[BitVec.toNat_or,aho S aj,aho _ aj,e,IntKind.wrap_i64];omega
theorem as3(i:Nat):2 ^ (i+1)=2 ^ i+2 ^ i:=by rw[Nat.pow_succ];omega
end
@[reducible] def VH(us:Bool)(a:az)(n c:Nat)(par rt cl un:Int):Value:= .agg #[.bool us,.slice a n c,ae par,ae rt,ae cl,ae un]
def yg(un now:Int):Bool:=!decide (un=0) && decide (un<now)
theorem aoJ(us:Bool)(a:az)(n c:Nat)(par rt cl un now:Int)(w:ak):aH 197 #[VH us a n c par rt cl un,ae now] w fun e w'=>e= .returned (.bool (yg un now))∧Below w.heap.size w w':=by
 go_enter func197,ntmps197
 go_wp2
 all_goals
  go_ret;exact⟨uH (by first|rfl|(simp;done)|(simp;omega)|(rw[Bool.eq_iff_iff];simp[yg];done)|(rw[Bool.eq_iff_iff];simp[yg];omega)),bel⟩
theorem agI(w:ak):aH 155 #[] w fun e w'=>e= .returned (VH false none 0 0 (-1) 0 0 0)∧Below w.heap.size w w':=by
 go_enter func155,ntmps155
 go_wp2
 refine bodyPost_ret (v:=VH false none 0 0 (-1) 0 0 0) (by simp[results,results155,go_sem]) rfl ?_;exact⟨rfl,bel⟩
def gK(k:List ny)(i:Int):ny:=k.getD i.toNat ⟨false,[], -1,0,0,0⟩
theorem ai3{l:List Tk}(h:i<l.length):gK (l.map Tk.key) (i:Int)=l[i].key:=by simp[gK,h]
end Go.Proofs.YtiffpjamngklhaaGreat
