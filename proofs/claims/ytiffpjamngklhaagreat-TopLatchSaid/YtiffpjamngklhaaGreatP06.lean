/- Lemmas, part 06. -/
import Derived.Test.YtiffpjamngklhaaGreatProg
import Derived.Deep.DeepCutAuto
import Derived.WalkSpells
import Derived.Test.YtiffpjamngklhaaGreatP04
import Derived.Test.YtiffpjamngklhaaGreatP05
namespace Go.Proofs.YtiffpjamngklhaaGreat
set_option linter.all false
set_option maxRecDepth 100000
set_option maxHeartbeats 16000000
open Go.RowKit Tryz
open Go.Sort hiding Below
variable{w w' W:ak}{B n i B' n' c c' C sz' sz id:Nat}{t e ty:aK}{a xa:az}{Q:dR}{xs ys:aP}{l sec:aJ}{o:Oper}{ops:Array Oper}{rest:List Oper}{now:Int}{dst:Option Tmp}{pos:String}{after:Array Edge}{y:Operand}{S:b_}{listed:Array Bool}
theorem ah6{k:Int}(h1:1≤k)(h2:k≤22):k=1∨k=2∨k=3∨k=4∨k=5∨k=6∨k=7∨k=8∨k=9∨k=10∨k=11∨k=12∨k=13∨k=14∨k=15∨k=16∨k=17∨k=18∨k=19∨k=20∨k=21∨k=22:=by omega
theorem apG(k:Int)(w:ak)(h1:1≤k)(h2:k≤22):aH 81 #[ae k] w fun e w'=>e= .returned (.tuple #[(cZ k).agg,.bool true])∧Below w.heap.size w w':=by
 rcases ah6 h1 h2 with rfl|rfl|rfl|rfl|rfl|rfl|rfl|rfl|rfl|rfl|rfl|rfl|rfl|rfl|rfl|rfl|rfl|rfl|rfl|rfl|rfl|rfl
 all_goals
  go_enter func81,ntmps81
  go_wp2
  refine bodyPost_ret ?_ rfl ⟨rfl,bel⟩;simp[results,results81,go_sem,cZ,jZ.agg,NV]
theorem no_kind{k:Int}(h:k<1∨22<k): ∀j:Int,1≤j→j≤22→(k==j)=false:=fun j h1 h2=>by rw[iL];omega
theorem aep(k:Int)(w:ak)(h:k<1∨22<k):aH 81 #[ae k] w fun e w'=>e= .returned (.tuple #[.agg #[ae 0,ae 0,ae 0,ae 0,ae 0,ae 0],.bool false])∧Below w.heap.size w w':=by
 have hh:=no_kind h;have d1:=hh 1 aj aj;have d2:=hh 2 aj aj;have d3:=hh 3 aj aj;have d4:=hh 4 aj aj;have d5:=hh 5 aj aj;have d6:=hh 6 aj aj;have d7:=hh 7 aj aj;have d8:=hh 8 aj aj;have d9:=hh 9 aj aj;have d10:=hh 10 aj aj;have d11:=hh 11 aj aj;have d12:=hh 12 aj aj;have d13:=hh 13 aj aj;have d14:=hh 14 aj aj;have d15:=hh 15 aj aj;have d16:=hh 16 aj aj;have d17:=hh 17 aj aj;have d18:=hh 18 aj aj;have d19:=hh 19 aj aj;have d20:=hh 20 aj aj;have d21:=hh 21 aj aj;have d22:=hh 22 aj aj;clear hh h
 go_enter func81,ntmps81
 go_wp2
 refine bodyPost_ret ?_ rfl ⟨rfl,bel⟩;simp[results,results81,go_sem]
theorem asM(k:Int)(w:ak)(h1:1≤k)(h2:k≤22):aH 83 #[ae k] w fun e w'=>e= .returned (cZ k).ajo∧Below w.heap.size w w':=by
 rcases ah6 h1 h2 with rfl|rfl|rfl|rfl|rfl|rfl|rfl|rfl|rfl|rfl|rfl|rfl|rfl|rfl|rfl|rfl|rfl|rfl|rfl|rfl|rfl|rfl
 all_goals
  go_enter func83,ntmps83
  go_wp2
  refine bodyPost_ret ?_ rfl ⟨rfl,bel⟩;simp[results,results83,go_sem,cZ,jZ.ajo,NV]
def xQ(k:Int):Bool:=decide (1≤k) && decide (k≤12)
theorem Um{P:Prop}(h:P:=by
 go_wp2
 go_ret;exact⟨uH H.out.symm,rfl⟩):P:=h
theorem aow(k:Int)(w:ak):aH 199 #[ae k] w fun e w'=>e= .returned (.bool (xQ k))∧w=w':=by
 by_cases h:1≤k
 ·have H:=ax (show xQ k=decide (k≤12)by unfold xQ;simp[h])
  go_enter func199,ntmps199
  exact Um
 ·have H:=ax (show xQ k=false by unfold xQ;simp[h]);have h':k<1:=by omega
  go_enter func199,ntmps199
  exact Um
theorem anI(k:Int)(w:ak):aH 84 #[ae k] w fun e w'=>e= .returned (.bool (xQ k))∧w=w':=by
 by_cases h:1≤k
 ·have H:=ax (show xQ k=decide (k≤12)by unfold xQ;simp[h])
  go_enter func84,ntmps84
  exact Um
 ·have H:=ax (show xQ k=false by unfold xQ;simp[h]);have h':k<1:=by omega
  go_enter func84,ntmps84
  exact Um
theorem UT{s:jZ}{A:Int}(hg:s.grp≠0):iD s A↔(s.fix≤A∧(A -s.fix) % s.grp=0∧s.lo≤(A -s.fix)/s.grp∧(A -s.fix)/s.grp≤s.hi):=by unfold iD;rw[if_neg hg]
theorem ae9{P:Prop}(h:P:=by
 clear hg hm hl
 go_enter func171,ntmps171
 go_wp2
 go_quiet (fail)
 go_wp2
 go_ret2
 exact⟨q,by rw[H.out];rfl,fun _=>HN.out.symm,bel⟩):P:=h
theorem ae_{P:Prop}(h:P:=by
 go_enter func171,ntmps171
 go_wp2
 go_ret2
 exact⟨0,by rw[H.out];rfl,fun q=>absurd q H2.out,bel⟩):P:=h
theorem aeG(s:jZ)(A:Nat)(w:ak)(hs:KF s)(hA:A≤1000000):aH 171 #[s.agg,ae A] w fun e w'=> ∃g,e= .returned (.tuple #[ae g,.bool (decide (iD s A))])∧(iD s A→g=mY s A)∧Below w.heap.size w w':=by
 obtain⟨tok,fx,gr,lo,hi,dat⟩:=s;obtain⟨h1,h2,h3,h4,h5,h6⟩:=hs;simp only at h1 h2 h3 h4 h5 h6;unfold jZ.agg;by_cases hg:gr=0
 ·subst hg;have H:=ax (show decide (iD ⟨tok,fx,0,lo,hi,dat⟩ A)=((A:Int)==fx)by unfold iD;rw[Bool.eq_iff_iff];simp);have H2:iD ⟨tok,fx,0,lo,hi,dat⟩ A→(0:Int)=mY ⟨tok,fx,0,lo,hi,dat⟩ A:=fun _=>rfl;have H2':=ax H2;clear H2
  go_enter func171,ntmps171
  go_wp2
  go_quiet (fail)
  go_wp2
  go_ret2
  exact⟨0,by rw[H.out];rfl,H2'.out,bel⟩
 have d0:(gr==0)=false:=by rw[iL];exact hg
 have g1:1≤gr:=by omega
 have e1:wrap64 ((A:Int) -fx)=(A:Int) -fx:=by rw[wrap64];omega
 by_cases hf:(A:Int) -fx<0
 ·have H:=ax (show decide (iD ⟨tok,fx,gr,lo,hi,dat⟩ A)=false from fA fun q=>by have:=(UT (s:=⟨tok,fx,gr,lo,hi,dat⟩) hg).1 q;simp only at this;omega);have H2:=ax (show ¬ iD ⟨tok,fx,gr,lo,hi,dat⟩ A by have:=H.out;simpa using this);clear hg;exact ae_
 obtain⟨f,hfe⟩:=Int.eq_ofNat_of_zero_le (show 0≤(A:Int) -fx by omega);rw[hfe]at e1;have fb:(f:Int)≤1000000:=by omega
 by_cases hm:(f:Int) % gr=0
 ·obtain⟨q,hq⟩:=aI ((f:Int)/gr);have q0:0≤q:=by rw[←hq];exact Int.ediv_nonneg aj aj
  have q1:q≤(f:Int):=by rw[←hq];exact Int.ediv_le_self _ aj
  have e2:wrap64 q=q:=by rw[wrap64];omega
  have hl:fx≤(A:Int):=by omega
  have z1:((f:Int) % gr !=0)=false:=by rw[hm];rfl
  have HN:=ax (show mY ⟨tok,fx,gr,lo,hi,dat⟩ A=q by unfold mY;simp only;rw[if_neg hg,hfe,hq]);by_cases c1:lo≤q
  ·have H:=ax (show decide (iD ⟨tok,fx,gr,lo,hi,dat⟩ A)=decide (q≤hi)by rw[Bool.eq_iff_iff];simp only[decide_eq_true_eq];rw[UT (s:=⟨tok,fx,gr,lo,hi,dat⟩) hg];simp only;rw[hfe,hq];simp[hl,hm,c1]);have d1:decide (lo≤q)=true:=jB c1;exact ae9
  ·have H:=ax (show decide (iD ⟨tok,fx,gr,lo,hi,dat⟩ A)=false from fA fun h=>by have:=(UT (s:=⟨tok,fx,gr,lo,hi,dat⟩) hg).1 h;simp only at this;rw[hfe,hq]at this;omega);have d1:decide (lo≤q)=false:=fA c1;exact ae9
 ·have H:=ax (show decide (iD ⟨tok,fx,gr,lo,hi,dat⟩ A)=false from fA fun h=>by have:=(UT (s:=⟨tok,fx,gr,lo,hi,dat⟩) hg).1 h;simp only at this;rw[hfe]at this;exact hm this.2.1);have H2:=ax (show ¬ iD ⟨tok,fx,gr,lo,hi,dat⟩ A by have:=H.out;simpa using this);have z1:((f:Int) % gr !=0)=true:=by rw[bne_iff_ne];exact hm
  clear hg hm;exact ae_
theorem ahM(f:Int→Bool): ∀n i,i<n→Gw f n/2 ^ i % 2=if f i=true then 1 else 0
 |n+1,i,hi=>by
  have hl:=aac f n;rw[Gw];by_cases e:i=n
  ·subst e;have hp:0<2 ^ i:=Nat.two_pow_pos i;by_cases hf:f i=true
   ·rw[if_pos hf,if_pos hf,Nat.add_div_right _ hp,Nat.div_eq_of_lt hl]
   ·rw[if_neg hf,if_neg hf,iV,Nat.div_eq_of_lt hl]
  ·have hin:i<n:=by omega
   rw[←ahM f n i hin];by_cases hf:f n=true
   ·rw[if_pos hf];have h2:2 ^ n=2 ^ i*(2*2 ^ (n -i -1)):=by
     rw[←Nat.pow_succ',←Nat.pow_add];congr 1;omega
    rw[h2,Nat.add_mul_div_left _ _ (Nat.two_pow_pos i),Nat.add_mul_mod_self_left]
   ·rw[if_neg hf,iV]
def BA:ny:=⟨false,[], -1,0,0,0⟩
def yY(k:List ny)(f:Int→Bool):List ny:=k.mapIdx fun(i:Nat) t=>if f i=true then BA else t
def Ah(k:List ny)(f:Int→Bool)(m:Nat):List ny:=k.mapIdx fun(i:Nat) t=>if i<m∧f i=true then BA else t
theorem arE(k:List ny)(f:Int→Bool):Ah k f 0=k:=by
 unfold Ah;apply List.ext_getElem aF;intro i h1 h2;simp
theorem as4(k:List ny)(f:Int→Bool):Ah k f k.length=yY k f:=by
 unfold Ah yY;apply List.ext_getElem aF;intro i h1 h2;have:i<k.length:=by simpa using h1
 simp[this]
theorem auh{k:List ny}{f:Int→Bool}{m:Nat}(h:f m=false):Ah k f (m+1)=Ah k f m:=by
 unfold Ah;apply List.ext_getElem aF;intro i h1 h2;simp only[List.getElem_mapIdx];by_cases e:i=m
 ·subst e;simp[h]
 ·have:(i<m+1)↔i<m:=by omega
  simp[this]
theorem as5{k:List ny}{f:Int→Bool}{m:Nat}(h:f m=true):Ah k f (m+1)=(Ah k f m).set m BA:=by
 unfold Ah;apply List.ext_getElem aF;intro i h1 h2;simp only[List.getElem_mapIdx,List.getElem_set];by_cases e:m=i
 ·subst e;simp[h]
 ·have:(i<m+1)↔i<m:=by omega
  simp[this,e]
def awe(k:List ny)(f:Int→Bool)(n:Nat)(w:ak)(e:Ending)(w':ak):Prop:=
 ∃(xa:az) (xc:Nat) (l2:List Tk),e= .returned (.slice xa n xc)∧Hid (l2.map Tk.key=yY k f)∧Hid (n=l2.length)∧lL w' w.heap.size l2 xa xc∧Below w.heap.size w w'
structure RD(w:ak)(a:az)(l:List Tk)(c:Nat):Prop where
 qG:DY w a l
 nil:a=none→c=0
 sec: ∀t∈l,ai4 t
 n:l.length≤20
theorem RD.below{l:List Tk}(h:RD w a l c)(hb:Below w.heap.size w w'):RD w' a l c:=⟨h.qG.below hb aA,h.nil,h.sec,h.n⟩
def gG(x:Int × Int):aP:= [ae x.1,ae x.2]
theorem mQ(x:Int × Int):(gG x).length=2:=rfl
theorem Va(x:Int × Int): ∀u∈gG x,u.oneCell'=true:=by intro u hu;simp only[gG,List.mem_cons,o_,or_false]at hu;rcases hu with rfl|rfl<;>rfl
theorem ah9(x:Tk): ∀u∈Tk.cells x,u.oneCell'=true:=by intro u hu;simp only[Tk.cells,List.mem_cons,o_,or_false]at hu;rcases hu with rfl|rfl|rfl|rfl|rfl|rfl<;>rfl
theorem Vb(x:Tk):(Tk.cells x).length=6:=rfl
structure Rx where
 num:Int
 sec:aJ
 sa:az
 sc:Nat
 rt:Int
 cl:Int
 lim:aO
 la:az
 lc:Nat
 rq:Int
 se:Int
 ra:Int
 bu:Int
 tk:List Tk
 ta:az
 tc:Nat
 vh:List (Int × Int)
 va:az
 vc:Nat
 lv:Int
structure wP where
 num:Int
 sec:aJ
 rt:Int
 cl:Int
 lim:aO
 rq:Int
 se:Int
 ra:Int
 bu:Int
 tk:List ny
 vh:List (Int × Int)
 lv:Int
def Rx.key(r:Rx):wP:=⟨r.num,r.sec,r.rt,r.cl,r.lim,r.rq,r.se,r.ra,r.bu,r.tk.map Tk.key,r.vh,r.lv⟩
@[reducible] def KR(num:Int)(sa:az)(sn sc:Nat)(rt cl:Int)(la:az)(ln lc:Nat)(rq se ra bu:Int)(ta:az)(tn tc:Nat)(va:az)(vn vc:Nat)(lv:Int):Value:=
 .agg #[ae num,.slice sa sn sc,ae rt,ae cl,.slice la ln lc,ae rq,ae se,ae ra,ae bu,.slice ta tn tc,.slice va vn vc,ae lv,ae ra,ae bu]
@[reducible] def Rx.val(r:Rx):Value:=KR r.num r.sa r.sec.length r.sc r.rt r.cl r.la r.lim.length r.lc r.rq r.se r.ra r.bu r.ta r.tk.length r.tc r.va r.vh.length r.vc r.lv
structure wP.Small(k:wP):Prop where
 sec:k.sec.length≤1000
 lim:k.lim.length≤1000
 tk:k.tk.length≤1000
 qG: ∀t∈k.tk,t.sec.length≤1000
 vh:k.vh.length≤1000
structure y_(w:ak)(r:Rx):Prop where
 sec:Sl w 5 1 r.sa r.sec.length r.sc (r.sec.map a_)
 lim:Sl w 3 1 r.la r.lim.length r.lc (r.lim.map encI)
 tk:Sl w 260 6 r.ta r.tk.length r.tc (gC Tk.cells r.tk)
 qG: ∀t∈r.tk,Sl w 5 1 t.a t.sec.length t.c (t.sec.map a_)
 vh:Sl w 262 2 r.va r.vh.length r.vc (gC gG r.vh)
 sm:r.key.Small
structure iM(w:ak)(B:Nat)(r:Rx):Prop where
 sec:Own w B 5 1 r.sa r.sec.length r.sc (r.sec.map a_)
 lim:Own w B 3 1 r.la r.lim.length r.lc (r.lim.map encI)
 tk:Own w B 260 6 r.ta r.tk.length r.tc (gC Tk.cells r.tk)
 qG: ∀t∈r.tk,Own w B 5 1 t.a t.sec.length t.c (t.sec.map a_)
 vh:Own w B 262 2 r.va r.vh.length r.vc (gC gG r.vh)
theorem iM.g{r:Rx}(h:iM w B r)(hs:r.key.Small):y_ w r:=⟨h.sec.sl,h.lim.sl,h.tk.sl,fun t ht=>(h.qG t ht).sl,h.vh.sl,hs⟩
theorem y_.below{r:Rx}(h:y_ w r)(hb:Below B w w')(hB:w.heap.size≤B):y_ w' r:=⟨h.sec.below hb hB,h.lim.below hb hB,h.tk.below hb hB,fun t ht=>(h.qG t ht).below hb hB,h.vh.below hb hB,h.sm⟩
theorem iM.below{r:Rx}(h:iM w C r)(hb:Below B w w')(hB:w.heap.size≤B):iM w' C r:=⟨h.sec.below hb hB,h.lim.below hb hB,h.tk.below hb hB,fun t ht=>(h.qG t ht).below hb hB,h.vh.below hb hB⟩
theorem iM.mono{r:Rx}(h:iM w B r)(hB:B'≤B):iM w B' r:=⟨h.sec.mono hB,h.lim.mono hB,h.tk.mono hB,fun t ht=>(h.qG t ht).mono hB,h.vh.mono hB⟩
def VY(K:wP)(w:ak)(e:Ending)(w':ak):Prop:= ∃r:Rx,e= .returned r.val∧Hid (r.key=K)∧iM w' w.heap.size r∧Below w.heap.size w w'
theorem afo{P:Prop}(h:P:=by
 (refine nI 10 [([0,1,2,3,4,5,6,7,8],9)] [] bP bP ?_;refine lu ?_);(refine pF ?_;intro K hK)
 go_wp2_with (go_at_call 71;refine(U3 tk[i].a tk[i].sec.length tk[i].c _ _ yZ.drew (Nq _) aj).mono ?_;rintro e w4 ⟨a4,c4,rfl,o4,hb4⟩)
 replace hb4:=jA hb4;refine dS hb4 (hK _ _ ?_);clear hK K;(refine lC ?_);have hd4:=hd.below hb4 (fun x hx=>hx.below hb4 aA);have t4:=hd4.cell Vb hlt 1 ay (v:= .slice tk[i].a tk[i].sec.length tk[i].c) rfl;have tf:=hd4.row.frozen;have tl:g<w4.heap.size:=by have:=hb4.size;omega
 (clear x0 x1 x2 x3 x4 x5 x6 x7 x8 x9 x10 x11 x12 dh xf xl)
 go_wp2_with fail
 go_roundw
 case rel=>exact⟨i+1,_,by go_num,by omega,ax (hd4.step1 Vb hlt ⟨tk[i].us,tk[i].sec,tk[i].par,tk[i].rt,tk[i].cl,tk[i].un,a4,c4⟩ 1 ay _ rfl rfl (fun x hx=>hx.far (p:=⟨g,_,none⟩) (fun e=>hd4.row.Bq hx ay g rfl e) _) (o4.mono br.size))⟩
 case measure=>simp[intOf];omega):P:=h
theorem afp{P:Prop}(h:P:=by
 have q1:=(p1.below hb5 aA);have q2:=(p2.below hb5 aA);have q3:=(o3'.below hb5 aA);have q4:=fun t ht=>(hin t ht).below hb5 aA;have q5:=o5.mono br.size;have nR: ∀{B n c sz:Nat} {e:aK} {a:az} {xs:aP},Own w5 B e sz a n c xs→e≠85→a.map (·.block)≠some R∧a.map (·.block)≠some (R+1):=fun o he=>⟨o.iw kr he,o.iw WR he⟩;refine⟨⟨num,sec,a1,c1,rt,cl,lim,a2,c2,rq,se,ra,bu,l2,a3,c3,vh,a5,c5,lv⟩,by rw[Rx.val,hl2],ax (by simp only[Rx.key,hk]),⟨?_,?_,?_,?_,?_⟩,bel⟩
 ·obtain⟨n1,n2⟩:=nR q1 ay;exact QO
 ·obtain⟨n1,n2⟩:=nR q2 ay;exact QO
 ·rw[hl2];obtain⟨n1,n2⟩:=nR q3 ay;exact QO
 ·intro t ht;have q:=q4 t ht;obtain⟨n1,n2⟩:=nR q ay;exact QO
 ·obtain⟨n1,n2⟩:=nR q5 ay;exact QO):P:=h
theorem anN(r:Rx)(w:ak)(h:y_ w r):aH 128 #[r.val] w (VY r.key w):=by
 obtain⟨num,sec,sa,sc,rt,cl,lim,la,lc,rq,se,ra,bu,tk,ta,tc,vh,va,vc,lv⟩:=r;obtain⟨yZ,hlim,htk,QQ,RF,hsm⟩:=h;simp only at yZ hlim htk QQ RF;obtain⟨s1,s2,s3,s4,s5⟩:=hsm;simp only[Rx.key,g_]at s1 s2 s3 s4 s5
 go_enter func128,ntmps128
 go_upto_region 1 with fail
 obtain⟨R,hR⟩:=aI w.heap.size;refine aW (fun W=>ah W R 85 #[ae num,.slice sa sec.length sc,ae rt,ae cl,.slice la lim.length lc,ae rq,ae se,ae ra,ae bu,.slice ta tk.length tc,.slice va vh.length vc,ae lv,ae ra,ae bu]∧ah W (R+1) 85 #[ae 0,.slice none 0 0,ae 0,ae 0,.slice none 0 0,ae 0,ae 0,ae 0,ae 0,.slice none 0 0,.slice none 0 0,ae 0,ae 0,ae 0]∧Below w.heap.size w W∧R+2≤W.heap.size) ⟨by rw[←hR];exact(ah.new _ _ _).alloc _,by rw[←hR];exact ah.dG _ _ _ _,bel,by simp;omega⟩ ?_;have fQ:w.heap.size≤R:=by omega
 rw[hR];clear hR;rintro W ⟨kR,kZ,be,sz⟩;replace be:=be.mono fQ;(obtain⟨x0,x1,x2,x3,x4,x5,x6,x7,x8,x9,x10,x11,x12,dh,xf,xl⟩:=kR.n14);have z1:=yZ.below be aA
 go_upto_region 2 with((go_at_call 71;refine(U3 sa sec.length sc _ _ z1 (Nq _) aj).mono ?_;rintro e w1 ⟨a1,c1,rfl,o1,hb1⟩;((clear x0 x1 x2 x3 x4 x5 x6 x7 x8 x9 x10 x11 x12 dh xf xl);(replace kR:=kR.below hb1 kR.lt);(obtain⟨x0,x1,x2,x3,x4,x5,x6,x7,x8,x9,x10,x11,x12,dh,xf,xl⟩:=kR.n14))))
 replace kZ:=(kZ.below hb1 aj).far (p:=⟨R,1,none⟩) aF (.slice a1 sec.length c1);have uV:Below w.heap.size w (w1.setCell ⟨R,1,none⟩ (.slice a1 sec.length c1)):=bel;replace o1:=(o1.mono be.size).far (p:=⟨R,1,none⟩) (o1.iw kR ay) (.slice a1 sec.length c1)
 (replace kR:=kR.set 1 (.slice a1 sec.length c1));(simp only[pz,lh,jX]at kR)
 have s0:R+2≤w1.heap.size:=by have:=hb1.size;omega
 clear be hb1 z1;have z2:=hlim.below uV aA
 go_upto_region 3 with((go_at_call 101;refine(Ip la lim.length lc _ _ z2 (Bg _) aj).mono ?_;rintro e w2 ⟨a2,c2,rfl,o2,hb2⟩;((clear x0 x1 x2 x3 x4 x5 x6 x7 x8 x9 x10 x11 x12 dh xf xl);(replace kR:=kR.below hb2 kR.lt);(obtain⟨x0,x1,x2,x3,x4,x5,x6,x7,x8,x9,x10,x11,x12,dh,xf,xl⟩:=kR.n14))))
 replace kZ:=kZ.on hb2 (g':=R) aF 4 (.slice a2 lim.length c2);have nz:Below w.heap.size w (w2.setCell ⟨R,4,none⟩ (.slice a2 lim.length c2)):=bel;replace o1:=o1.on hb2 kR ay 4 (.slice a2 lim.length c2);replace o2:=o2.wK uV.size kR ay 4 (.slice a2 lim.length c2)
 (replace kR:=kR.set 4 (.slice a2 lim.length c2));(simp only[pz,lh,jX]at kR)
 clear hb2 z2 s0;have z3:=htk.below nz aA
 go_upto_region 4 with((go_at_call 157;refine(ahm ta tk.length tc _ _ z3 (wH ah9 _) aj).mono ?_;rintro e w3 ⟨a3,c3,rfl,o3,hb3⟩;((clear x0 x1 x2 x3 x4 x5 x6 x7 x8 x9 x10 x11 x12 dh xf xl);(replace kR:=kR.below hb3 kR.lt);(obtain⟨x0,x1,x2,x3,x4,x5,x6,x7,x8,x9,x10,x11,x12,dh,xf,xl⟩:=kR.n14))))
 replace kZ:=kZ.on hb3 (g':=R) aF 9 (.slice a3 tk.length c3);have zD:Below w.heap.size w (w3.setCell ⟨R,9,none⟩ (.slice a3 tk.length c3)):=bel;replace o1:=o1.on hb3 kR ay 9 (.slice a3 tk.length c3);replace o2:=o2.on hb3 kR ay 9 (.slice a3 tk.length c3);replace o3:=o3.wK nz.size kR ay 9 (.slice a3 tk.length c3)
 (replace kR:=kR.set 9 (.slice a3 tk.length c3));(simp only[pz,lh,jX]at kR)
 clear hb3 z3 uV nz;(clear x0 x1 x2 x3 x4 x5 x6 x7 x8 x9 x10 x11 x12 dh xf xl);obtain⟨V,hV⟩: ∃V,w3.setCell ⟨R,9,none⟩ (.slice a3 tk.length c3)=V:=⟨_,rfl⟩;rw[hV]at kR kZ zD o1 o2 o3⊢;clear hV;(obtain⟨x0,x1,x2,x3,x4,x5,x6,x7,x8,x9,x10,x11,x12,dh,xf,xl⟩:=kR.n14)
 go_wp2_with fail
 go_loopw [23] (fun s23 wr=> ∃(i:Nat) (l2:List Tk),s23=ae i∧i≤tk.length∧Hid (iH Tk.cells (fun W t=>Own W w.heap.size 5 1 t.a t.sec.length t.c (t.sec.map a_)) Tk.key 260 6 V w.heap.size tk a3 tk.length c3 i l2 wr)) (fun s _=>tk.length -(intOf s).toNat)
 case atStart=>exact⟨0,[],rfl,by omega,ax (iH.start o3)⟩
 case round=>
  (clear x0 x1 x2 x3 x4 x5 x6 x7 x8 x9 x10 x11 x12 dh xf xl);obtain⟨i,l2,rfl,hi,HD⟩:=hrel;by_cases hlt:i<tk.length
  ·have hd:=HD.out;obtain⟨g,rfl,gB,gl⟩:=hd.open_ rfl hlt;have hgR:g≠R:=fun e=>(hd.row.iw (g:=R) (t:=85) (kR.aB hd.gr (fun e2=>(o3.iw kR ay) e2)) ay) tN;have kr:=kR.aB hd.gr (fun e2=>(o3.iw kR ay) e2);have br:=zD.aB hd.gr zD.size PV;have yZ:=(QQ _ (bF hlt)).below br aA;have hs6:tk[i].sec.length≤1000:=s4 _ (List.mem_map.2 ⟨_,bF hlt,rfl⟩);have ix:(i:Int)<(tk.length:Int):=by omega
   have t1:=hd.cell Vb hlt 1 ay (v:= .slice tk[i].a tk[i].sec.length tk[i].c) rfl;(obtain⟨x0,x1,x2,x3,x4,x5,x6,x7,x8,x9,x10,x11,x12,dh,xf,xl⟩:=kr.n14);have rR:=fun d os o=>dC wr d os R o xl;have rg:=fun d os o=>dC wr d os g o gl
   go_upto_region 7 with fail
   exact afo
  ·obtain rfl:i=tk.length:=by omega
   obtain⟨hk,hl2,o3',hin⟩:=HD.out.fin rfl;have hgr:=HD.out.gr;have kr:=kR.aB hgr (fun e2=>(o3.iw kR ay) e2);have kz:=kZ.aB hgr (fun e2=>(o3.iw kZ ay) e2);have br:=zD.aB hgr zD.size (fun k hk=>o3.dW k hk);have p1:=o1.aB hgr (fun k hk=>o3.Bq o1 ay k hk);have p2:=o2.aB hgr (fun k hk=>o3.Bq o2 ay k hk);clear HD hgr;(obtain⟨x0,x1,x2,x3,x4,x5,x6,x7,x8,x9,x10,x11,x12,dh,xf,xl⟩:=kr.n14);have z5:=RF.below br aA
   go_wp2_with (go_at_call 158;refine(ahK va vh.length vc _ _ z5 (wH Va _) aj).mono ?_;rintro e w5 ⟨a5,c5,rfl,o5,hb5⟩;((clear x0 x1 x2 x3 x4 x5 x6 x7 x8 x9 x10 x11 x12 dh xf xl);(replace kr:=kr.below hb5 kr.lt);(obtain⟨x0,x1,x2,x3,x4,x5,x6,x7,x8,x9,x10,x11,x12,dh,xf,xl⟩:=kr.n14));(have WR:=kz.below hb5 kz.lt);(obtain⟨y0,y1,y2,y3,y4,y5,y6,y7,y8,y9,y10,y11,WS,y13,yf,yl⟩:=WR.n14))
   refine bodyPost_ret (v:=KR num a1 sec.length c1 rt cl a2 lim.length c2 rq se ra bu a3 tk.length c3 a5 vh.length c5 lv) (by simp[results,results128,go_sem,y0,y1,y2,y3,y4,y5,y6,y7,y8,y9,y10,y11,WS,y13]) rfl ?_;exact afp
theorem aad(x:Rq):(Rq.cells x).length=5:=rfl
theorem auj(x:Rq): ∀u∈Rq.cells x,u.oneCell'=true:=by intro u hu;simp only[Rq.cells,List.mem_cons,o_,or_false]at hu;rcases hu with rfl|rfl|rfl|rfl|rfl<;>rfl
theorem ah_(x:Lg): ∀u∈Lg.cells x,u.oneCell'=true:=by intro u hu;simp only[Lg.cells,List.mem_cons,o_,or_false]at hu;rcases hu with rfl|rfl|rfl|rfl|rfl<;>rfl
structure Dw where
 b:aJ
 a:az
 c:Nat
def Dw.cells(d:Dw):aP:= [.slice d.a d.b.length d.c]
theorem xO(x:Dw):(Dw.cells x).length=1:=rfl
theorem auk(x:Dw): ∀u∈Dw.cells x,u.oneCell'=true:=by intro u hu;simp only[Dw.cells,List.mem_cons,o_,or_false]at hu;rcases hu with rfl;rfl
def uO(b:Bool):Value:= .bool b
theorem as7(l:List Bool): ∀u∈l.map uO,u.oneCell'=true:=by
 exact Yo
structure Dx where
 r:Rx
 rs:List Rq
 qa:az
 qc:Nat
 dr:List Dw
 da:az
 dc:Nat
 au:List Bool
 aa:az
 ac:Nat
structure dY where
 r:wP
 rs:List Rk
 dr:List (aJ)
 au:List Bool
def Dx.key(d:Dx):dY:=⟨d.r.key,d.rs.map Rq.key,d.dr.map Dw.b,d.au⟩
@[reducible] def awS(num:Int)(sa:az)(sn sc:Nat)(rt cl:Int)(la:az)(ln lc:Nat)(rq se ra bu:Int)(ta:az)(tn tc:Nat)(va:az)(vn vc:Nat)(lv:Int)(qa:az)(qn qc:Nat)(da:az)(dn dc:Nat)(aa:az)(an ac:Nat):Value:=
 .agg #[ae num,.slice sa sn sc,ae rt,ae cl,.slice la ln lc,ae rq,ae se,ae ra,ae bu,.slice ta tn tc,.slice va vn vc,ae lv,ae ra,ae bu,.slice qa qn qc,.slice da dn dc,.slice aa an ac]
@[reducible] def Dx.val(d:Dx):Value:=awS d.r.num d.r.sa d.r.sec.length d.r.sc d.r.rt d.r.cl d.r.la d.r.lim.length d.r.lc d.r.rq d.r.se d.r.ra d.r.bu d.r.ta d.r.tk.length d.r.tc d.r.va d.r.vh.length d.r.vc d.r.lv d.qa d.rs.length d.qc d.da d.dr.length d.dc d.aa d.au.length d.ac
def Dx.cells(d:Dx):aP:= [ae d.r.num,.slice d.r.sa d.r.sec.length d.r.sc,ae d.r.rt,ae d.r.cl,.slice d.r.la d.r.lim.length d.r.lc,ae d.r.rq,ae d.r.se,ae d.r.ra,ae d.r.bu,.slice d.r.ta d.r.tk.length d.r.tc,.slice d.r.va d.r.vh.length d.r.vc,ae d.r.lv,ae d.r.ra,ae d.r.bu,.slice d.qa d.rs.length d.qc,.slice d.da d.dr.length d.dc,.slice d.aa d.au.length d.ac]
theorem Bo(x:Dx):(Dx.cells x).length=17:=rfl
theorem aia(x:Dx): ∀u∈Dx.cells x,u.oneCell'=true:=by intro u hu;simp only[Dx.cells,List.mem_cons,o_,or_false]at hu;rcases hu with rfl|rfl|rfl|rfl|rfl|rfl|rfl|rfl|rfl|rfl|rfl|rfl|rfl|rfl|rfl|rfl|rfl<;>rfl
structure dY.Small(k:dY):Prop where
 r:k.r.Small
 rs:k.rs.length≤1000
 lg: ∀x∈k.rs,x.2.2.2.2.length≤1000
 dr:k.dr.length≤1000
 ds: ∀x∈k.dr,x.length≤1000
 au:k.au.length≤1000
structure pq(w:ak)(d:Dx):Prop where
 r:y_ w d.r
 rs:Sl w 139 5 d.qa d.rs.length d.qc (gC Rq.cells d.rs)
 lg: ∀x∈d.rs,Sl w 187 5 x.a x.dH.length x.c (gC Lg.cells x.dH)
 dr:Sl w 30 1 d.da d.dr.length d.dc (gC Dw.cells d.dr)
 ds: ∀x∈d.dr,Sl w 5 1 x.a x.b.length x.c (x.b.map a_)
 au:Sl w 4 1 d.aa d.au.length d.ac (d.au.map uO)
 sm:d.key.Small
structure dZ(w:ak)(B:Nat)(d:Dx):Prop where
 r:iM w B d.r
 rs:Own w B 139 5 d.qa d.rs.length d.qc (gC Rq.cells d.rs)
 lg: ∀x∈d.rs,Own w B 187 5 x.a x.dH.length x.c (gC Lg.cells x.dH)
 dr:Own w B 30 1 d.da d.dr.length d.dc (gC Dw.cells d.dr)
 ds: ∀x∈d.dr,Own w B 5 1 x.a x.b.length x.c (x.b.map a_)
 au:Own w B 4 1 d.aa d.au.length d.ac (d.au.map uO)
section
variable{w w':ak}{B B':Nat}{d:Dx}
theorem dZ.g(h:dZ w B d)(hs:d.key.Small):pq w d:=⟨h.r.g hs.r,h.rs.sl,fun t ht=>(h.lg t ht).sl,h.dr.sl,fun t ht=>(h.ds t ht).sl,h.au.sl,hs⟩
theorem pq.below(h:pq w d)(hb:Below B w w')(hB:w.heap.size≤B):pq w' d:=⟨h.r.below hb hB,h.rs.below hb hB,fun t ht=>(h.lg t ht).below hb hB,h.dr.below hb hB,fun t ht=>(h.ds t ht).below hb hB,h.au.below hb hB,h.sm⟩
theorem dZ.below(h:dZ w C d)(hb:Below B w w')(hB:w.heap.size≤B):dZ w' C d:=⟨h.r.below hb hB,h.rs.below hb hB,fun t ht=>(h.lg t ht).below hb hB,h.dr.below hb hB,fun t ht=>(h.ds t ht).below hb hB,h.au.below hb hB⟩
theorem dZ.mono(h:dZ w B d)(hB:B'≤B):dZ w B' d:=⟨h.r.mono hB,h.rs.mono hB,fun t ht=>(h.lg t ht).mono hB,h.dr.mono hB,fun t ht=>(h.ds t ht).mono hB,h.au.mono hB⟩
end
theorem Own.aG{g:Nat}{cs:aZ}(o:Own w B e sz a n c xs)(hg:w.grownBy w' (some g))(k:ah w g t cs)(hne:e≠t):Own w' B e sz a n c xs:=
 o.aB hg fun x hx=>by injection hx with hx;subst hx;exact o.iw k hne
def NI:List aK:= [5,3,260,262]
def Gq:List aK:= [5,3,260,262,139,187,30,4]
theorem iM.aG{g:Nat}{r:Rx}{cs:aZ}(h:iM w B r)(hg:w.grownBy w' (some g))(k:ah w g t cs)(hne:t ∉ NI):iM w' B r:=
 have ne: ∀e∈NI,e≠t:=fun e he q=>hne (q▸he)
 ⟨h.sec.aG hg k (ne _ ay),h.lim.aG hg k (ne _ ay),h.tk.aG hg k (ne _ ay),fun x hx=>(h.qG x hx).aG hg k (ne _ ay),h.vh.aG hg k (ne _ ay)⟩
theorem dZ.aG{g:Nat}{d:Dx}{cs:aZ}(h:dZ w B d)(hg:w.grownBy w' (some g))(k:ah w g t cs)(hne:t ∉ Gq):dZ w' B d:=
 have ne: ∀e∈Gq,e≠t:=fun e he q=>hne (q▸he)
 ⟨h.r.aG hg k (fun q=>hne agZ),h.rs.aG hg k (ne _ ay),fun x hx=>(h.lg x hx).aG hg k (ne _ ay),h.dr.aG hg k (ne _ ay),fun x hx=>(h.ds x hx).aG hg k (ne _ ay),h.au.aG hg k (ne _ ay)⟩
theorem Own.aC(o:Own w B e sz a n c xs)(hg:w.grownBy w' (xa.map (·.block)))(x:Own w B' t sz' xa n' c' ys)(hne:e≠t):Own w' B e sz a n c xs:=
 o.aB hg fun k hk=>x.Bq o (Ne.symm hne) k hk
theorem iM.aC{r:Rx}(h:iM w B r)(hg:w.grownBy w' (xa.map (·.block)))(x:Own w B' t sz' xa n' c' ys)(hne:t ∉ NI):iM w' B r:=
 have ne: ∀e∈NI,e≠t:=fun e he q=>hne (q▸he)
 ⟨h.sec.aC hg x (ne _ ay),h.lim.aC hg x (ne _ ay),h.tk.aC hg x (ne _ ay),fun y hy=>(h.qG y hy).aC hg x (ne _ ay),h.vh.aC hg x (ne _ ay)⟩
theorem iM.on{g:Nat}{r:Rx}{cs:aZ}(h:iM W B r)(hb:Below W.heap.size W w')(k:ah w' g t cs)(hne:t ∉ NI)(i:Nat)(v:Value):iM (w'.setCell ⟨g,i,none⟩ v) B r:=(h.below hb aA).aG (grownBy_set w' g i v) k hne
theorem ah.aC{g:Nat}{t':aK}{cs:aZ}(k:ah w g t cs)(hg:w.grownBy w' (xa.map (·.block)))(x:Own w B' t' sz' xa n' c' ys)(hne:t'≠t):ah w' g t cs:=k.aB hg (x.iw k hne)
theorem _root_.Go.RowKit.Below.aC{u:ak}{t':aK}(h:Below B u w)(hg:w.grownBy w' (xa.map (·.block)))(x:Own w B' t' sz' xa n' c' ys)(hB:B≤w.heap.size)(hB':B≤B'):Below B u w':=h.aB hg hB fun k hk=>by have:=x.dW k hk;omega
theorem dZ.aC{d:Dx}(h:dZ w B d)(hg:w.grownBy w' (xa.map (·.block)))(x:Own w B' t sz' xa n' c' ys)(hne:t ∉ Gq):dZ w' B d:=
 have ne: ∀e∈Gq,e≠t:=fun e he q=>hne (q▸he)
 ⟨h.r.aC hg x (fun q=>hne agZ),h.rs.aC hg x (ne _ ay),fun y hy=>(h.lg y hy).aC hg x (ne _ ay),h.dr.aC hg x (ne _ ay),fun y hy=>(h.ds y hy).aC hg x (ne _ ay),h.au.aC hg x (ne _ ay)⟩
theorem dZ.on{g:Nat}{r:Dx}{cs:aZ}(h:dZ W B r)(hb:Below W.heap.size W w')(k:ah w' g t cs)(hne:t ∉ Gq)(i:Nat)(v:Value):dZ (w'.setCell ⟨g,i,none⟩ v) B r:=(h.below hb aA).aG (grownBy_set w' g i v) k hne
def VI(K:dY)(w:ak)(e:Ending)(w':ak):Prop:= ∃d:Dx,e= .returned d.val∧Hid (d.key=K)∧dZ w' w.heap.size d∧Below w.heap.size w w'
theorem anC{num:Int}{sa:az}{sc:Nat}{rt cl:Int}{lim:aO}{la:az}{lc:Nat}{rq se ra bu:Int}{tk:List Tk}{ta:az}{tc:Nat}{vh:List (Int × Int)}{va:az}{vc:Nat}{lv:Int}
  (h:y_ w ⟨num,sec,sa,sc,rt,cl,lim,la,lc,rq,se,ra,bu,tk,ta,tc,vh,va,vc,lv⟩):
  aH 128 #[KR num sa sec.length sc rt cl la lim.length lc rq se ra bu ta tk.length tc va vh.length vc lv] w fun e w'=> ∃(sa':az) (sc':Nat) (la':az) (nC:Nat) (wX:List Tk) (ta':az) (qU:Nat) (oK:az) (oO:Nat),
   e= .returned (KR num sa' sec.length sc' rt cl la' lim.length nC rq se ra bu ta' tk.length qU oK vh.length oO lv)∧Hid (wX.map Tk.key=tk.map Tk.key)∧Hid (wX.length=tk.length)∧iM w' w.heap.size ⟨num,sec,sa',sc',rt,cl,lim,la',nC,rq,se,ra,bu,wX,ta',qU,vh,oK,oO,lv⟩∧Below w.heap.size w w':=by
 refine(anN _ w h).mono ?_;rintro e w' ⟨⟨num',awT,sa',sc',Fg,cl',lim',la',nC,rq',se',RG,bu',wX,ta',qU,vh',oK,oO,lv'⟩,rfl,hk,hL,hb⟩;have hk:=hk.out;simp only[Rx.key,wP.mk.injEq]at hk;obtain⟨rfl,rfl,rfl,rfl,rfl,rfl,rfl,rfl,rfl,ht,rfl,rfl⟩:=hk;have hl:wX.length=tk.length:=by have:=congrArg List.length ht;simpa using this
 exact⟨sa',sc',la',nC,wX,ta',qU,oK,oO,by simp only[Rx.val,hl],ax ht,ax hl,hL,hb⟩
theorem gZ:(prog.info? 89).map (·.size)=some 17:=by kernel_rfl
theorem oh:(prog.underlying 89).map TypeDesc.isRow=some true:=by kernel_rfl
theorem apK(d:Dx)(w:ak)(h:pq w d):aH 96 #[d.val] w (VI d.key w):=by
 obtain⟨⟨num,sec,sa,sc,rt,cl,lim,la,lc,rq,se,ra,bu,tk,ta,tc,vh,va,vc,lv⟩,rs,qa,qc,dr,da,dc,au,aa,ac⟩:=d;obtain⟨ajs,hrs,GU,hdr,hds,wY,hsm⟩:=h;simp only at ajs hrs GU hdr hds wY;obtain⟨-,s2,s3,s4,s5,s6⟩:=hsm;simp only[Dx.key,g_]at s2 s3 s4 s5 s6
 go_enter func96,ntmps96
 go_upto_region 1 with fail
 obtain⟨R,hR⟩:=aI w.heap.size;refine aW (fun W=>ah W R 89 #[ae num,.slice sa sec.length sc,ae rt,ae cl,.slice la lim.length lc,ae rq,ae se,ae ra,ae bu,.slice ta tk.length tc,.slice va vh.length vc,ae lv,ae ra,ae bu,.slice qa rs.length qc,.slice da dr.length dc,.slice aa au.length ac]∧ah W (R+1) 89 #[ae 0,.slice none 0 0,ae 0,ae 0,.slice none 0 0,ae 0,ae 0,ae 0,ae 0,.slice none 0 0,.slice none 0 0,ae 0,ae 0,ae 0,.slice none 0 0,.slice none 0 0,.slice none 0 0]∧Below w.heap.size w W∧R+2≤W.heap.size) ⟨by rw[←hR];exact(ah.new _ _ _).alloc _,by rw[←hR];exact ah.dG _ _ _ _,bel,by simp;omega⟩ ?_;have fQ:w.heap.size≤R:=by omega
 rw[hR];clear hR;rintro W ⟨kR,kZ,be,sz⟩;replace be:=be.mono fQ;(obtain⟨x0,x1,x2,x3,x4,x5,x6,x7,x8,x9,x10,x11,x12,dh,x14,x15,x16,xf,xl⟩:=kR.n17);have z1:=ajs.below be aA
 go_upto_region 2 with((go_at_call 128;refine(anC z1).mono ?_;rintro e w1 ⟨sa',sc',la',nC,wX,ta',qU,oK,oO,rfl,hk,hl,oR,hb1⟩;((clear x0 x1 x2 x3 x4 x5 x6 x7 x8 x9 x10 x11 x12 dh x14 x15 x16 xf xl);(replace kR:=kR.below hb1 kR.lt);(obtain⟨x0,x1,x2,x3,x4,x5,x6,x7,x8,x9,x10,x11,x12,dh,x14,x15,x16,xf,xl⟩:=kR.n17))))
 have hzz:=hb1.size;refine aW (fun U=>ah U R 89 #[ae num,.slice sa' sec.length sc',ae rt,ae cl,.slice la' lim.length nC,ae rq,ae se,ae ra,ae bu,.slice ta' tk.length qU,.slice oK vh.length oO,ae lv,ae ra,ae bu,.slice qa rs.length qc,.slice da dr.length dc,.slice aa au.length ac]∧ah U (R+1) 89 #[ae 0,.slice none 0 0,ae 0,ae 0,.slice none 0 0,ae 0,ae 0,ae 0,ae 0,.slice none 0 0,.slice none 0 0,ae 0,ae 0,ae 0,.slice none 0 0,.slice none 0 0,.slice none 0 0]∧iM U w.heap.size ⟨num,sec,sa',sc',rt,cl,lim,la',nC,rq,se,ra,bu,wX,ta',qU,vh,oK,oO,lv⟩∧Below w.heap.size w U) ⟨ah.sets (cs:= [_,_,_,_,_,_,_,_,_,_,_,_,_,_,_,_,_]) [ae num,.slice sa' sec.length sc',ae rt,ae cl,.slice la' lim.length nC,ae rq,ae se,ae ra,ae bu,.slice ta' tk.length qU,.slice oK vh.length oO,ae lv,ae ra,ae bu] 0 kR,(kZ.below hb1 kZ.lt).aB (gm R [ae num,.slice sa' sec.length sc',ae rt,ae cl,.slice la' lim.length nC,ae rq,ae se,ae ra,ae bu,.slice ta' tk.length qU,.slice oK vh.length oO,ae lv,ae ra,ae bu] _ 0) aF,(oR.mono be.size).aG (gm R [ae num,.slice sa' sec.length sc',ae rt,ae cl,.slice la' lim.length nC,ae rq,ae se,ae ra,ae bu,.slice ta' tk.length qU,.slice oK vh.length oO,ae lv,ae ra,ae bu] _ 0) kR ay,bel⟩ ?_;(clear x0 x1 x2 x3 x4 x5 x6 x7 x8 x9 x10 x11 x12 dh x14 x15 x16 xf xl);clear kR kZ be oR hb1 z1 sz hzz;rintro U ⟨kR,kZ,oR,uV⟩;(obtain⟨x0,x1,x2,x3,x4,x5,x6,x7,x8,x9,x10,x11,x12,dh,x14,x15,x16,xf,xl⟩:=kR.n17);have z2:=hrs.below uV aA
 go_upto_region 3 with((go_at_call 129;refine(asU qa rs.length qc _ _ z2 (wH auj _) aj).mono ?_;rintro e w2 ⟨a2,c2,rfl,o2,hb2⟩;((clear x0 x1 x2 x3 x4 x5 x6 x7 x8 x9 x10 x11 x12 dh x14 x15 x16 xf xl);(replace kR:=kR.below hb2 kR.lt);(obtain⟨x0,x1,x2,x3,x4,x5,x6,x7,x8,x9,x10,x11,x12,dh,x14,x15,x16,xf,xl⟩:=kR.n17))))
 replace kZ:=kZ.on hb2 (g':=R) aF 14 (.slice a2 rs.length c2);have nz:Below w.heap.size w (w2.setCell ⟨R,14,none⟩ (.slice a2 rs.length c2)):=bel;replace oR:=oR.on hb2 kR ay 14 (.slice a2 rs.length c2);replace o2:=o2.wK uV.size kR ay 14 (.slice a2 rs.length c2)
 (replace kR:=kR.set 14 (.slice a2 rs.length c2));(simp only[pz,lh,jX]at kR)
 clear hb2 z2 uV;(clear x0 x1 x2 x3 x4 x5 x6 x7 x8 x9 x10 x11 x12 dh x14 x15 x16 xf xl);obtain⟨V,hV⟩: ∃V,w2.setCell ⟨R,14,none⟩ (.slice a2 rs.length c2)=V:=⟨_,rfl⟩;rw[hV]at kR kZ nz oR o2⊢;clear hV;(obtain⟨x0,x1,x2,x3,x4,x5,x6,x7,x8,x9,x10,x11,x12,dh,x14,x15,x16,xf,xl⟩:=kR.n17)
 go_wp2_with fail
 go_loopw [16] (fun s16 wr=> ∃(i:Nat) (l2:List Rq),s16=ae i∧i≤rs.length∧Hid (iH Rq.cells (fun W t=>Own W w.heap.size 187 5 t.a t.dH.length t.c (gC Lg.cells t.dH)) Rq.key 139 5 V w.heap.size rs a2 rs.length c2 i l2 wr)) (fun s _=>rs.length -(intOf s).toNat)
 case atStart=>exact⟨0,[],rfl,by omega,ax (iH.start o2)⟩
 case round=>
  (clear x0 x1 x2 x3 x4 x5 x6 x7 x8 x9 x10 x11 x12 dh x14 x15 x16 xf xl);obtain⟨i,l2,rfl,hi,HD⟩:=hrel;by_cases hlt:i<rs.length
  ·have hd:=HD.out;have kr:=kR.aC hd.gr o2 ay;have br:=nz.aC hd.gr o2 nz.size aA;obtain⟨g,rfl,gB,gl⟩:=hd.open_ rfl hlt;have hgR:g≠R:=fun e=>(hd.row.iw (g:=R) (t:=89) kr ay) tN;have awU:=(GU _ (bF hlt)).below br aA;have hs6:rs[i].dH.length≤1000:=s3 _ (List.mem_map.2 ⟨_,bF hlt,rfl⟩);have ix:(i:Int)<(rs.length:Int):=by omega
   have t1:=hd.cell aad hlt 4 ay (v:= .slice rs[i].a rs[i].dH.length rs[i].c) rfl;(obtain⟨x0,x1,x2,x3,x4,x5,x6,x7,x8,x9,x10,x11,x12,dh,x14,x15,x16,xf,xl⟩:=kr.n17);have rR:=fun d os o=>dC wr d os R o xl;have rg:=fun d os o=>dC wr d os g o gl
   go_upto_region 6 with fail
   (refine nI 10 [([0,1,2,3,4,5,6,7,8],9)] [] bP bP ?_;refine lu ?_);(refine pF ?_;intro K hK)
   go_wp2_with (go_at_call 130;refine(arD rs[i].a rs[i].dH.length rs[i].c _ _ awU.drew (wH ah_ _) aj).mono ?_;rintro e w4 ⟨a4,c4,rfl,o4,hb4⟩)
   replace hb4:=jA hb4;refine dS hb4 (hK _ _ ?_);clear hK K;(refine lC ?_);have hd4:=hd.below hb4 (fun x hx=>hx.below hb4 aA);have t4:=hd4.cell aad hlt 4 ay (v:= .slice rs[i].a rs[i].dH.length rs[i].c) rfl;have tf:=hd4.row.frozen;have tl:g<w4.heap.size:=by have:=hb4.size;omega
   (clear x0 x1 x2 x3 x4 x5 x6 x7 x8 x9 x10 x11 x12 dh x14 x15 x16 xf xl)
   go_wp2_with fail
   go_roundw
   case rel=>exact⟨i+1,_,by go_num,by omega,ax (hd4.step1 aad hlt ⟨rs[i].id,rs[i].jG,rs[i].cls,rs[i].ji,rs[i].dH,a4,c4⟩ 4 ay _ rfl rfl (fun x hx=>hx.far (p:=⟨g,_,none⟩) (fun e=>hd4.row.Bq hx ay g rfl e) _) (o4.mono br.size))⟩
   case measure=>simp[intOf];omega
  ·obtain rfl:i=rs.length:=by omega
   obtain⟨hk2,hl2,o2',hin⟩:=HD.out.fin rfl;have hgr:=HD.out.gr;have kr:=kR.aC hgr o2 ay;have kz:=kZ.aC hgr o2 ay;have br:=nz.aC hgr o2 nz.size aA;have pR:=oR.aC hgr o2 ay;clear HD hgr kR kZ nz oR o2;(obtain⟨x0,x1,x2,x3,x4,x5,x6,x7,x8,x9,x10,x11,x12,dh,x14,x15,x16,xf,xl⟩:=kr.n17);have z5:=hdr.below br aA
   go_upto_region 9 with((go_at_call 131;refine(asT da dr.length dc _ _ z5 (wH auk _) aj).mono ?_;rintro e w5 ⟨a5,c5,rfl,o5,hb5⟩;((clear x0 x1 x2 x3 x4 x5 x6 x7 x8 x9 x10 x11 x12 dh x14 x15 x16 xf xl);(replace kr:=kr.below hb5 kr.lt);(obtain⟨x0,x1,x2,x3,x4,x5,x6,x7,x8,x9,x10,x11,x12,dh,x14,x15,x16,xf,xl⟩:=kr.n17))))
   replace kz:=kz.on hb5 (g':=R) aF 15 (.slice a5 dr.length c5);have GV:Below w.heap.size w (w5.setCell ⟨R,15,none⟩ (.slice a5 dr.length c5)):=bel;replace pR:=pR.on hb5 kr ay 15 (.slice a5 dr.length c5);have p2:=o2'.on hb5 kr ay 15 (.slice a5 dr.length c5);have pin:=fun x hx=>(hin x hx).on hb5 kr ay 15 (.slice a5 dr.length c5);replace o5:=o5.wK br.size kr ay 15 (.slice a5 dr.length c5)
   (replace kr:=kr.set 15 (.slice a5 dr.length c5));(simp only[pz,lh,jX]at kr)
   clear hb5 z5 br o2' hin;(clear x0 x1 x2 x3 x4 x5 x6 x7 x8 x9 x10 x11 x12 dh x14 x15 x16 xf xl);obtain⟨V2,hV⟩: ∃V2,w5.setCell ⟨R,15,none⟩ (.slice a5 dr.length c5)=V2:=⟨_,rfl⟩;rw[hV]at kr kz GV pR p2 pin o5⊢;clear hV;(obtain⟨x0,x1,x2,x3,x4,x5,x6,x7,x8,x9,x10,x11,x12,dh,x14,x15,x16,xf,xl⟩:=kr.n17);obtain⟨rl,hrl⟩:=aI rs.length;have wU:=ax hrl;rw[hrl]at kr p2 x14⊢;clear hrl hlt hi
   go_wp2_with fail
   go_loopw [39] (fun s39 wr=> ∃(i:Nat) (l3:List Dw),s39=ae i∧i≤dr.length∧Hid (iH Dw.cells (fun W t=>Own W w.heap.size 5 1 t.a t.b.length t.c (t.b.map a_)) Dw.b 30 1 V2 w.heap.size dr a5 dr.length c5 i l3 wr)) (fun s _=>dr.length -(intOf s).toNat)
   case atStart=>exact⟨0,[],rfl,by omega,ax (iH.start o5)⟩
   case round=>
    (clear x0 x1 x2 x3 x4 x5 x6 x7 x8 x9 x10 x11 x12 dh x14 x15 x16 xf xl);obtain⟨i,l3,rfl,hi,HD⟩:=hrel;by_cases hlt:i<dr.length
    ·have hd:=HD.out;have kr:=kr.aC hd.gr o5 ay;have br:=GV.aC hd.gr o5 GV.size aA;obtain⟨g,rfl,gB,gl⟩:=hd.open_ rfl hlt;have hgR:g≠R:=fun e=>(hd.row.iw (g:=R) (t:=89) kr ay) tN;have awV:=(hds _ (bF hlt)).below br aA;have hs6:dr[i].b.length≤1000:=s5 _ (List.mem_map.2 ⟨_,bF hlt,rfl⟩);have ix:(i:Int)<(dr.length:Int):=by omega
     have t1:=hd.cell xO hlt 0 ay (v:= .slice dr[i].a dr[i].b.length dr[i].c) rfl;simp only[Nat.mul_one,iV]at t1;(obtain⟨x0,x1,x2,x3,x4,x5,x6,x7,x8,x9,x10,x11,x12,dh,x14,x15,x16,xf,xl⟩:=kr.n17);have rR:=fun d os o=>dC wr d os R o xl;have rg:=fun d os o=>dC wr d os g o gl
     go_upto_region 12 with fail
     (refine nI 9 [([0,1,2,3,4,5,6,7],8)] [] bP bP ?_;refine lu ?_);(refine pF ?_;intro K hK)
     go_wp2_with (go_at_call 71;refine(U3 dr[i].a dr[i].b.length dr[i].c _ _ awV.drew (Nq _) aj).mono ?_;rintro e w4 ⟨a4,c4,rfl,o4,hb4⟩)
     replace hb4:=jA hb4;refine dS hb4 (hK _ _ ?_);clear hK K;(refine lC ?_);have hd4:=hd.below hb4 (fun x hx=>hx.below hb4 aA);have t4:=hd4.cell xO hlt 0 ay (v:= .slice dr[i].a dr[i].b.length dr[i].c) rfl;simp only[Nat.mul_one,iV]at t4;have tf:=hd4.row.frozen;have tl:g<w4.heap.size:=by have:=hb4.size;omega
     (clear x0 x1 x2 x3 x4 x5 x6 x7 x8 x9 x10 x11 x12 dh x14 x15 x16 xf xl)
     go_wp2_with fail
     go_roundw
     case rel=>exact⟨i+1,_,by go_num,by omega,ax (by have hh:=hd4.step1 xO hlt ⟨dr[i].b,a4,c4⟩ 0 ay _ rfl rfl (fun x hx=>hx.far (p:=⟨g,_,none⟩) (fun e=>hd4.row.Bq hx ay g rfl e) _) (o4.mono br.size);simpa only[Nat.mul_one,iV]using hh)⟩
     case measure=>simp[intOf];omega
    ·obtain rfl:i=dr.length:=by omega
     obtain⟨hk3,hl3,o5',awW⟩:=HD.out.fin rfl;have hgr:=HD.out.gr;have kr:=kr.aC hgr o5 ay;have kz:=kz.aC hgr o5 ay;have br:=GV.aC hgr o5 GV.size aA;have pR:=pR.aC hgr o5 ay;have p2:=p2.aC hgr o5 ay;have pin:=fun x hx=>(pin x hx).aC hgr o5 ay;clear HD hgr GV o5;(obtain⟨x0,x1,x2,x3,x4,x5,x6,x7,x8,x9,x10,x11,x12,dh,x14,x15,x16,xf,xl⟩:=kr.n17);have z6:=wY.below br aA
     go_upto_region 15 with((go_at_call 132;refine(aqN aa au.length ac _ _ z6 (as7 _) aj).mono ?_;rintro e w6 ⟨a6,c6,rfl,o6,hb6⟩;((clear x0 x1 x2 x3 x4 x5 x6 x7 x8 x9 x10 x11 x12 dh x14 x15 x16 xf xl);(replace kr:=kr.below hb6 kr.lt);(obtain⟨x0,x1,x2,x3,x4,x5,x6,x7,x8,x9,x10,x11,x12,dh,x14,x15,x16,xf,xl⟩:=kr.n17))))
     replace kz:=kz.on hb6 (g':=R) aF 16 (.slice a6 au.length c6);have bw6:Below w.heap.size w (w6.setCell ⟨R,16,none⟩ (.slice a6 au.length c6)):=bel;replace pR:=pR.on hb6 kr ay 16 (.slice a6 au.length c6);replace p2:=p2.on hb6 kr ay 16 (.slice a6 au.length c6);replace pin:=fun x hx=>(pin x hx).on hb6 kr ay 16 (.slice a6 au.length c6);have p5:=o5'.on hb6 kr ay 16 (.slice a6 au.length c6);have ajt:=fun x hx=>(awW x hx).on hb6 kr ay 16 (.slice a6 au.length c6);replace o6:=o6.wK br.size kr ay 16 (.slice a6 au.length c6)
     (replace kr:=kr.set 16 (.slice a6 au.length c6));(simp only[pz,lh,jX]at kr)
     clear hb6 z6 br;(clear x0 x1 x2 x3 x4 x5 x6 x7 x8 x9 x10 x11 x12 dh x14 x15 x16 xf xl);obtain⟨V3,hV⟩: ∃V3,w6.setCell ⟨R,16,none⟩ (.slice a6 au.length c6)=V3:=⟨_,rfl⟩;rw[hV]at kr kz bw6 pR p2 pin p5 ajt o6⊢;clear hV
     go_wp2_with (first|(refine gy kr oh gZ ?_)|(refine dw #[ae num,.slice sa' sec.length sc',ae rt,ae cl,.slice la' lim.length nC,ae rq,ae se,ae ra,ae bu,.slice ta' tk.length qU,.slice oK vh.length oO,ae lv,ae ra,ae bu,.slice a2 rl c2,.slice a5 dr.length c5,.slice a6 au.length c6] kz gZ ?_;intro W' kw gw zw))
     refine nJ 2 89 results96 rfl kw 17 rfl oh gZ rfl ?_;refine⟨⟨⟨num,sec,sa',sc',rt,cl,lim,la',nC,rq,se,ra,bu,wX,ta',qU,vh,oK,oO,lv⟩,l2,a2,c2,l3,a5,c5,au,a6,c6⟩,by simp only[Dx.val,hl.out,hl2,hl3,wU.out],ax (by simp only[Dx.key,Rx.key,hk.out,hk2,hk3]),⟨pR.aG gw kz ay,?_,fun x hx=>(pin x hx).aG gw kz ay,?_,fun x hx=>(ajt x hx).aG gw kz ay,o6.aG gw kz ay⟩,bw6.aB gw bw6.size bQ⟩
     ·simp only[hl2,wU.out];exact p2.aG gw kz ay
     ·simp only[hl3];exact p5.aG gw kz ay
@[reducible] def KH(sa:az)(sn sc:Nat)(rt cl:Int)(la:az)(ln lc:Nat)(rq se ra bu:Int):Value:= .agg #[.slice sa sn sc,ae rt,ae cl,.slice la ln lc,ae rq,ae se,ae ra,ae bu]
def iZ(sec:aJ)(rt cl:Int):List ny:=⟨true,sec, -1,rt,cl,0⟩::List.replicate 7 BA
def Vy:Tk:=⟨false,[],0,0,0,0,none,0⟩
theorem avn:madeCells (Value.agg #[.bool false,.slice none 0 0,.int .i64 0,.int .i64 0,.int .i64 0,.int .i64 0]).cells 48=(jP (List.replicate 8 Vy)).toArray:=by kernel_rfl
theorem as9{a:Act}{x:Operand}
  (hx:a.eval x= .int .i64 8) (hy:a.eval y= .int .i64 8)
  (h: ∀W B,Hid (B=w.heap.size)→lL W B (List.replicate 8 Vy) (some ⟨B,0,none⟩) 8→Below w.heap.size w W→wpList prog ops Q rest (a.put dst (.slice (some ⟨B,0,none⟩) 8 8)) W):
  wpList prog ops Q ({dst,op:= .makeSlice 80 x y,type:=ty,pos,after,guard:=none}::rest) a w:=by
 obtain⟨i0,hi,hz0,hz1,hz2⟩:=info_parts ahL;have hrun:=run_make (P:=prog) w 80 260 i0 _ underlying80 hi hz0 .i64 .i64 8 8 aj aj JU aj;simp only[hz1]at hrun;have e:(8:Int).toNat*6=48:=by decide
 rw[e,avn]at hrun;refine wpList_plain rfl fun K hK=>?_;unfold Oper.wp;simp only[execOp,hx,hy,Sem.run_bind,Result.andThen_ok,hrun];simp[go_sem];have own:=ah1 w (jP (List.replicate 8 Vy)).toArray 260 6 8 (by simp[MQ]) tK;refine hK _ _ (h _ _ (ax rfl) ⟨by simpa using own,fun t ht=>?_⟩ ((Below.refl _ _).alloc aA _));rw[List.eq_of_mem_replicate ht];exact Own.nil _ _ _ _
theorem lL.aiO{W':ak}{g xc:Nat}{l:List Tk}(h:lL W B l (some ⟨g,0,none⟩) xc)(hg:W'.heap[g]?=W.heap[g]?)(hs: ∀t∈l,∀b,t.a.map (·.block)=some b→W'.heap[b]?=W.heap[b]?):lL W' B l (some ⟨g,0,none⟩) xc:=
 ⟨h.own.keep fun b e _ _=>by injection e with e;injection e with e;subst e;exact hg,fun t ht=>(h.sec t ht).keep fun b e _ _=>hs t ht b tN⟩
theorem arG(sa:az)(sec:aJ)(sn sc:Nat)(rt cl:Int)(la:az)(ln lc:Nat)(rq se ra bu:Int)(w:ak)(hs:bI w sa sec)(hsn:sn=sec.length)(hs9:sn≤100000)(ai5:sa=none→sn=0∧sc=0):
  aH 124 #[KH sa sn sc rt cl la ln lc rq se ra bu] w fun e w'=> ∃(xa:az) (xc:Nat) (l2:List Tk),e= .returned (.slice xa 8 xc)∧Hid (l2.map Tk.key=iZ sec rt cl)∧Hid (8=l2.length)∧lL w' w.heap.size l2 xa xc∧Below w.heap.size w w':=by
 have WY:=ax hsn;have awg:=ax ai5;have HSW:=ax hs;clear hsn ai5
 go_enter func124,ntmps124
 go_upto_region 1 with fail
 obtain⟨V,hV⟩:=aI w.heap.size;refine aW (fun W=>ah W V 32 #[.slice sa sn sc,.int .i64 rt,.int .i64 cl,.slice la ln lc,.int .i64 rq,.int .i64 se,.int .i64 ra,.int .i64 bu]∧bI W sa sec∧Below V w W) ⟨by rw[←hV];exact ah.new _ _ _,Row.alloc hs _,by rw[←hV];exact bel⟩ ?_;have HV:=ax hV;rw[hV];clear hV hs;rintro W ⟨kV,hs,be⟩
 go_wp2_with ((with_reducible refine as9 ?_ ?_ ?_);(focus rfl);(focus rfl);intro W0 g hg il hb0)
 have lK:Below V w W0:=be.trans (hb0.mono (by have:=be.size;have:=HV.out;omega));have kV0:=kV.below hb0 kV.lt;have hVg:V<g:=by have:=kV.lt;have:=hg.out;omega
 clear hg kV hs be hb0
 go_loopw [8] (fun s8 wr=> ∃(i:Nat) (l3:List Tk),s8= .int .i64 i∧i≤8∧Hid (l3.length=8)∧Hid (∀k (h:k<l3.length),k<i→l3[k].key=BA)∧(∀t∈l3,t.a=none)∧lL wr g l3 (some ⟨g,0,none⟩) 8∧ah wr V 32 #[.slice sa sn sc,.int .i64 rt,.int .i64 cl,.slice la ln lc,.int .i64 rq,.int .i64 se,.int .i64 ra,.int .i64 bu]∧Below V w wr∧g<wr.heap.size) (fun s _=>8 -(intOf s).toNat)
 case atStart=>exact⟨0,List.replicate 8 Vy,rfl,by omega,ax aF,ax (fun k _ q=>by omega),fun t ht=>by rw[List.eq_of_mem_replicate ht];rfl,il,kV0,lK,il.own.lt' g rfl⟩
 case round=>
  clear il kV0 lK;obtain⟨i,l3,rfl,hi,h3,hfr,hno,il,kV,be,hgl⟩:=hrel;by_cases hlt:i<8
  ·have kx:(i:Int)<8:=by omega
   have hi3:i<l3.length:=by rw[h3.out];exact hlt
   go_wp2_with (go_at_call 155;refine(agI _).mono ?_;rintro e w4 ⟨rfl,hb4⟩;((have il4:=il.below hb4);(obtain⟨y0,y1,y2,y3,y4,y5,yl⟩:=EC il4.own.row i hi3);(simp only[dX]at y0 y1 y2 y3 y4 y5);(have yf:=il4.own.frozen)))
   have fin:=il4.Qm hi3 ⟨false,[], -1,0,0,0,none,0⟩ (Own.nil _ _ _ _);have hgb:=(((((grownBy_set w4 g (i*6) (.bool false)).trans (grownBy_set _ g (i*6+1) (.slice none 0 0))).trans (grownBy_set _ g (i*6+2) (.int .i64 (-1)))).trans (grownBy_set _ g (i*6+3) (.int .i64 0))).trans (grownBy_set _ g (i*6+4) (.int .i64 0))).trans (grownBy_set _ g (i*6+5) (.int .i64 0));have Ji:=HV.out;have be4:Below V w w4:=be.trans (hb4.mono Bf);have kV4:=(kV.below hb4 kV.lt).grown hgb aj;go_roundw
   case rel=>exact⟨i+1,_,by go_num,by omega,ax (by rw[iQ];exact h3.out),ax (fun k hk q=>by
    by_cases e:k=i
    ·subst e;rw[List.getElem_set_self];rfl
    ·rw[List.getElem_set_ne aj];exact hfr.out k (by simpa using hk) aj),fun t ht=>by
    rcases List.mem_or_eq_of_mem_set ht with q|q
    ·exact hno t q
    ·rw[q],fin,kV4,be4.grown hgb (by have:=be4.size;omega) bQ,by have:=hgb.size;have:=hb4.size;omega⟩
   case measure=>simp[intOf];omega
  ·obtain rfl:i=8:=by omega
   go_upto_region 7 with fail
   have Ji:=HV.out;have hs:bI wr sa sec:=HSW.out.below be aj;have vl:=kV.lt;have h30:0<l3.length:=by rw[h3.out];decide
   have HIL:=ax (il.mono (Nat.le_of_lt hVg));have Au:=ax hno;clear il hno;apply uG [(g,(g+1))] 11 27 [some 16,some 17,some 18,some 19,some 20,some 21,some 22,some 23,some 24,some 25,none] [⟨[11],[],[],[]⟩,⟨[11],[],[],[]⟩,⟨[1,11],[1],[1],[]⟩,⟨[1,2,11],[2],[2],[]⟩,⟨[11],[],[],[]⟩,⟨[4,11],[4],[4],[]⟩,⟨[11],[],[],[]⟩,⟨[6,11],[6],[6],[]⟩,⟨[1,2,3,4,5,6,7,11],[3,5,7],[3,5,7],[]⟩,⟨[0,1,2,3,4,5,6,7,8,11],[0],[0],[]⟩,⟨[0,1,2,3,4,5,6,7,8,9,11],[3,8,9,11],[3,8,9,11],[11]⟩,⟨[],[],[],[]⟩] [0,1,2,3,4,5,6,7,8,9,10] [10] [bC,bC,bC,(fun f lo hi v b0 b1 W=> ∃(ca:az) (cc:Nat),v= .slice ca sn cc∧Own W b0 5 1 ca sn cc (sec.map a_)∧∀y,ca.map (·.block)=some y→y<b1),bC,bC,bC,bC,(fun f lo hi v b0 b1 W=>v= .agg #[.bool true,f 3,.int .i64 (-1),.int .i64 rt,.int .i64 cl,.int .i64 0]),bC,(fun f lo hi v b0 b1 W=> ∃(ca:az) (cc:Nat),(∀y,ca.map (·.block)=some y→lo (3)≤y∧y<hi (3))∧lL W V (l3.set 0 ⟨true,sec, -1,rt,cl,0,ca,cc⟩) (some ⟨g,0,none⟩) 8),(fun f lo hi v b0 b1 W=>(b0=g∧b1=(g+1))∧W.heap[g]?=wr.heap[g]?)] [bG _,bG _,bG _,dM,bG _,bG _,bG _,bG _,dM,bG _,dM]
   ·kernel_rfl
   ·kernel_rfl
   ·rfl
   ·rfl
   rotate_left 2
   refine⟨?pX,?pY,?p_,?qh,?qi,?qj,?qm,?rF,?vN,?xW,?z_,trivial⟩
   all_goals try(intro f lo hi w hb hx hf hk hrg R hR;(try replace hb:=fH.zero hb);(try simp(decide:=true) only[go_sem]at hf hk))
   case hx=>exact⟨⟨by omega,by omega⟩,by simp,trivial⟩
   case hX=>exact⟨fun _ _ _ _=>⟨⟨rfl,rfl⟩,rfl⟩,trivial⟩
   case pX|pY=>go_simp;exact hR _ _ (bK rfl rfl bD rfl)
   case p_=>
    have kk:=hb.blk kV cu;have e0:=kk.cell 0;have hl:=kk.lt;go_simp;exact hR _ _ (bK rfl rfl bD rfl)
   case qh=>
    have hsb:bI w sa sec:=by
     rcases HSW.out with q|⟨b',off',e',hlt',hc'⟩
     ·exact .inl q
     ·exact hs.keep fun b off e hlt=>hb.2.2.2.2 b ⟨hlt,fun r hr=>by
       simp at hr;subst hr;have hbV:b<V:=by
        rw[e]at e';injection e' with e';injection e' with e1 _ _;subst e1;omega
       simp only;omega⟩
    go_simp;refine(Ez sa sn sc sec w hsb WY.out (by have:=WY.out;omega) awg.out).mono ?_;rintro e w' ⟨ca,cc,rfl,own,hb5⟩;exact⟨_,rfl,hR _ _ (iU rfl hb5 ⟨ca,cc,rfl,own,own.lt'⟩)⟩
   case qi=>go_simp;exact hR _ _ (bK rfl rfl bD rfl)
   case qj=>
    have kk:=hb.blk kV cu;have e0:=kk.cell 1;have hl:=kk.lt;go_simp;exact hR _ _ (bK rfl rfl bD rfl)
   case qm=>go_simp;exact hR _ _ (bK rfl rfl bD rfl)
   case rF=>
    have kk:=hb.blk kV cu;have e0:=kk.cell 2;have hl:=kk.lt;go_simp;exact hR _ _ (bK rfl rfl bD rfl)
   case vN=>
    obtain⟨ca,cc,h6, -⟩:=hf;have H6:=ax h6;go_simp;refine hR _ _ (iU rfl bD ?_)
    (try simp(decide:=true) only[go_sem])
    rw[H6.out]
   case xW=>go_simp;exact hR _ _ (bK rfl rfl bD rfl)
   case z_=>
    obtain⟨⟨ca,cc,h6,jK,ajy⟩,h8,hX0,hxw⟩:=hf;have r3:wr.heap.size≤lo 3:=(hrg.out 3 aF).1.resolve_left ay;have OA:Hid (∀y,ca.map (·.block)=some y→lo 3≤y∧y<hi 3):=ax (fun y e=>⟨jK.dW y e,ajy y e⟩);have GZ:lL w V l3 (some ⟨g,0,none⟩) 8:=HIL.out.aiO hxw (fun t ht b q=>by rw[Au.out t ht]at q;cases q);have ow:=jK.mono (base':=V) Bf;have fin:=GZ.Qm h30 ⟨true,sec, -1,rt,cl,0,ca,cc⟩ (by rw[WY.out]at ow;exact ow);rw[show(⟨true,sec, -1,rt,cl,0,ca,cc⟩:Tk).sec.length=sn from WY.out.symm]at fin;simp only[Nat.zero_mul,dX]at fin;obtain⟨y0,y1,y2,y3,y4,y5,yl⟩:=EC GZ.own.row 0 h30;simp only[Nat.zero_mul,dX]at y0 y1 y2 y3 y4 y5;have yf:=GZ.own.frozen;have awX:=ax fin;have H6:=ax h6;rw[h6]at h8;clear fin h6 jK ajy ow GZ r3 hxw;go_simp;refine hR _ _ (vH rfl rfl (A_ ((((((grownBy_set _ g _ _).trans (grownBy_set _ g _ _)).trans (grownBy_set _ g _ _)).trans (grownBy_set _ g _ _)).trans (grownBy_set _ g _ _)).trans (grownBy_set _ g _ _)) (dU.2 rfl) hX0.1 hX0.2) ?_)
    (try simp(decide:=true) only[go_sem])
    exact⟨ca,cc,OA.out,awX.out⟩
   case hcl=>
    refine⟨bH,bH,bH,?awh,bH,bH,bH,bH,?NL,bH,?Vz,?VA,trivial⟩
    ·exact fun f lo hi v b0 b1 w w' h hs hB hown hU hX=>by
      obtain⟨ca,cc,h1,own,lt⟩:=h;exact⟨ca,cc,h1,own.keep fun b hb hl _=>hown b hl (lt b Nj),lt⟩
    ·exact fun _ _ _ _ _ _ _ _ h _ _ _ _ _=>h
    ·exact fun f lo hi v b0 b1 w w' h hs hB hown hU hX=>by
      obtain⟨ca,cc,h1,h2⟩:=h;refine⟨ca,cc,h1,h2.aiO (hX 0 _ rfl aF g aA (rD _)) fun t ht b q=>?_⟩;rcases List.mem_or_eq_of_mem_set ht with e|e
      ·rw[Au.out t e]at q;cases q
      ·rw[e]at q;exact hU 3 aF b (h1 b q).1 (h1 b q).2
    ·exact fun f lo hi v b0 b1 w w' h hs hB hown hU hX=>by
      obtain⟨⟨rfl,rfl⟩,h⟩:=h;exact⟨⟨rfl,rfl⟩,(hown _ aA (rD _)).trans h⟩
   intro f lo hi W7 hbr hx hf hk hrg;(try replace hbr:=fH.zero hbr);clear hx;(try simp(decide:=true) only[go_sem]at hf hk);obtain⟨ca,cc, -,fin⟩:=hf;have hb7:Below V w W7:=⟨hbr.1.trans be.os,hbr.2.1.trans be.tape,hbr.2.2.1.trans be.output,dA be.size hbr.2.2.2.1,fun k hk=>(hbr.2.2.2.2 k ⟨by omega,fun r hr=>by simp at hr;subst hr;simp only;omega⟩).trans (be.block k hk)⟩;have HK:Hid ((l3.set 0 ⟨true,sec, -1,rt,cl,0,ca,cc⟩).map Tk.key=iZ sec rt cl):=ax (by
    apply List.ext_getElem
    ·simp[iZ,h3.out]
    ·intro k k1 k2;have hk3:k<l3.length:=by simpa using k1
     have hk8:k<8:=by rw[←h3.out];exact hk3
     simp only[List.getElem_map];cases k with
     |zero=>rw[List.getElem_set_self];rfl
     |succ k=>
      rw[List.getElem_set_ne aj,hfr.out (k+1) hk3 hk8];show BA=(List.replicate 7 BA)[k]' cu;rw[List.getElem_replicate])
   go_simp;clear hk
   go_wp2_with fail
   go_ret;exact⟨some ⟨g,0,none⟩,8,_,rfl,HK,ax (by rw[iQ];exact h3.out.symm),by rw[Ji];exact fin,by rw[Ji];exact hb7⟩
def tV(p:Ph)(a t:Int):Bool:=
 if a=0 then t==0 else if a=1 then decide (0≤t) && decide (t≤1073741824)else if a=2 then decide (0≤t) && decide (t<p.mV)else if a=3 then decide (0≤t) && decide (t<p.red)else false
theorem arK{p:Ph}{a t:Int}(h:xZ p a t):tV p a t=true:=by
 unfold tV;rcases h with⟨rfl,rfl⟩|⟨rfl,h⟩|⟨rfl,h⟩|⟨rfl,h⟩<;>simp_all
theorem Ie{P:Prop}(h:P:=by
 obtain⟨r,g,mg,xg,y,rd,wk,cl⟩:=p;unfold Ph.agg
 go_enter func231,ntmps231
 go_wp2
 go_ret;exact⟨uH H.out.symm,bel⟩):P:=h
theorem aqQ(p:Ph)(a t:Int)(w:ak):aH 231 #[p.agg,.agg #[ae a,ae t]] w fun e w'=>e= .returned (.bool (tV p a t))∧Below w.heap.size w w':=by
 by_cases c0:a=0
 ·subst c0;have H:=ax (show tV p 0 t=(t==0) from rfl);exact Ie
 have d0:(a==0)=false:=by rw[iL];exact c0
 by_cases c1:a=1
 ·subst c1;by_cases ht:0≤t
  ·have H:=ax (show tV p 1 t=decide (t≤1073741824)by unfold tV;simp[ht]);exact Ie
  ·have ht':t<0:=by omega
   have H:=ax (show tV p 1 t=false by unfold tV;simp[ht]);exact Ie
 have d1:(a==1)=false:=by rw[iL];exact c1
 by_cases c2:a=2
 ·subst c2;by_cases ht:0≤t
  ·have H:=ax (show tV p 2 t=decide (t<p.mV)by unfold tV;simp[ht]);exact Ie
  ·have ht':t<0:=by omega
   have H:=ax (show tV p 2 t=false by unfold tV;simp[ht]);exact Ie
 have d2:(a==2)=false:=by rw[iL];exact c2
 by_cases c3:a=3
 ·subst c3;by_cases ht:0≤t
  ·have H:=ax (show tV p 3 t=decide (t<p.red)by unfold tV;simp[ht]);exact Ie
  ·have ht':t<0:=by omega
   have H:=ax (show tV p 3 t=false by unfold tV;simp[ht]);exact Ie
 ·have d3:(a==3)=false:=by rw[iL];exact c3
  have H:=ax (show tV p a t=false by unfold tV;rw[if_neg c0,if_neg c1,if_neg c2,if_neg c3]);clear c0 c1 c2 c3;exact Ie
theorem auy(l m:aJ):((ByteArray.mk l.toArray).toList==(ByteArray.mk m.toArray).toList)=decide (l=m):=by
 rw[agG,agG];exact(Bool.eq_iff_iff.2 aF)
theorem ao_{m:aJ}{r:Bool}(hq:Hid (decide (l=m)=r))(a b:az)(n1 c1 n2 c2:Nat)(w:ak)(ha:bI w a l)(hb:bI w b m)(h1:n1=l.length)(h2:n2=m.length):
  aH 241 #[.slice a n1 c1,.slice b n2 c2] w fun e w'=>e= .returned (.bool r)∧w=w':=by
 obtain⟨S1,hS1⟩: ∃S,(⟨l.toArray⟩:ByteArray)=S:=⟨_,rfl⟩;obtain⟨S2,hS2⟩: ∃S,(⟨m.toArray⟩:ByteArray)=S:=⟨_,rfl⟩;have kA:(convert 30 9 (.slice a n1 c1)).run prog w= .ok (.string S1) w:=by rw[←hS1];exact ahI ha h1
 have kB:(convert 30 9 (.slice b n2 c2)).run prog w= .ok (.string S2) w:=by rw[←hS2];exact ahI hb h2
 have hs:(S1.toList==S2.toList)=r:=by rw[←hS1,←hS2,auy];exact hq.out
 clear hS1 hS2 h1 h2
 go_enter func241,ntmps241
 go_wp2_with fail
 go_ret;exact⟨rfl,rfl⟩
def uZ(ag s:Int)(sec:aJ):aJ:=UInt8.ofNat (ag % 256).toNat::UInt8.ofNat (s % 256).toNat::sec
theorem byte_of(x:Int):((UInt8.ofNat (x % 256).toNat).toNat:Int)=x % 256:=by
 have h1:=Int.emod_nonneg x (show(256:Int)≠0 by decide);have h2:=Int.emod_lt_of_pos x (show(0:Int)<256 by decide);rw[UInt8.toNat_ofNat'];omega
theorem awj(ag s:Int): [Value.int .u8 (ag % 256),.int .u8 (s % 256)]= [UInt8.ofNat (ag % 256).toNat,UInt8.ofNat (s % 256).toNat].map a_:=by
 simp only[mF,oH,a_];rw[byte_of,byte_of]
theorem apR(ag s:Int)(a:az)(n c:Nat)(sec:aJ)(w:ak)(h:bI w a sec)(hn:n=sec.length)(hs:n≤100000):
  aH 10 #[ae ag,ae s,.slice a n c] w fun e w'=> ∃(xa:az) (N xc:Nat),e= .returned (.slice xa N xc)∧Hid (N=(uZ ag s sec).length)∧N≤100002∧Own w' w.heap.size 5 1 xa N xc ((uZ ag s sec).map a_)∧Below w.heap.size w w':=by
 have HN:=ax hn;clear hn
 go_enter func10,ntmps10
 go_wp2_with ((at_builtin;refine qN rfl _ _ rfl w.heap.size (some ⟨w.heap.size,0,none⟩) 2 2 [UInt8.ofNat (ag % 256).toNat,UInt8.ofNat (s % 256).toNat] rfl a n c sec rfl (ah2 (awj ag s)) (h.alloc _) HN.out (2+n) rfl aj aF ?_;intro b1 cap1 w1 Ae g1 BO;(have uY:=BO w bel)))
 go_ret;exact⟨b1,2+n,cap1,rfl,ax (by rw[HN.out,uZ];simp;omega),by omega,Ae,uY⟩
def Ak(k:List ny)(ag:Int)(b:aJ)(kind now:Int):Int × Int:=
 match b with
 |x::y::sec=>if sec.length=8∧(x.toNat:Int)=ag∧tU k (y.toNat:Int)=true∧decide (sec=(gK k (y.toNat:Int)).sec)=true∧yg (gK k (y.toNat:Int)).un now=false∧xN (gK k (y.toNat:Int)).rt kind=true then((y.toNat:Int),0)else(0,9)
 |_=>(0,9)
theorem auz{k:List ny}{ag:Int}{b:aJ}{kind:Int}(h:b.length≠10):Ak k ag b kind now=(0,9):=by
 unfold Ak
 split
 ·rename_i x y sec;rw[if_neg];rintro⟨h1, -⟩;simp at h;omega
 ·rfl
theorem avr{b:aJ}(h:b.length=10): ∃x y sec,b=x::y::sec∧sec.length=8:=by
 match b,h with
 |x::y::sec,h=>exact⟨x,y,sec,rfl,by simpa using h⟩
section
variable{k:List ny}{ag:Int}{x y:UInt8}{sec:aJ}{kind now:Int}
theorem avs(h: ¬ (x.toNat:Int)=ag):Ak k ag (x::y::sec) kind now=(0,9):=if_neg fun q=>h q.2.1
theorem avt(h:tU k (y.toNat:Int)=false):Ak k ag (x::y::sec) kind now=(0,9):=if_neg fun q=>by rw[h]at q;exact absurd q.2.2.1 ay
theorem auA(h:decide (sec=(gK k (y.toNat:Int)).sec)=false):Ak k ag (x::y::sec) kind now=(0,9):=if_neg fun q=>by rw[h]at q;exact absurd q.2.2.2.1 ay
theorem auB(h:yg (gK k (y.toNat:Int)).un now=true):Ak k ag (x::y::sec) kind now=(0,9):=if_neg fun q=>by rw[h]at q;exact absurd q.2.2.2.2.1 ay
theorem auC(h:xN (gK k (y.toNat:Int)).rt kind=false):Ak k ag (x::y::sec) kind now=(0,9):=if_neg fun q=>by rw[h]at q;exact absurd q.2.2.2.2.2 ay
theorem avu(h0:sec.length=8)(h1:(x.toNat:Int)=ag)(h2:tU k (y.toNat:Int)=true)(h3:decide (sec=(gK k (y.toNat:Int)).sec)=true)(h4:yg (gK k (y.toNat:Int)).un now=false)(h5:xN (gK k (y.toNat:Int)).rt kind=true):Ak k ag (x::y::sec) kind now=((y.toNat:Int),0):=if_pos ⟨h0,h1,h2,h3,h4,h5⟩
end
def ajL(M:Int × Int)(w:ak)(e:Ending)(w':ak):Prop:= ∃i er:Int,e= .returned (.tuple #[ae i,ae er])∧Hid (M=(i,er))∧Below w.heap.size w w'
theorem aeu{us:Bool}{un:Int}{b:Bool}(h:Hid (yg un now=b))(a:az)(n c:Nat)(par rt cl:Int)(w:ak):aH 197 #[VH us a n c par rt cl un,ae now] w fun e w'=>e= .returned (.bool b)∧Below w.heap.size w w':=by
 have:=aoJ us a n c par rt cl un now w;rw[h.out]at this;exact this
theorem afF{l:List Tk}{s:Int}{b:Bool}(h:Hid (tU (l.map Tk.key) s=b))(a:az)(n c:Nat)(w:ak)(ht:DY w a l)(hn:n=l.length):aH 219 #[.slice a n c,ae s] w fun e w'=>e= .returned (.bool b)∧w=w':=by
 have:=Y9 a l n c s w ht hn;rw[h.out]at this;exact this
theorem anS{r k:Int}{b:Bool}(h:Hid (xN r k=b))(w:ak):aH 242 #[ae r,ae k] w fun e w'=>e= .returned (.bool b)∧w=w':=by
 have:=aob r k w;rw[h.out]at this;exact this
theorem aqU{gb ob:Nat}{x y:UInt8}(h:bI w (some ⟨gb,ob,none⟩) (x::y::sec)):w.cell? ⟨gb,ob,none⟩=some (.int .u8 x.toNat)∧w.cell? ⟨gb,ob+1,none⟩=some (.int .u8 y.toNat)∧bI w (some ⟨gb,ob+2,none⟩) sec∧gb<w.heap.size:=by
 have h0:=h.cells 0 aF;have h1:=h.cells 1 aF;refine⟨h0,h1,h.drop 2,?_⟩;rcases h with h|⟨b,off,e,hlt, -⟩
 ·simp at h
 ·injection e with e
  injection e with e _ _
  subst e;exact hlt
theorem YO{P:Prop}(h:P:=by
 refine bodyPost_ret (v:= .tuple #[ae 0,ae 9]) (by first|(simp[results,results220,go_sem];done)|(simp[results,results220,go_sem];rfl)) rfl ?_;exact⟨_,_,rfl,HF,bel⟩):P:=h
theorem apT(a:az)(l:List Tk)(n c:Nat)(ag:Int)(ba:az)(b:aJ)(N bc:Nat)(kind now:Int)(w:ak)(h:DY w a l)(hn:n=l.length)(hb:bI w ba b)(hN:N=b.length)(hc:N≤bc)(hN9:N≤1000000):
  aH 220 #[.slice a n c,ae ag,.slice ba N bc,ae kind,ae now] w (ajL (Ak (l.map Tk.key) ag b kind now) w):=by
 have HN:=ax hn;clear hn;by_cases h10:b.length=10
 ·obtain rfl:N=10:=by omega
  clear hN;obtain⟨x,y,sec,rfl,h8⟩:=avr h10;have H8:=ax h8;have H8':Hid (8=sec.length):=ax h8.symm;clear h10 h8;have c2: ¬ bc=2:=by omega
  obtain⟨gb,ob,rfl⟩: ∃gb ob,ba=some ⟨gb,ob,none⟩:=by
   rcases hb with h0|⟨g,o,e,_⟩
   ·simp at h0
   ·exact⟨g,o,e⟩
  obtain⟨b0,b1,hs,bl⟩:=aqU hb;clear hb;have hx:=x.toNat_lt;have hy:=y.toNat_lt;by_cases hag:(x.toNat:Int)=ag
  ·subst hag;cases hu:tU (l.map Tk.key) (y.toNat:Int)with
   |false=>
    have HF:=ax (avt (ag:=(x.toNat:Int)) (x:=x) (y:=y) (sec:=sec) (kind:=kind) (now:=now) hu);have HU:=ax hu;clear hu;obtain⟨X,hX⟩:=aI x.toNat;obtain⟨Y,hY⟩:=aI y.toNat;rw[hX]at b0 hx HF⊢;rw[hY]at b1 hy HU;clear hX hY
    go_enter func220,ntmps220
    go_wp2_with (go_at_call 219;refine(afF HU a n c _ h HN.out).mono ?_;rintro e wz ⟨rfl,rfl⟩)
    exact YO
   |true=>
    obtain⟨i,ei,hi⟩:=aaI hu;have eiN:y.toNat=i:=by omega
    have HK:Hid (gK (l.map Tk.key) (y.toNat:Int)=l[i].key):=ax (by rw[ei];exact ai3 hi);have HU:=ax hu;clear hu;obtain⟨aa,oa,rfl⟩:=h.open aj;obtain⟨x0,x1,x2,x3,x4,x5,xl⟩:=EC h.row i hi;have hg:=h.sec _ (bF hi);obtain⟨t,ht⟩:=aI (l[i]);rw[ht]at x0 x1 x2 x3 x4 x5 HK hg;clear ht;obtain⟨us,ts,par,rt,cl,un,la,lc⟩:=t;simp only at x0 x1 x2 x3 x4 x5 hg;have jx:(i:Int)<(n:Int):=by rw[HN.out];omega
    obtain⟨q1,hq1⟩: ∃q,decide (sec=ts)=q:=⟨_,rfl⟩;obtain⟨q2,hq2⟩: ∃q,yg un now=q:=⟨_,rfl⟩;obtain⟨q3,hq3⟩: ∃q,xN rt kind=q:=⟨_,rfl⟩;have Q1:=ax hq1;have Q2:=ax hq2;have Q3:=ax hq3;have HF:Hid (Ak (l.map Tk.key) (x.toNat:Int) (x::y::sec) kind now=if q1=true∧q2=false∧q3=true then((i:Int),0)else(0,9)):=ax (by
     have e1:decide (sec=(gK (l.map Tk.key) (y.toNat:Int)).sec)=q1:=by rw[HK.out];exact hq1
     have e2:yg (gK (l.map Tk.key) (y.toNat:Int)).un now=q2:=by rw[HK.out];exact hq2
     have e3:xN (gK (l.map Tk.key) (y.toNat:Int)).rt kind=q3:=by rw[HK.out];exact hq3
     cases q1 with
     | false=>rw[auA e1];rfl
     | true=>
       cases q2 with
       |true=>rw[auB e2];rfl
       |false=>
        cases q3 with
        |false=>rw[auC e3];rfl
        |true=>rw[avu H8.out rfl HU.out e1 e2 e3,ei];rfl)
    clear hq1 hq2 hq3;rw[eiN]at b1 hy HU;clear HK ei eiN;obtain⟨X,hX⟩:=aI x.toNat;rw[hX]at b0 hx HF⊢;clear hX
    go_enter func220,ntmps220
    go_upto_region 7 with((go_at_call 219;refine(afF HU _ n c _ h HN.out).mono ?_;rintro e wz ⟨rfl,rfl⟩))
    obtain⟨X2,hX2⟩: ∃X,w.heap.size=X:=⟨_,rfl⟩;have uY:Below w.heap.size w (w.alloc (.cells #[.bool us,.slice la ts.length lc,ae par,ae rt,ae cl,ae un] 260)):=(Below.refl _ _).alloc aA _;refine aW (fun U=>ah U X2 260 #[.bool us,.slice la ts.length lc,ae par,ae rt,ae cl,ae un]∧bI U la ts∧bI U (some ⟨gb,ob+2,none⟩) sec∧Below w.heap.size w U) ⟨by rw[←hX2];exact ah.new _ _ _,Row.alloc hg _,Row.alloc hs _,uY⟩ ?_;have Xn:=ax hX2;rw[hX2];clear hX2 uY x0 x1 x2 x3 x4 x5 xl hg hs h b0 b1;rintro U ⟨kX,hg,hs,bu⟩;obtain⟨v0,v1,v2,v3,v4,v5,vf,vl⟩:=kX.six;have rr: ∀d os o,(grow (redrawn U d) os).cell? ⟨X2,o,none⟩=U.cell? ⟨X2,o,none⟩:=fun d os o=>dC U d os X2 o vl;have HGs:=ax (fun d os=>hg.below (below_regrown U d os) aA);have Jp:=ax (fun d os=>hs.below (below_regrown U d os) aA);clear hg hs kX vf;cases q1<;>cases q2<;>cases q3<;>
     (
      (refine wp_region_quiet_below bP bP ?_;(repeat(go_big_quiet_step (first|(go_at_call 241;with_reducible exact qg (ao_ Q1 _ _ _ _ _ _ _ (Jp.out _ _) (HGs.out _ _) H8'.out rfl))|(go_at_call 197;with_reducible exact qb (aeu Q2 _ _ _ _ _ _ _))|(go_at_call 242;with_reducible exact qg (anS Q3 _)))));refine wpQuiet_nil ?_;intro wq hwq;have hbq:=TZ hwq;clear hwq)
      go_wp2_with fail
      refine bodyPost_ret (v:= .tuple #[ae _,ae _]) (by simp[results,results220,go_sem];exact⟨rfl,rfl⟩) rfl ?_;exact⟨_,_,rfl,ax (by rw[HF.out];rfl),(by have q:=bu.size;rw[Xn.out]at q⊢;exact bu.trans (hbq.mono q))⟩)
  ·have HF:=ax (avs (k:=l.map Tk.key) (y:=y) (sec:=sec) (kind:=kind) (now:=now) hag);have aw_:((x.toNat:Int)==ag)=false:=by rw[iL];exact hag
   obtain⟨X,hX⟩:=aI x.toNat;rw[hX]at b0 hx aw_;clear hX hag
   go_enter func220,ntmps220
   go_wp2_with fail
   exact YO
 ·have HF:=ax (auz (k:=l.map Tk.key) (ag:=ag) (kind:=kind) (now:=now) h10);have e11: ¬ ((N:Int)=10):=by omega
  clear h10 hN
  go_enter func220,ntmps220
  go_wp2_with fail
  exact YO
theorem awo{a:Act}(hgd:o.guard=none)(s x:Operand)(ho:o.op= .call {callee:= .builtin .append,args:= #[s,x],argTypes:= #[137,137]})
  (base:Nat) (b:az) (n cap:Nat) (k:List Lg) (hs:a.eval s= .slice b n cap) (A:az) (m c:Nat) (l:List Lg) (hx:a.eval x= .slice A m c) (own:Own w base 187 5 b n cap (eQ k)) (hr:Row w A (eQ l)) (hm:m=l.length) (hbase:base≤w.heap.size) (hbig:n+m≤1000000)
  (h: ∀b' cap' w',Own w' base 187 5 b' (n+m) cap' (eQ (k++l))→Grew base w w' b b'→wpList prog ops Q rest (a.put o.dst (.slice b' (n+m) cap')) w'):wpList prog ops Q (o::rest) a w:=by
 obtain⟨i0,hi,hz0,hz1,hz2⟩:=info_parts asC;refine zL _ hgd s x _ ho base _ i0 _ 5 40 underlying137 hi hz0 hz1 hz2 rfl ay b n cap _ hs A m c hx own (eQ l) (by rw[PD,hm]) hr (apB l) tK aj hbase ?_;intro b' cap' w' own' g;exact h b' cap' w' (by rw[aeo];exact own') g
def avv(l:List Lg)(n:Nat)(w:ak)(e:Ending)(w':ak):Prop:= ∃(a':az) (c':Nat),e= .returned (.slice a' n c')∧Own w' w.heap.size 187 5 a' n c' (eQ l)∧Below w.heap.size w w'
theorem atg(a:az)(n c:Nat)(l:List Lg)(w:ak)(hb:Row w a (eQ l))(hn:n=l.length)(hl:n≤100000)(ha:a=none→c=0):
  aH 130 #[.slice a n c] w (avv l n w):=by
 have HN:=ax hn;clear hn;have hnil:=fun(w:ak) (a:az) (n c:Nat)=>Lib.run_eql_slice_nil (P:=prog) w 137 187 a n c 0 0 underlying137;cases a with
 |none=>
  obtain rfl:=ha rfl;have h0:=hb.of_none;have hl0:l= []:=by
   have:=PD l;rw[h0]at this;exact Gp (by simp at this;omega)
  subst hl0;obtain rfl:n=0:=HN.out
  go_enter func130,ntmps130
  go_wp2
  go_ret;exact⟨none,0,rfl,Own.nil _ _ _ _,Below.refl _ _⟩
 |some ad=>
  go_enter func130,ntmps130
  go_wp2_with ((at_builtin;refine awo rfl _ _ rfl w.heap.size (some ⟨w.heap.size,0,none⟩) 0 0 [] rfl (some ad) n c l rfl (Qb _ #[] _ 5 0 rfl (by simp[maxLen])) (hb.alloc _) HN.out aF aj ?_;intro b' cap' w3 jE g3;rw[dX]at jE⊢))
  go_ret;exact⟨_,_,rfl,by simpa using jE,Grew.below (Below.alloc bD aA _) g3 PV⟩
def auG(i v k t:Int)(l:List Lg)(w:ak)(e:Ending)(w':ak):Prop:= ∃(a':az) (n c':Nat),e= .returned (.agg #[ae i,ae v,ae k,ae t,.slice a' n c'])∧Hid (n=l.length)∧Own w' w.heap.size 187 5 a' n c' (eQ l)∧Below w.heap.size w w'
theorem aoN(i v k t:Int)(a:az)(n c:Nat)(l:List Lg)(w:ak)(hb:Row w a (eQ l))(hn:n=l.length)(hl:n≤100000)(ha:a=none→c=0):
  aH 198 #[.agg #[ae i,ae v,ae k,ae t,.slice a n c]] w (auG i v k t l w):=by
 have HN:=ax hn;clear hn
 go_enter func198,ntmps198
 go_upto_region 1 with fail
 refine aW (fun W=>ah W w.heap.size 139 #[ae i,ae v,ae k,ae t,.slice a n c]∧ah W (w.heap.size+1) 139 #[ae 0,ae 0,ae 0,ae 0,.slice none 0 0]∧Row W a (eQ l)∧Below w.heap.size w W∧W.heap.size=w.heap.size+2) ⟨(ah.new _ _ _).alloc _,ah.next _ _ _ _,(hb.alloc _).alloc _,bel,by simp⟩ ?_;obtain⟨V,hV⟩:=aI w.heap.size;rw[hV];clear hb;rintro W ⟨kV,kR,hb,be,hWs⟩;have HWS:=ax hWs;obtain⟨v0,v1,v2,v3,v4,vf,vl⟩:=kV.five;have hWV:V+2≤W.heap.size:=by omega
 clear hWs
 go_upto_region 2 with((go_at_call 130;refine(atg a n c l _ hb HN.out hl ha).mono ?_;rintro e w2 ⟨xa,xc,rfl,own,hb2⟩;((have k2:=kV.below hb2 vl);(have j_:=kR.below hb2 kR.lt);clear v0 v1 v2 v3 v4 vf;(obtain⟨v0,v1,v2,v3,v4,vf,Ru⟩:=k2.five))))
 have hq:xa.map (·.block)≠some V:=fun e=>by have:=own.dW _ e;omega
 refine aW (fun U=>ah U V 139 #[ae i,ae v,ae k,ae t,.slice xa n xc]∧ah U (V+1) 139 #[ae 0,ae 0,ae 0,ae 0,.slice none 0 0]∧Own U W.heap.size 187 5 xa n xc (eQ l)∧Below w.heap.size w U) ⟨k2.set 4 _,j_.far (p:=⟨V,4,none⟩) aF _,own.far (p:=⟨V,4,none⟩) hq _,bel⟩ ?_;clear v0 v1 v2 v3 v4 vf vl Ru k2 j_ own kV kR hb be hb2;rintro U ⟨kV,kR,own,be⟩;obtain⟨v0,v1,v2,v3,v4,vf,vl⟩:=kV.five;obtain⟨r0,r1,r2,r3,r4,rf,rl⟩:=kR.five
 go_wp2_with fail
 refine bodyPost_ret (v:= .agg #[ae i,ae v,ae k,ae t,.slice xa n xc]) (by simp[results,results198,go_sem,r0,r1,r2,r3,r4]) rfl ?_;exact⟨xa,n,xc,rfl,HN,(own.av8 kR ay _ _ _ _ _).mono aj,bel⟩
section
variable{P:Program}{ops:Array Oper}{md:Region.Mode}{D:ak→Prop}
def mover:Op→Bool
 |.move _=>true
 |.assign _=>true
 |.extract _ _=>true
 |_=>false
theorem afL{v:Value}{w1:ak}{u:Value}(h:(Instr.extract v i).run P w= .ok u w1):w1=w∧∀w',(Instr.extract v i).run P w'= .ok u w':=by
 unfold Instr.extract at*
 split at h
 ·split at h
  ·simp[Sem.run_pure]at h;obtain⟨rfl,rfl⟩:=h;exact⟨rfl,fun _=>by simp[Sem.run_pure]⟩
  ·simp at h
 ·simp at h
theorem aph{a:Act}(hO: ¬ LetsOut Q)(hQ: ∀c a w,¬ Q (.panic c) a w)(hm:mover o.op=true)(h:wpList P ops Q (o::rest) a w): ∃v,Yields P ops o v a∧wpList P ops Q rest (a.put o.dst v) w:=by
 unfold wpList at h;by_cases hw:Region.wanted o (yielded ops a.tmps)=true
 ·simp only[hw,if_true]at h;replace h:=h.resolve_right fun q=>hO q.2;obtain⟨dst,op,ty,pos,after,guard⟩:=o;simp only at hm;cases op with
  |move x=>exact⟨a.eval x,.inl ⟨hw,fun w'=>rfl⟩,by simpa [Oper.wp,execOp,Sem.run_pure,Oper.upon]using h⟩
  |assign x=>exact⟨a.eval x,.inl ⟨hw,fun w'=>rfl⟩,by simpa [Oper.wp,execOp,Sem.run_pure,Oper.upon]using h⟩
  |extract x i=>
   unfold Oper.wp execOp at h;simp only[Sem.run_bind]at h;cases hr:(Instr.extract (a.eval x) i).run P w with
   |ok u w1=>
    obtain⟨rfl,h2⟩:=afL hr;rw[hr]at h;simp only[Result.andThen,Sem.run_pure,Oper.upon]at h;refine⟨u,.inl ⟨hw,fun w'=>?_⟩,h⟩;unfold execOp;simp only[Sem.run_bind,h2 w',Result.andThen,Sem.run_pure]
   |halt y w1=>
    rw[hr]at h;simp only[Result.andThen,Oper.upon]at h;cases y<;>simp only at h
    all_goals first
     |exact h.elim
     |exact absurd h (hQ _ _ _)
  |_=>cases hm
 ·simp only[hw]at h;exact⟨undef,.inr ⟨by simpa using hw,rfl⟩,h⟩
theorem afM{P:Prop}(h:P:=by
 simp only[execOp,Sem.run_pure,Result.ok.injEq,Next.value.injEq,reduceCtorEq,false_and,or_false,and_true]at h⊢;exact h):P:=h
theorem arS{v:Value}{a:Act}(hm:mover o.op=true)(hD:D w)(h:vJ P ops D o v a):Yields P ops o v a:=by
 rcases h with⟨hw,h⟩|h
 ·refine .inl ⟨hw,fun w'=>?_⟩;have h:=h w hD;obtain⟨dst,op,ty,pos,after,guard⟩:=o;simp only at hm;cases op with
  |move x=>
   exact afM
  |assign x=>
   exact afM
  |extract x i=>
   unfold execOp at*;simp only[Sem.run_bind]at*;cases hr:(Instr.extract (a.eval x) i).run P w with
   |ok u w1=>
    obtain⟨rfl,h2⟩:=afL hr;rw[hr]at h;simp only[Result.andThen,Sem.run_pure,Result.ok.injEq,Next.value.injEq,reduceCtorEq,false_and,or_false,and_true]at h;simp only[h2 w',Result.andThen,Sem.run_pure,h]
   |halt y w1=>rw[hr]at h;simp[Result.andThen]at h
  |_=>cases hm
 ·exact .inr h
def Hf(S:b_)(D:ak→Prop)(listed:Array Bool)(w:ak):Prop:=(∀s∈S,listed.getD s false=false)→D w
def Dn(P:Program)(md:Region.Mode)(ops:Array Oper)(Q:dR)(S:b_)(D:ak→Prop):Nat→Array Bool→Act→ak→Prop
 |0,listed,a,w=>Region.ready md ops listed= []∧Q .normal a w
 |f+1,listed,a,w=>Region.ready md ops listed≠ []∧∀i∈Region.ready md ops listed,wpOp P ops Q i (fun a' w'=>Hf S D (listed.setIfInBounds i true) w'∧Dn P md ops Q S D f (listed.setIfInBounds i true) a' w') a w
theorem PO: ∀(f:Nat) (listed:Array Bool) (a:Act) (w:ak),Dn P md ops Q S D f listed a w→wpAny P md ops Q f listed a w
 |0,_,_,_,h=>h
 |f+1,listed,a,w,h=>⟨fun h0=>absurd h0 h.1,fun i hi=>wpOp_mono (fun a' w' h'=>PO f _ a' w' h'.2) (h.2 i hi)⟩
theorem CY(h:i∈Region.ready md ops listed):i<ops.size:=by
 obtain⟨_,o,ho,_⟩:=mem_ready.1 h;exact(lX.1 ho).1
theorem Hf.set(h:Hf S D listed w)(hi:i ∉ S):Hf S D (listed.setIfInBounds i true) w:=fun hs=>h fun s hs'=>by
 have:=hs s hs'
 rwa [getD_set_ne false (show i≠s from fun e=>hi (by rw[e];exact hs'))]at this
theorem Yk(hQ: ∀c a w,¬ Q (.panic c) a w){Dv:ak→Prop}{oi:Oper}{v:Value}(hi:ops[i]?=some oi)(hsel: ∀(j:Nat) (o:Oper) cs b,ops[j]?=some o→o.op≠ .select cs b)(AO:i ∉ S)
  (hDv: ∀listed w,HeadInv md ops ops.size listed→listed.getD i true=false→Hf S D listed w→Dv w):
  ∀(f:Nat) (listed:Array Bool) (a:Act) (w:ak),Hf S D listed w→HeadInv md ops ops.size listed→
   (∀j oj,ops[j]?=some oj→j≠i→listed.getD j true=false→(∀e∈oj.after,Region.binds md e=true→e.on≠i)→oi.apart ops oj=true)→
   i∈Region.ready md ops listed→vJ P ops Dv oi v a→
   Dn P md ops Q S D f (listed.setIfInBounds i true) (a.put oi.dst v) w→Dn P md ops Q S D (f+1) listed a w:=by
 intro f
 induction f with
 |zero=>
  intro listed a w hD inv _ hr hy H;have hun:=(mem_ready.1 hr).1;refine⟨fun h=>UI,fun j hj=>?_⟩;by_cases hji:j=i
  ·subst hji;exact hy.wpOp hi (hDv _ _ inv hun hD) ⟨hD.set AO,H⟩
  ·have:=ready_mono hj hji;rw[H.1]at this;cases this
 |succ f ih=>
  intro listed a w hD inv hfree hr hy H;have hun:=(mem_ready.1 hr).1;refine⟨fun h=>UI,fun j hj=>?_⟩;by_cases hji:j=i
  ·subst hji;exact hy.wpOp hi (hDv _ _ inv hun hD) ⟨hD.set AO,H⟩
  ·have h1:=H.2 j (ready_mono hj hji);obtain⟨hjun,oj,hoj,hall⟩:=mem_ready.1 hj;have hnot: ∀e∈oj.after,Region.binds md e=true→e.on≠i:=fun e he hb heq=>by
    have h1:=hall e he hb;rw[heq,getD_both hun]at h1;cases h1
   have h2:=ahl hoj (hfree j oj hoj hji hjun hnot) (fun cs b=>hsel i oi cs b hi) (fun cs b=>hsel j oj cs b hoj) (fun c a w hq=>(hQ _ _ _ hq).elim) hy h1;have hfree': ∀k ok,ops[k]?=some ok→k≠i→(listed.setIfInBounds j true).getD k true=false→
     (∀e∈ok.after,Region.binds md e=true→e.on≠i)→oi.apart ops ok=true:=fun k ok hk hki hun hno=>by
    refine hfree k ok hk hki ?_ hno;by_cases hjk:j=k
    ·subst hjk;exact hjun
    ·rw[getD_set_ne true hjk]at hun;exact hun
   refine wpOp_mono (fun a' w' h3=>?_) h2;have hd:Hf S D (listed.setIfInBounds j true) w':=fun hs=>h3.2.1 fun s hs'=>by
    rw[Array.setIfInBounds_comm _ _ (Ne.symm hji),getD_set_ne false (show i≠s from fun e=>AO (by rw[e];exact hs'))];exact hs s hs'
   refine⟨hd,ih (listed.setIfInBounds j true) a' w' hd (inv.set hj (CY hj)) hfree' (ready_mono hr (Ne.symm hji)) h3.1 ?_⟩;rw[Array.setIfInBounds_comm _ _ hji];exact h3.2.2
def Qr(md:Region.Mode)(ops:Array Oper)(s:Nat):Nat→b_→Bool
 |i,[]=>Region.waitsFor md ops s i
 |i,j::p=>Region.waitsFor md ops j i && Qr md ops s j p
theorem arT{s:Nat}(inv:HeadInv md ops ops.size listed): ∀(p:b_) (i:Nat),Qr md ops s i p=true→listed.getD i true=false→listed.getD s false=false:=by
 have step: ∀j i,Region.waitsFor md ops j i=true→listed.getD i true=false→listed.getD j false=false:=fun j i hw hu=>by
  obtain⟨oj,hoj,e,he,hb,hon⟩:=Region.waitsFor_spec hw;cases hl:listed.getD j false with
  |false=>rfl
  |true=>
   have:=inv.closed j oj hoj hl e he hb;rw[hon,getD_both hu]at this;cases this
 intro p
 induction p with
 |nil=>intro i h hu;exact step s i h hu
 |cons j p ih=>
  intro i h hu;simp only[Qr,Bool.and_eq_true]at h;have h1:=step j i h.1 hu;have hj:j<listed.size:=by
   rw[inv.size];obtain⟨oj,hoj,_⟩:=Region.waitsFor_spec h.1;exact(lX.1 hoj).1
  exact ih j h.2 (getD_in hj h1)
def Ew(md:Region.Mode)(ops:Array Oper)(s:Nat)(S:b_):Bool:=S.contains s && S.all fun t=>t==s||Region.waitsFor md ops t s
theorem arU{s:Nat}(inv:HeadInv md ops ops.size listed)(hS:Ew md ops s S=true)(hs:listed.getD s false=false)(hsz:s<ops.size): ∀t∈S,listed.getD t false=false:=fun t ht=>by
 simp only[Ew,Bool.and_eq_true]at hS;have:=List.all_eq_true.1 hS.2 t ht;simp only[Bool.or_eq_true,beq_iff_eq]at this;rcases this with e|hw
 ·rw[e];exact hs
 ·obtain⟨oj,hoj,e,he,hb,hon⟩:=Region.waitsFor_spec hw;cases hl:listed.getD t false with
  |false=>rfl
  |true=>
   have:=inv.closed t oj hoj hl e he hb;rw[hon,hs]at this;cases this
def aij(md:Region.Mode)(ops:Array Oper)(s:Nat)(S:b_)(i:Nat)(p:b_)(L:Array Bool):Bool:=
 (Region.ready md ops L).contains i && Region.free md ops L i && ((ops[i]?).map fun o=>Bi o.op).getD false && !S.contains i && (((ops[i]?).map fun o=>mover o.op).getD false||Qr md ops s i p)
def II(md:Region.Mode)(ops:Array Oper)(s:Nat)(S:b_)(k:Array Bool→Bool):List (Nat × b_)→Array Bool→Bool
 |[],L=>k L
 |i::st,L=>aij md ops s S i.1 i.2 L && II md ops s S k st (L.setIfInBounds i.1 true)
def KJ(md:Region.Mode)(ops:Array Oper)(S:b_):b_→Array Bool→Bool
 |[],L=>(Region.ready md ops L).isEmpty
 |i::r,L=>(decide (Region.ready md ops L= [i])||((Region.ready md ops L).contains i && Region.free md ops L i && ((ops[i]?).map fun o=>mover o.op).getD false && !S.contains i)) && KJ md ops S r (L.setIfInBounds i true)
def QE(md:Region.Mode)(ops:Array Oper)(s:Nat)(S tl:b_)(fin:List (Nat × b_)):List (List (Nat × b_) × Nat)→Array Bool→Bool
 |[],L=>II md ops s S (fun L'=>decide (Region.ready md ops L'= [s]) && KJ md ops S tl (L'.setIfInBounds s true)) fin L|(st,k)::r,L=>II md ops s S (fun L'=>decide (Region.ready md ops L'= [k]) && !S.contains k && QE md ops s S tl fin r (L'.setIfInBounds k true)) st L
def I_(fin:List (Nat × b_))(m:Nat):List (List (Nat × b_) × Nat)→Nat
 |[]=>fin.length+m|(st,_)::r=>st.length+1+I_ fin m r
def V9(md:Region.Mode)(ops:Array Oper)(s:Nat)(S tl:b_)(fin:List (Nat × b_))(jh:List (List (Nat × b_) × Nat)):Bool:=
 Region.noSelect ops && decide (s<ops.size) && Ew md ops s S && decide (I_ fin (tl.length+1) jh=ops.size) && (tl.all fun i=>decide (i<ops.size)) && QE md ops s S tl fin jh (Array.replicate ops.size false)
theorem YS(hO: ¬ LetsOut Q)(hQ: ∀c a w,¬ Q (.panic c) a w){l:List Oper}(hsel:Region.noSelect l.toArray=true){s:Nat}(hsS:s∈S): ∀(tl:b_) (listed:Array Bool) (a:Act) (w:ak),(∀i∈tl,i<l.length)→
  listed.getD s false=true→HeadInv md l.toArray l.toArray.size listed→KJ md l.toArray S tl listed=true→wpList P l.toArray Q (dV l tl) a w→Dn P md l.toArray Q S D tl.length listed a w
 |[],_,_,_,_,_,_,hB,h=>⟨by simpa [KJ]using hB,h⟩
 |i::r,listed,a,w,hb,hs,inv,hB,h=>by
  have hil:=hb i List.mem_cons_self;have h0:l.toArray[i]?=some l[i]:=by simp[hil]
  have hg:l.getD i default=l[i]:=by simp[eG,hil]
  have h:wpList P l.toArray Q (l[i]::dV l r) a w:=by rw[←hg];exact h
  have vac: ∀L:Array Bool,L.getD s false=true→∀w',Hf S D L w':=fun L hL w' q=>by have:=q s hsS;rw[hL]at this;cases this
  simp only[KJ,Bool.and_eq_true,Bool.or_eq_true,decide_eq_true_eq]at hB;obtain⟨hB1,hB2⟩:=hB;rcases hB1 with hB1|hB1
  ·have BN:i∈Region.ready md l.toArray listed:=by rw[hB1];simp
   refine⟨by rw[hB1];simp,fun j hj=>?_⟩;rw[hB1]at hj;obtain rfl:j=i:=by simpa using hj
   have hw:wpOp P l.toArray Q j (wpList P l.toArray Q (dV l r)) a w:=by unfold wpOp;simp only[h0];exact h
   exact wpOp_mono (fun a' w' h'=>⟨vac _ (getD_set_true hs) w',YS hO hQ hsel hsS r _ a' w' (fun k hk=>hb k (List.mem_cons_of_mem _ hk)) (getD_set_true hs) (inv.set BN (by simpa using hil)) hB2 h'⟩) hw
  ·obtain⟨⟨⟨hr,hf⟩,hm⟩,KX⟩:=hB1;have AO:i ∉ S:=by simpa using KX
   rw[h0]at hm;have BN:i∈Region.ready md l.toArray listed:=by simpa using hr
   obtain⟨v,hy,h2⟩:=aph hO hQ (by simpa using hm) h;have hy':vJ P l.toArray (fun _=>True) l[i] v a:=by
    rcases hy with⟨hw,q⟩|q
    ·exact .inl ⟨hw,fun w' _=> .inl (q w')⟩
    ·exact .inr q
   exact Yk hQ h0 (Region.noSelect_spec hsel) AO (fun _ _ _ _ _=>trivial) _ listed a w (vac _ hs w) inv (Region.free_spec h0 hf) BN hy' (YS hO hQ hsel hsS r _ _ w (fun k hk=>hb k (List.mem_cons_of_mem _ hk)) (getD_set_true hs) (inv.set BN (by simpa using hil)) hB2 h2)
theorem Pq(hQ: ∀c a w,¬ Q (.panic c) a w){l:List Oper}(hsel:Region.noSelect l.toArray=true){s:Nat}(hS:Ew md l.toArray s S=true)(hsz:s<l.toArray.size)
  {k:Array Bool→Bool} {K:Act→Prop} {f:Nat}  (hD:D w) (hK: ∀listed a,k listed=true→HeadInv md l.toArray l.toArray.size listed→(∀t∈S,listed.getD t false=false)→K a→Dn P md l.toArray Q S D f listed a w):
  ∀(st:List (Nat × b_)) (listed:Array Bool) (a:Act),HeadInv md l.toArray l.toArray.size listed→(∀t∈S,listed.getD t false=false)→II md l.toArray s S k st listed=true→wpQuiet P l.toArray D K (dV l (st.map Prod.fst)) a→Dn P md l.toArray Q S D (st.length+f) listed a w
 |[],listed,a,inv,hun,hB,h=>by rw[List.length_nil,dX];exact hK _ _ hB inv hun h|(i,p)::st,listed,a,inv,hun,hB,h=>by
  simp only[II,aij,Bool.and_eq_true]at hB;obtain⟨⟨⟨⟨⟨hr,hf⟩,hp⟩,KX⟩,hmp⟩,hB'⟩:=hB;have AO:i ∉ S:=by simpa using KX
  have hr':i∈Region.ready md l.toArray listed:=by simpa using hr
  have hil:i<l.length:=by have:=CY hr';simpa using this
  have h0:l.toArray[i]?=some l[i]:=by simp[hil]
  have hg:l.getD i default=l[i]:=by simp[eG,hil]
  rw[h0]at hp hmp;have h:wpQuiet P l.toArray D K (l[i]::dV l (st.map Prod.fst)) a:=by rw[←hg];exact h
  obtain⟨v,hy,hK'⟩:=aeh (P:=P) (ops:=l.toArray) (D:=D) (o:=l[i]) (a:=a) (K:=wpQuiet P l.toArray D K (dV l (st.map Prod.fst))) (by simpa using hp) h;rw[show((i,p)::st).length+f=(st.length+f)+1 by simp;omega];have hrest:=Pq hQ hsel hS hsz hD hK st (listed.setIfInBounds i true) (a.put (l[i]).dst v) (inv.set hr' (CY hr')) (fun t ht=>by rw[getD_set_ne false (show i≠t from fun e=>AO Nb)];exact hun t ht) hB' hK';by_cases hm:mover (l[i]).op=true
  ·have hy':vJ P l.toArray (fun _=>True) l[i] v a:=by
    rcases arS hm hD hy with⟨hw,q⟩|q
    ·exact .inl ⟨hw,fun w' _=> .inl (q w')⟩
    ·exact .inr q
   exact Yk hQ h0 (Region.noSelect_spec hsel) AO (fun _ _ _ _ _=>trivial) _ listed a w (fun _=>hD) inv (Region.free_spec h0 hf) hr' hy' hrest
  ·have awq:Qr md l.toArray s i p=true:=by simpa [hm]using hmp
   exact Yk hQ h0 (Region.noSelect_spec hsel) AO (fun L w' Af hu hDL=>hDL (arU Af hS (arT Af p i awq hu) hsz)) _ listed a w (fun _=>hD) inv (Region.free_spec h0 hf) hr' hy hrest
theorem Us(hO: ¬ LetsOut Q)(hQ: ∀c a w,¬ Q (.panic c) a w){l:List Oper}(hsel:Region.noSelect l.toArray=true){s:Nat}(hS:Ew md l.toArray s S=true)(hsz:s<l.toArray.size)(tl:b_)(htl: ∀i∈tl,i<l.length)(fin:List (Nat × b_)):
  ∀(jh:List (List (Nat × b_) × Nat)) (listed:Array Bool) (a:Act) (w:ak),D w→HeadInv md l.toArray l.toArray.size listed→(∀t∈S,listed.getD t false=false)→QE md l.toArray s S tl fin jh listed=true→
   yX P l.toArray D (fun a' w'=>wpList P l.toArray Q (l.getD s default::dV l tl) a' w') (dV l (fin.map Prod.fst)) (jh.map fun q=>(dV l (q.1.map Prod.fst),l.getD q.2 default)) a w→Dn P md l.toArray Q S D (I_ fin (tl.length+1) jh) listed a w
 |[],listed,a,w,hD,inv,hun,hB,h=>by
  have hsS:s∈S:=by simp only[Ew,Bool.and_eq_true]at hS;simpa using hS.1
  exact Pq (f:=tl.length+1) hQ hsel hS hsz hD (k:=fun L'=>decide (Region.ready md l.toArray L'= [s]) && KJ md l.toArray S tl (L'.setIfInBounds s true)) (K:=fun a'=>wpList P l.toArray Q (l.getD s default::dV l tl) a' w)
   (fun listed' a' hk Af hun' hK=>by
    simp only[Bool.and_eq_true,decide_eq_true_eq]at hk;obtain⟨hr,ht⟩:=hk;have hrs:s∈Region.ready md l.toArray listed':=by rw[hr];simp
    have hil:s<l.length:=by simpa using hsz
    have h0:l.toArray[s]?=some l[s]:=by simp[hil]
    have hg:l.getD s default=l[s]:=by simp[eG,hil]
    rw[hg]at hK;refine⟨by rw[hr];simp,fun j hj=>?_⟩;rw[hr]at hj;obtain rfl:j=s:=by simpa using hj
    have hw:wpOp P l.toArray Q j (wpList P l.toArray Q (dV l tl)) a' w:=by unfold wpOp;simp only[h0];exact hK
    have hset:(listed'.setIfInBounds j true).getD j false=true:=by
     have:j<listed'.size:=by rw[Af.size];exact hsz
     simp[this]
    exact wpOp_mono (fun a2 w2 h2=>⟨fun q=>absurd (q j hsS) (by rw[hset];simp),YS hO hQ hsel hsS tl _ a2 w2 htl hset (Af.set hrs hsz) ht h2⟩) hw) fin listed a inv hun hB h|(st,k)::r,listed,a,w,hD,inv,hun,hB,h=>by
  have:=Pq (f:=1+I_ fin (tl.length+1) r) hQ hsel hS hsz hD (k:=fun L'=>decide (Region.ready md l.toArray L'= [k]) && !S.contains k && QE md l.toArray s S tl fin r (L'.setIfInBounds k true))
   (K:=fun a'=>wpList P l.toArray (mZ D (yX P l.toArray D (fun a' w'=>wpList P l.toArray Q (l.getD s default::dV l tl) a' w') (dV l (fin.map Prod.fst)) (r.map fun q=>(dV l (q.1.map Prod.fst),l.getD q.2 default)))) [l.getD k default] a' w)
   (fun listed' a' hk Af hun' hK=>by
    simp only[Bool.and_eq_true,decide_eq_true_eq]at hk;obtain⟨⟨hr,aba⟩,hgo⟩:=hk;have FM:k ∉ S:=by simpa using aba
    have hrk:k∈Region.ready md l.toArray listed':=by rw[hr];simp
    have QU:=CY hrk;have hil:k<l.length:=by simpa using QU
    have h0:l.toArray[k]?=some l[k]:=by simp[hil]
    have hg:l.getD k default=l[k]:=by simp[eG,hil]
    rw[hg]at hK;rw[Nat.add_comm 1];refine⟨by rw[hr];simp,fun i hi=>?_⟩;rw[hr]at hi;obtain rfl:i=k:=by simpa using hi
    refine wpOp_mono (fun a2 w2 h2=>⟨fun _=>h2.1,?_⟩) (MV h0 hK);exact Us hO hQ hsel hS hsz tl htl fin r _ a2 w2 h2.1 (Af.set hrk QU) (fun t ht=>by rw[getD_set_ne false (show i≠t from fun e=>FM Nb)];exact hun' t ht) hgo h2.2) st listed a inv hun hB h
  have e:I_ fin (tl.length+1) ((st,k)::r)=st.length+(1+I_ fin (tl.length+1) r):=by simp[I_];omega
  rw[e];exact this
theorem Yg{a:Act}{l:List Oper}(s:Nat)(S tl:b_)(fin:List (Nat × b_))(jh:List (List (Nat × b_) × Nat))(hm:P.follows .mixedOrders=true)(hB:V9 .any l.toArray s S tl fin jh=true)
  (h:yX P l.toArray (fun w'=> ∃p:Regrown,w'=Sort.grow (redrawn w p.d) p.os) (fun a' w'=>wpList P l.toArray (fun e a2 w2=>e= .normal∧Q .normal a2 w2) (l.getD s default::dV l tl) a' w') (dV l (fin.map Prod.fst)) (jh.map fun q=>(dV l (q.1.map Prod.fst),l.getD q.2 default)) a w.drew):(Code.region id l.toArray true).wp P Q a w:=by
 simp only[V9,Bool.and_eq_true,decide_eq_true_eq]at hB;obtain⟨⟨⟨⟨⟨hsel,hsz⟩,hS⟩,hlen⟩,hall⟩,hgo⟩:=hB;have hin: ∀i∈tl,i<l.length:=fun i hi=>by have:=List.all_eq_true.1 hall i hi;simpa using this
 have inv0:HeadInv .any l.toArray l.toArray.size (Array.replicate l.toArray.size false):=
  ⟨by simp,fun j oj _ hl=>M_,fun t _ ht=>getD_in Nh (getD_replicate_false _ _)⟩
 refine Code.wp_mono (Q:=fun e a w=>e= .normal∧Q .normal a w) JR ?_;have hO: ¬ LetsOut (fun e a w=>e= .normal∧Q .normal a w):=fun⟨_,_,q⟩=>by cases q.1
 have hQ: ∀c a w,¬ (fun e a w=>e=Exit.normal∧Q .normal a w) (.panic c) a w:=fun c a w hq=>by cases hq.1
 have H:=Us (P:=P) (Q:=fun e a w=>e= .normal∧Q .normal a w) (D:=fun w'=> ∃p:Regrown,w'=Sort.grow (redrawn w p.d) p.os) (md:= .any) hO hQ hsel hS hsz tl hin fin jh _ a _ ⟨⟨w.drawn+1,#[]⟩,by rw[Sort.grow_empty];rfl⟩ inv0 (fun t _=>getD_replicate_false _ _) hgo h;rw[hlen]at H;exact wp_region_any hm (PO _ _ _ _ H)
end
structure It where
 code:Int
 kind:Int
 pay:aJ
 a:az
 c:Nat
def It.cells(x:It):aP:= [ae x.code,ae x.kind,.slice x.a x.pay.length x.c]
def It.key(x:It):Int × Int × aJ:=(x.code,x.kind,x.pay)
def oz(l:List It):aP:=l.flatMap It.cells
theorem afT: ∀l:List It,(oz l).length=3*l.length
 |[]=>rfl
 |x::l=>by
  have:=afT l;simp only[oz,List.flatMap_cons,dP,jJ]at this⊢;rw[this];simp[It.cells];omega
theorem aok(l:List It)(x:It):oz (l++ [x])=oz l++x.cells:=by simp[oz]
inductive Tr where
 |fin (tl:b_)
 |mM (st:List (Nat × b_)) (k:Tr)
 |op (i:Nat) (k:Tr)
 |fork (i j:Nat) (k l:Tr)
def Tr.len:Tr→Nat
 |.fin tl=>tl.length+1
 |.mM st k=>st.length+k.len
 |.op _ k=>k.len+1
 |.fork _ _ k _=>k.len+1
section
variable{P:Program}{D:ak→Prop}{md:Region.Mode}
def yj(md:Region.Mode)(ops:Array Oper)(s:Nat)(S:b_):Tr→Array Bool→Bool
 |.fin tl,L=>decide (Region.ready md ops L= [s]) && KJ md ops S tl (L.setIfInBounds s true) && tl.all fun i=>decide (i<ops.size)
 |.mM st k,L=>II md ops s S (fun L'=>yj md ops s S k L') st L
 |.op i k,L=>decide (Region.ready md ops L= [i]) && !S.contains i && yj md ops s S k (L.setIfInBounds i true)
 |.fork i j k l,L=>decide (Region.ready md ops L= [i,j]) && !S.contains i && !S.contains j && decide (k.len=l.len) && yj md ops s S k (L.setIfInBounds i true) && yj md ops s S l (L.setIfInBounds j true)
def mG(P:Program)(l:List Oper)(D:ak→Prop)(Q:b_→Act→ak→Prop):Tr→Act→ak→Prop
 |.fin tl,a,w=>Q tl a w
 |.mM st k,a,w=>wpQuiet P l.toArray D (fun a'=>mG P l D Q k a' w) (dV l (st.map Prod.fst)) a
 |.op i k,a,w=>wpList P l.toArray (mZ D (mG P l D Q k)) [l.getD i default] a w
 |.fork i j k m,a,w=>wpList P l.toArray (mZ D (mG P l D Q k)) [l.getD i default] a w∧wpList P l.toArray (mZ D (mG P l D Q m)) [l.getD j default] a w
theorem Nw(hO: ¬ LetsOut Q)(hQ: ∀c a w,¬ Q (.panic c) a w){l:List Oper}(hsel:Region.noSelect l.toArray=true){s:Nat}(hS:Ew md l.toArray s S=true)(hsz:s<l.toArray.size):
  ∀(tr:Tr) (listed:Array Bool) (a:Act) (w:ak),D w→HeadInv md l.toArray l.toArray.size listed→(∀t∈S,listed.getD t false=false)→yj md l.toArray s S tr listed=true→
   mG P l D (fun tl a' w'=>wpList P l.toArray Q (l.getD s default::dV l tl) a' w') tr a w→Dn P md l.toArray Q S D tr.len listed a w
 |.fin tl,listed,a,w,hD,inv,hun,hB,h=>by
  simp only[yj,Bool.and_eq_true,decide_eq_true_eq]at hB;obtain⟨⟨hr,ht⟩,hall⟩:=hB;have hin: ∀i∈tl,i<l.length:=fun i hi=>by have:=List.all_eq_true.1 hall i hi;simpa using this
  have:=Us (P:=P) (D:=D) hO hQ hsel hS hsz tl hin [] [] listed a w hD inv hun (by simp[QE,II,hr,ht]) (yR (wpQuiet_nil h));simpa [I_,Tr.len]using this
 |.mM st k,listed,a,w,hD,inv,hun,hB,h=>by
  simp only[yj]at hB;exact Pq (f:=k.len) hQ hsel hS hsz hD (k:=fun L'=>yj md l.toArray s S k L') (K:=fun a'=>mG P l D (fun tl a' w'=>wpList P l.toArray Q (l.getD s default::dV l tl) a' w') k a' w)
   (fun listed' a' hk Af hun' hK=>Nw hO hQ hsel hS hsz k listed' a' w hD Af hun' hk hK) st listed a inv hun hB h
 |.op i k,listed,a,w,hD,inv,hun,hB,h=>by
  simp only[yj,Bool.and_eq_true,decide_eq_true_eq]at hB;obtain⟨⟨hr,aba⟩,hgo⟩:=hB;have FM:i ∉ S:=by simpa using aba
  have hrk:i∈Region.ready md l.toArray listed:=by rw[hr];simp
  have QU:=CY hrk;have hil:i<l.length:=by simpa using QU
  have h0:l.toArray[i]?=some l[i]:=by simp[hil]
  have hg:l.getD i default=l[i]:=by simp[eG,hil]
  have h:wpList P l.toArray (mZ D (mG P l D (fun tl a' w'=>wpList P l.toArray Q (l.getD s default::dV l tl) a' w') k)) [l[i]] a w:=by rw[←hg];exact h
  refine⟨by rw[hr];simp,fun j hj=>?_⟩;rw[hr]at hj;obtain rfl:j=i:=by simpa using hj
  refine wpOp_mono (fun a2 w2 h2=>⟨fun _=>h2.1,?_⟩) (MV h0 h);exact Nw hO hQ hsel hS hsz k _ a2 w2 h2.1 (inv.set hrk QU) (fun t ht=>by rw[getD_set_ne false (show j≠t from fun e=>FM Nb)];exact hun t ht) hgo h2.2
 |.fork i j k m,listed,a,w,hD,inv,hun,hB,h=>by
  simp only[yj,Bool.and_eq_true,decide_eq_true_eq]at hB;obtain⟨⟨⟨⟨⟨hr,KX⟩,abg⟩,hlen⟩,axr⟩,axs⟩:=hB;have AO:i ∉ S:=by simpa using KX
  have hjS:j ∉ S:=by simpa using abg
  have BN:i∈Region.ready md l.toArray listed:=by rw[hr];simp
  have Lp:j∈Region.ready md l.toArray listed:=by rw[hr];simp
  have hil:i<l.length:=by simpa using CY BN
  have hjl:j<l.length:=by simpa using CY Lp
  have h0i:l.toArray[i]?=some l[i]:=by simp[hil]
  have h0j:l.toArray[j]?=some l[j]:=by simp[hjl]
  have hgi:l.getD i default=l[i]:=by simp[eG,hil]
  have hgj:l.getD j default=l[j]:=by simp[eG,hjl]
  obtain⟨h1,h2⟩:wpList P l.toArray (mZ D (mG P l D (fun tl a' w'=>wpList P l.toArray Q (l.getD s default::dV l tl) a' w') k)) [l[i]] a w∧wpList P l.toArray (mZ D (mG P l D (fun tl a' w'=>wpList P l.toArray Q (l.getD s default::dV l tl) a' w') m)) [l[j]] a w:=by rw[←hgi,←hgj];exact h
  refine⟨by rw[hr];simp,fun x hx=>?_⟩;rw[hr]at hx;have hx:x=i∨x=j:=by simpa using hx
  rcases hx with rfl|rfl
  ·refine wpOp_mono (fun a2 w2 h2=>⟨fun _=>h2.1,?_⟩) (MV h0i h1);exact Nw hO hQ hsel hS hsz k _ a2 w2 h2.1 (inv.set BN (CY BN)) (fun t ht=>by rw[getD_set_ne false (show x≠t from fun e=>AO Nb)];exact hun t ht) axr h2.2
  ·refine wpOp_mono (fun a2 w2 h2=>⟨fun _=>h2.1,?_⟩) (MV h0j h2);rw[show k.len=m.len from hlen];exact Nw hO hQ hsel hS hsz m _ a2 w2 h2.1 (inv.set Lp (CY Lp)) (fun t ht=>by rw[getD_set_ne false (show x≠t from fun e=>hjS Nb)];exact hun t ht) axs h2.2
theorem JM{a:Act}{l:List Oper}(s:Nat)(S:b_)(tr:Tr)(hm:P.follows .mixedOrders=true)
  (hB:(Region.noSelect l.toArray && decide (s<l.toArray.size) && Ew .any l.toArray s S && decide (tr.len=l.toArray.size) && yj .any l.toArray s S tr (Array.replicate l.toArray.size false))=true)
  (h:mG P l (fun w'=> ∃p:Regrown,w'=Sort.grow (redrawn w p.d) p.os) (fun tl a' w'=>wpList P l.toArray (fun e a2 w2=>e= .normal∧Q .normal a2 w2) (l.getD s default::dV l tl) a' w') tr a w.drew):(Code.region id l.toArray true).wp P Q a w:=by
 simp only[Bool.and_eq_true,decide_eq_true_eq]at hB;obtain⟨⟨⟨⟨hsel,hsz⟩,hS⟩,hlen⟩,hgo⟩:=hB;have inv0:HeadInv .any l.toArray l.toArray.size (Array.replicate l.toArray.size false):=
  ⟨by simp,fun j oj _ hl=>M_,fun t _ ht=>getD_in Nh (getD_replicate_false _ _)⟩
 refine Code.wp_mono (Q:=fun e a w=>e= .normal∧Q .normal a w) JR ?_;have hO: ¬ LetsOut (fun e a w=>e= .normal∧Q .normal a w):=fun⟨_,_,q⟩=>by cases q.1
 have hQ: ∀c a w,¬ (fun e a w=>e=Exit.normal∧Q .normal a w) (.panic c) a w:=fun c a w hq=>by cases hq.1
 have H:=Nw (P:=P) (Q:=fun e a w=>e= .normal∧Q .normal a w) (D:=fun w'=> ∃p:Regrown,w'=Sort.grow (redrawn w p.d) p.os) (md:= .any) hO hQ hsel hS hsz tr _ a _ ⟨⟨w.drawn+1,#[]⟩,by rw[Sort.grow_empty];rfl⟩ inv0 (fun t _=>getD_replicate_false _ _) hgo h;rw[hlen]at H;exact wp_region_any hm (PO _ _ _ _ H)
theorem JP{l:List Oper}{Q:b_→Act→ak→Prop}{st:List (Nat × b_)}{k:Tr}{a:Act}(h: ∀K:Act→ak→Prop,(∀a' w',mG P l D Q k a' w'→K a' w')→wpQuiet P l.toArray D (fun a'=>K a' w) (dV l (st.map Prod.fst)) a):mG P l D Q (.mM st k) a w:=h _ fun _ _ h=>h
theorem vK{l:List Oper}{Q:b_→Act→ak→Prop}{k:Tr}{a:Act}(h: ∀K:Act→ak→Prop,(∀a' w',mG P l D Q k a' w'→K a' w')→wpList P l.toArray (mZ D K) [l.getD i default] a w):mG P l D Q (.op i k) a w:=h _ fun _ _ h=>h
theorem Np{l:List Oper}{Q:b_→Act→ak→Prop}{j:Nat}{k m:Tr}{a:Act}(h1: ∀K:Act→ak→Prop,(∀a' w',mG P l D Q k a' w'→K a' w')→wpList P l.toArray (mZ D K) [l.getD i default] a w)
 (h2: ∀K:Act→ak→Prop,(∀a' w',mG P l D Q m a' w'→K a' w')→wpList P l.toArray (mZ D K) [l.getD j default] a w):mG P l D Q (.fork i j k m) a w:=⟨h1 _ fun _ _ h=>h,h2 _ fun _ _ h=>h⟩
theorem wE{l:List Oper}{Q:b_→Act→ak→Prop}{tl:b_}{a:Act}(h:Q tl a w):mG P l D Q (.fin tl) a w:=h
end
abbrev Key:=Int × Int × aJ
def PR.key(r:PR):Key:=(r.code,r.kind,r.pay)
structure TS where
 used:Nat
 qP:Bool
 keys:List Key
def t_(st:TS)(r:PR):TS:=
 if r.code=2 then⟨st.used+r.size,true,if st.qP then st.keys else st.keys++ [r.key]⟩
 else⟨st.used+r.size,decide (r.code=7∨r.code=4),st.keys++ [r.key]⟩
theorem Zb(st:TS)(r:PR):(t_ st r).used=st.used+r.size:=by unfold t_;split<;>rfl
theorem Zc(st:TS)(r:PR):(t_ st r).keys=st.keys∨(t_ st r).keys=st.keys++ [r.key]:=by
 unfold t_
 split
 ·cases st.qP
  ·exact .inr rfl
  ·exact .inl rfl
 ·exact .inr rfl
def SQ(lim:Nat)(l:aJ)(st:TS):Prop:=st.keys.length<lim∧(iC (l.drop st.used)).ok=true
instance(lim:Nat)(l:aJ)(st:TS):Decidable (SQ lim l st):=by unfold SQ;exact inferInstance
def pJ(lim:Nat)(l:aJ)(st:TS):TS:=
 if h:SQ lim l st then pJ lim l (t_ st (iC (l.drop st.used)))else st
termination_by l.length -st.used
decreasing_by
 rw[Zb];have h1:=afQ h.2;rw[pW]at h1;omega
theorem Vl{lim:Nat}{st:TS}(h:SQ lim l st):pJ lim l st=pJ lim l (t_ st (iC (l.drop st.used))):=by rw[pJ,dif_pos h]
theorem F9{lim:Nat}{st:TS}(h: ¬ SQ lim l st):pJ lim l st=st:=by rw[pJ,dif_neg h]
def f_:Nat→aJ→Option (aO × aJ)
 |0,b=>some ([],b)
 |n+1,b=>match BC b with
  |none=>none
  |some (v,k)=>match f_ n (b.drop k)with
   |none=>none
   |some (l,r)=>some ((v:Int)::l,r)
theorem ahU{b:aJ}(h:BC b=none):f_ (n+1) b=none:=by rw[f_,h]
theorem ZP{b:aJ}{v k:Nat}(h:BC b=some (v,k)):f_ (n+1) b=(f_ n (b.drop k)).map fun p=>((v:Int)::p.1,p.2):=by
 rw[f_,h];simp only;cases f_ n (b.drop k)with
 |none=>rfl
 |some p=>obtain⟨l,r⟩:=p;rfl
def lF(l:aO):aJ:=(l.map fun n=>dI n.toNat).flatten
theorem zU: ∀(n:Nat) (b r:aJ) (l:aO),f_ n b=some (l,r)→l.length=n∧b=lF l++r∧∀x∈l,0≤x∧x≤4294967295:=by
 intro n
 induction n with
 |zero=>intro b r l h;rw[f_]at h;injection h with h;injection h with h1 h2;subst h1 h2;exact⟨rfl,rfl,by simp⟩
 |succ n ih=>
  intro b r l h;cases hv:BC b with
  |none=>rw[ahU hv]at h;cases h
  |some p=>
   obtain⟨v,k⟩:=p;rw[ZP hv]at h;cases hr:f_ n (b.drop k)with
   |none=>rw[hr]at h;cases h
   |some q=>
    obtain⟨l',r'⟩:=q;rw[hr]at h;injection h with h
    injection h with h1 h2
    subst h1 h2;obtain⟨e1,e2,e3⟩:=ih _ _ _ hr;obtain⟨g1,g2,g3,g4⟩:=ahj hv;refine⟨by simp[e1],?_,?_⟩
    ·have:b=b.take k++b.drop k:=(List.take_append_drop k b).symm;rw[this,g3,e2];simp[lF]
    ·intro x hx;rcases List.mem_cons.1 hx with rfl|hx
     ·omega
     ·exact e3 x hx
theorem aap: ∀(l:aO) (r:aJ),(∀x∈l,0≤x∧x≤4294967295)→f_ l.length (lF l++r)=some (l,r):=by
 intro l
 induction l with
 |nil=>intro r _;rfl
 |cons x l ih=>
  intro r h;have hx:=h x aF;have e:lF (x::l)++r=dI x.toNat++(lF l++r):=by simp[lF]
  rw[e,jJ,ZP (asK aj _)];rw[List.drop_left,ih r (fun y hy=>h y (List.mem_cons_of_mem _ hy))];simp only[Option.map_some];congr 2;congr 1;omega
theorem asj{a:Act}{x:Operand}
  (n:Nat) (hx:a.eval x=ae 0) (hy:a.eval y=ae n) (hn:n≤100000)
  (h: ∀W,Own W w.heap.size 3 1 (some ⟨w.heap.size,0,none⟩) 0 n (([]:aO).map encI)→Below w.heap.size w W→W.heap.size=w.heap.size+1→wpList prog ops Q rest (a.put dst (.slice (some ⟨w.heap.size,0,none⟩) 0 n)) W):
  wpList prog ops Q ({dst:=dst,op:= .makeSlice 22 x y,type:=ty,pos:=pos,after:=after,guard:=none}::rest) a w:=by
 obtain⟨i0,hi,hz0,hz1,hz2⟩:=info_parts Nr;refine Z5 _ i0 _ underlying22 hi hz0 hz1 rfl 0 n hx hy (Nat.zero_le _) JU aj ?_;intro W hW;exact h W ⟨by simp,.inr ⟨w.heap.size,n,_,rfl,Nat.le_refl _,hW,Nat.zero_le _,by simp only[maxLen];omega,by simp,by simp⟩⟩
theorem VR{a:Act}(hgd:o.guard=none)(s x:Operand)(ho:o.op= .call {callee:= .builtin .append,args:= #[s,x],argTypes:= #[22,22]})
  (base:Nat) (b:az) (n cap:Nat) (l:aO) (hs:a.eval s= .slice b n cap) (A:az) (m c:Nat) (k:aO) (hx:a.eval x= .slice A m c)
  (own:Own w base 3 1 b n cap (l.map encI)) (hr:Ints w A k) (hm:m=k.length) (N:Nat) (hN:N=n+m) (hbig:N≤100000000000) (hbase:base≤w.heap.size)
  (h: ∀b' cap' w',Own w' base 3 1 b' N cap' ((l++k).map encI)→Grew base w w' b b'→(∀W,Below base W w→Below base W w')→wpList prog ops Q rest (a.put o.dst (.slice b' N cap')) w'):
  wpList prog ops Q (o::rest) a w:=by
 obtain⟨i0,hi,hz0,hz1,hz2⟩:=info_parts Nr;refine zL _ hgd s x _ ho base _ i0 _ 1 8 underlying22 hi hz0 hz1 hz2 rfl ay b n cap _ hs A m c hx own (k.map encI) Nk hr (Bg _) tK aj hbase ?_;intro b' cap' w' own' g;rw[←hN]at own'⊢;rw[←jg]at own';exact h b' cap' w' own' g (Grew.step own g)
theorem avP{a:Act}(hgd:o.guard=none)(s x:Operand)(ho:o.op= .call {callee:= .builtin .append,args:= #[s,x],argTypes:= #[22,22]})
  (base:Nat) (b:az) (n cap:Nat) (l:aO) (hs:a.eval s= .slice b n cap) (z:Int) (hx:a.eval x= .slice (some ⟨w.heap.size,0,none⟩) 1 1)
  (own:Own w base 3 1 b n cap (l.map encI)) (N:Nat) (hN:N=n+1) (hbig:N≤100000000000) (hbase:base≤w.heap.size)
  (h: ∀b' cap' w',Own w' base 3 1 b' N cap' ((l++ [z]).map encI)→Grew base (w.alloc (.cells #[ae z] 3)) w' b b'→(∀W,Below base W w→Below base W w')→wpList prog ops Q rest (a.put o.dst (.slice b' N cap')) w'):
  wpList prog ops Q (o::rest) a (w.alloc (.cells #[ae z] 3)):=by
 refine VR hgd s x ho base b n cap l hs _ 1 1 [z] hx (own.alloc _) ?_ rfl N hN hbig cu ?_
 ·have:=JZ w #[ae z] 3 (0,0);exact this
 intro b' cap' w' own' g hb;exact h b' cap' w' own' g (fun W hW=>hb W (hW.alloc hbase _))
def axL(n:Nat)(A:az)(b:aJ)(w:ak)(e:Ending)(w':ak):Prop:=
 (∃l r a c ra rn rc,f_ n b=some (l,r)∧e= .returned (.tuple #[.slice a n c,.slice ra rn rc,.bool true])∧rn=r.length∧rn≤rc∧Own w' w.heap.size 3 1 a n c (l.map encI)∧(∀w0:ak,bI w0 A b→bI w0 ra r)∧(ra=none→rn=0∧rc=0)∧Below w.heap.size w w')∨
 (f_ n b=none∧e= .returned (.tuple #[.slice none 0 0,.slice none 0 0,.bool false])∧Below w.heap.size w w')
theorem agp(n:Nat)(a:az)(b:aJ)(m c:Nat)(w:ak)(hb:bI w a b)(hm:m=b.length)(hc:m≤c)(hl:b.length≤1000000)(hnil:a=none→m=0∧c=0)(hn:n≤1000):
  aH 82 #[.slice a m c,ae n] w (axL n a b w):=by
 subst hm
 go_enter func82,ntmps82
 go_wp2_with (first|((with_reducible refine asj n ?_ ?_ ?_ ?_);(focus rfl);(focus rfl);(focus omega);intro W0 BL lK z0))
 go_loopw [14,0,7] (fun i v x wr=> ∃(j:Nat) (l:aO) (r:aJ) (ra:az) (rc:Nat) (xa:az) (xc:Nat),j≤n∧i=ae j∧v= .slice ra r.length rc∧x= .slice xa j xc∧Own wr w.heap.size 3 1 xa j xc (l.map encI)∧(∀w0:ak,bI w0 a b→bI w0 ra r)∧r.length≤rc∧r.length≤1000000∧(ra=none→r.length=0∧rc=0)∧Below w.heap.size w wr∧f_ n b=(f_ (n -j) r).map (fun p=>(l++p.1,p.2))) (fun i _ _ _=>n -(intOf i).toNat)
 case atStart=>exact⟨0,[],b,a,c,_,_,Nat.zero_le _,rfl,rfl,rfl,BL,fun _ h=>h,hc,hl,hnil,lK,by simp⟩
 case round=>
  obtain⟨j,l,r,ra,rc,xa,xc,hj,rfl,rfl,rfl,own,hsub0,hrc,hrl,hrn,hbel,hrd⟩:=hrel;have br:=hsub0 w hb;have akm:=ax hsub0;clear hsub0;have RY:=ax hrd;clear hrd;by_cases hlt:j<n
  ·obtain⟨q,hq⟩: ∃q,n -j=q+1:=⟨n -j -1,by omega⟩;cases hv:BC r with
   |none=>
    have HN:Hid (f_ n b=none):=by
     show _=_;rw[RY.out,hq,ahU hv];rfl
    have fD: ∀W,bI W ra r→aH 117 #[.slice ra r.length rc] W fun e w'=>e= .returned (.tuple #[ae 0,ae 0,ae 6])∧W=w':=fun W h=>by
     have:=aex ra r r.length rc W h rfl aj;rw[P7 hv]at this;exact this
    clear hq hv
    go_wp2_with (first|(go_at_call 117;refine(fD _ (br.below hbel aA)).mono ?_;rintro e w' ⟨rfl,rfl⟩))
    exact bodyPost_ret (v:= .tuple #[.slice none 0 0,.slice none 0 0,.bool false]) (by simp[results,results82,go_sem]) rfl (.inr ⟨HN.out,rfl,hbel⟩)
   |some vk=>
    obtain⟨v,k⟩:=vk;obtain⟨o1,o2,o3,o4⟩:=ahj hv;have o5:=U2 v;rcases br.open with rfl|⟨bb,off,rfl,hbl,_⟩
    ·simp at o2;omega
    have fD: ∀W,bI W (some ⟨bb,off,none⟩) r→aH 117 #[.slice (some ⟨bb,off,none⟩) r.length rc] W fun e w'=>e= .returned (.tuple #[ae v,ae k,ae 0])∧W=w':=fun W h=>by
     have:=aex _ r r.length rc W h rfl aj;rw[Zu hv]at this;exact this
    have HR2:Hid (f_ n b=(f_ (n -(j+1)) (r.drop k)).map (fun p=>((l++ [(v:Int)])++p.1,p.2))):=by
     show _=_;rw[RY.out,hq,ZP hv,show n -(j+1)=q by omega,Option.map_map];congr 1
     funext p
     simp
    have XX:=ax (show∀w0:ak,bI w0 a b→bI w0 (some ⟨bb,off+k,none⟩) (r.drop k) from fun w0 h0=>(akm.out w0 h0).drop k);have hk:k≤r.length:=o2;have ld:(r.drop k).length=r.length -k:=pW;clear hq hv o3 o4 o5 o2
    go_wp2_with (first|(go_at_call 117;refine(fD _ (br.below hbel aA)).mono ?_;rintro e w' ⟨rfl,rfl⟩)|(at_builtin;refine avP rfl _ _ rfl w.heap.size _ _ xc l rfl (v:Int) rfl own (j+1) rfl aj hbel.size ?_;intro xb xc' w1 Ae g1 BO;(have hb1:=BO w hbel)))
    go_roundw
    case rel=>
     refine⟨j+1,l++ [(v:Int)],r.drop k,(if rc=k then some ⟨bb,off,none⟩else some ⟨bb,off+k,none⟩),rc -k,xb,xc',by omega,by go_num,by rw[ld],rfl,Ae,?_,by omega,by omega,?_,hb1,HR2.out⟩
     ·intro w0 h0
      split
      ·rw[List.drop_eq_nil_of_le aj];exact bI.nil _ _
      ·exact XX.out w0 h0
     ·intro h
      split at h<;>cases h
    case measure=>simp[intOf];omega
  ·have hjn:j=n:=by omega
   have HN:Hid (f_ n b=some (l,r)):=by
    show _=_;rw[RY.out,hjn,Nat.sub_self,f_];simp
   subst hjn
   go_wp2
   exact bodyPost_ret (v:= .tuple #[.slice xa j xc,.slice ra r.length rc,.bool true]) (by simp[results,results82,go_sem]) rfl (.inl ⟨l,r,xa,xc,ra,_,rc,HN.out,rfl,rfl,hrc,own,akm.out,hrn,hbel⟩)
end Go.Proofs.YtiffpjamngklhaaGreat
