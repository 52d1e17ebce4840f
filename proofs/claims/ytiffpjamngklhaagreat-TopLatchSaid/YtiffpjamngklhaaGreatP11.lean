/- Lemmas, part 11. -/
import Derived.StillTailTactics
import Derived.Deep.DeepCutAuto
import Derived.Stop.RegionWithIn
import Derived.OrdersIn
import Derived.RangeFuncCalls
import Derived.Test.YtiffpjamngklhaaGreatP06
import Derived.Test.YtiffpjamngklhaaGreatP08
namespace Go.Proofs.YtiffpjamngklhaaGreat
set_option linter.all false
set_option maxRecDepth 100000
set_option maxHeartbeats 16000000
open Go.RowKit Tryz
open Go.Sort hiding Below
variable{w W W':ak}{B i xc U id J T X L:Nat}{Q:dR}{ops:Array Oper}{xa:az}{now ph fr fB ju:Int}{vs:List Vk}{its:List Vx}{ds:List Deferred}{lv:Value}{l3:List Tk}
def colS:aO→Int
 |[]=>0
 |c::l=>c+4*colS l
theorem ahf: ∀(l:aO) (c:Int),colS (l++ [c])=colS l+c*4 ^ l.length
 |[],c=>by simp[colS]
 |x::l,c=>by
  have:=ahf l c;simp only[List.cons_append,colS,jJ,this,Int.pow_succ];rw[Int.mul_add,Int.mul_left_comm,Int.mul_comm 4 (4 ^ l.length)];omega
theorem ah5: ∀(l:aO),(∀c∈l,0≤c∧c≤2)→0≤colS l∧colS l+1≤4 ^ l.length
 |[],_=>by simp[colS]
 |x::l,h=>by
  have h1:=ah5 l fun c hc=>h c (List.mem_cons_of_mem _ hc);have h2:=h x List.mem_cons_self;simp only[colS,jJ,Int.pow_succ];omega
theorem at6{k:Nat}(h:k≤8):(1:Int)≤4 ^ k∧(4:Int) ^ k≤65536:=by
 have hk:k=0∨k=1∨k=2∨k=3∨k=4∨k=5∨k=6∨k=7∨k=8:=by omega
 rcases hk with rfl|rfl|rfl|rfl|rfl|rfl|rfl|rfl|rfl<;>decide
def KC(fl ov:Bool):Int:=(if fl then 1 else 0)+(if ov then 2 else 0)
theorem asB(fl ov:Bool):0≤KC fl ov∧KC fl ov≤3:=by cases fl<;>cases ov<;>decide
def nU(n:Int):UInt8:=UInt8.ofNat (n % 256).toNat
theorem Z7(n:Int):((nU n).toNat:Int)=n % 256:=by
 unfold nU;simp;omega
def NG(v:Vk):aJ:=nU (KC v.1 v.2.1)::nU (colS v.2.2.1/256)::nU (colS v.2.2.1)::v.2.2.2.map nU
def bytesOf(l:List Vk):aJ:=l.flatMap NG
def DV(v:Vk):Prop:=v.2.2.1.length≤8∧v.2.2.2.length≤8∧∀c∈v.2.2.1,0≤c∧c≤2
theorem agC(v:Vk):(NG v).length=3+v.2.2.2.length:=by simp[NG];omega
theorem aoZ(l:List Vk)(v:Vk):bytesOf (l++ [v])=bytesOf l++NG v:=by simp[bytesOf]
theorem MP: ∀(l:List Vk),(∀v∈l,DV v)→(bytesOf l).length≤11*l.length
 |[],_=>by simp[bytesOf]
 |v::l,h=>by
  have h1:=MP l fun c hc=>h c (List.mem_cons_of_mem _ hc);have h2:=(h v List.mem_cons_self).2.1;have h3:=agC v;simp only[bytesOf,List.flatMap_cons,dP,jJ]at h1⊢;omega
theorem ars{F S:Int}(hF:0≤F∧F≤3):(#[Value.int .u8 F,.int .u8 (S/256 % 256),.int .u8 (S % 256)]:aZ).toList= [nU F,nU (S/256),nU S].map a_:=by
 simp only[mF,oH,a_,Z7];rw[Int.emod_eq_of_lt hF.1 aj]
def ave(l:aJ)(w:ak)(e:Ending)(w':ak):Prop:=
 ∃(a:az) (c n:Nat),Hid (n=l.length)∧e= .returned (.slice a n c)∧Own w' w.heap.size 5 1 a n c (l.map a_)∧Below w.heap.size w w'
theorem ahg(a:az)(l:List Vx)(n ca:Nat)(w:ak)(hl:vV w a l)(ha:n=l.length)(l9:l.length≤1000000)(hc: ∀v∈l,DV v.key):
  aH 148 #[.slice a n ca] w (ave (bytesOf (l.map Vx.key)) w):=by
 subst ha
 go_enter func148,ntmps148
 go_wp2
 go_loopw [3,15] (fun s3 s15 wr=> ∃(k N c:Nat) (b:az) (q:aJ),s3= .slice b N c∧s15=ae k∧k≤l.length∧N=q.length∧q=bytesOf ((l.take k).map Vx.key)∧Own wr w.heap.size 5 1 b N c (q.map a_)∧Below w.heap.size w wr) (fun _ i _=>l.length -(intOf i).toNat)
 case atStart=>exact⟨0,0,0,none,[],rfl,rfl,by omega,rfl,by simp[bytesOf],Own.nil _ _ _ _,bel⟩
 case round=>
  obtain⟨k,N,c,b,q,rfl,rfl,hk,hN,hq,own,be⟩:=hrel;have hNl:N≤11*k:=by
   have:=MP ((l.take k).map Vx.key) (fun v hv=>by
    obtain⟨x,hx,rfl⟩:=List.mem_map.1 hv;exact hc x (List.mem_of_mem_take hx))
   rw[←hq,g_,pV]at this;omega
  have HN:=ax hN;have HQ:=ax hq;clear hN hq;by_cases hlt:k<l.length
  ·obtain⟨ba,oa,rfl⟩:=hl.open aj;have il:=hl.below be aA;obtain⟨x0,x1,x2,x3,xb⟩:=ZF il.row k hlt;have c1:=il.cs _ (bF hlt);have c2:=il.ns _ (bF hlt);have hok:=hc _ (bF hlt);have kx:(k:Int)<(l.length:Int):=by omega
   have Rt:Hid (bytesOf ((l.take (k+1)).map Vx.key)=q++NG l[k].key):=ax (by
    rw[←List.take_append_getElem hlt,jg,HQ.out];exact aoZ _ _)
   obtain⟨x,hx⟩:=aI (l[k]);rw[hx]at x0 x1 x2 x3 c1 c2 hok Rt;have c2w:=hl.ns _ (bF hlt);rw[hx]at c2w;clear hx il;obtain⟨xf,xo,uT,zA,WJ,WL,WM,WN⟩:=x;simp only at x0 x1 x2 x3 c1 c2 c2w;obtain⟨hk1,hk2,hk3⟩:=hok;simp only[Vx.key]at hk1 hk2 hk3
   go_upto_if 20 with fail
   refine aW (fun Y=>ah Y wr.heap.size 73 #[.bool xf,.bool xo,.slice WJ uT.length WL,.slice WM zA.length WN]∧Below wr.heap.size wr Y) ⟨ah.new _ _ _,bel⟩ ?_;rintro Y ⟨kV,bY⟩;have Ae:=own.below bY aA;have C1:=c1.below bY aA;have DT:Below w.heap.size w Y:=bel;clear c1 c2 own x0 x1 x2 x3 bY be xb;obtain⟨VB,hVB⟩:=aI wr.heap.size;rw[hVB]at kV⊢;clear hVB;obtain⟨v0,v1,v2,v3⟩:=kV.four';have vl:=kV.lt
   go_cut [6] (fun s6 wx=>s6=ae (if xf then 1 else 0)∧Y=wx)
   case first=>
    cases xf<;>(go_wp2_with fail;go_meet;exact⟨rfl,rfl⟩)
   case rest=>
    obtain⟨rfl,rfl⟩:=hcut;obtain⟨F0,WO⟩: ∃F:Int,(if xf then 1 else 0)=F:=⟨_,rfl⟩;have awN:0≤F0∧F0≤1:=by rw[←WO];split<;>omega
    rw[WO];have HF0:=ax WO;clear WO
    go_upto_if 24 with fail
    go_cut [6] (fun s6 wx=>s6=ae (KC xf xo)∧Y=wx)
    case first=>
     cases xo
     ·go_wp2_with fail
      go_meet
      exact⟨by rw[←HF0.out];simp[KC],rfl⟩
     ·go_wp2_with fail
      go_meet
      exact⟨by rw[←HF0.out];simp[KC],rfl⟩
    case rest=>
     obtain⟨rfl,rfl⟩:=hcut;obtain⟨F,hF⟩: ∃F:Int,KC xf xo=F:=⟨_,rfl⟩;have hFb:=asB xf xo;rw[hF]at hFb⊢;have HF:=ax hF;clear hF HF0 awN
     go_wp2_with fail
     go_loopw [7,8,30] (fun s7 s8 s30 wx=> ∃(j:Nat) (S P:Int),s7=ae S∧s8=ae P∧s30=ae j∧j≤uT.length∧Hid (S=colS (uT.take j))∧Hid (P=4 ^ j)∧Y=wx) (fun _ _ s _=>uT.length -(intOf s).toNat)
     case atStart=>exact⟨0,0,1,rfl,rfl,rfl,by omega,ax rfl,ax rfl,rfl⟩
     case round=>
      obtain⟨j,S,P,rfl,rfl,rfl,hj,HS,HP,rfl⟩:=hrel;have hSb:0≤S∧S+1≤P:=by
       have h1:=ah5 (uT.take j) fun c hc=>hk3 c (List.mem_of_mem_take hc);rw[pV,Nat.min_eq_left hj]at h1;rw[HS.out,HP.out];exact h1
      have hPb:1≤P∧P≤65536:=by rw[HP.out];exact at6 aj
      by_cases hlj:j<uT.length
      ·have h0:uT≠ []:=by intro e;rw[e]at hlj;simp at hlj
       obtain⟨bb,oo,rfl,lb,xa⟩:=C1.open.resolve_left h0;have x0:=xa j hlj;have hcb:=hk3 _ (bF hlj);have HS2:Hid (colS (uT.take (j+1))=S+uT[j]*P):=ax (by
        rw[←List.take_append_getElem hlj,ahf,pV,Nat.min_eq_left hj,HS.out,HP.out])
       obtain⟨c0,hc0⟩: ∃c,uT[j]=c:=⟨_,rfl⟩;rw[hc0]at x0 hcb HS2;clear xa hc0;have kx:(j:Int)<(uT.length:Int):=by omega
       have hc3:c0=0∨c0=1∨c0=2:=by omega
       rcases hc3 with rfl|rfl|rfl
       all_goals
        go_wp2_with fail
        go_roundw
        case rel=>exact⟨j+1,_,_,rfl,rfl,by go_num,by omega,ax (by rw[HS2.out]<;>omega),ax (by rw[HP.out,Int.pow_succ]),by trivial⟩
        case measure=>simp[intOf];omega
      ·obtain rfl:j=uT.length:=by omega
       rw[List.take_length]at HS;have hS6:S≤65535:=by omega
       have hYw:=DT.size;clear HP hSb hPb
       go_wp2_with ((at_builtin;refine qN rfl _ _ rfl w.heap.size b N c q rfl (some ⟨Y.heap.size,0,none⟩) 3 3 [nU F,nU (S/256),nU S] rfl (Ae.alloc _) (Z4 (ars hFb)) rfl (N+3) rfl aj cu ?_;intro b2 c2 w2 eu g2 Ar;(have be2:Below w.heap.size w w2:=Ar _ (DT.alloc hYw _));(have zB:=(kV.alloc _).jT g2 (Ae.pU kV ay));(obtain⟨v0,v1,v2,v3⟩:=zB.four');(have vl:=zB.lt)))
       go_loopw [3,55] (fun s3 s55 wz=> ∃(m N3 c3:Nat) (b3:az),s3= .slice b3 N3 c3∧s55=ae m∧m≤zA.length∧N3=N+3+m∧Own wz w.heap.size 5 1 b3 N3 c3 ((q++ [nU F,nU (S/256),nU S]++(zA.take m).map nU).map a_)∧Below w.heap.size w wz) (fun _ s _=>zA.length -(intOf s).toNat)
       case atStart=>exact⟨0,N+3,c2,b2,rfl,rfl,by omega,rfl,by simpa using eu,be2⟩
       case round=>
        clear eu be2 zB v0 v1 v2 v3 vl g2 Ar;obtain⟨m,N3,c3,b3,rfl,rfl,hm,hN3,jE,eH⟩:=hrel;have HN3:=ax hN3;have aBY:N3≤11*k+20:=by omega
        clear hN3;by_cases hlm:m<zA.length
        ·have h0:zA≠ []:=by intro e;rw[e]at hlm;simp at hlm
         obtain⟨bb,oo,rfl,lb,xa⟩:=(Ints.below c2w eH aA).open.resolve_left h0;have x0:=xa m hlm;obtain⟨c0,hc0⟩: ∃c,zA[m]=c:=⟨_,rfl⟩;have HM:Hid ((zA.take (m+1)).map nU=(zA.take m).map nU++ [nU c0]):=ax (by
          rw[←List.take_append_getElem hlm,jg,hc0];rfl)
         rw[hc0]at x0;clear xa hc0;have kx:(m:Int)<(zA.length:Int):=by omega
         have hwz:=eH.size
         go_wp2_with ((at_builtin;refine J_ rfl _ _ rfl w.heap.size b3 N3 c3 _ rfl (nU c0) _ rfl jE (Z7 c0).symm (N3+1) rfl aj hwz ?_;intro b4 c4 w4 own4 g4 bl4;(have be4:=bl4 _ eH)))
         go_roundw
         case rel=>exact⟨m+1,N3+1,c4,b4,rfl,by go_num,by omega,by have:=HN3.out;omega,by rw[HM.out,←uM];exact own4,be4⟩
         case measure=>simp[intOf];omega
        ·obtain rfl:m=zA.length:=by omega
         rw[List.take_length]at jE
         go_wp2_with fail
         go_roundw
         case rel=>exact⟨k+1,N3,c3,b3,_,rfl,by go_num,by omega,by rw[Rt.out,dP,agC,←HN.out];simp only[Vx.key];have:=HN3.out;omega,rfl,by rw[Rt.out];simp only[NG,Vx.key,HF.out,←HS.out];simpa using jE,eH⟩
         case measure=>simp[intOf];omega
  ·obtain rfl:k=l.length:=by omega
   go_wp2
   go_ret;exact⟨b,c,N,ax (by rw[HN.out,HQ.out,List.take_length]),rfl,by have:=HQ.out;rw[List.take_length]at this;rw[←this];exact own,be⟩
theorem art:(prog.info? 73).map (fun i=>(i.zero,i.size,i.bytes))=some (some (.agg #[.bool false,.bool false,.slice none 0 0,.slice none 0 0]),4,56):=by kernel_rfl
theorem at7(a:Int):0≤Dy a∧Dy a≤2:=by unfold Dy;split<;>omega
def qw(ju ph fr fB:Int)(vs:List Vk)(now:Int):Int:=
 if fr≤now∧now≤fB then
  if 0≤ju∧ju<vs.length then
   if 0≤ph∧ph<((vs.getD ju.toNat (false,false,[],[])).2.2.1).length then
    if(vs.getD ju.toNat (false,false,[],[])).2.1=true∧(vs.getD ju.toNat (false,false,[],[])).1=false∧((vs.getD ju.toNat (false,false,[],[])).2.2.1).getD ph.toNat 0=1 then 3 else 2
   else 1
  else 1
 else 1
theorem asG(ju ph fr fB:Int)(vs:List Vk)(now:Int):1≤qw ju ph fr fB vs now∧qw ju ph fr fB vs now≤3:=by
 unfold qw
 repeat' split
 all_goals omega
theorem ai0(h:J<its.length):(its.map Vx.key).getD J (false,false,[],[])=its[J].key:=by
 simp[List.getD,h]
theorem arv(h:(decide (fr≤now) && decide (now≤fB))=false):qw ju ph fr fB vs now=1:=by
 unfold qw;rw[if_neg fun q=>by simp[q.1,q.2]at h]
theorem ahi(h: ¬ (0≤ju∧ju<vs.length)):qw ju ph fr fB vs now=1:=by
 unfold qw;rw[if_neg h]
 split<;>rfl
theorem agD(hJ:J<its.length){x:Vx}(hx:its[J]=x)(h: ¬ (0≤ph∧ph<x.cs.length)):qw J ph fr fB (its.map Vx.key) now=1:=by
 subst hx;unfold qw;rw[Int.toNat_natCast,ai0 hJ,if_neg (show ¬ (0≤ph∧ph<(its[J].key.2.2.1.length:Int)) from h)]
 split
 ·split<;>rfl
 ·rfl
theorem asH{P:Nat}(hl:(decide (fr≤now) && decide (now≤fB))=true)(hJ:J<its.length){x:Vx}(hx:its[J]=x)(hP:P<x.cs.length):qw J P fr fB (its.map Vx.key) now=if x.ov=true∧x.fl=false∧x.cs[P]=1 then 3 else 2:=by
 subst hx;unfold qw;have h1:fr≤now∧now≤fB:=by simpa using hl
 rw[if_pos h1,Int.toNat_natCast,ai0 hJ,if_pos ⟨by omega,by simp;omega⟩,if_pos (show 0≤(P:Int)∧(P:Int)<(its[J].key.2.2.1.length:Int) from⟨by omega,by simp only[Vx.key];omega⟩),Int.toNat_natCast];rw[show(its[J].key.2.2.1).getD P 0=its[J].cs[P]by simp[Vx.key,List.getD,hP]];rfl
def KE(ju ph fr fB:Int)(vs:List Vk)(now:Int)(w:ak)(e:Ending)(w':ak):Prop:=e= .returned (ae (qw ju ph fr fB vs now))∧Below w.heap.size w w'
theorem KE.mk{w':ak}{C:Int}(h:qw ju ph fr fB vs now=C)(hb:Below w.heap.size w w'):KE ju ph fr fB vs now w (.returned (ae C)) w':=⟨by rw[h],hb⟩
theorem Uf{j p f t s:Int}{b:Bool}(h:Hid ((decide (f≤now) && decide (now≤t))=b))(w:ak):aH 206 #[aaH j p f t s,ae now] w fun e w'=>e= .returned (.bool b)∧Below w.heap.size w w':=by
 have:=ae3 j p f t s now w;rw[h.out]at this;exact this
theorem Ints.get{a:az}{l:aO}(h:Ints w a l)(i:Nat)(hi:i<l.length): ∃b off,a=some ⟨b,off,none⟩∧b<w.heap.size∧w.cell? ⟨b,off+i,none⟩=some (ae l[i]):=by
 rcases h.open with h0|⟨b,off,e,hl,hc⟩
 ·rw[h0]at hi;simp at hi
 ·exact⟨b,off,e,hl,hc i hi⟩
theorem YA{P:Prop}(h:P:=by
 go_wp2_with (go_at_call 206;refine(Uf HL _).mono ?_;rintro e w2 ⟨rfl,hb2⟩;(have k2:=kV.below hb2 vl);clear v0 v1 v2 v3 v4 vf;(obtain⟨v0,v1,v2,v3,v4,vf,Ru⟩:=k2.five);(obtain⟨y0,y1,y2,y3,yb⟩:=ZF (h.below hb2 aA).row J hJ);(rw[HX.out]at y0 y1 y2 y3);(simp only at y0 y1 y2 y3);(have c0:=((VE hb2).1 _ _ cl).trans hc);(have cl2:=jL cl hb2.size))
 go_ret;exact KE.mk HG.out bel):P:=h
theorem ae5{P:Prop}(h:P:=by
 go_wp2_with (go_at_call 206;refine(Uf HL _).mono ?_;rintro e w2 ⟨rfl,hb2⟩;(have k2:=kV.below hb2 vl);clear v0 v1 v2 v3 v4 vf;(obtain⟨v0,v1,v2,v3,v4,vf,Ru⟩:=k2.five);(obtain⟨y0,y1,y2,y3,yb⟩:=ZF (h.below hb2 aA).row J hJ);(rw[HX.out]at y0 y1 y2 y3);(simp only at y0 y1 y2 y3))
 go_ret;exact KE.mk HF.out bel):P:=h
theorem ae6{P:Prop}(h:P:=by
 go_wp2_with (go_at_call 206;refine(Uf HL _).mono ?_;rintro e w2 ⟨rfl,hb2⟩;(have k2:=kV.below hb2 vl);clear v0 v1 v2 v3 v4 vf;(obtain⟨v0,v1,v2,v3,v4,vf,Ru⟩:=k2.five))
 go_ret;exact KE.mk HF.out bel):P:=h
theorem ae7{P:Prop}(h:P:=by
 have HG:Hid (qw J P fr fB (its.map Vx.key) now=2):=ax (by rw[HF.out,if_neg aF]);exact YA):P:=h
theorem apF(ju ph fr fB si:Int)(a:az)(its:List Vx)(n c:Nat)(now:Int)(w:ak)(h:vV w a its)(hn:n=its.length):
  aH 192 #[aaH ju ph fr fB si,.slice a n c,ae now] w (KE ju ph fr fB (its.map Vx.key) now w):=by
 subst hn;have uj:Hid ((its.map Vx.key).length=its.length):=ax aF
 go_enter func192,ntmps192
 go_upto_region 1 with fail
 obtain⟨V,hV⟩:=aI w.heap.size;refine aW (fun W=>ah W V 187 #[ae ju,ae ph,ae fr,ae fB,ae si]∧vV W a its∧Below w.heap.size w W) ⟨by rw[←hV];exact ah.new _ _ _,h.alloc _,bel⟩ ?_;rw[hV];clear h;rintro W ⟨kV,h,be⟩;obtain⟨v0,v1,v2,v3,v4,vf,vl⟩:=kV.five;cases hl:(decide (fr≤now) && decide (now≤fB))with
 |false=>
  have HL:=ax hl;clear hl
  go_wp2_with (go_at_call 206;refine(Uf HL _).mono ?_;rintro e w2 ⟨rfl,hb2⟩)
  go_ret;exact KE.mk (arv HL.out) bel
 |true=>
  have HL:=ax hl;clear hl;by_cases hj0:ju<0
  ·have HF:Hid (qw ju ph fr fB (its.map Vx.key) now=1):=ax (ahi aj);exact ae6
  ·obtain⟨J,rfl⟩:=Int.eq_ofNat_of_zero_le (Int.not_lt.1 hj0);by_cases hJ:J<its.length
   ·obtain⟨ba,oa,rfl⟩:=h.open aj;have kJ:(J:Int)<(its.length:Int):=by omega
    have hic:=h.cs _ (bF hJ);obtain⟨x,hx⟩:=aI (its[J]);rw[hx]at hic;by_cases hp0:ph<0
    ·have HF:Hid (qw J ph fr fB (its.map Vx.key) now=1):=ax (agD hJ hx aj);have HX:=ax hx;clear hx;obtain⟨xf,xo,uT,zA,WJ,WL,WM,WN⟩:=x;exact ae5
    ·obtain⟨P,rfl⟩:=Int.eq_ofNat_of_zero_le (Int.not_lt.1 hp0);by_cases hP:P<x.cs.length
     ·have HF:=ax (asH HL.out hJ hx hP);have HX:=ax hx;clear hx;obtain⟨xf,xo,uT,zA,WJ,WL,WM,WN⟩:=x;simp only at hP hic HF;have kP:(P:Int)<(uT.length:Int):=by omega
      obtain⟨cb,co,rfl,cl,hc⟩:=hic.get P hP;obtain⟨z,hz⟩:=aI (uT[P]);rw[hz]at hc HF;clear hz hic;cases xo with
      |false=>
       exact ae7
      |true=>
       cases xf with
       |true=>
        exact ae7
       |false=>
        by_cases hz1:z=1
        ·subst hz1;have HG:Hid (qw J P fr fB (its.map Vx.key) now=3):=ax (by rw[HF.out,if_pos aF]);exact YA
        ·have HG:Hid (qw J P fr fB (its.map Vx.key) now=2):=ax (by rw[HF.out,if_neg (by simp[hz1])]);have z1:(z==1)=false:=by rw[iL];exact hz1
         clear hz1;exact YA
     ·have HF:Hid (qw J P fr fB (its.map Vx.key) now=1):=ax (agD hJ hx aj);have HX:=ax hx;clear hx;obtain⟨xf,xo,uT,zA,WJ,WL,WM,WN⟩:=x;simp only at hP;have kP:(uT.length:Int)≤(P:Int):=by omega
      clear hP;exact ae5
   ·have kJ:(its.length:Int)≤(J:Int):=by omega
    have HF:Hid (qw J ph fr fB (its.map Vx.key) now=1):=ax (ahi (by rw[uj.out];omega));exact ae6
theorem aw4{A:Nat}(ha:A<8)(hb:B<8):bits .or .i64 (A:Int) (B:Int)=((A|||B:Nat):Int)∧A|||B<8:=by
 have hh: ∀x:Fin 8,∀y:Fin 8,bits .or .i64 (x.val:Int) (y.val:Int)=((x.val|||y.val:Nat):Int)∧x.val|||y.val<8:=by decide+kernel
 exact hh ⟨A,ha⟩ ⟨B,hb⟩
@[reducible] def phV(x:Ph):Value:= .agg #[ae x.ring,ae x.group,ae x.qy,ae x.qA,ae x.mV,ae x.red,ae x.walk,ae x.clear_]
theorem apP(x:Ph)(w:ak)(h:mO x)(hr:x.ring≤1):aH 121 #[phV x] w fun e w'=>e= .returned (.bool true)∧Below w.heap.size w w':=apM x w h hr
theorem YL{P:Prop}(h:P:=by
 go_wp2_with fail
 go_roundw
 case rel=>exact⟨i+1,by rw[HT.out],by go_num,by omega,by rw[HT.out];exact f2,be2⟩
 case measure=>simp[intOf];omega):P:=h
theorem aes(jb jc aQ aY:Nat)(ps:List Ph)(cs:aO)(s:Int)(w:ak)(hp:Row w (some ⟨jb,0,none⟩) (jI ps))(hc:Ints w (some ⟨aQ,0,none⟩) cs)(hf:uJ ps cs)(hs:0≤s∧s≤2):
  aH 90 #[VW jb jc aQ aY ps.length s] w fun e w'=>e= .returned (.bool true)∧Below w.heap.size w w':=by
 have HF:=ax hf;have HL:Hid (ps.length=cs.length):=ax hf.len.symm;have h8:=hf.G5.n;rw[hf.len]at h8;clear hf
 go_enter func90,ntmps90
 go_upto_region 1 with fail
 obtain⟨J,hJ⟩:=aI w.heap.size;refine aW (fun W=>ah W J 69 #[.slice (some ⟨jb,0,none⟩) ps.length jc,.slice (some ⟨aQ,0,none⟩) ps.length aY,ae s]∧Row W (some ⟨jb,0,none⟩) (jI ps)∧Ints W (some ⟨aQ,0,none⟩) cs∧Below w.heap.size w W) ⟨by rw[←hJ];exact ah.new _ _ _,hp.alloc _,Row.alloc hc _,bel⟩ ?_;rw[hJ];have HJ:=ax hJ;clear hJ hp hc;rintro W ⟨kJ,hp,hc,be⟩;have be:Below w.heap.size w W:=by rw[HJ.out];exact be
 obtain⟨q0,q1,q2,qf⟩:W.cell? ⟨J,0,none⟩=some (.slice (some ⟨jb,0,none⟩) ps.length jc)∧W.cell? ⟨J,1,none⟩=some (.slice (some ⟨aQ,0,none⟩) ps.length aY)∧W.cell? ⟨J,2,none⟩=some (ae s)∧J<W.heap.size:=⟨kJ.cell 0,kJ.cell 1,kJ.cell 2,kJ.lt⟩;have ajH:=HF.out.G5;have d1:decide ((ps.length:Int)<1)=false:=fA aj;have d2:decide ((8:Int)<(ps.length:Int))=false:=fA aj
 go_upto_region 4 with((go_at_call 120;refine(aoK (some ⟨aQ,0,none⟩) cs ps.length aY _ hc HL.out ajH).mono ?_;rintro e w1 ⟨rfl,hb1⟩))
 have k1:=kJ.below hb1 kJ.lt;have hp1:=Row.below hp hb1 aA;have hc1:Ints w1 (some ⟨aQ,0,none⟩) cs:=Row.below hc hb1 aA;have uY:Below w.heap.size w w1:=bel;clear q0 q1 q2 qf kJ hp hc hb1 be d1 d2 ajH;obtain⟨q0,q1,q2,qf⟩:w1.cell? ⟨J,0,none⟩=some (.slice (some ⟨jb,0,none⟩) ps.length jc)∧w1.cell? ⟨J,1,none⟩=some (.slice (some ⟨aQ,0,none⟩) ps.length aY)∧w1.cell? ⟨J,2,none⟩=some (ae s)∧J<w1.heap.size:=⟨k1.cell 0,k1.cell 1,k1.cell 2,k1.lt⟩
 go_wp2_with (go_at_call 89;refine(MO _ aj aj).mono ?_;rintro e wz ⟨rfl,rfl⟩)
 go_loopw [4,36] (fun s4 s36 wr=> ∃i:Nat,s4=ae (gS ps i)∧s36=ae i∧i≤ps.length∧gS ps i<8∧Below w1.heap.size w1 wr) (fun _ s _=>ps.length -(intOf s).toNat)
 case atStart=>exact⟨0,rfl,rfl,by omega,by simp[gS],bel⟩
 case round=>
  clear q0 q1 q2 qf;obtain⟨i,rfl,rfl,hi,hg8,bw⟩:=hrel;by_cases hlt:i<ps.length
  ·have ix:(i:Int)<(ps.length:Int):=by omega
   have hpr:=Row.below hp1 bw aA;obtain⟨x0,x1,x2,x3,x4,x5,x6,x7⟩:=zS hpr i hlt;have hok:=HF.out.ok _ (bF hlt);have hrg:=HF.out.ring _ (bF hlt);have HN:Hid (gS ps (i+1)=gS ps i|||2 ^ (ps[i].group.toNat)):=ax (by rw[gS,d_ hlt]);obtain⟨x,hx⟩:=aI (ps[i]);rw[hx]at x0 x1 x2 x3 x4 x5 x6 x7 hok hrg HN;clear hx;obtain⟨S,hS⟩:=aI (gS ps i);rw[hS]at hg8 HN;have HS:=ax hS;rw[hS];clear hS;have hbg:=hok.group;have pl:=hpr
   go_upto_region 10 with fail
   obtain⟨X,hX⟩:=aI wr.heap.size;refine aW (fun U=>ah U X 71 #[ae x.ring,ae x.group,ae x.qy,ae x.qA,ae x.mV,ae x.red,ae x.walk,ae x.clear_]∧Below w1.heap.size w1 U) ⟨by rw[←hX];exact ah.new _ _ _,bel⟩ ?_;rw[hX];clear hX x0 x1 x2 x3 x4 x5 x6 x7 hpr pl bw;rintro U ⟨kX,bw⟩;obtain⟨z0,z1,z2,z3,z4,z5,z6,z7⟩:=kX.eight;have zl:=kX.lt
   go_upto_region 12 with((go_at_call 121;refine(apP x _ hok hrg).mono ?_;rintro e w2 ⟨rfl,hb2⟩))
   have um:=kX.below hb2 kX.lt;clear z0 z1 z2 z3 z4 z5 z6 z7 zl;have g1:w2.cell? ⟨X,1,none⟩=some (ae x.group):=um.cell 1;have zl:=um.lt;have be2:Below w1.heap.size w1 w2:=bel;have hgg:x.group=0∨x.group=1∨x.group=2:=by omega
   clear hok hrg hbg kX um bw hb2;have fin: ∀k:Nat,k<8→x.group=k→2 ^ k<8→bits .or .i64 (S:Int) ((2 ^ k:Nat):Int)=((gS ps (i+1):Nat):Int)∧gS ps (i+1)<8:=fun k _ hk h2=>by
    have h:=aw4 hg8 h2;rw[HN.out,hk,Int.toNat_natCast];exact h
   have KU:=ax fin;clear fin HN;obtain⟨T,hT⟩:=aI (gS ps (i+1));have HT:=ax hT;rw[hT]at KU;clear hT;rcases hgg with hg|hg|hg
   ·have f:=KU.out 0 ay hg ay;rw[hg]at g1;clear hg KU;obtain⟨f1,f2⟩:=f;have f1:bits .or .i64 (S:Int) 1=(T:Int):=f1;exact YL
   ·have f:=KU.out 1 ay hg ay;rw[hg]at g1;clear hg KU;obtain⟨f1,f2⟩:=f;have f1:bits .or .i64 (S:Int) 2=(T:Int):=f1;exact YL
   ·have f:=KU.out 2 ay hg ay;rw[hg]at g1;clear hg KU;obtain⟨f1,f2⟩:=f;have f1:bits .or .i64 (S:Int) 4=(T:Int):=f1;exact YL
  ·obtain rfl:i=ps.length:=by omega
   have kr:=k1.below bw k1.lt;have hpr:=Row.below hp1 bw aA;have hcr:Ints wr (some ⟨aQ,0,none⟩) cs:=Row.below hc1 bw aA;obtain⟨q0,q1,q2,qf⟩:wr.cell? ⟨J,0,none⟩=some (.slice (some ⟨jb,0,none⟩) ps.length jc)∧wr.cell? ⟨J,1,none⟩=some (.slice (some ⟨aQ,0,none⟩) ps.length aY)∧wr.cell? ⟨J,2,none⟩=some (ae s)∧J<wr.heap.size:=⟨kr.cell 0,kr.cell 1,kr.cell 2,kr.lt⟩;have hgr:=HF.out.grp;have hff:=HF.out;rcases hgr with hg|hg|hg<;>
    (
     rw[hg]
     go_wp2_with (go_at_call 122;refine(apO jb jc aQ aY ps cs s _ hpr hcr hff).mono ?_;rintro e w2 ⟨rfl,hb2⟩)
     go_ret;exact⟨rfl,bel⟩)
def zn(k:List ny)(now:Int)(s:Int):Bool:=(qB k 8 s).any fun a=>yg (gK k a).un now
section
open Go.RowKit Go.Sort Go.Shelf
attribute [local go_sem] Oper.semAt_some
section
variable{W W':ak}{row:Option Nat}
theorem lL.turn{l:List Tk}(h:lL W B l xa xc)(hg:W.grownBy W' row)(hr: ∀r,row=some r→∃o:Obj,W.heap[r]?=some o∧o.isCells=false):lL W' B l xa xc:=
 ⟨h.own.turn hg hr,fun t ht=>(h.sec t ht).turn hg hr⟩
end
def Marks(B U:Nat)(W:ak):List Deferred→Prop
 |[]=>True
 |d::ds=>(∃D,d={target:= .collected D,args:= #[]}∧B≤D∧D<U∧W.heap[D]?=some (.deferred (some []))∧∀d'∈ds,d'.target≠ .collected D)∧Marks B U W ds
theorem Marks.keep{U':Nat}(hU:U≤U')(hk: ∀D,D<U→W.heap[D]?=some (.deferred (some []))→W'.heap[D]?=W.heap[D]?): ∀{ds:List Deferred},Marks B U W ds→Marks B U' W' ds
 |[],_=>trivial
 |d::ds,⟨⟨D,e,h1,h2,h3,h4⟩,h⟩=>⟨⟨D,e,h1,jL h2 hU,(hk D h2 h3).trans h3,h4⟩,h.keep hU hk⟩
theorem Marks.lt: ∀{ds:List Deferred},Marks B U W ds→∀d∈ds,∃D,d.target= .collected D∧D<U
 |d::ds,⟨⟨D,e,h1,h2,h3,h4⟩,h⟩,d',hd=>by
  rcases List.mem_cons.1 hd with rfl|hd
  ·exact⟨D,by rw[e],h2⟩
  ·exact h.lt d' hd
theorem Marks.ai7{D:Nat}{o:Obj}: ∀{ds:List Deferred},(∀d'∈ds,d'.target≠ .collected D)→Marks B U W ds→Marks B U (W.putObj D o) ds
 |[],_,_=>trivial
 |d::ds,hne,⟨⟨D2,e,h1,h2,h3,h4⟩,h⟩=>⟨⟨D2,e,h1,h2,(World.putObj_heap_other (fun e2=>hne d aF (by rw[e,e2]))).trans h3,h4⟩,Marks.ai7 (fun d' hd=>hne d' (by simp[hd])) h⟩
theorem Uh{F:Fence}{n:Nat}{P:Program}{fn:Func}{tmps:aZ}{R:EN}{I:Unit→ak→Prop}(hI:OwnFrom B I)(hfin: ∀W,I () W→LeavesIn F n P fn tmps R [] .returning W):
  ∀(ds:List Deferred) (W:ak),Marks B U W ds→I () W→LeavesInM F n P fn tmps R ds .returning W
 |[],W,_,hi=>hfin W hi
 |d::ds,W,⟨⟨D,e,h1,h2,h3,h4⟩,h⟩,hi=>by
  subst e;exact⟨by simp,.inl ⟨D,_,rfl,run_takeDeferred h3,Uh hI hfin ds _ (Marks.ai7 h4 h) (hI.putObj _ hi h1 h3 rfl)⟩⟩
structure zG(w:ak)(T:Nat)(lv:Value)(now:Int)(X:Nat)(xa:az)(xc:Nat)(l3:List Tk)(U:Nat)(ds:List Deferred)(W:ak):Prop where
 kT:ah W T 80 #[lv]
 kN:ah W (T+1) 3 #[ae now]
 kX:ah W X 80 #[.slice xa 8 xc]
 il:lL W w.heap.size l3 xa xc
 ms:Marks w.heap.size U W ds
 be:Below w.heap.size w W
theorem zG.turn{row:Option Nat}(h:zG w T lv now X xa xc l3 U ds W)(hB:w.heap.size≤B)(hU:U≤B)(hg:W.grownBy W' row)(hr: ∀r,row=some r→B≤r∧∃o:Obj,W.heap[r]?=some o∧o.isCells=false):zG w T lv now X xa xc l3 U ds W':=
 ⟨h.kT.turn hg fun r e=>(hr r e).2,h.kN.turn hg fun r e=>(hr r e).2,h.kX.turn hg fun r e=>(hr r e).2,h.il.turn hg fun r e=>(hr r e).2,
  h.ms.keep aA fun D hD hd=>hg.block D (lX.1 hd).1 fun e=>Zi,h.be.grown hg h.be.size fun k e=>dA hB (hr k e).1⟩
theorem zG.below(h:zG w T lv now X xa xc l3 U ds W)(hb:Below W.heap.size W W'):zG w T lv now X xa xc l3 U ds W':=
 ⟨h.kT.below hb h.kT.lt,h.kN.below hb h.kN.lt,h.kX.below hb h.kX.lt,h.il.below hb,h.ms.keep aA fun D _ hd=>hb.block D (lX.1 hd).1,h.be.trans (hb.mono h.be.size)⟩
theorem aqV{g o:Nat}{v:Value}(h:W.cell? ⟨g,o,none⟩=some v)(x:Option (List Deferred)):W.heap[g]?≠some (.deferred x):=by
 intro e;simp[World.cell?,e]at h
theorem zG.Qm{g:Nat}(h:zG w T lv now X (some ⟨g,0,none⟩) xc l3 U ds W){j:Nat}(hj:j<l3.length)(hg:w.heap.size≤g)(y:Tk)(hy:Own W w.heap.size 5 1 y.a y.sec.length y.c (y.sec.map a_)):
  zG w T lv now X (some ⟨g,0,none⟩) xc (l3.set j y) U ds ((((((W.setCell ⟨g,j*6,none⟩ (.bool y.us)).setCell ⟨g,j*6+1,none⟩ (.slice y.a y.sec.length y.c)).setCell ⟨g,j*6+2,none⟩ (ae y.par)).setCell ⟨g,j*6+3,none⟩ (ae y.rt)).setCell ⟨g,j*6+4,none⟩ (ae y.cl)).setCell ⟨g,j*6+5,none⟩ (ae y.un)):=by
 have gr:W.grownBy _ (some g):=(((((grownBy_set W g (j*6) (.bool y.us)).trans (grownBy_set _ g (j*6+1) (.slice y.a y.sec.length y.c))).trans (grownBy_set _ g (j*6+2) (ae y.par))).trans (grownBy_set _ g (j*6+3) (ae y.rt))).trans (grownBy_set _ g (j*6+4) (ae y.cl))).trans (grownBy_set _ g (j*6+5) (ae y.un));have y0:=(EC h.il.own.row j hj).1;have nb: ∀{g':Nat} {t:aK} {cs:aZ},ah W g' t cs→260≠t→g'≠g:=fun k hne e=>by
  subst e;obtain⟨g2,c2,cur,hv,_,hh,_⟩:=h.il.own.2.resolve_left (by rintro⟨hv, -⟩;cases hv);injection hv with hv _ _
  injection hv with hv
  injection hv with hv
  subst hv;rw[show W.heap[_]?=_ from k]at hh;injection hh with hh
  injection hh with _ ht
  exact hne ht.symm
 exact⟨h.kT.grown gr (nb h.kT ay),h.kN.grown gr (nb h.kN ay),h.kX.grown gr (nb h.kX ay),h.il.Qm hj y hy,
  h.ms.keep aA fun D _ hd=>gr.block D (lX.1 hd).1 fun e=>by injection e with e;subst e;exact aqV y0 _ hd,
  h.be.grown gr h.be.size fun k hk=>by injection hk with hk;omega⟩
theorem CO(hb:Below W.heap.size W W'):KeepsOthers W W':=
 ⟨hb.size,fun k o hk _=>(hb.block k (lX.1 hk).1).trans hk⟩
theorem apa(a:az)(l:List Tk)(n c:Nat)(now:Int)(w:ak)(h:RD w a l c)(hn:n=l.length)(h8:l.length=8):
  aH 178 #[.slice a n c,ae now] w (awe (l.map Tk.key) (zn (l.map Tk.key) now) n w):=by
 have ht:=h.qG;have HS:=ax h.sec;have axa:=ax h.nil;obtain rfl:n=8:=by omega
 have HN:=ax h8;clear hn h h8;refine callsIn_wide.1 (callsIn_of_wp_marks (n:=6) func178 rfl trivial (wpIn_wide.2 ?_) rfl);simp only[ntmps178,List.size_toArray,jJ,List.length_nil,Nat.reduceAdd,Nat.reduceSub,Array.replicate_succ,Array.replicate_zero,List.push_toArray,List.append_toArray,List.nil_append,List.cons_append]
 go_upto_region 1 with fail
 obtain⟨T,hT⟩:=aI w.heap.size;refine aW (fun W=>ah W T 80 #[.slice a 8 c]∧ah W (T+1) 3 #[ae now]∧Below w.heap.size w W∧W.heap.size=T+2) ⟨by rw[←hT];exact(ah.new _ _ _).alloc _,by have:=ah.new (w.alloc (.cells #[.slice a 8 c] 80)) 3 #[ae now];simpa [hT]using this,bel,by simp[hT]⟩ ?_;have HT:=ax hT;rw[hT];clear hT;rintro W1 ⟨kT,kN,uY,z1⟩;have uY:Below w.heap.size w W1:=by rw[HT.out];exact uY
 have t0:=kT.cell 0;have tl:=kT.lt;have ht1:=ht.below uY aA
 go_upto_region 2 with((go_at_call 195;refine(apJ a l 8 c _ ht1 HN.out.symm ay axa.out HS.out).mono ?_;rintro e w2 ⟨xa,xc,l2,rfl,hk,hn2,il,hb2⟩))
 obtain⟨X,hX⟩:=aI w2.heap.size;have hXT:T+2≤X:=by have:=hb2.size;omega
 refine aW (fun W=>ah W T 80 #[.slice a 8 c]∧ah W (T+1) 3 #[ae now]∧ah W X 80 #[.slice xa 8 xc]∧lL W w.heap.size l2 xa xc∧Below w.heap.size w W) ⟨(kT.below hb2 kT.lt).alloc _,(kN.below hb2 kN.lt).alloc _,by rw[←hX];exact ah.new _ _ _,(il.mono uY.size).alloc _,bel⟩ ?_;rw[hX];clear hX kT kN uY t0 tl ht1 il hb2 z1;rintro W3 ⟨kT,kN,kX,il,be⟩;have t0:=kT.cell 0;have tl:=kT.lt
 go_wp2_with fail
 refine wp_loop (fun a' wr=> ∃(j:Nat) (l3:List Tk) (ds:List Deferred) (u6 u7 u13 u14 u15 u16 u17 u19 u20 u21 u22 u23 u24 u25 u26 u27 u28 u29:Value),(j≤8∧Hid (l3.length=8)∧Hid (l3.map Tk.key=Ah (l.map Tk.key) (zn (l.map Tk.key) now) j)∧zG w T (.slice a 8 c) now X xa xc l3 wr.heap.size ds wr)∧a'={tmps:= #[.slice a 8 c,ae now,.pointer (some ⟨T,0,none⟩),.pointer (some ⟨T+1,0,none⟩),.slice none 0 0,.pointer (some ⟨X,0,none⟩),u6,u7,.slice a 8 c,.slice xa 8 xc,.slice a 8 c,ae 8,ae j,u13,u14,u15,u16,u17,undef,u19,u20,u21,u22,u23,u24,u25,u26,u27,u28,u29,undef],defers:=ds}) (fun a' _=>8 -(intOf (a'.tmps.getD 12 undef)).toNat) ?_ ?_
 ·exact⟨0,l2,[],_,_,_,_,_,_,_,_,_,_,_,_,_,_,_,_,_,_,⟨by omega,ax hn2.out.symm,ax (by rw[arE,hk.out]),kT,kN,kX,il,trivial,be⟩,rfl⟩
 ·clear kT kN kX il be t0 tl hk hn2;rintro _ wr ⟨j,l3,ds,u6,u7,u13,u14,u15,u16,u17,u19,u20,u21,u22,u23,u24,u25,u26,u27,u28,u29,⟨hj,h3,hk3,I0⟩,rfl⟩;have t0:=I0.kT.cell 0;have tl:=I0.kT.lt;by_cases hlt:j<8
  ·have hj8:(j:Int)<8:=by omega
   go_upto_region 5 with fail
   obtain⟨S,hS⟩:=aI wr.heap.size;refine aW (fun W=>zG w T (.slice a 8 c) now X xa xc l3 S ds W∧ah W S 3 #[ae j]∧W.heap.size=S+1) ⟨⟨I0.kT.alloc _,I0.kN.alloc _,I0.kX.alloc _,I0.il.alloc _,I0.ms.keep (tY hS) (fun D hD _=>Below.heap_alloc _ _ D hD),I0.be.alloc I0.be.size _⟩,by rw[←hS];exact ah.new _ _ _,by simp[hS]⟩ ?_;have hSX:X<S:=by have:=I0.kX.lt;omega
   rw[hS];clear hS I0 t0 tl;rintro W4 ⟨I4,kS,z4⟩;have t0:=I4.kT.cell 0;have tl:=I4.kT.lt;have s0:=kS.cell 0;have sl:=kS.lt
   go_wp2_with (go_at_call 196;refine(anM _ _ _ _ _).mono ?_;rintro e w' ⟨rfl,rfl⟩)
   refine aW (fun W=>zG w T (.slice a 8 c) now X xa xc l3 (S+3) ds W∧ah W S 3 #[ae j]∧ah W (S+1) 80 #[.slice a 8 c]∧ah W (S+1+1) 3 #[ae j]∧W.heap.size=S+3) ⟨⟨(I4.kT.alloc _).alloc _,(I4.kN.alloc _).alloc _,(I4.kX.alloc _).alloc _,(I4.il.alloc _).alloc _,I4.ms.keep aj (fun D hD _=>(Below.heap_alloc _ _ D cu).trans (Below.heap_alloc _ _ D aj)),(I4.be.alloc I4.be.size _).alloc (by have:=I4.be.size;simp;omega) _⟩,(kS.alloc _).alloc _,by rw[←z4];exact(ah.new _ _ _).alloc _,by have:=ah.new (W4.alloc (.cells #[.slice a 8 c] 80)) 3 #[ae j];rw[World.size_alloc,z4]at this;exact this,by simp[z4]⟩ ?_;have HZ4:=ax z4;clear I4 kS z4 t0 tl s0 sl;rintro wc ⟨I5,kS,kL,kJ,zc⟩;have HZC:=ax zc;clear zc;refine(wpIn_wide (n:=6)).1 ?_;refine JV (F:=Fence.wide) rfl aj (gf:=218) (lb:= #[.pointer (some ⟨S+1+1,0,none⟩),.pointer (some ⟨S+1,0,none⟩)]) rfl trivial (enters_of func218 bP rfl)
    (aoI 5 aj a l c j (S+1+1) (S+1) wc kJ (by rw[HN.out];exact kL) (ht.below I5.be aA)) belowK_t (belowK_b aA) bD (fun _=>rfl)
    (fun pre W=>(∀y∈pre,yg (gK (l.map Tk.key) y).un now=false)∧zG w T (.slice a 8 c) now X xa xc l3 (S+3) ds W∧ah W S 3 #[ae j])
    (fun cd pre W=>cd= .exit 2∧(∃y∈pre,yg (gK (l.map Tk.key) y).un now=true)∧zG w T (.slice a 8 c) now X xa xc (l3.set j ⟨false,[], -1,0,0,0,none,0⟩) (S+3) ds W∧ah W S 3 #[ae j])
    (fun pre W W' row h hg hr=>⟨h.1,h.2.1.turn I5.be.size UM hg hr,h.2.2.turn hg fun r e=>(hr r e).2⟩)
    (fun cd pre W W' row h hg hr=>⟨h.1,h.2.1,h.2.2.1.turn I5.be.size UM hg hr,h.2.2.2.turn hg fun r e=>(hr r e).2⟩)
    ⟨by simp,I5,kS⟩
    (fun pre x a' W=>a'={tmps:= #[.slice a 8 c,ae now,.pointer (some ⟨T,0,none⟩),.pointer (some ⟨T+1,0,none⟩),.slice none 0 0,.pointer (some ⟨X,0,none⟩),.pointer (some ⟨S,0,none⟩),ae x,.slice a 8 c,.slice xa 8 xc,.slice a 8 c,ae 8,ae j,.bool true,ae j,.slice a 8 c,ae j,.func (.func 218) #[] #[.pointer (some ⟨S+1+1,0,none⟩),.pointer (some ⟨S+1,0,none⟩)],ae x,u19,u20,u21,u22,u23,u24,u25,u26,u27,u28,u29,undef],defers:= []}∧∃i:Nat,x=i∧i<l.length)
    (fun pre x a'=>ownFrom_pure _ _) ?assign ?body ?done ?stop
   case assign=>
    rintro L pre x W K hi ⟨t,hv⟩ hK;have hx:tU (l.map Tk.key) x=true:=ahn (k:=l.map Tk.key) (n:=8) (s:=j) (by rw[hv];simp)
    gi_wp2
    exact hK _ _ (KeepsFrom.refl _ _) bD hi ⟨rfl,aaI hx⟩
   case body=>
    rintro L pre x a' W hL hrec ⟨hp,hI,kS⟩ ⟨rfl,i,rfl,hi⟩;have t0:=hI.kT.cell 0;have tl:=hI.kT.lt;have n0:=hI.kN.cell 0;have nl:=hI.kN.lt;have i8:(i:Int)<8:=by rw[HN.out]at hi;omega
    have htW:=ht.below hI.be aA;have HG:Hid (gK (l.map Tk.key) i=l[i].key):=ax (ai3 hi);obtain⟨ba,oa,rfl⟩:=htW.open aj;obtain⟨x0,x1,x2,x3,x4,x5,xl⟩:=EC htW.row i hi;obtain⟨t,htt⟩:=aI (l[i]);rw[htt]at x0 x1 x2 x3 x4 x5 HG;clear htt;obtain⟨us,ts,par,rt,cl,un,la,lc⟩:=t;simp only at x0 x1 x2 x3 x4 x5;obtain⟨q,hq⟩:=aI (yg un now);have Q:=ax hq;clear hq
    gi_wp2
    gi_region_with (refine⟨trivial,?_⟩;gi_at_call 197;refine(CallsIn.inRound L (callsIn_wide.2 (aeu Q _ _ _ _ _ _ _))).mono ?_;rintro e w' ⟨rfl,hb⟩)
    all_goals
     have hb2:Below W.heap.size W w':=bel;have hI2:=hI.below hb2;have uw:=kS.below hb2 kS.lt;have Lr:wc.heap.size≤W.heap.size:=by
      obtain⟨r,hr⟩:=hrec;have:=(lX.1 hr).1;omega
     clear hb hI t0 tl n0 nl x0 x1 x2 x3 x4 x5 xl htW;cases q with
     |false=>
      gi_wp2
      exact⟨(CO hb2).from _,hb2.mono Lr,fun y hy=>by
       rcases lW.1 hy with h|h
       ·exact hp y h
       ·rw[dU.1 h,HG.out];exact Q.out,hI2,uw⟩
     |true=>
      obtain⟨g,rfl,gB, -⟩:=hI2.il.own.open_ (by rw[h3.out];decide);have X0:=hI2.kX.cell 0;have Xl:=hI2.kX.lt;have s0:=uw.cell 0;have sl:=uw.lt;have HI2:=ax hI2
      gi_wp2
      gi_region_with (refine⟨trivial,?_⟩;gi_at_call 155;refine(CallsIn.inRound L (callsIn_wide.2 (agI _))).mono ?_;rintro e w4 ⟨rfl,hb4⟩;(have hb5:Below w'.heap.size w' w4:=bel);(have w_:=HI2.out.below hb5);(have Xo:=uw.below hb5 uw.lt);(have X4:=w_.kX.cell 0);(have Xl4:=w_.kX.lt);(have s4:=Xo.cell 0);(have sl4:=Xo.lt);(obtain⟨y0,y1,y2,y3,y4,y5,yl⟩:=EC w_.il.own.row j (by rw[h3.out];exact hlt));(simp only[dX]at y0 y1 y2 y3 y4 y5);(have yf:=w_.il.own.frozen))
      all_goals
       have fin:=w_.Qm (j:=j) (by rw[h3.out];exact hlt) gB ⟨false,[], -1,0,0,0,none,0⟩ (Own.nil _ _ _ _);have OJ:S≠g:=fun e=>by
        subst e;obtain⟨g2,c2,cur,hv,_,hh,_⟩:=w_.il.own.2.resolve_left (by rintro⟨hv, -⟩;cases hv);injection hv with hv _ _
        injection hv with hv
        injection hv with hv
        subst hv;rw[show w4.heap[_]?=_ from Xo]at hh;injection hh with hh
        injection hh with _ ht
        exact absurd ht ay
       gi_wp2
       exact⟨((((((((CO hb2).trans (CO hb5)).trans (KeepsOthers.setCell _ _ _)).trans (KeepsOthers.setCell _ _ _)).trans (KeepsOthers.setCell _ _ _)).trans (KeepsOthers.setCell _ _ _)).trans (KeepsOthers.setCell _ _ _)).trans (KeepsOthers.setCell _ _ _)).from _,rfl,⟨i,by simp,by rw[HG.out];exact Q.out⟩,fin,(((((Xo.far OJ _).far OJ _).far OJ _).far OJ _).far OJ _).far OJ _⟩
   case done=>
    rintro D xs W hD rfl ⟨hp,hI,kS⟩ hK;have hf:zn (l.map Tk.key) now j=false:=by
     unfold zn;rw[List.any_eq_false];intro y hy;rw[hp y hy];decide
    have HG:Hid (l3.map Tk.key=Ah (l.map Tk.key) (zn (l.map Tk.key) now) (j+1)):=ax (by rw[auh hf,hk3.out]);have hDs:D<W.heap.size:=(lX.1 hK).1;have HM:Hid (Marks w.heap.size W.heap.size W ({target:= .collected D,args:= #[]}::ds)):=ax ⟨⟨D,rfl,dA I5.be.size hD,hDs,hK,fun d' hd' e=>by
     obtain⟨D2,e2,h2⟩:=hI.ms.lt d' hd';rw[e2]at e;injection e with e
     have:=HZC.out;omega⟩,hI.ms.keep UM fun _ _ _=>rfl⟩
    clear hp hf hK
    go_wp2_with fail
    exact⟨⟨j+1,l3,_,_,_,_,_,_,_,_,_,_,_,_,_,_,_,_,_,_,_,⟨by omega,h3,HG.out|>Lib.hid,⟨hI.kT,hI.kN,hI.kX,hI.il,HM.out,hI.be⟩⟩,by go_num⟩,by simp[intOf];omega⟩
   case stop=>
    rintro D cd pre W hD ⟨t,hst⟩ ⟨rfl,hp,hI,kS⟩ hK;have hf:zn (l.map Tk.key) now j=true:=by
     obtain⟨y,hy,hq⟩:=hp;unfold zn;rw[List.any_eq_true];exact⟨y,by rw[hst];simp[hy],hq⟩
    have HG:Hid ((l3.set j ⟨false,[], -1,0,0,0,none,0⟩).map Tk.key=Ah (l.map Tk.key) (zn (l.map Tk.key) now) (j+1)):=ax (by rw[as5 hf,←hk3.out,List.map_set];rfl);have hDs:D<W.heap.size:=(lX.1 hK).1;have HM:Hid (Marks w.heap.size W.heap.size W ({target:= .collected D,args:= #[]}::ds)):=ax ⟨⟨D,rfl,dA I5.be.size hD,hDs,hK,fun d' hd' e=>by
     obtain⟨D2,e2,h2⟩:=hI.ms.lt d' hd';rw[e2]at e;injection e with e
     have:=HZC.out;omega⟩,hI.ms.keep UM fun _ _ _=>rfl⟩
    clear hp hf hK
    gi_wp2
    go_wp2_with fail
    exact⟨⟨j+1,_,_,_,_,_,_,_,_,_,_,_,_,_,_,_,_,_,_,_,_,⟨by omega,ax (by rw[iQ];exact h3.out),HG,⟨hI.kT,hI.kN,hI.kX,hI.il,HM.out,hI.be⟩⟩,by go_num⟩,by simp[intOf];omega⟩
  ·obtain rfl:j=8:=by omega
   have x0:=I0.kX.cell 0;have xl:=I0.kX.lt;have HK:Hid (l3.map Tk.key=yY (l.map Tk.key) (zn (l.map Tk.key) now)):=ax (by rw[hk3.out,←as4,g_,HN.out]);have HI:=ax I0;clear hk3 t0 tl
   go_wp2_with fail
   refine Uh (B:=w.heap.size) (U:=wr.heap.size) (I:=fun _ W=>lL W w.heap.size l3 xa xc∧Below w.heap.size w W) (fun s W W' row h hg hr=>⟨h.1.turn hg fun r e=>(hr r e).2,h.2.grown hg h.2.size fun k e=>(hr k e).1⟩) (fun W h=>?_) ds wr HI.out.ms ⟨HI.out.il,HI.out.be⟩;refine⟨.slice xa 8 xc,by simp[results,results178,go_sem],?_⟩;exact⟨xa,xc,l3,rfl,HK,ax h3.out.symm,h.1,h.2⟩
end
structure VK where
 rt:Int
 cl:Int
 lim:aO
 rq:Int
 se:Int
 ra:Int
 bu:Int
structure Gn(n:VK):Prop where
 rt:0≤n.rt∧n.rt≤63
 cl:0≤n.cl∧n.cl≤3
 ll:n.lim.length=4
 lim: ∀x∈n.lim,0≤x∧x≤8
 rq:1≤n.rq∧n.rq≤4
 se:1≤n.se∧n.se≤2
 ra:0≤n.ra∧n.ra≤n.bu
 bu:n.bu≤1000
@[reducible] def agV(sa:az)(sn sc:Nat)(la:az)(lc:Nat)(n:VK):Value:=KH sa sn sc n.rt n.cl la 4 lc n.rq n.se n.ra n.bu
theorem apb(sa:az)(sc:Nat)(la:az)(lc:Nat)(n:VK)(w:ak)(hl:Ints w la n.lim)(hf:Gn n):
  aH 91 #[agV sa 8 sc la lc n] w fun e w'=>e= .returned (.bool true)∧Below w.heap.size w w':=by
 obtain⟨rt,cl,lim,rq,se,ra,bu⟩:=n;obtain⟨h1,h2,h3,h4,h5,h6,h7,h8⟩:=hf;simp only at h1 h2 h3 h4 h5 h6 h7 h8 hl⊢;have H4:=ax h4;have H3:=ax h3;clear h4;obtain⟨lb,lo,rfl⟩:=P9 hl aj;clear h3
 go_enter func91,ntmps91
 go_upto_region 1 with fail
 obtain⟨J,hJ⟩:=aI w.heap.size;refine aW (fun W=>ah W J 32 #[.slice sa 8 sc,ae rt,ae cl,.slice (some ⟨lb,lo,none⟩) 4 lc,ae rq,ae se,ae ra,ae bu]∧Ints W (some ⟨lb,lo,none⟩) lim∧Below J w W) ⟨by rw[←hJ];exact ah.new _ _ _,Row.alloc hl _,by rw[←hJ];exact bel⟩ ?_;have HJ:=ax hJ;rw[hJ];clear hJ hl;rintro W ⟨kJ,hl,be⟩;obtain⟨q0,q1,q2,q3,q4,q5,q6,q7⟩:=kJ.eight;have ql:=kJ.lt
 go_wp2_with fail
 go_loopw [18] (fun G8 wr=> ∃i:Nat,G8=ae i∧i≤4∧Below W.heap.size W wr) (fun s _=>4 -(intOf s).toNat)
 case atStart=>exact⟨0,rfl,by omega,bel⟩
 case round=>
  clear q0 q1 q2 q3 q4 q5 q6 q7 ql;obtain⟨i,rfl,hi,bw⟩:=hrel;have kr:=kJ.below bw kJ.lt;obtain⟨q0,q1,q2,q3,q4,q5,q6,q7⟩:=kr.eight;have ql:=kr.lt;by_cases hlt:i<4
  ·have ix:(i:Int)<4:=by omega
   have hil:i<lim.length:=by rw[H3.out];exact hlt
   have hr:Ints wr (some ⟨lb,lo,none⟩) lim:=Row.below hl bw aA;obtain⟨x0,xl⟩:=EE hr i hil;have hx:=H4.out _ (bF hil);obtain⟨x,hxe⟩:=aI (lim[i]);rw[hxe]at x0 hx;clear hxe
   go_wp2_with (go_at_call 89;refine(MO _ aj aj).mono ?_;rintro e wz ⟨rfl,rfl⟩)
   go_roundw
   case rel=>exact⟨i+1,by go_num,by omega,bw⟩
   case measure=>simp[intOf];omega
  ·obtain rfl:i=4:=by omega
   go_wp2_with (go_at_call 89;refine(MO _ aj aj).mono ?_;rintro e wz ⟨rfl,rfl⟩)
   go_ret;have nz:Below J w wr:=be.trans (bw.mono (by have:=be.size;have:=HJ.out;omega));exact⟨rfl,by rw[HJ.out];exact nz⟩
section
variable{P:Program}{n:Nat}
theorem aqi{row:String}{args:aZ}{R:Value→ak→Prop}(h:Rows P row args w R):RowsIn Fence.wide n P row args w R:=
 fun c cs _=>let⟨v,w',r,s⟩:=h c cs;⟨v,w',r,stepsIn_wide.2 s⟩
theorem apo(L:Nat)(hQ: ∀e a w,Q e a w→e= .normal){o:Oper}{K:Act→ak→Prop}{a:Act}(hi:ops[i]?=some o)(hd: ∀c,o.op≠ .defer c)(h:wpOp P ops Q i K a w):wpOpIn (Fence.wide.inRound L) n P ops Q i K a w:=by
 unfold wpOpIn;unfold wpOp at h;simp only[hi]at h⊢
 split
 ·rename_i hw;simp only[hw,if_true]at h;rcases h with h|⟨_,⟨a0,w0,h⟩⟩
  case inr=>cases hQ _ _ _ h
  refine⟨fun f hf=>trivial,?_⟩;rw[Oper.semAt_eq _ a.eval o hd];unfold Oper.wp at h;generalize hr:(execOp a.eval o).run P w=r at h;cases r with
  |ok x w'=>
   cases x<;>simp only[Oper.upon]at h<;>simp only[Oper.uponIn]
   case value u=>exact h
   case skip=>exact h
   case defer d=>exact h
   case enter f args=>exact⟨fun h=>by simp[Fence.wide]at h,CallsIn.inRound L (callsIn_wide.2 h)⟩
   case row row args=>exact⟨fun h=>by simp[Fence.wide]at h,aqi h⟩
  |halt x w'=>
   cases x<;>simp only[Oper.upon]at h
   case panic v=>cases hQ _ _ _ h
 ·rename_i hw;simp only[hw]at h;exact⟨fun f hf=>trivial,h⟩
def aan(l:List Oper):Bool:=l.all fun o=>match o.op with| .defer _=>false|_=>true
theorem aeC(L:Nat){md:Region.Mode}(hQ: ∀e a w,Q e a w→e= .normal)(hp:aan ops.toList=true): ∀(fuel:Nat) (listed:Array Bool) (a:Act) (w:ak),wpAny P md ops Q fuel listed a w→wpAnyIn (Fence.wide.inRound L) n P md ops Q fuel listed a w
 |0,_,_,_,h=>h
 |fuel+1,listed,a,w,h=>by
  refine⟨h.1,fun i hi=>?_⟩;obtain⟨_,o,ho,_⟩:=mem_ready.1 hi;have hpo:=List.all_eq_true.1 hp o (by simpa using Array.mem_of_getElem? ho);exact wpOpIn_mono (fun a' w' h'=>aeC L hQ hp fuel _ a' w' h') (apo L hQ ho (fun c hc=>by rw[hc]at hpo;cases hpo) (h.2 i hi))
theorem anW{a:Act}{l:List Oper}(n0:Nat)(jh:List (b_ × Nat))(fin:b_)(hm:P.follows .mixedOrders=true)(hB:(NW .any l.toArray n0 fin jh && aan l)=true)
  (D:ak→Prop) (hD:D {w with drawn:=w.drawn+1})
  (h:yX P l.toArray D (fun a' w'=>wpList P l.toArray (fun e a2 w2=>e= .normal∧Q .normal a2 w2) (l.drop n0) a' w') (dV l fin) (jh.map fun s=>(dV l s.1,l.getD s.2 default)) a {w with drawn:=w.drawn+1}):(Code.region id l.toArray true).wpIn (Fence.wide.inRound L) n P Q a w:=by
 simp only[NW,Bool.and_eq_true,decide_eq_true_eq]at hB;obtain⟨⟨⟨⟨⟨⟨hsel,hn⟩,hs⟩,hc⟩,hlen⟩,hgo⟩,hdf⟩:=hB;have hdl:(l.drop n0).length=l.toArray.size -n0:=by simp
 have inv0:HeadInv .any l.toArray n0 (Array.replicate l.toArray.size false):=
  ⟨by simp,fun j oj _ hl=>M_,fun t _ ht=>getD_in Nh (getD_replicate_false _ _)⟩
 refine wpIn_mono (Q:=fun e a w=>e= .normal∧Q .normal a w) ?_ JR;have H:=YD (P:=P) (Q:=fun e a w=>e= .normal∧Q .normal a w) (D:=D) (md:= .any) (fun c a w hq=>by cases hq.1) hsel hs hc hn fin jh _ a _ hD inv0 hgo h;rw[hlen]at H;refine wpIn_region_any hm (aeC L (fun e a w hq=>hq.1) (by simpa using hdf) _ _ _ _ ?_);have:=Yf (Q:=fun e a w=>e= .normal∧Q .normal a w) (g:=l.toArray.size -n0) (fun listed a' w' hL=>by
  have:=wpAny_of_seq (md:= .any) (Q':=fun e a w=>e= .normal∧Q .normal a w) (l.drop n0) n0 listed a' w' (fun j=>by simp[List.getElem?_drop]) (by rw[hdl];exact hL.1) hL.2
  rwa [hdl]at this) _ _ _ _ H
 rw[show n0+(l.toArray.size -n0)=l.toArray.size by omega]at this;exact this
theorem anE{a:Act}{l:List Oper}(n0:Nat)(jh:List (b_ × Nat))(fin:b_)(hm:P.follows .mixedOrders=true)(hB:(NW .any l.toArray n0 fin jh && aan l)=true)
  (h:yX P l.toArray (fun w'=> ∃p:Regrown,w'=Sort.grow (redrawn w p.d) p.os) (fun a' w'=>wpList P l.toArray (fun e a2 w2=>e= .normal∧Q .normal a2 w2) (l.drop n0) a' w') (dV l fin) (jh.map fun s=>(dV l s.1,l.getD s.2 default)) a w.drew):(Code.region id l.toArray true).wpIn (Fence.wide.inRound L) n P Q a w:=
 anW n0 jh fin hm hB _ ⟨⟨w.drawn+1,#[]⟩,by rw[Sort.grow_empty];rfl⟩ h
end
theorem Qd{s:jZ}{g:Int}(h:(i:Int)≠s.fix∨s.grp=0):fP s g i= []:=by
 unfold fP;rw[if_neg];omega
theorem aoS(s:jZ)(g:Int): ∀(l:aO) (i:Nat),s.fix<i→mi s g i l=lF l:=by
 intro l
 induction l with
 |nil=>intro i h;rw[mi,Qd (.inl aj)];rfl
 |cons n l ih=>intro i h;rw[mi,Qd (.inl aj),ih (i+1) aj];simp[lF]
theorem arb(s:jZ)(g:Int)(l:aO)(i:Nat)(h:(i:Int)=s.fix):mi s g i l=fP s g i++lF l:=by
 cases l with
 |nil=>rw[mi];simp[lF]
 |cons n l=>rw[mi,aoS s g l (i+1) aj];simp[lF]
theorem aop(s:jZ)(g:Int)(m:aO): ∀(l:aO) (i:Nat),((i+l.length:Nat):Int)≤s.fix→mi s g i (l++m)=lF l++mi s g (i+l.length) m:=by
 intro l
 induction l with
 |nil=>intro i _;simp[lF]
 |cons n l ih=>
  intro i h;rw[jJ]at h;rw[List.cons_append,mi,Qd (.inl aj),ih (i+1) aj,jJ,show i+(l.length+1)=i+1+l.length by omega];simp[lF]
theorem aqx(s:jZ)(g:Int)(l m:aO)(h:(l.length:Int)=s.fix):mi s g 0 (l++m)=lF l++(fP s g l.length++lF m):=by
 rw[aop s g m l 0 aj,dX,arb s g m _ h]
theorem aaq{k:Int}{s:jZ}(hs:cZ k=s){tok dat:aJ}{l m:aO}(h:(l.length:Int)=s.fix):aU.pay ⟨k,tok,l++m,dat⟩=tok++(lF l++(fP s (mY s (l++m).length) l.length++lF m))++dat:=by
 unfold aU.pay;simp only[hs];rw[aqx s _ l m h]
theorem aoT{k:Int}{s:jZ}(h1:1≤k)(h2:k≤22)(hs:cZ k=s)(so:KF s)(hg:s.grp=0){p r:aJ}{l:aO}(hp:(p.length:Int)≤200)(ht:s.tok≤p.length)(hr:f_ s.fix.toNat (p.drop s.tok.toNat)=some (l,r))(hd:s.dat= -1∨(r.length:Int)=s.dat):
  aU.Ok ⟨k,p.take s.tok.toNat,l,r⟩∧aU.pay ⟨k,p.take s.tok.toNat,l,r⟩=p:=by
 obtain⟨e1,e2,e3⟩:=zU _ _ _ _ hr;have hf:=so.fix;have ht2:=so.tok;have hl:(l.length:Int)=s.fix:=by omega
 have hpay:aU.pay ⟨k,p.take s.tok.toNat,l,r⟩=p:=by
  have:=aaq hs (tok:=p.take s.tok.toNat) (dat:=r) (l:=l) (m:= []) hl;rw[iK]at this;rw[this,Qd (.inr hg)];have e:lF ([]:aO)= []:=rfl;rw[e,iK,iK,uM,←e2,List.take_append_drop]
 refine⟨⟨⟨h1,h2⟩,?_,?_,?_,?_,e3,?_⟩,hpay⟩
 ·simp only[hs,pV];omega
 ·simp only[hs];exact hd
 ·simp only[hs];unfold iD;rw[if_pos hg];exact hl
 ·have:r.length≤(p.drop s.tok.toNat).length:=by rw[e2];simp
  rw[pW]at this;simp only;omega
 ·rw[hpay];omega
theorem avQ{s:jZ}{x A:Int}(hg:0<s.grp)(hA:A=s.fix+x*s.grp)(h0:0≤x)(hlo:s.lo≤x)(hhi:x≤s.hi):mY s A=x∧iD s A:=by
 have e:A -s.fix=x*s.grp:=by omega
 have e2:x*s.grp/s.grp=x:=Int.mul_ediv_cancel _ aj;have e3:0≤x*s.grp:=Int.mul_nonneg h0 aj;unfold mY iD;rw[if_neg aj,if_neg aj,e,e2];exact⟨rfl,by omega,Int.mul_emod_left _ _,hlo,hhi⟩
theorem arc{k:Int}{s:jZ}(h1:1≤k)(h2:k≤22)(hs:cZ k=s)(so:KF s)(hg:0<s.grp){p r r2 r3:aJ}{l m:aO}{x:Int}(hp:(p.length:Int)≤200)(ht:s.tok≤p.length)(hr:f_ s.fix.toNat (p.drop s.tok.toNat)=some (l,r))(hr1:f_ 1 r=some ([x],r2))
  (hlo:s.lo≤x) (hhi:x≤s.hi) (hr2:f_ (x*s.grp).toNat r2=some (m,r3)) (hd:s.dat= -1∨(r3.length:Int)=s.dat):
  aU.Ok ⟨k,p.take s.tok.toNat,l++m,r3⟩∧aU.pay ⟨k,p.take s.tok.toNat,l++m,r3⟩=p:=by
 obtain⟨e1,e2,e3⟩:=zU _ _ _ _ hr;obtain⟨_,f2,f3⟩:=zU _ _ _ _ hr1;obtain⟨g1,g2,g3⟩:=zU _ _ _ _ hr2;have hf:=so.fix;have ht2:=so.tok;have hx:=f3 x aF;have hl:(l.length:Int)=s.fix:=by omega
 have hxg:0≤x*s.grp:=Int.mul_nonneg hx.1 aj;obtain⟨gn,go⟩:=avQ (A:=((l++m).length:Int)) hg (by rw[dP];omega) hx.1 hlo hhi;have hpay:aU.pay ⟨k,p.take s.tok.toNat,l++m,r3⟩=p:=by
  rw[aaq hs hl,gn];have e:fP s x l.length=dI x.toNat:=by unfold fP;rw[if_pos ⟨hl,hg⟩]
  have e':lF [x]=dI x.toNat:=by simp[lF]
  rw[e']at f2;have hp':=List.take_append_drop s.tok.toNat p;rw[e2,f2,g2]at hp';rw[e];exact Eq.trans aF hp'
 refine⟨⟨⟨h1,h2⟩,?_,?_,?_,?_,?_,?_⟩,hpay⟩
 ·simp only[hs,pV];omega
 ·simp only[hs];exact hd
 ·simp only[hs];exact go
 ·have:r3.length≤(p.drop s.tok.toNat).length:=by rw[e2,f2,g2];simp;omega
  rw[pW]at this;simp only;omega
 ·intro n hn;rcases lW.1 hn with h|h
  ·exact e3 n h
  ·exact g3 n h
 ·rw[hpay];omega
theorem ZQ{m:aU}(hm:m.Ok){s:jZ}(hs:cZ m.kind=s):m.pay.length≤200∧s.tok≤m.pay.length∧m.pay.take s.tok.toNat=m.tok∧(s.dat= -1∨(m.dat.length:Int)=s.dat)∧
  ∃l m2 r,m.args=l++m2∧f_ s.fix.toNat (m.pay.drop s.tok.toNat)=some (l,r)∧((s.grp=0∧m2= []∧r=m.dat)∨(0<s.grp∧∃x,s.lo≤x∧x≤s.hi∧0≤x∧f_ 1 r=some ([x],lF m2++m.dat)∧f_ (x*s.grp).toNat (lF m2++m.dat)=some (m2,m.dat))):=by
 have so:=CX m.kind;rw[hs]at so;obtain⟨k,tok,args,dat⟩:=m;obtain⟨⟨h1,h2⟩,ht,hd,hg,hdl,ha,hp⟩:=hm;simp only at h1 h2 ht hd hg hdl ha hs;rw[hs]at ht hd hg;have hf:=so.fix;have hle:s.fix≤args.length:=by
  unfold iD at hg
  split at hg<;>omega
 obtain⟨l,m2,rfl,hl⟩: ∃l m2,args=l++m2∧(l.length:Int)=s.fix:=⟨args.take s.fix.toNat,args.drop s.fix.toNat,(List.take_append_drop _ _).symm,by rw[pV];omega⟩;have hpay:=aaq hs (tok:=tok) (dat:=dat) (l:=l) (m:=m2) hl;have htl:s.tok.toNat=tok.length:=by omega
 have hal: ∀x∈l,0≤x∧x≤4294967295:=fun x hx=>ha x (List.mem_append_left _ hx);have ham: ∀x∈m2,0≤x∧x≤4294967295:=fun x hx=>ha x (List.mem_append_right _ hx);have hfl:s.fix.toNat=l.length:=by omega
 refine⟨hp,?_,?_,hd,l,m2,fP s (mY s (l++m2).length) l.length++lF m2++dat,rfl,?_,?_⟩
 ·rw[hpay];simp;omega
 ·rw[hpay,htl];simp
 ·rw[hpay,htl,hfl];have:(tok++(lF l++(fP s (mY s (l++m2).length) l.length++lF m2))++dat).drop tok.length=lF l++(fP s (mY s (l++m2).length) l.length++lF m2++dat):=by simp
  rw[this];exact aap l _ hal
 ·by_cases h0:s.grp=0
  ·left;unfold iD at hg;rw[if_pos h0,dP]at hg;have:m2= []:=Gp aj;subst this;refine⟨h0,rfl,?_⟩;rw[Qd (.inr h0)];simp[lF]
  ·right;have Xb:=so.grp;obtain⟨b0,b1⟩:=U_ so hg;unfold iD at hg;rw[if_neg h0]at hg;have hx:mY s (l++m2).length=(((l++m2).length:Int) -s.fix)/s.grp:=by unfold mY;rw[if_neg h0]
   have hmul:mY s (l++m2).length*s.grp=m2.length:=by
    rw[hx,Int.ediv_mul_cancel (Int.dvd_of_emod_eq_zero hg.2.1),dP];omega
   refine⟨by omega,mY s (l++m2).length,by rw[hx];exact hg.2.2.1,by rw[hx];exact hg.2.2.2,b0,?_,?_⟩
   ·have e:fP s (mY s (l++m2).length) l.length=lF [mY s (l++m2).length]:=by unfold fP;rw[if_pos ⟨hl,by omega⟩];simp[lF]
    rw[e,uM];exact aap [_] _ (by intro x hx;rw[dU.1 hx];omega)
   ·rw[hmul,Int.toNat_natCast];exact aap m2 _ ham
end Go.Proofs.YtiffpjamngklhaaGreat
