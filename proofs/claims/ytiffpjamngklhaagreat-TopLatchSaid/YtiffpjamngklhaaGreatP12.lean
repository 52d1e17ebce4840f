/- Lemmas, part 12. -/
import Derived.Deep.DeepCutAuto
import Derived.Outline
import Derived.Test.YtiffpjamngklhaaGreatP07
import Derived.Test.YtiffpjamngklhaaGreatP10
import Derived.Test.YtiffpjamngklhaaGreatP11
namespace Go.Proofs.YtiffpjamngklhaaGreat
set_option linter.all false
set_option maxRecDepth 100000
set_option maxHeartbeats 16000000
open Go.RowKit Tryz
open Go.Sort hiding Below
variable{w w' W:ak}{B n i k B' c sz lc sc b1 sn ln:Nat}{a la sa:az}{Q:dR}{e ty:aK}{xs:aP}{l sec:aJ}{ops:Array Oper}{rest:List Oper}{P:Program}{s now gr dt fx cl rt kind rq se bu:Int}{ps:List Ph}{dst:Option Tmp}{pos:String}{after:Array Edge}{r:Rx}{y:Operand}{fn:Func}{ρ:Operand→Value}{vs:List Vk}{guard:Option (Nat × Bool)}{lim:aO}
def Gj(l:List Rk)(vs:List Vk)(now:Int)(i k:Nat):Int:=
 match l[i]? with
 |none=>0
 |some r=>match r.2.2.2.2[k]? with
  |none=>0
  |some x=>qw x.ju x.ph x.fr x.fB vs now
def EH(l:List Rk)(q:Nat)(vs:List Vk)(now:Int):aJ:=(List.range (q*3)).map fun j=>nU (Gj l vs now (j/3) (j % 3))
theorem MS(l:List Rk)(q:Nat)(vs:List Vk)(now:Int):(EH l q vs now).length=q*3:=by simp[EH]
theorem aqJ{l:List Rk}{q:Nat}{j:Nat}(h:j<q*3):(EH l q vs now)[j]'(by rw[MS];exact h)=nU (Gj l vs now (j/3) (j % 3)):=by simp[EH]
theorem arw{l:List Rq}(hi:i<l.length){r:Rq}(hr:l[i]=r)(hk:k<r.dH.length){x:Lg}(hx:r.dH[k]=x):Gj (l.map Rq.key) vs now i k=qw x.ju x.ph x.fr x.fB vs now:=by
 subst hr hx;simp[Gj,hi,hk,Rq.key]
theorem arx{l:List Rq}(h:l.length≤i):Gj (l.map Rq.key) vs now i k=0:=by
 simp[Gj,h]
theorem aqK{l:List Rq}(hi:i<l.length){r:Rq}(hr:l[i]=r)(hk:r.dH.length≤k):Gj (l.map Rq.key) vs now i k=0:=by
 subst hr;simp[Gj,hi,hk,Rq.key]
def Dq(l:aJ)(n i:Nat):aJ:=l.take i++List.replicate (n -i) 0
theorem aqL(l:aJ)(n:Nat):Dq l n 0=List.replicate n 0:=by simp[Dq]
theorem ary(h:l.length=n):Dq l n n=l:=by simp[Dq,←h]
theorem Zr(h:l.length=n)(hi:i≤n):(Dq l n i).length=n:=by simp[Dq];omega
theorem Zt(h:l.length=n)(hi:i<n)(x:UInt8)(hx:l[i]' aj=x):(Dq l n i).set i x=Dq l n (i+1):=by
 subst hx;unfold Dq;exact aeY
theorem asI{C:Int}(h:0≤C∧C≤255):a_ (nU C)= .int .u8 C:=by
 simp only[a_,Z7];congr 1;omega
def avh(bs:aJ)(w:ak)(e:Ending)(w':ak):Prop:=
 ∃(a:az) (c n:Nat),e= .returned (.slice a n c)∧Hid (n=bs.length)∧Own w' w.heap.size 5 1 a n c (bs.map a_)∧Below w.heap.size w w'
theorem ae8{P:Prop}(h:P:=by
 go_wp2_with fail
 go_roundw
 case rel=>exact⟨i+1,by go_num,by omega,kN,Ol⟩
 case measure=>simp[intOf];omega):P:=h
theorem ao2(a:az)(l:List Rq)(n c q:Nat)(va:az)(its:List Vx)(vn vc:Nat)(now:Int)(w:ak)(h:sS w a l)(hn:n=l.length)(hv:vV w va its)(hvn:vn=its.length)(hq:q≤1000)(hl: ∀r∈l,r.dH.length≤1000)(hl9:l.length≤100000):
  aH 168 #[.slice a n c,ae q,.slice va vn vc,ae now] w (avh (EH (l.map Rq.key) q (its.map Vx.key) now) w):=by
 subst hn hvn;obtain⟨N,hN⟩: ∃N,N=q*3:=⟨_,rfl⟩;have HN:=ax hN;have uU:Hid ((EH (l.map Rq.key) q (its.map Vx.key) now).length=N):=ax (by rw[MS,hN]);have hN9:N≤3000:=by omega
 have hqN:(q:Int)*3=(N:Int):=by omega
 obtain⟨CM,hCM⟩:=aI (EH (l.map Rq.key) q (its.map Vx.key) now);have HCM:=ax (show∀j (hj:j<N),CM[j]?=some (nU (Gj (l.map Rq.key) (its.map Vx.key) now (j/3) (j % 3))) from fun j hj=>by
  subst hCM;rw[d_ (by rw[uU.out];exact hj),aqJ (by have:=HN.out;omega)])
 rw[hCM]at uU⊢;clear hCM
 go_enter func168,ntmps168
 by_cases hq0:q=0
 ·subst hq0;clear hN
  go_wp2_with fail
  go_ret;have awO:CM= []:=Gp (by rw[uU.out];have:=HN.out;omega);subst awO;exact⟨none,0,0,rfl,ax rfl,Own.nil _ _ _ _,bel⟩
 ·have z1: ¬ ((q:Int)≤0):=by omega
  have z2: ¬ (715827882<(q:Int)):=by omega
  have z1b:decide ((q:Int)≤0)=false:=fA z1;have z2b:decide ((715827882:Int)<(q:Int))=false:=fA z2;have hN1:1≤N:=by omega
  clear hN hq0
  go_upto_region 4 with((with_reducible refine U0 N N ?_ ?_ ?_ ?_ ?_);(focus rfl);(focus rfl);(focus omega);(focus omega);intro W B0 lK z0)
  obtain⟨B,hB⟩:=aI w.heap.size;rw[hB]at B0⊢;have hBW:=B0.lt;have hr0:=h.below lK aA;have hv0:=hv.below lK aA;clear z0
  go_wp2_with fail
  go_loopw [24] (fun s24 wr=> ∃i:Nat,s24=ae i∧i≤N∧ah wr B 5 ((Dq CM N i).map a_).toArray∧Below B w wr) (fun s _=>N -(intOf s).toNat)
  case atStart=>exact⟨0,rfl,by omega,by rw[aqL];exact B0,by rw[←hB];exact lK⟩
  case round=>
   clear B0 hr0 hv0 lK;obtain⟨i,rfl,hi,kB,be⟩:=hrel;by_cases hlt:i<N
   ·have kx:(i:Int)<(N:Int):=by omega
    have kd:(i:Int).tdiv 3=((i/3:Nat):Int):=rfl;have km:(i:Int).tmod 3=((i % 3:Nat):Int):=rfl;have hRq:i/3<q:=by have:=HN.out;omega
    have hK3:i % 3<3:=Nat.mod_lt _ ay;have hC:=ax (HCM.out i hlt);have kc:=kB.cellL i (by rw[Zr uU.out aj];exact hlt);have kf:=kB.frozen i;have kl:=kB.lt;have hrr:=h.below be aj;have hvv:=hv.below be aj;obtain⟨R,hR⟩:=aI (i/3);obtain⟨K,hK⟩:=aI (i % 3);rw[hR]at kd hRq hC;rw[hK]at km hK3 hC;clear hR hK;obtain⟨cv,hcv⟩:=aI (a_ ((Dq CM N i)[i]'(by rw[Zr uU.out aj];exact hlt)));rw[hcv]at kc;clear hcv;by_cases hRl:R<l.length
    ·have kR:(R:Int)<(l.length:Int):=by omega
     obtain⟨ba,oa,rfl⟩:=h.open aj;obtain⟨x0,x1,x2,x3,x4,xb⟩:=J5 hrr.row R hRl;have xb0:ba<w.heap.size:=(J5 h.row R hRl).2.2.2.2.2;have hg0:=h.dH _ (bF hRl);have hg:=hrr.dH _ (bF hRl);have hgl:=hl _ (bF hRl);obtain⟨x,hx⟩:=aI (l[R]);rw[hx]at x4 hg hgl hg0;clear x0 x1 x2 x3;have HX:=ax hx;clear hx;by_cases Lt:K<x.dH.length
     ·have kK:(K:Int)<(x.dH.length:Int):=by omega
      obtain⟨bg,og,hga⟩:=hg.Z8 aj;rw[hga]at hg x4 hg0;have yb0:bg<w.heap.size:=(J4 hg0 K Lt).2.2.2.2.2;obtain⟨y0,y1,y2,y3,y4,yb⟩:=J4 hg K Lt;have Lu:=ax (arw (vs:=its.map Vx.key) (now:=now) hRl HX.out Lt rfl);obtain⟨g,hgv⟩:=aI (x.dH[K]);rw[hgv]at y0 y1 y2 y3 y4 Lu;clear hgv;obtain⟨ju,ph,fr,fB,si⟩:=g;simp only at y0 y1 y2 y3 y4 Lu;obtain⟨C,hCC⟩:=aI (qw ju ph fr fB (its.map Vx.key) now);have hCb:=asG ju ph fr fB (its.map Vx.key) now;rw[hCC]at hCb Lu;have HCC:=ax hCC;have HC2:Hid (CM[i]'(by rw[uU.out];exact hlt)=nU C):=ax (by rw[(List.getElem?_eq_some_iff.1 hC.out).2,Lu.out]);clear hCC;have kw:IntKind.u8.wrap C=C:=by rw[IntKind.wrap_u8];omega
      have kN0:=kB.wM i 0 (u:= .int .u8 0) rfl;have Ol:=be.setCell (p:=⟨B,i,none⟩) aA (.int .u8 0);have hne1:bg≠B:=by omega
      have hne2:ba≠B:=by omega
      have awP:vV (wr.setCell ⟨B,i,none⟩ (.int .u8 0)) va its:=hv.below Ol aj
      go_wp2_with (go_at_call 192;refine(apF ju ph fr fB si va its its.length vc now _ awP rfl).mono ?_;rintro e w2 ⟨rfl,hb2⟩;(rw[HCC.out]);(have LC:=kN0.below hb2 kN0.lt);(obtain⟨cv2,d0⟩: ∃cv2,w2.cell? ⟨B,i,none⟩=some cv2:=⟨_,LC.cellL i (by rw[iQ,Zr uU.out aj];exact hlt)⟩);(have d1:=LC.frozen i);(have d2:=LC.lt))
      have LD:=LC.wM i (nU C) (u:= .int .u8 C) (asI aj).symm;rw[List.set_set,Zt uU.out hlt _ HC2.out]at LD;have eH:Below B w (w2.setCell ⟨B,i,none⟩ (.int .u8 C)):=(Ol.trans (hb2.mono (by have:=Ol.size;omega))).setCell (p:=⟨B,i,none⟩) aA _;go_roundw
      case rel=>exact⟨i+1,by go_num,by omega,LD,eH⟩
      case measure=>simp[intOf];omega
     ·have kK: ¬ ((K:Int)<(x.dH.length:Int)):=by omega
      have kKn:decide (K<x.dH.length)=false:=fA Lt;have DW:Hid (CM[i]'(by rw[uU.out];exact hlt)=0):=ax (by rw[(List.getElem?_eq_some_iff.1 hC.out).2,aqK hRl HX.out aj];rfl);have kN:=kB.wM i 0 (u:= .int .u8 0) rfl;rw[Zt uU.out hlt 0 DW.out]at kN;have Ol:=be.setCell (p:=⟨B,i,none⟩) aA (.int .u8 0);have hne2:ba≠B:=by omega
      exact ae8
    ·have kR: ¬ ((R:Int)<(l.length:Int)):=by omega
     have kRn:decide (R<l.length)=false:=fA hRl;have DW:Hid (CM[i]'(by rw[uU.out];exact hlt)=0):=ax (by rw[(List.getElem?_eq_some_iff.1 hC.out).2,arx aj];rfl);have kN:=kB.wM i 0 (u:= .int .u8 0) rfl;rw[Zt uU.out hlt 0 DW.out]at kN;have Ol:=be.setCell (p:=⟨B,i,none⟩) aA (.int .u8 0);exact ae8
   ·obtain rfl:i=N:=by omega
    rw[ary uU.out]at kB
    go_wp2_with fail
    go_ret;exact⟨_,_,_,rfl,ax uU.out.symm,by rw[hB];exact kB.IX aA uU.out.symm tK,by rw[hB];exact be⟩
theorem ah8{its:List Vx}(hc: ∀v∈its,DV v.key)(hl:its.length≤1000):(bytesOf (its.map Vx.key)).length≤11000:=by
 have:=MP (its.map Vx.key) (by intro v hv;obtain⟨x,hx,rfl⟩:=List.mem_map.1 hv;exact hc x hx);rw[g_]at this;omega
theorem YJ{P:Prop}(h:P:=by
 clear hW gs ER;go_roundw
 case rel=>exact⟨i+1,_,by go_num,by omega,HS⟩
 case measure=>simp[intOf];omega):P:=h
theorem afq(c:Cx)(w:ak)(h:xU w c):aH 69 #[c.val] w (QB c.key w):=by
 obtain⟨⟨ja,jn,jc,ga,gn,gc,per,cap,hold,lock⟩,ref,now,ds,da,dc,ss,sa,sc,vs,va,vc,st,ta,tc,ws,wa,wc⟩:=c;obtain⟨hds,aju,hss,ajv,hvs,ajw,hst,hws,ajx,hsm⟩:=h;simp only at hds aju hss ajv hvs ajw hst hws ajx;obtain⟨s1, -,s2, -,s3, -,s4,s5, -⟩:=hsm;simp only[Cx.key,g_]at s1 s2 s3 s4 s5
 go_enter func69,ntmps69
 go_upto_region 1 with fail
 obtain⟨R,hR⟩:=aI w.heap.size;refine aW (fun W=>ah W R 45 #[.slice ja jn jc,.slice ga gn gc,ae per,ae cap,ae hold,ae lock,.bool ref,ae now,.slice da ds.length dc,.slice sa ss.length sc,.slice va vs.length vc,.slice ta st.length tc,.slice wa ws.length wc]∧ah W (R+1) 45 #[.slice none 0 0,.slice none 0 0,ae 0,ae 0,ae 0,ae 0,.bool false,ae 0,.slice none 0 0,.slice none 0 0,.slice none 0 0,.slice none 0 0,.slice none 0 0]∧Below w.heap.size w W∧R+2≤W.heap.size) ⟨by rw[←hR];exact(ah.new _ _ _).alloc _,by rw[←hR];exact ah.dG _ _ _ _,bel,by simp;omega⟩ ?_;have fQ:w.heap.size≤R:=by omega
 rw[hR];clear hR;rintro W ⟨kR,kZ,be,sz⟩;replace be:=be.mono fQ;(obtain⟨x0,x1,x2,x3,x4,x5,x6,x7,x8,x9,x10,x11,x12,xf,xl⟩:=kR.n13);have zd:=hds.below be aA
 go_upto_region 2 with((go_at_call 95;refine(asY da ds.length dc _ _ zd (wH aia _) aj).mono ?_;rintro e wd_ ⟨ad,cd,rfl,od,hbd⟩;((clear x0 x1 x2 x3 x4 x5 x6 x7 x8 x9 x10 x11 x12 xf xl);(replace kR:=kR.below hbd kR.lt);(obtain⟨x0,x1,x2,x3,x4,x5,x6,x7,x8,x9,x10,x11,x12,xf,xl⟩:=kR.n13))))
 replace kZ:=kZ.on hbd (g':=R) aF 8 (.slice ad ds.length cd);have bwd:Below w.heap.size w (wd_.setCell ⟨R,8,none⟩ (.slice ad ds.length cd)):=bel;replace od:=od.wK be.size kR ay 8 (.slice ad ds.length cd)
 (replace kR:=kR.set 8 (.slice ad ds.length cd));(simp only[pz,lh,jX]at kR)
 clear hbd zd be;(clear x0 x1 x2 x3 x4 x5 x6 x7 x8 x9 x10 x11 x12 xf xl);obtain⟨Vd,hV⟩: ∃V,wd_.setCell ⟨R,8,none⟩ (.slice ad ds.length cd)=V:=⟨_,rfl⟩;rw[hV]at kR kZ bwd od⊢;clear hV;(obtain⟨x0,x1,x2,x3,x4,x5,x6,x7,x8,x9,x10,x11,x12,xf,xl⟩:=kR.n13)
 go_wp2_with fail
 go_loopw [13] (fun s13 wr=> ∃(i:Nat) (l2:List Dx),s13=ae i∧i≤ds.length∧Hid (iH Dx.cells (fun W t=>dZ W w.heap.size t) Dx.key 89 17 Vd w.heap.size ds ad ds.length cd i l2 wr)) (fun s _=>ds.length -(intOf s).toNat)
 case atStart=>exact⟨0,[],rfl,by omega,ax (iH.start od)⟩
 case round=>
  (clear x0 x1 x2 x3 x4 x5 x6 x7 x8 x9 x10 x11 x12 xf xl);obtain⟨i,WW,rfl,hi,HD⟩:=hrel;by_cases hlt:i<ds.length
  ·have hd:=HD.out;have kr:=kR.aC hd.gr od ay;have br:=bwd.aC hd.gr od bwd.size aA;obtain⟨g,rfl,gB,gl⟩:=hd.open_ rfl hlt;have hgR:g≠R:=fun e=>(hd.row.iw (g:=R) (t:=45) kr ay) tN;have hit:=(aju _ (bF hlt)).below br aA;obtain⟨y,hy⟩:=aI (ds[i]);have HY:=ax hy;rw[hy]at hit;have hit2:=hit.below (show Below wr.heap.size wr wr.drew from bel) aA;have ld:=hd.load Bo hlt hy 89 oh gZ gl;have hroom:=hd.room Bo hlt;clear hy;have ix:(i:Int)<(ds.length:Int):=by omega
   (obtain⟨x0,x1,x2,x3,x4,x5,x6,x7,x8,x9,x10,x11,x12,xf,xl⟩:=kr.n13);have rR:=fun d os o=>dC wr d os R o xl
   go_upto_region 5 with fail
   (refine nI 9 [([0,1,2,3,4,5,6,7],8)] [] bP bP ?_;refine lu ?_);(refine lS fun K hK=>?_;(repeat(first|go_big_quiet_step (fail)|(refine gI rfl 89 _ rfl _ _ rfl (fun|_,⟨p,rfl⟩=>ld p.d p.os) ?_;refine dF ?_)));refine wpQuiet_nil ?_)
   go_wp2_with (go_at_call 96;refine(Ug hit2).mono ?_;rintro e w4 ⟨y',rfl,hk4,o4,hb4⟩)
   replace hb4:=jA hb4;refine dS hb4 (hK _ _ ?_);clear hK K;(refine lC ?_);have hd4:=hd.below hb4 (fun x hx=>hx.below hb4 aA);have Qn:i*17+(Dx.cells y').toArray.size≤(gC Dx.cells (WW++ds.drop i)).length:=by rw[wI];exact hd4.room Bo hlt
   (clear x0 x1 x2 x3 x4 x5 x6 x7 x8 x9 x10 x11 x12 xf xl)
   go_wp2_with ((refine yO rfl 89 _ _ rfl (off:=i*17) (Dx.cells y').toArray rfl rfl hd4.row Qn 17 (wI y') gZ (C_ y') ?_;intro W' hW0 Jm;(have HW:=ax hW0);(have HZW:=ax Jm);clear hW0 Jm))
   have hW:W'=jy w4 g (i*17) (Dx.cells y'):=HW.out;have gs:=gm g (Dx.cells y') w4 (i*17);rw[←hW]at gs;have ER: ∀x,dZ w4 w.heap.size x→dZ W' w.heap.size x:=fun x hx=>dZ.aC (xa:=some ⟨g,0,none⟩) hx gs hd4.row ay;have HS:=ax (hd4.aab Bo hlt y' (hk4.out.trans (by rw[HY.out])) hW ER (o4.mono br.size));exact YJ
  ·obtain rfl:i=ds.length:=by omega
   obtain⟨hkd,hld,wZ,ind⟩:=HD.out.fin rfl;have hgr:=HD.out.gr;replace kR:=kR.aC hgr od ay;replace kZ:=kZ.aC hgr od ay;replace bwd:=bwd.aC hgr od bwd.size aA;clear HD hgr od hi hlt;obtain⟨nd,hnd⟩: ∃n,ds.length=n:=⟨_,rfl⟩;have Nd:=ax hnd;rw[hnd]at kR wZ⊢;clear hnd;(obtain⟨x0,x1,x2,x3,x4,x5,x6,x7,x8,x9,x10,x11,x12,xf,xl⟩:=kR.n13);have zs:=hss.below bwd aA
   go_upto_region 8 with((go_at_call 97;refine(asW sa ss.length sc _ _ zs (wH aib _) aj).mono ?_;rintro e ws_ ⟨as_,cs,rfl,os,hbs⟩;((clear x0 x1 x2 x3 x4 x5 x6 x7 x8 x9 x10 x11 x12 xf xl);(replace kR:=kR.below hbs kR.lt);(obtain⟨x0,x1,x2,x3,x4,x5,x6,x7,x8,x9,x10,x11,x12,xf,xl⟩:=kR.n13))))
   replace kZ:=kZ.on hbs (g':=R) aF 9 (.slice as_ ss.length cs);have bws:Below w.heap.size w (ws_.setCell ⟨R,9,none⟩ (.slice as_ ss.length cs)):=bel;replace wZ:=wZ.on hbs kR ay 9 (.slice as_ ss.length cs);replace ind:=fun d hd=>(ind d hd).on hbs kR ay 9 (.slice as_ ss.length cs);replace os:=os.wK bwd.size kR ay 9 (.slice as_ ss.length cs)
   (replace kR:=kR.set 9 (.slice as_ ss.length cs));(simp only[pz,lh,jX]at kR)
   clear hbs zs bwd;(clear x0 x1 x2 x3 x4 x5 x6 x7 x8 x9 x10 x11 x12 xf xl);obtain⟨Vs,hV⟩: ∃V,ws_.setCell ⟨R,9,none⟩ (.slice as_ ss.length cs)=V:=⟨_,rfl⟩;rw[hV]at kR kZ bws os wZ ind⊢;clear hV;(obtain⟨x0,x1,x2,x3,x4,x5,x6,x7,x8,x9,x10,x11,x12,xf,xl⟩:=kR.n13)
   go_wp2_with fail
   go_loopw [34] (fun s34 wr=> ∃(i:Nat) (l2:List Sx),s34=ae i∧i≤ss.length∧Hid (iH Sx.cells (fun W t=>iR W w.heap.size t) Sx.key 120 5 Vs w.heap.size ss as_ ss.length cs i l2 wr)) (fun s _=>ss.length -(intOf s).toNat)
   case atStart=>exact⟨0,[],rfl,by omega,ax (iH.start os)⟩
   case round=>
    (clear x0 x1 x2 x3 x4 x5 x6 x7 x8 x9 x10 x11 x12 xf xl);obtain⟨i,WX,rfl,hi,HD⟩:=hrel;by_cases hlt:i<ss.length
    ·have hd:=HD.out;have kr:=kR.aC hd.gr os ay;have br:=bws.aC hd.gr os bws.size aA;obtain⟨g,rfl,gB,gl⟩:=hd.open_ rfl hlt;have hgR:g≠R:=fun e=>(hd.row.iw (g:=R) (t:=45) kr ay) tN;have hit:=(ajv _ (bF hlt)).below br aA;obtain⟨y,hy⟩:=aI (ss[i]);have HY:=ax hy;rw[hy]at hit;have hit2:=hit.below (show Below wr.heap.size wr wr.drew from bel) aA;have ld:=hd.load ED hlt hy 120 CP xJ gl;have hroom:=hd.room ED hlt;clear hy;have ix:(i:Int)<(ss.length:Int):=by omega
     (obtain⟨x0,x1,x2,x3,x4,x5,x6,x7,x8,x9,x10,x11,x12,xf,xl⟩:=kr.n13);have rR:=fun d os o=>dC wr d os R o xl
     go_upto_region 11 with fail
     (refine nI 9 [([0,1,2,3,4,5,6,7],8)] [] bP bP ?_;refine lu ?_);(refine lS fun K hK=>?_;(repeat(first|go_big_quiet_step (fail)|(refine gI rfl 120 _ rfl _ _ rfl (fun|_,⟨p,rfl⟩=>ld p.d p.os) ?_;refine dF ?_)));refine wpQuiet_nil ?_)
     go_wp2_with (go_at_call 98;refine(aoc hit2).mono ?_;rintro e w4 ⟨y',rfl,hk4,o4,hb4⟩)
     replace hb4:=jA hb4;refine dS hb4 (hK _ _ ?_);clear hK K;(refine lC ?_);have hd4:=hd.below hb4 (fun x hx=>hx.below hb4 aA);have Qn:i*5+(Sx.cells y').toArray.size≤(gC Sx.cells (WX++ss.drop i)).length:=by rw[aiM];exact hd4.room ED hlt
     (clear x0 x1 x2 x3 x4 x5 x6 x7 x8 x9 x10 x11 x12 xf xl)
     go_wp2_with ((refine yO rfl 120 _ _ rfl (off:=i*5) (Sx.cells y').toArray rfl rfl hd4.row Qn 5 (aiM y') xJ (aul y') ?_;intro W' hW0 Jm;(have HW:=ax hW0);(have HZW:=ax Jm);clear hW0 Jm))
     have hW:W'=jy w4 g (i*5) (Sx.cells y'):=HW.out;have gs:=gm g (Sx.cells y') w4 (i*5);rw[←hW]at gs;have ER: ∀x,iR w4 w.heap.size x→iR W' w.heap.size x:=fun x hx=>iR.aC (xa:=some ⟨g,0,none⟩) hx gs hd4.row ay ay;have HS:=ax (hd4.aab ED hlt y' (hk4.out.trans (by rw[HY.out])) hW ER (o4.mono br.size));exact YJ
    ·obtain rfl:i=ss.length:=by omega
     obtain⟨hks,hls,os',ins⟩:=HD.out.fin rfl;have hgr:=HD.out.gr;replace kR:=kR.aC hgr os ay;replace kZ:=kZ.aC hgr os ay;replace bws:=bws.aC hgr os bws.size aA;replace wZ:=wZ.aC hgr os ay;replace ind:=fun d hd=>(ind d hd).aC hgr os ay;clear HD hgr os hi hlt;obtain⟨ns,hns⟩: ∃n,ss.length=n:=⟨_,rfl⟩;have Ns:=ax hns;rw[hns]at kR os'⊢;clear hns;(obtain⟨x0,x1,x2,x3,x4,x5,x6,x7,x8,x9,x10,x11,x12,xf,xl⟩:=kR.n13);have zv:=hvs.below bws aA
     go_upto_region 14 with((go_at_call 99;refine(asX va vs.length vc _ _ zv (wH aic _) aj).mono ?_;rintro e wv_ ⟨Aw,Az,rfl,ov,hbv⟩;((clear x0 x1 x2 x3 x4 x5 x6 x7 x8 x9 x10 x11 x12 xf xl);(replace kR:=kR.below hbv kR.lt);(obtain⟨x0,x1,x2,x3,x4,x5,x6,x7,x8,x9,x10,x11,x12,xf,xl⟩:=kR.n13))))
     replace kZ:=kZ.on hbv (g':=R) aF 10 (.slice Aw vs.length Az);have GX:Below w.heap.size w (wv_.setCell ⟨R,10,none⟩ (.slice Aw vs.length Az)):=bel;replace wZ:=wZ.on hbv kR ay 10 (.slice Aw vs.length Az);replace ind:=fun d hd=>(ind d hd).on hbv kR ay 10 (.slice Aw vs.length Az);replace os':=os'.on hbv kR ay 10 (.slice Aw vs.length Az);replace ins:=fun d hd=>(ins d hd).on hbv kR ay ay 10 (.slice Aw vs.length Az);replace ov:=ov.wK bws.size kR ay 10 (.slice Aw vs.length Az)
     (replace kR:=kR.set 10 (.slice Aw vs.length Az));(simp only[pz,lh,jX]at kR)
     clear hbv zv bws;(clear x0 x1 x2 x3 x4 x5 x6 x7 x8 x9 x10 x11 x12 xf xl);obtain⟨Vv,hV⟩: ∃V,wv_.setCell ⟨R,10,none⟩ (.slice Aw vs.length Az)=V:=⟨_,rfl⟩;rw[hV]at kR kZ GX ov wZ ind os' ins⊢;clear hV;(obtain⟨x0,x1,x2,x3,x4,x5,x6,x7,x8,x9,x10,x11,x12,xf,xl⟩:=kR.n13)
     go_wp2_with fail
     go_loopw [55] (fun s55 wr=> ∃(i:Nat) (l2:List Vc),s55=ae i∧i≤vs.length∧Hid (iH Vc.cells (fun W t=>fZ W w.heap.size t) Vc.key 123 3 Vv w.heap.size vs Aw vs.length Az i l2 wr)) (fun s _=>vs.length -(intOf s).toNat)
     case atStart=>exact⟨0,[],rfl,by omega,ax (iH.start ov)⟩
     case round=>
      (clear x0 x1 x2 x3 x4 x5 x6 x7 x8 x9 x10 x11 x12 xf xl);obtain⟨i,GY,rfl,hi,HD⟩:=hrel;by_cases hlt:i<vs.length
      ·have hd:=HD.out;have kr:=kR.aC hd.gr ov ay;have br:=GX.aC hd.gr ov GX.size aA;obtain⟨g,rfl,gB,gl⟩:=hd.open_ rfl hlt;have hgR:g≠R:=fun e=>(hd.row.iw (g:=R) (t:=45) kr ay) tN;have hit:=(ajw _ (bF hlt)).below br aA;obtain⟨y,hy⟩:=aI (vs[i]);have HY:=ax hy;rw[hy]at hit;have hit2:=hit.below (show Below wr.heap.size wr wr.drew from bel) aA;have ld:=hd.load IA hlt hy 123 yP ry gl;have hroom:=hd.room IA hlt;clear hy;have ix:(i:Int)<(vs.length:Int):=by omega
       (obtain⟨x0,x1,x2,x3,x4,x5,x6,x7,x8,x9,x10,x11,x12,xf,xl⟩:=kr.n13);have rR:=fun d os o=>dC wr d os R o xl
       go_upto_region 17 with fail
       (refine nI 9 [([0,1,2,3,4,5,6,7],8)] [] bP bP ?_;refine lu ?_);(refine lS fun K hK=>?_;(repeat(first|go_big_quiet_step (fail)|(refine gI rfl 123 _ rfl _ _ rfl (fun|_,⟨p,rfl⟩=>ld p.d p.os) ?_;refine dF ?_)));refine wpQuiet_nil ?_)
       go_wp2_with (go_at_call 100;refine(anO hit2).mono ?_;rintro e w4 ⟨y',rfl,hk4,o4,hb4⟩)
       replace hb4:=jA hb4;refine dS hb4 (hK _ _ ?_);clear hK K;(refine lC ?_);have hd4:=hd.below hb4 (fun x hx=>hx.below hb4 aA);have Qn:i*3+(Vc.cells y').toArray.size≤(gC Vc.cells (GY++vs.drop i)).length:=by rw[aiN];exact hd4.room IA hlt
       (clear x0 x1 x2 x3 x4 x5 x6 x7 x8 x9 x10 x11 x12 xf xl)
       go_wp2_with ((refine yO rfl 123 _ _ rfl (off:=i*3) (Vc.cells y').toArray rfl rfl hd4.row Qn 3 (aiN y') ry (aum y') ?_;intro W' hW0 Jm;(have HW:=ax hW0);(have HZW:=ax Jm);clear hW0 Jm))
       have hW:W'=jy w4 g (i*3) (Vc.cells y'):=HW.out;have gs:=gm g (Vc.cells y') w4 (i*3);rw[←hW]at gs;have ER: ∀x,fZ w4 w.heap.size x→fZ W' w.heap.size x:=fun x hx=>fZ.aC (xa:=some ⟨g,0,none⟩) hx gs hd4.row ay;have HS:=ax (hd4.aab IA hlt y' (hk4.out.trans (by rw[HY.out])) hW ER (o4.mono br.size));exact YJ
      ·obtain rfl:i=vs.length:=by omega
       obtain⟨hkv,hlv,Oy,inv⟩:=HD.out.fin rfl;have hgr:=HD.out.gr;replace kR:=kR.aC hgr ov ay;replace kZ:=kZ.aC hgr ov ay;replace GX:=GX.aC hgr ov GX.size aA;replace wZ:=wZ.aC hgr ov ay;replace ind:=fun d hd=>(ind d hd).aC hgr ov ay;replace os':=os'.aC hgr ov ay;replace ins:=fun d hd=>(ins d hd).aC hgr ov ay ay;clear HD hgr ov hi hlt;obtain⟨nv,Oz⟩: ∃n,vs.length=n:=⟨_,rfl⟩;have Nv:=ax Oz;rw[Oz]at kR Oy⊢;clear Oz;(obtain⟨x0,x1,x2,x3,x4,x5,x6,x7,x8,x9,x10,x11,x12,xf,xl⟩:=kR.n13);have zt:=hst.below GX aA
       go_upto_region 20 with((go_at_call 101;refine(Ip ta st.length tc _ _ zt (Bg _) aj).mono ?_;rintro e wt ⟨at_,ct,rfl,ot,hbt⟩;((clear x0 x1 x2 x3 x4 x5 x6 x7 x8 x9 x10 x11 x12 xf xl);(replace kR:=kR.below hbt kR.lt);(obtain⟨x0,x1,x2,x3,x4,x5,x6,x7,x8,x9,x10,x11,x12,xf,xl⟩:=kR.n13))))
       have hot:=ot.dW;have apD:=fun(d:Dx) (hd:d∈WW) k (hk:at_.map (·.block)=some k) (hb:d.r.la.map (·.block)=some k)=>(by have:=hot k hk;have:=(ind d hd).r.lim.lt' k hb;omega:False);have apS:=fun(d:Sx) (hd:d∈WX) k (hk:at_.map (·.block)=some k) (hb:d.na.map (·.block)=some k)=>(by have:=hot k hk;have:=(ins d hd).nx.lt' k hb;omega:False);have apV:=fun(d:Vc) (hd:d∈GY) k (hk:at_.map (·.block)=some k) (hb:d.ea.map (·.block)=some k)=>(by have:=hot k hk;have:=(inv d hd).en.lt' k hb;omega:False);replace kZ:=kZ.on hbt (g':=R) aF 11 (.slice at_ st.length ct);have RH:Below w.heap.size w (wt.setCell ⟨R,11,none⟩ (.slice at_ st.length ct)):=bel;replace wZ:=wZ.on hbt kR ay 11 (.slice at_ st.length ct);replace ind:=fun d hd=>(ind d hd).on hbt kR ay 11 (.slice at_ st.length ct);replace os':=os'.on hbt kR ay 11 (.slice at_ st.length ct);replace ins:=fun d hd=>(ins d hd).on hbt kR ay ay 11 (.slice at_ st.length ct);replace Oy:=Oy.on hbt kR ay 11 (.slice at_ st.length ct);replace inv:=fun d hd=>(inv d hd).on hbt kR ay 11 (.slice at_ st.length ct);have ott:=ot.lt';replace ot:=ot.wK GX.size kR ay 11 (.slice at_ st.length ct)
       (replace kR:=kR.set 11 (.slice at_ st.length ct));(simp only[pz,lh,jX]at kR)
       clear hbt zt GX hot;have zw:=hws.below RH aA
       go_upto_region 21 with((go_at_call 102;refine(ao6 rfl zw (fun v hv=>(ajx v hv).below RH aA) aj).mono ?_;rintro e wq ⟨av,cv,l5,rfl,hk5,o5,LH,hb5⟩;((clear x0 x1 x2 x3 x4 x5 x6 x7 x8 x9 x10 x11 x12 xf xl);(replace kR:=kR.below hb5 kR.lt);(obtain⟨x0,x1,x2,x3,x4,x5,x6,x7,x8,x9,x10,x11,x12,xf,xl⟩:=kR.n13))))
       have apW: ∀d∈l5,Apart at_ d.ca∧Apart at_ d.na:=fun d hd=>⟨fun k hk hb=>by have:=ott k hk;have:=(LH d hd).cs.dW k hb;simp[World.setCell]at this;omega,fun k hk hb=>by have:=ott k hk;have:=(LH d hd).ns.dW k hb;simp[World.setCell]at this;omega⟩;replace kZ:=kZ.on hb5 (g':=R) aF 12 (.slice av ws.length cv);have GV:Below w.heap.size w (wq.setCell ⟨R,12,none⟩ (.slice av ws.length cv)):=bel;replace wZ:=wZ.on hb5 kR ay 12 (.slice av ws.length cv);replace ind:=fun d hd=>(ind d hd).on hb5 kR ay 12 (.slice av ws.length cv);replace os':=os'.on hb5 kR ay 12 (.slice av ws.length cv);replace ins:=fun d hd=>(ins d hd).on hb5 kR ay ay 12 (.slice av ws.length cv);replace Oy:=Oy.on hb5 kR ay 12 (.slice av ws.length cv);replace inv:=fun d hd=>(inv d hd).on hb5 kR ay 12 (.slice av ws.length cv);replace ot:=ot.on hb5 kR ay 12 (.slice av ws.length cv);replace LH:=fun d hd=>(((LH d hd).mono RH.size).aG (grownBy_set wq R 12 (.slice av ws.length cv)) kR ay:jH (wq.setCell ⟨R,12,none⟩ (.slice av ws.length cv)) w.heap.size d);replace o5:=o5.wK RH.size kR ay 12 (.slice av ws.length cv)
       (replace kR:=kR.set 12 (.slice av ws.length cv));(simp only[pz,lh,jX]at kR)
       clear hb5 zw RH;(clear x0 x1 x2 x3 x4 x5 x6 x7 x8 x9 x10 x11 x12 xf xl)
       go_wp2_with (first|(refine gy kR vG nK ?_)|(refine dw #[.slice ja jn jc,.slice ga gn gc,ae per,ae cap,ae hold,ae lock,.bool ref,ae now,.slice ad nd cd,.slice as_ ns cs,.slice Aw nv Az,.slice at_ st.length ct,.slice av ws.length cv] kZ nK ?_;intro W' kw gw zw))
       refine nJ 2 45 results69 rfl kw 13 rfl vG nK rfl ?_;have hl5:l5.length=ws.length:=by have:=congrArg List.length hk5.out;simpa using this
       refine⟨⟨⟨ja,jn,jc,ga,gn,gc,per,cap,hold,lock⟩,ref,now,WW,ad,cd,WX,as_,cs,GY,Aw,Az,st,at_,ct,l5,av,cv⟩,by simp only[Cx.val,hld,hls,hlv,hl5,Nd.out,Ns.out,Nv.out],ax (by simp only[Cx.key,hkd,hks,hkv,hk5.out]),?_,GV.aB gw GV.size bQ⟩;have mk:dE (wq.setCell ⟨R,12,none⟩ (.slice av ws.length cv)) w.heap.size ⟨⟨ja,jn,jc,ga,gn,gc,per,cap,hold,lock⟩,ref,now,WW,ad,cd,WX,as_,cs,GY,Aw,Az,st,at_,ct,l5,av,cv⟩:=⟨by simpa only[hld,Nd.out]using wZ,ind,by simpa only[hls,Ns.out]using os',ins,by simpa only[hlv,Nv.out]using Oy,inv,ot,by simpa only[hl5]using o5,LH,apD,apS,apV,apW⟩;exact mk.aG gw kZ ay
def yU(ps:List Ph)(ls:List (Int × Int)):List (Int × Int):=(ls.zip ps).map fun q=>mD q.2 q.1.1 q.1.2 (decide (q.2.qA≤q.1.2+1))
def stepM(ps:List Ph)(cs:aO)(c:Ck)(wt:Int):Ck:=if 0<wt then c else NZ ps cs ⟨yU ps c.ls,c.g,c.nx⟩
def stepW(wt:Int):Int:=if 0<wt then wt -1 else 0
def ajI(K:Ck)(wt:Int)(n:Nat)(w:ak)(e:Ending)(w':ak):Prop:=
 ∃(la:az) (lc:Nat) (na:az) (nc:Nat),e= .returned (KT la n lc K.g na nc wt)∧Own w' w.heap.size 194 2 la n lc (gC gG K.ls)∧Own w' w.heap.size 3 1 na 2 nc (K.nx.map encI)∧Below w.heap.size w w'
theorem Yj:(prog.info? 118).map (·.size)=some 4:=by kernel_rfl
theorem YM:(prog.underlying 118).map TypeDesc.isRow=some true:=by kernel_rfl
def Aj(ps:List Ph)(ls:List (Int × Int))(i:Nat):List (Int × Int):=(yU ps ls).take i++ls.drop i
theorem PE(ps:List Ph)(ls:List (Int × Int))(h:ls.length=ps.length):(yU ps ls).length=ps.length:=by simp[yU,h]
theorem avo(ps:List Ph)(ls:List (Int × Int)):Aj ps ls 0=ls:=by simp[Aj]
theorem avp(ps:List Ph)(ls:List (Int × Int))(h:ls.length=ps.length):Aj ps ls ps.length=yU ps ls:=by
 rw[Aj,nM (by rw[PE ps ls h];exact Nat.le_refl _),List.drop_of_length_le aj,iK]
theorem U4(ps:List Ph)(ls:List (Int × Int))(h:ls.length=ps.length)(i:Nat)(hi:i≤ps.length):(Aj ps ls i).length=ps.length:=by
 have:=PE ps ls h;simp[Aj];omega
theorem avq(ps:List Ph)(ls:List (Int × Int))(h:ls.length=ps.length)(i:Nat)(hi:i<ps.length)(hil:i<ls.length):Aj ps ls (i+1)=(Aj ps ls i).set i (mD ps[i] ls[i].1 ls[i].2 (decide (ps[i].qA≤ls[i].2+1))):=by
 have hl:=PE ps ls h;refine List.ext_getElem (by rw[iQ,U4 ps ls h _ hi,U4 ps ls h _ aj]) fun k h1 h2=>?_;rw[U4 ps ls h _ hi]at h1;simp only[Aj,List.getElem_append,List.getElem_set,pV,hl,List.getElem_take,List.getElem_drop];by_cases e:i=k
 ·subst e;simp[yU,show i<min (i+1) ps.length by omega]
 ·by_cases e2:k<i
  ·simp[e,show k<min (i+1) ps.length by omega,show k<min i ps.length by omega]
  ·simp only[e,show ¬ k<min (i+1) ps.length by omega,show ¬ k<min i ps.length by omega,if_false,dif_neg,not_false_iff];congr 1;omega
theorem aif{cs:aO}(h:QC cs)(p q:Int):jR cs p q=jR cs q p:=by
 unfold jR;by_cases h1:0≤p<;>by_cases h2:0≤q<;>by_cases h3:p<cs.length<;>by_cases h4:q<cs.length<;>simp[h1,h2,h3,h4]
 have hp:p.toNat<cs.length:=by omega
 have hq:q.toNat<cs.length:=by omega
 have:=h.s p.toNat hp q.toNat hq;simpa [hp,hq]using this
theorem agK{cs:aO}{ls:List (Int × Int)}{g:Int}{nx:aO}(hok: ∀p∈ps,mO p)(h:mW ps cs s ⟨ls,g,nx⟩ 0):mW ps cs s ⟨yU ps ls,g,nx⟩ 0:=by
 have hl:ls.length=ps.length:=h.ll;have hl2:=PE ps ls hl;have hg: ∀i (hi:i<ps.length),(yU ps ls)[i]' aj=mD ps[i] (ls[i]' aj).1 (ls[i]' aj).2 (decide (ps[i].qA≤(ls[i]' aj).2+1)):=fun i hi=>by simp[yU]
 have hz: ∀i,i<ps.length→((yU ps ls).getD i (0,0)).1≠0→(ls.getD i (0,0)).1≠0:=fun i hi hn=>by
  rw[eG,d_ aj,Option.getD_some]at hn⊢;rw[hg i hi]at hn;intro e;have:=h.li i hi (by show i<ls.length;omega);simp only at this;apply hn;rw[e];simp[mD]
 refine⟨hl2,h.nl,fun i hi h2=>?_,fun p q hp hq hpq h1 h2=>h.cl p q hp hq hpq (hz p hp h1) (hz q hq h2),h.g0,h.g1,h.nx,h.w0,h.w1,.inl rfl⟩;have:=h.li i hi (by show i<ls.length;omega);simp only;rw[hg i hi];exact asA (hok _ (bF hi)) this _
theorem YN{P:Prop}(h:P:=by
 obtain⟨b,h1,h2,h3,k⟩:=h;exact⟨b,h1,h2,h3,(hown b aj aj).trans k⟩):P:=h
theorem aqT(B jb jc aQ aY:Nat)(ps:List Ph)(cs:aO)(s:Int)(c:Ck)(wt:Int)(la:az)(lc:Nat)(na:az)(nc:Nat)(w:ak)(hj:wQ w B jb jc aQ aY ps cs s)(hf:uJ ps cs)(hl:Sl w 194 2 la ps.length lc (gC gG c.ls))(hn:Sl w 3 1 na 2 nc (c.nx.map encI))(ok:mW ps cs s c wt):
  aH 187 #[qO jb ps.length jc aQ ps.length aY s,KT la ps.length lc c.g na nc wt,ae (-1)] w (ajI (stepM ps cs c wt) (stepW wt) ps.length w):=by
 obtain⟨ls,g,nx⟩:=c;simp only at hl hn;have HF:=ax hf;have jQ:=ax ok;have HJ:=ax hj;have hs:=hj.j.s0;clear hf ok
 go_enter func187,ntmps187
 go_upto_region 1 with fail
 obtain⟨T,hT⟩:=aI w.heap.size;refine aW (fun W=>ah W T 69 #[.slice (some ⟨jb,0,none⟩) ps.length jc,.slice (some ⟨aQ,0,none⟩) ps.length aY,ae s]∧ah W (T+1) 118 #[.slice la ps.length lc,ae g,.slice na 2 nc,ae wt]∧ah W (T+1+1) 118 #[.slice none 0 0,ae 0,.slice none 0 0,ae 0]∧Below w.heap.size w W) ⟨by rw[←hT];exact((ah.new _ _ _).alloc _).alloc _,by rw[←hT];exact(ah.dG _ _ _ _).alloc _,by rw[←hT];have:=ah.dG (w.alloc (.cells #[.slice (some ⟨jb,0,none⟩) ps.length jc,.slice (some ⟨aQ,0,none⟩) ps.length aY,ae s] 69)) (.cells #[.slice la ps.length lc,ae g,.slice na 2 nc,ae wt] 118) 118 #[.slice none 0 0,ae 0,.slice none 0 0,ae 0];rw[World.size_alloc]at this;exact this,bel⟩ ?_;have sW:w.heap.size≤T:=by omega
 have hBT:B≤T:=by have:=hj.j.lw;omega
 rw[hT];have HT:=ax hT;clear hT hj;rintro W ⟨kJ,kC,kR,be⟩;have uq:=HJ.out.below (be.mono hBT);have Fq:=hl.below be sW;have Fv:=hn.below be sW;(obtain⟨j0,j1,j2,jf,jl⟩:=kJ.n3);(obtain⟨k0,k1,k2,k3,kf,kl⟩:=kC.n4)
 go_upto_region 3 with(first|(go_at_call 90;(with_reducible refine(aes jb jc aQ aY ps cs s _ uq.j.ph uq.j.cf HF.out hs).mono ?_);rintro e w2 ⟨rfl,hb2⟩;(have pK:=kJ.below hb2 kJ.lt;have eF:=kC.below hb2 kC.lt;have j_:=kR.below hb2 kR.lt;have hj2:=uq.below (hb2.mono uq.j.lw);have hl2:=Fq.below hb2 aA;have hn2:=Fv.below hb2 aA;have be2:=be.trans (hb2.mono Bf);clear hb2;(clear j0 j1 j2 jf jl);(clear k0 k1 k2 k3 kf kl);clear kJ kC kR uq Fq Fv be;(obtain⟨j0,j1,j2,jf,jl⟩:=pK.n3);(obtain⟨k0,k1,k2,k3,kf,kl⟩:=eF.n4)))|(go_at_call 213;(with_reducible refine(aqR B jb jc aQ aY ps cs s ⟨ls,g,nx⟩ wt la lc na nc _ hj2 hl2 hn2 jQ.out).mono ?_);rintro e w3 ⟨rfl,hb3⟩))
 have uu:=eF.below hb3 eF.lt;have OE:=pK.below hb3 pK.lt;have jk:=j_.below hb3 j_.lt;have hj3:=hj2.below (hb3.mono hj2.j.lw);have hl3:=hl2.below hb3 aA;have hn3:=hn2.below hb3 aA;have eH:=be2.trans (hb3.mono (by have:=j_.lt;omega));(clear j0 j1 j2 jf jl);(clear k0 k1 k2 k3 kf kl);clear eF pK j_ hj2 hl2 hn2 be2 hb3;have uo:=hj3.j.n1.2;have h1L: ∀u∈gC gG ls,u.oneCell'=true:=wH Va ls;have h1N: ∀u∈nx.map encI,u.oneCell'=true:=fun u hu=>by obtain⟨x, -,rfl⟩:=List.mem_map.1 hu;rfl
 apply uG [] 13 102 [some 22,some 23,some 24,some 25,some 26,some 27,some 28,some 29,some 30,some 31,some 32,some 7,none] [⟨[],[],[],[]⟩,⟨[0],[0],[0],[]⟩,⟨[0,1],[1],[1],[]⟩,⟨[],[],[],[]⟩,⟨[3],[3],[3],[]⟩,⟨[],[],[],[]⟩,⟨[5],[5],[5],[]⟩,⟨[0,1,2,5,6],[6],[6],[]⟩,⟨[],[],[],[]⟩,⟨[8],[8],[8],[]⟩,⟨[0,1,2,3,4,5,6,7,8,9],[2,4,7,9],[2,4,7,9],[]⟩,⟨[],[],[],[]⟩,⟨[0,1,2,3,4,5,6,7,8,9,10,11],[2,7,10,11],[2,7,10,11],[11]⟩] [0,1,2,3,4,5,6,7,8,9,10,11,12] [2,7,12] [bC,bC,(fun f lo hi v b0 b1 W=> ∃a c,v= .slice a ps.length c∧Own W b0 194 2 a ps.length c (gC gG ls)∧∀x,a.map (·.block)=some x→x<b1),bC,bC,bC,bC,(fun f lo hi v b0 b1 W=> ∃a c,v= .slice a 2 c∧Own W b0 3 1 a 2 c (nx.map encI)∧∀x,a.map (·.block)=some x→x<b1),bC,bC,(fun f lo hi v b0 b1 W=>v= .agg #[f 2,ae g,f 7,ae wt]),(fun f lo hi v b0 b1 W=> ∃b,v= .pointer (some ⟨b,0,none⟩)∧b0=b∧b1=b+1∧ah W b 118 #[.slice none 0 0,ae 0,.slice none 0 0,ae 0]),(fun f lo hi v b0 b1 W=> ∃b,f 11= .pointer (some ⟨b,0,none⟩)∧lo (11)=b∧hi (11)=b+1∧ah W b 118 #[f 2,ae g,f 7,ae wt])] [bG _,bG _,dM,bG _,bG _,bG _,bG _,dM,bG _,bG _,dM,dM,dM]
 ·kernel_rfl
 ·kernel_rfl
 ·rfl
 ·rfl
 ·exact trivial
 ·exact trivial
 refine⟨?pX,?pY,?p_,?qh,?qi,?qj,?qm,?rF,?vN,?xW,?z_,?Dl,?Gm,trivial⟩
 all_goals try(intro f lo hi w hb hx hf hk hrg R hR;(try replace hb:=fH.zero hb);(try simp(decide:=true) only[go_sem]at hf hk))
 case pX|qh|qj|vN=>go_simp;exact hR _ _ (bK rfl rfl bD rfl)
 case pY=>
  have kk:=uu.below hb uu.lt;(obtain⟨k0,k1,k2,k3,kf,kl⟩:=kk.n4);go_simp;exact hR _ _ (bK rfl rfl bD rfl)
 case p_=>
  go_simp
  (with_reducible refine(ahJ la ps.length lc (gC gG ls) _ (hl3.below hb aA) h1L aj).mono ?_)
  rintro e w' ⟨a',c',rfl,own,hb'⟩;refine⟨_,rfl,hR _ _ (iU rfl hb' ?_)⟩
  (try simp(decide:=true) only[go_sem])
  exact⟨a',c',rfl,own,own.lt'⟩
 case qi=>
  have kk:=uu.below hb uu.lt;(obtain⟨k0,k1,k2,k3,kf,kl⟩:=kk.n4);go_simp;exact hR _ _ (bK rfl rfl bD rfl)
 case qm=>
  have kk:=uu.below hb uu.lt;(obtain⟨k0,k1,k2,k3,kf,kl⟩:=kk.n4);go_simp;exact hR _ _ (bK rfl rfl bD rfl)
 case rF=>
  go_simp
  (with_reducible refine(Ip na 2 nc (nx.map encI) _ (hn3.below hb aA) h1N aj).mono ?_)
  rintro e w' ⟨a',c',rfl,own,hb'⟩;refine⟨_,rfl,hR _ _ (iU rfl hb' ?_)⟩
  (try simp(decide:=true) only[go_sem])
  exact⟨a',c',rfl,own,own.lt'⟩
 case xW=>
  have kk:=uu.below hb uu.lt;(obtain⟨k0,k1,k2,k3,kf,kl⟩:=kk.n4);go_simp;exact hR _ _ (bK rfl rfl bD rfl)
 case z_=>
  obtain⟨⟨a24,c24,LQ, -⟩,a29,c29,LU, -⟩:=hf;go_simp;refine hR _ _ (iU rfl bD ?_)
  (try simp(decide:=true) only[go_sem])
  rw[LQ,LU]
 case Dl=>
  go_simp;refine hR _ _ (iU rfl bel ?_)
  (try simp(decide:=true) only[go_sem])
  exact⟨_,rfl,rfl,by simp,ah.new _ _ _⟩
 case Gm=>
  obtain⟨⟨a24,c24,LQ, -⟩,⟨a29,c29,LU, -⟩,h32,b,h7,q1,q2,kb⟩:=hf;rw[LQ,LU]at h32;(obtain⟨k0,k1,k2,k3,kf,kl⟩:=kb.n4);go_simp;refine hR _ _ (vH rfl rfl (A_ (grownBy_trans (grownBy_trans (grownBy_trans (grownBy_set w b 0 _) (grownBy_set _ b 1 _)) (grownBy_set _ b 2 _)) (grownBy_set _ b 3 _)) (dU.2 rfl) q1 q2) ?_)
  (try simp(decide:=true) only[go_sem])
  refine⟨b,h7,q1,q2,?_⟩;rw[LQ,LU];exact(((kb.upd 0 _).upd 1 _).upd 2 _).upd 3 _
 case hcl=>
  refine⟨bH,bH,?ai6,bH,bH,bH,bH,?NK,bH,bH,?Vz,?VA,?VD,trivial⟩
  all_goals first
   |exact fun f lo hi v b0 b1 w w' h hs hB hown hU hX=>by
     obtain⟨a,c,h1,own,lt⟩:=h;exact⟨a,c,h1,own.keep fun b hb hl _=>hown b hl (lt b Nj),lt⟩
   |exact fun f lo hi v b0 b1 w w' h hs hB hown hU hX=>by
     exact YN
   |exact fun f lo hi v b0 b1 w w' h hs hB hown hU hX=>by
     obtain⟨b,h1,h2,h3,k⟩:=h;exact⟨b,h1,h2,h3,(hU 11 aF b aj aj).trans k⟩
   |exact fun _ _ _ _ _ _ _ _ h _ _ _ _ _=>h
 intro f lo hi W7 hbr hx hf hk hrg;(try replace hbr:=fH.zero hbr);clear hx;(try simp(decide:=true) only[go_sem]at hf hk);obtain⟨⟨a24,c24,LQ,oL,aw5⟩,⟨a29,c29,LU,oN,aw6⟩,N,h7,q1,q2,kN⟩:=hf;rw[LQ,LU]at kN;have r2:=hrg.out 2 aF;have r7:=hrg.out 7 aF;have r11:=hrg.out 11 aF;have hN3:w3.heap.size≤N:=by omega
 have h3w:T+1+1<w3.heap.size:=jk.lt;have Xd:=uu.below hbr uu.lt;have LV:=OE.below hbr OE.lt;have LW:=jk.below hbr jk.lt;have oL7:=oL.mono r2.1;have oN7:=oN.mono r7.1;have sQ:Below T w W7:=eH.trans (hbr.mono aj);have hj7:=hj3.below (hbr.mono hj3.j.lw);have hl7:=hl3.below hbr aA;go_simp;clear hk hrg r2 r7 r11 uu OE jk oL oN eH hj3 hl3 hn3 hbr LQ LU h7 q1 q2 aw5 aw6 h1L h1N;by_cases hw:0<wt
 ·(obtain⟨k0,k1,k2,k3,kf,kl⟩:=Xd.n4);(obtain⟨m0,m1,m2,m3,mf,ml⟩:=kN.n4);(obtain⟨r0,r1,r2,r3,rf,rl⟩:=LW.n4);have hwt:wt≤2:=by have:=jQ.out.w1;omega
  have hwr:IntKind.i64.wrap (wt -1)=wt -1:=IntWalk.i64_in _ aj;have hNT:N≠T+1+1:=by omega
  go_wp2_with fail
  have kF:=((((LW.far (p:=⟨N,3,none⟩) Be (ae (wt -1))).upd 0 (.slice a24 ps.length c24)).upd 1 (ae g)).upd 2 (.slice a29 2 c29)).upd 3 (ae (wt -1));refine nJ 6 118 results187 rfl kF 4 rfl YM Yj rfl ?_;have hM:stepM ps cs ⟨ls,g,nx⟩ wt=⟨ls,g,nx⟩:=by unfold stepM;rw[if_pos hw]
  have hM2:stepW wt=wt -1:=by unfold stepW;rw[if_pos hw]
  rw[hM,hM2];have hTN:w.heap.size≤N:=by omega
  have BU:=LW.far (p:=⟨N,3,none⟩) Be (ae (wt -1));have g1:=grownBy_set W7 N 3 (ae (wt -1));have g2:=grownBy_trans (grownBy_trans (grownBy_trans (grownBy_set (W7.setCell ⟨N,3,none⟩ (ae (wt -1))) (T+1+1) 0 (.slice a24 ps.length c24)) (grownBy_set _ (T+1+1) 1 (ae g))) (grownBy_set _ (T+1+1) 2 (.slice a29 2 c29))) (grownBy_set _ (T+1+1) 3 (ae (wt -1)));exact⟨a24,c24,a29,c29,rfl,((oL7.aG g1 kN ay).aG g2 BU ay).mono aj,((oN7.aG g1 kN ay).aG g2 BU ay).mono aj,((sQ.mono sW).aB g1 aj bQ).aB g2 (by simp[World.setCell];omega) bQ⟩
 ·have hw0:wt=0:=by have:=jQ.out.w0;omega
  have hM:stepM ps cs ⟨ls,g,nx⟩ wt=NZ ps cs ⟨yU ps ls,g,nx⟩:=by unfold stepM;rw[if_neg hw]
  have hM2:stepW wt=0:=by unfold stepW;rw[if_neg hw]
  have HM:=ax hM;have OH:=ax hM2;clear hM hM2 hw;subst hw0;(obtain⟨k0,k1,k2,k3,kf,kl⟩:=Xd.n4);(obtain⟨j0,j1,j2,jf,jl⟩:=LV.n3)
  go_wp2_with fail
  have hls:Hid (ls.length=ps.length):=ax jQ.out.ll;obtain⟨B2,hB2⟩:=aI w.heap.size;have HB2:=ax hB2;have aw7:B2≤T:=by omega
  have oLB:Own W7 B2 194 2 a24 ps.length c24 (gC gG (Aj ps ls 0)):=by rw[avo];exact oL7.mono aj
  have oNB:Own W7 B2 3 1 a29 2 c29 (nx.map encI):=oN7.mono aj;have hBN:B2≤N:=by omega
  go_loopw [53] (fun s53 wr=> ∃i:Nat,s53=ae i∧i≤ps.length∧Own wr B2 194 2 a24 ps.length c24 (gC gG (Aj ps ls i))∧Own wr B2 3 1 a29 2 c29 (nx.map encI)∧ah wr T 69 #[.slice (some ⟨jb,0,none⟩) ps.length jc,.slice (some ⟨aQ,0,none⟩) ps.length aY,ae s]∧ah wr (T+1) 118 #[.slice la ps.length lc,ae g,.slice na 2 nc,ae 0]∧ah wr (T+1+1) 118 #[.slice none 0 0,ae 0,.slice none 0 0,ae 0]∧ah wr N 118 #[.slice a24 ps.length c24,ae g,.slice a29 2 c29,ae 0]∧Below B2 w wr) (fun s _=>ps.length -(intOf s).toNat)
  case atStart=>exact⟨0,rfl,by omega,oLB,oNB,LV,Xd,LW,kN,sQ.mono aw7⟩
  case round=>
   (clear k0 k1 k2 k3 kf kl);(clear j0 j1 j2 jf jl);clear oLB oNB LV Xd LW kN sQ oL7 oN7 hj7 hl7;obtain⟨i,rfl,hi,oL,oN,kJ,kC,kR,kN,be⟩:=hrel;by_cases hlt:i<ps.length
   ·have ix:(i:Int)<(ps.length:Int):=by omega
    have hil:i<ls.length:=by rw[hls.out];exact hlt
    have Jp:=ax (avq ps ls hls.out i hlt hil);have OI:=jQ.out.li i hlt hil;have Xe:=HF.out.ok _ (bF hlt);have hBw:w.heap.size≤B2:=by rw[HB2.out];exact Nat.le_refl _
    obtain⟨x0,x1,x2,x3,x4,x5,x6,x7⟩:=zS (HJ.out.j.ph.below be hBw) i hlt;have hlr:=hl.below be hBw;obtain⟨b,off,rfl,bl⟩:=hlr.open_ aj;have y0:=hlr.row.fV mQ i hil 0 ay (v:=ae ls[i].1) rfl;have y1:=hlr.row.fV mQ i hil 1 ay (v:=ae ls[i].2) rfl;simp only[iV]at y0;obtain⟨p,hp⟩:=aI (ps[i]);obtain⟨y,hy⟩:=aI (ls[i]);simp only at OI;rw[hp]at x0 x1 x2 x3 x4 x5 x6 x7 Xe Jp OI;rw[hy]at y0 y1 Jp OI;have HY:=ax hy;clear hp hy;obtain⟨y,t⟩:=y;obtain⟨r,pg,mg,xg,py,rd,wk,cl⟩:=p;simp only at x0 x1 x2 x3 x4 x5 x6 x7 y0 y1 Jp OI;(obtain⟨j0,j1,j2,jf,jl⟩:=kJ.n3);(obtain⟨k0,k1,k2,k3,kf,kl⟩:=kC.n4)
    go_upto_region 11 with fail
    obtain⟨X,hX⟩:=aI wr.heap.size;refine aW (fun Z=>ah Z X 71 #[ae r,ae pg,ae mg,ae xg,ae py,ae rd,ae wk,ae cl]∧Below wr.heap.size wr Z) ⟨by rw[←hX];exact ah.new _ _ _,bel⟩ ?_;rintro Z ⟨kX,bz⟩;rw[hX];have oLz:=oL.below bz aA;have oNz:=oN.below bz aA;have LM:=kJ.below bz kJ.lt;have Fp:=kC.below bz kC.lt;have kRz:=kR.below bz kR.lt;have kNz:=kN.below bz kN.lt;have hlz:=hlr.below bz aA;have QS:B2≤wr.heap.size:=by have:=be.size;omega
    have bez:=be.trans (bz.mono QS);have y0:=hlz.row.fV mQ i hil 0 ay (v:=ae y) UO;have y1:=hlz.row.fV mQ i hil 1 ay (v:=ae t) UO;simp only[iV]at y0;(clear j0 j1 j2 jf jl);(clear k0 k1 k2 k3 kf kl);clear hX oL oN kJ kC kR kN hlr;have Ar:b<Z.heap.size:=by have:=bz.size;omega
    clear bz;(obtain⟨x0,x1,x2,x3,x4,x5,x6,x7,xf,xl⟩:=kX.n8);(obtain⟨k0,k1,k2,k3,kf,kl⟩:=Fp.n4);(obtain⟨m0,m1,m2,m3,mf,ml⟩:=kNz.n4);have rX:=fun d os o=>dC Z d os X o xl;have rC:=fun d os o=>dC Z d os (T+1) o kl;have rN:=fun d os o=>dC Z d os N o ml;have rL:=fun d os o=>dC Z d os b o Ar;have hts:IntKind.i64.wrap (t+1)=t+1:=IntWalk.i64_in _ (by rcases OI with h|h|h|h<;>have:=Xe.mV<;>have:=Xe.red<;>simp only at* <;>omega);(refine nI 9 [] [0,1,2,3,4,5,6,7,8] bP bP ?_;refine lu ?_);(refine lC ?_);obtain⟨V,hV⟩:=aI Z.drew;have kXv:ah V X 71 #[ae r,ae pg,ae mg,ae xg,ae py,ae rd,ae wk,ae cl]:=by rw[←hV];exact kX
    have kJv:ah V T 69 #[.slice (some ⟨jb,0,none⟩) ps.length jc,.slice (some ⟨aQ,0,none⟩) ps.length aY,ae s]:=by rw[←hV];exact LM
    have Xf:ah V (T+1) 118 #[.slice (some ⟨b,off,none⟩) ps.length lc,ae g,.slice na 2 nc,ae 0]:=by rw[←hV];exact Fp
    have kRv:ah V (T+1+1) 118 #[.slice none 0 0,ae 0,.slice none 0 0,ae 0]:=by rw[←hV];exact kRz
    have Xg:ah V N 118 #[.slice a24 ps.length c24,ae g,.slice a29 2 c29,ae 0]:=by rw[←hV];exact kNz
    have oLv:Own V B2 194 2 a24 ps.length c24 (gC gG (Aj ps ls i)):=by rw[←hV];exact oLz.keep (fun _ _ _ _=>rfl)
    have oNv:Own V B2 3 1 a29 2 c29 (nx.map encI):=by rw[←hV];exact oNz.keep (fun _ _ _ _=>rfl)
    have bev:Below B2 w V:=by rw[←hV];exact below_drewN bez 1
    have z0:V.cell? ⟨b,off+i*2,none⟩=some (ae y):=by rw[←hV];exact y0
    have z1:V.cell? ⟨b,off+i*2+1,none⟩=some (ae t):=by rw[←hV];exact y1
    have DX:b<V.heap.size:=by rw[←hV];exact Ar
    rw[hV];(clear x0 x1 x2 x3 x4 x5 x6 x7 xf xl);(clear k0 k1 k2 k3 kf kl);(clear m0 m1 m2 m3 mf ml);clear rX rC rN rL hV y0 y1 kX LM Fp kRz kNz oLz oNz bez hlz
    go_upto_region 14 with fail
    (obtain⟨x0,x1,x2,x3,x4,x5,x6,x7,xf,xl⟩:=kXv.n8);(obtain⟨k0,k1,k2,k3,kf,kl⟩:=Xf.n4);(obtain⟨m0,m1,m2,m3,mf,ml⟩:=Xg.n4);have rX:=fun d os o=>dC V d os X o xl;have rC:=fun d os o=>dC V d os (T+1) o kl;have rN:=fun d os o=>dC V d os N o ml;have rL:=fun d os o=>dC V d os b o DX;have hSt:=ax (show aH 214 #[.agg #[ae r,ae pg,ae mg,ae xg,ae py,ae rd,ae wk,ae cl],.agg #[ae y,ae t],.bool (decide (xg≤t+1))] V.drew _ from aro ⟨r,pg,mg,xg,py,rd,wk,cl⟩ y t (decide (xg≤t+1)) V.drew Xe OI);obtain⟨q,hq⟩: ∃q,mD ⟨r,pg,mg,xg,py,rd,wk,cl⟩ y t (decide (xg≤t+1))=q:=⟨_,rfl⟩;rw[hq]at hSt Jp;clear hq;obtain⟨qa,qt⟩:=q;simp only at hSt;(refine nI 11 [([0,1,2,3,4,5,6,7,8,9],10)] [] bP bP ?_;refine lu ?_);(refine pF ?_;intro K hK)
    go_wp2_with (go_at_call 214;(with_reducible refine(hSt.out).mono ?_);rintro e w9 ⟨rfl,qW⟩)
    replace qW:=jA qW;refine dS qW (hK _ _ ?_);clear hK K;(refine lC ?_);have hll:=U4 ps ls hls.out i hi;obtain⟨LT,Xh⟩:=aI (Aj ps ls i);rw[Xh]at Jp oLv hll;clear Xh;have Rn:B2≤V.heap.size:=by have:=bev.size;omega
    have Fz:=oLv.below qW aA;have oN9:=oNv.below qW aA;have kJ9:=kJv.below qW kJv.lt;have kC9:=Xf.below qW Xf.lt;have Sj:=kRv.below qW kRv.lt;have kN9:=Xg.below qW Xg.lt;have Xi:=bev.trans (qW.mono Rn);have h9s:=qW.size;(clear x0 x1 x2 x3 x4 x5 x6 x7 xf xl);(clear k0 k1 k2 k3 kf kl);(clear m0 m1 m2 m3 mf ml);clear rX rC rN rL kXv kJv Xf kRv Xg oLv oNv bev z0 z1 hSt qW;obtain⟨G,rfl,hG,hGl⟩:=Fz.open_ aj;have hlL:i<LT.length:=by omega
    have u0:=Fz.row.fV mQ i hlL 0 ay (v:=ae LT[i].1) rfl;have u1:=Fz.row.fV mQ i hlL 1 ay (v:=ae LT[i].2) rfl;simp only[iV,dX]at u0 u1;have uf:=Fz.frozen
    go_wp2_with fail
    have g1:=grownBy_trans (grownBy_set w9 G (i*2) (ae qa)) (grownBy_set _ G (i*2+1) (ae qt));go_roundw
    case rel=>exact⟨i+1,by go_num,by omega,by rw[Jp.out];exact ahq Fz hlL qa qt,oN9.aC (xa:=some ⟨G,0,none⟩) g1 Fz ay,kJ9.aB g1 (Fz.iw kJ9 ay),kC9.aB g1 (Fz.iw kC9 ay),Sj.aB g1 (Fz.iw Sj ay),kN9.aB g1 (Fz.iw kN9 ay),Xi.aB g1 aj bQ⟩
    case measure=>simp[intOf];omega
   ·obtain rfl:i=ps.length:=by omega
    rw[avp ps ls hls.out]at oL;have hBw:B≤B2:=by rw[←HB2.out];exact HJ.out.j.lw
    have hjr:wQ wr B2 jb jc aQ aY ps cs s:=wQ.below ⟨HJ.out.j.mono hBw (by rw[HB2.out];exact Nat.le_refl _),HJ.out.ring,HJ.out.rows⟩ be;have aw8:=agK HF.out.ok jQ.out;(obtain⟨j0,j1,j2,jf,jl⟩:=kJ.n3)
    go_upto_region 19 with((go_at_call 216;(with_reducible refine(aqS B2 N jb jc aQ aY ps cs s ⟨yU ps ls,g,nx⟩ 0 a24 c24 a29 c29 wr hjr (aif HF.out.G5) ⟨kN,hBN,oL,oN⟩ aw8).mono ?_);rintro e w8 ⟨na8,nc8,rfl,hcp,hb8,hk8⟩))
    have BU:=hk8 _ _ _ kR ay ay aj;obtain⟨Xj, -,Xk,Xm⟩:=hcp;obtain⟨KK,FB⟩: ∃KK,NZ ps cs ⟨yU ps ls,g,nx⟩=KK:=⟨_,rfl⟩;have HMK:=ax (HM.out.trans FB);rw[FB]at Xj Xk Xm;clear FB;have Jq:=be.trans hb8;(clear j0 j1 j2 jf jl);(obtain⟨m0,m1,m2,m3,mf,ml⟩:=Xj.n4);(obtain⟨r0,r1,r2,r3,rf,rl⟩:=BU.n4)
    go_wp2_with fail
    have g2:=grownBy_trans (grownBy_trans (grownBy_trans (grownBy_set w8 (T+1+1) 0 (.slice a24 ps.length c24)) (grownBy_set _ (T+1+1) 1 (ae KK.g))) (grownBy_set _ (T+1+1) 2 (.slice na8 2 nc8))) (grownBy_set _ (T+1+1) 3 (ae 0));have kF:=(((BU.upd 0 (.slice a24 ps.length c24)).upd 1 (ae KK.g)).upd 2 (.slice na8 2 nc8)).upd 3 (ae 0);refine nJ 6 118 results187 rfl kF 4 rfl YM Yj rfl ?_;rw[HMK.out,OH.out];exact⟨a24,c24,na8,nc8,rfl,(Xk.aG g2 BU ay).mono aj,(Xm.aG g2 BU ay).mono aj,(Jq.mono aj).aB g2 (by have:=Jq.size;omega) bQ⟩
theorem apQ:(prog.info? 194).map (fun i=>(i.zero,i.size,i.bytes))=some (some (.agg #[ae 0,ae 0]),2,16):=by kernel_rfl
theorem auw: ∀n:Nat,madeCells (Value.agg #[ae 0,ae 0]).cells (n*2)=(gC gG (List.replicate n ((0:Int),(0:Int)))).toArray:=by
 intro n;apply Array.ext';simp only[List.toList_toArray];refine List.ext_getElem? fun i=>?_;have hl:=oZ mQ (List.replicate n ((0:Int),(0:Int)));rw[uK]at hl;by_cases hi:i<n*2
 ·have h1:=Vw mQ (List.replicate n ((0:Int),(0:Int))) (i/2) (by rw[uK];omega) (i % 2) aj;rw[show i/2*2+i % 2=i by omega]at h1;rw[h1];simp only[madeCells,Value.cells,List.getElem_replicate,Array.toList_map,List.getElem?_map];rcases Nat.mod_two_eq_zero_or_one i with e|e<;>simp[e,hi,gG]
 ·have e1:(gC gG (List.replicate n ((0:Int),(0:Int))))[i]?=none:=List.getElem?_eq_none (by rw[hl];omega);rw[e1];exact List.getElem?_eq_none (by simp[madeCells];omega)
theorem arL{R:Value→ak→Prop}{x:Operand}
  (n:Nat) (hx:ρ x=ae n) (hy:ρ y=ae n) (hn:n≤100000)
  (h:ah (w.alloc (.cells (gC gG (List.replicate n ((0:Int),(0:Int)))).toArray 194)) w.heap.size 194 (gC gG (List.replicate n ((0:Int),(0:Int)))).toArray→R (.slice (some ⟨w.heap.size,0,none⟩) n n) (w.alloc (.cells (gC gG (List.replicate n ((0:Int),(0:Int)))).toArray 194))):
  CZ prog R ((execOp ρ {dst,op:= .makeSlice 116 x y,type:=ty,pos,after,guard}).run prog w):=by
 obtain⟨i0,hi,hz0,hz1,hz2⟩:=info_parts apQ;have hrun:=run_make (P:=prog) w 116 194 i0 _ underlying116 hi hz0 .i64 .i64 n n aj aj JU aj;have e:=auw n;simp only[Int.toNat_natCast,hz1]at hrun;rw[e]at hrun;simp only[execOp,hx,hy,Sem.run_bind,Result.andThen_ok,hrun];exact h (ah.new _ _ _)
def dK(ps:List Ph):Ck:=⟨List.replicate ps.length (0,0),0,vS ps 0⟩
theorem ah.awi{l:List (Int × Int)}(k:ah W B' 194 (gC gG l).toArray)(hB:B≤B')(n:Nat)(hn:l.length=n)(h9:n≤1000000):Own W B 194 2 (some ⟨B',0,none⟩) n n (gC gG l):=by
 have hl:=oZ mQ l;refine Own.ofRaw k hB aA Ii (by simp[hl,hn]) ?_;rw[nM (by simp[hl,hn])]
theorem arM(jb jc aQ eX aY:Nat)(ps:List Ph)(s:Int)(w:ak)(h:Row w (some ⟨jb,0,none⟩) (jI ps))(h8:ps.length≤8)(hjl:jb<w.heap.size):
  aH 93 #[qO jb ps.length jc aQ eX aY s] w (ajI (dK ps) s ps.length w):=by
 go_enter func93,ntmps93
 go_upto_region 1 with fail
 obtain⟨T,hT⟩:=aI w.heap.size;refine aW (fun W=>ah W T 69 #[.slice (some ⟨jb,0,none⟩) ps.length jc,.slice (some ⟨aQ,0,none⟩) eX aY,ae s]∧ah W (T+1) 118 #[.slice none 0 0,ae 0,.slice none 0 0,ae 0]∧Below w.heap.size w W) ⟨by rw[←hT];exact(ah.new _ _ _).alloc _,by rw[←hT];exact ah.dG _ _ _ _,bel⟩ ?_;have sW:w.heap.size≤T:=by omega
 have aw9:T≤w.heap.size:=by omega
 rw[hT];have HT:=ax hT;clear hT;rintro W ⟨kJ,kR,be⟩;(obtain⟨j0,j1,j2,jf,jl⟩:=kJ.n3);apply uG [] 9 14 [some 4,some 5,some 6,some 7,some 8,some 9,some 10,some 3,none] [⟨[],[],[],[]⟩,⟨[0],[0],[0],[]⟩,⟨[0,1],[1],[1],[]⟩,⟨[0,1,2],[2],[2],[]⟩,⟨[],[],[],[]⟩,⟨[4],[4],[4],[]⟩,⟨[0,1,2,3,4,5],[3,5],[3,5],[]⟩,⟨[],[],[],[]⟩,⟨[0,1,2,3,4,5,6,7],[3,6,7],[3,6,7],[7]⟩] [0,1,2,3,4,5,6,7,8] [3,8] [bC,bC,bC,(fun f lo hi v b0 b1 W=> ∃b,v= .slice (some ⟨b,0,none⟩) ps.length ps.length∧b0=b∧b1=b+1∧ah W b 194 (gC gG (List.replicate ps.length ((0:Int),(0:Int)))).toArray),bC,bC,(fun f lo hi v b0 b1 W=>v= .agg #[f 3,ae 0,.slice none 0 0,ae s]),(fun f lo hi v b0 b1 W=> ∃b,v= .pointer (some ⟨b,0,none⟩)∧b0=b∧b1=b+1∧ah W b 118 #[.slice none 0 0,ae 0,.slice none 0 0,ae 0]),(fun f lo hi v b0 b1 W=> ∃b,f 7= .pointer (some ⟨b,0,none⟩)∧lo (7)=b∧hi (7)=b+1∧ah W b 118 #[f 3,ae 0,.slice none 0 0,ae s])] [bG _,bG _,bG _,dM,bG _,bG _,dM,dM,dM]
 ·kernel_rfl
 ·kernel_rfl
 ·rfl
 ·rfl
 ·exact trivial
 ·exact trivial
 refine⟨?pX,?pY,?p_,?qh,?qi,?qj,?qm,?rF,?vN,trivial⟩
 all_goals try(intro f lo hi w hb hx hf hk hrg R hR;(try replace hb:=fH.zero hb);(try simp(decide:=true) only[go_sem]at hf hk))
 case pX=>go_simp;exact hR _ _ (bK rfl rfl bD rfl)
 case pY=>
  have kk:=kJ.below hb kJ.lt;(obtain⟨k0,k1,k2,kf,kl⟩:=kk.n3);go_simp;exact hR _ _ (bK rfl rfl bD rfl)
 case p_=>go_simp;exact hR _ _ (bK rfl rfl bD rfl)
 case qh=>
  refine arL ps.length ?_ ?_ aj fun kk=>?_
  ·go_simp
  ·go_simp
  refine hR _ _ (iU rfl bel ?_)
  (try simp(decide:=true) only[go_sem])
  exact⟨_,rfl,rfl,by simp,kk⟩
 case qi=>go_simp;exact hR _ _ (bK rfl rfl bD rfl)
 case qj=>
  have kk:=kJ.below hb kJ.lt;(obtain⟨k0,k1,k2,kf,kl⟩:=kk.n3);go_simp;exact hR _ _ (bK rfl rfl bD rfl)
 case qm=>
  obtain⟨b7,h7, -⟩:=hf;go_simp;refine hR _ _ (iU rfl bD ?_)
  (try simp(decide:=true) only[go_sem])
  rw[h7]
 case rF=>
  go_simp;refine hR _ _ (iU rfl bel ?_)
  (try simp(decide:=true) only[go_sem])
  exact⟨_,rfl,rfl,by simp,ah.new _ _ _⟩
 case vN=>
  obtain⟨⟨b7,h7, -⟩,h10,b,h3,q1,q2,kb⟩:=hf;rw[h7]at h10;(obtain⟨k0,k1,k2,k3,kf,kl⟩:=kb.n4);go_simp;refine hR _ _ (vH rfl rfl (A_ (grownBy_trans (grownBy_trans (grownBy_trans (grownBy_set w b 0 _) (grownBy_set _ b 1 _)) (grownBy_set _ b 2 _)) (grownBy_set _ b 3 _)) (dU.2 rfl) q1 q2) ?_)
  (try simp(decide:=true) only[go_sem])
  refine⟨b,h3,q1,q2,?_⟩;rw[h7];exact(((kb.upd 0 _).upd 1 _).upd 2 _).upd 3 _
 case hcl=>
  refine⟨bH,bH,bH,?awh,bH,bH,?VJ,?NK,?NL,trivial⟩
  all_goals first
   |exact fun f lo hi v b0 b1 w w' h hs hB hown hU hX=>by
     exact YN
   |exact fun f lo hi v b0 b1 w w' h hs hB hown hU hX=>by
     obtain⟨b,h1,h2,h3,k⟩:=h;exact⟨b,h1,h2,h3,(hU 7 aF b aj aj).trans k⟩
   |exact fun _ _ _ _ _ _ _ _ h _ _ _ _ _=>h
 intro f lo hi W7 hbr hx hf hk hrg;(try replace hbr:=fH.zero hbr);clear hx;(try simp(decide:=true) only[go_sem]at hf hk);obtain⟨⟨L,h7,q1,q2,kL⟩,N,h3,q3,q4,kN⟩:=hf;rw[h7]at kN;have r3:=hrg.out 3 aF;have r7:=hrg.out 7 aF;have sQ:Below T w W7:=be.trans (hbr.mono (by have:=kR.lt;omega));have hR1:=kR.lt;have LV:=kJ.below hbr kJ.lt;have LW:=kR.below hbr kR.lt;have Xh:T≤L:=by omega
 have hNT:T+1<N:=by omega
 have hL0:L<W7.heap.size:=kL.lt;have oL:=ah.awi (B:=T) kL Xh ps.length aF aj;have hLN:L≠N:=fun e=>oL.iw kN ay tN;have hp7:=Row.below h sQ sW;(clear j0 j1 j2 jf jl);go_simp;clear hk hrg r3 r7 kJ kR be hbr h7 h3 q1 q2 q3 q4 kL;(obtain⟨j0,j1,j2,jf,jl⟩:=LV.n3)
 go_upto_region 3 with((go_at_call 126;(with_reducible refine(Y_ jb jc aQ eX aY ps s 0 N _ _ _ _ W7 hp7 h8 aj (by have:=sQ.size;omega) kN).mono ?_);rintro e w8 ⟨M,rfl,hM,oN,Xj,g8⟩))
 have BU:=LW.aB g8 CV;have hsz:T≤W7.heap.size:=by have:=sQ.size;omega
 have Xk:=oL.aB g8 (fun x hx=>by injection hx with hx;subst hx;intro e;exact hLN (by simpa using e));have Jq:=sQ.aB g8 hsz bQ;have Xm:=oN.mono hsz;(clear j0 j1 j2 jf jl);(obtain⟨m0,m1,m2,m3,mf,ml⟩:=Xj.n4);(obtain⟨r0,r1,r2,r3,rf,rl⟩:=BU.n4)
 go_wp2_with fail
 have g2:=grownBy_trans (grownBy_trans (grownBy_trans (grownBy_set w8 (T+1) 0 (.slice (some ⟨L,0,none⟩) ps.length ps.length)) (grownBy_set _ (T+1) 1 (ae 0))) (grownBy_set _ (T+1) 2 (.slice (some ⟨M,0,none⟩) 2 2))) (grownBy_set _ (T+1) 3 (ae s));have kF:=(((BU.upd 0 (.slice (some ⟨L,0,none⟩) ps.length ps.length)).upd 1 (ae 0)).upd 2 (.slice (some ⟨M,0,none⟩) 2 2)).upd 3 (ae s);refine nJ 2 118 results93 rfl kF 4 rfl YM Yj rfl ?_;exact⟨some ⟨L,0,none⟩,ps.length,some ⟨M,0,none⟩,2,rfl,(Xk.aG g2 BU ay).mono sW,(Xm.aG g2 BU ay).mono sW,(Jq.mono sW).aB g2 (by have:=Jq.size;omega) bQ⟩
theorem mr{T:Nat}{t:aK}{cs:aZ}(h:ah w T t cs)(e:T=k):ah w k t cs:=e▸h
theorem Own.drewN(h:Own w B e sz a n c xs)(k:Nat):Own (w.drewN k) B e sz a n c xs:=h.keep (fun _ _ _ _=>rfl)
def ajJ(K:Ck)(wt:Int)(dB:Bool)(n:Nat)(w:ak)(e:Ending)(w':ak):Prop:=
 ∃(la:az) (lc:Nat) (na:az) (nc:Nat),e= .returned (BD la n lc K.g na 2 nc wt dB)∧Own w' w.heap.size 194 2 la n lc (gC gG K.ls)∧Own w' w.heap.size 3 1 na 2 nc (K.nx.map encI)∧Below w.heap.size w w'
theorem aoe{R:EN}{a:Act}{g:Nat}{cs:aZ}(i:Nat)(T:aK)(j:Nat){v:Value}(hres:fn.results= #[.cell i T,.tmp j])(hp:a.tmps.getD i undef= .pointer (some ⟨g,0,none⟩))(hv:a.tmps.getD j undef=v)(k:ah w g T cs)
  (N:Nat) (hn:cs.size=N) (hu:(P.underlying T).map TypeDesc.isRow=some true) (hi:(P.info? T).map (·.size)=some N) (hd:a.defers= []) (hR:R (.returned (.tuple #[.agg cs,v])) w):bodyPost P fn R .ret a w:=by
 refine bodyPost_ret (v:= .tuple #[.agg cs,v]) ?_ hd hR;have hl:=tJ k T N hn hu hi;simp only[Array.getD_eq_getD_getElem?]at hp hv;simp[results,hres,hp,hv,hl,asAddr,Sem.run_bind,Sem.run_pure,Result.andThen]
theorem aet{R:EN}{a:Act}{g g':Nat}{cs cs':aZ}(i:Nat)(T:aK)(j:Nat)(T':aK)(hres:fn.results= #[.cell i T,.cell j T'])(hp:a.tmps.getD i undef= .pointer (some ⟨g,0,none⟩))(hp':a.tmps.getD j undef= .pointer (some ⟨g',0,none⟩))(k:ah w g T cs)(k':ah w g' T' cs')
  (N:Nat) (hn:cs.size=N) (hu:(P.underlying T).map TypeDesc.isRow=some true) (hi:(P.info? T).map (·.size)=some N) (N':Nat) (hn':cs'.size=N') (hu':(P.underlying T').map TypeDesc.isRow=some true) (hi':(P.info? T').map (·.size)=some N') (hd:a.defers= []) (hR:R (.returned (.tuple #[.agg cs,.agg cs'])) w):bodyPost P fn R .ret a w:=by
 refine bodyPost_ret (v:= .tuple #[.agg cs,.agg cs']) ?_ hd hR;have hl:=tJ k T N hn hu hi;have hl':=tJ k' T' N' hn' hu' hi';simp only[Array.getD_eq_getD_getElem?]at hp hp';simp[results,hres,hp,hp',hl,hl',asAddr,Sem.run_bind,Sem.run_pure,Result.andThen]
theorem aeL(jb jc aQ eX aY:Nat)(ps:List Ph)(s:Int)(w:ak)(h:Row w (some ⟨jb,0,none⟩) (jI ps))(h8:ps.length≤8)(hjl:jb<w.heap.size):
  aH 65 #[qO jb ps.length jc aQ eX aY s] w (ajJ (dK ps) s false ps.length w):=by
 obtain⟨K,hK⟩:=aI (dK ps);rw[hK];have HK:=ax hK;clear hK
 go_enter func65,ntmps65
 go_upto_region 1 with fail
 obtain⟨T,hT⟩:=aI w.heap.size;refine aW (fun W=>ah W T 69 #[.slice (some ⟨jb,0,none⟩) ps.length jc,.slice (some ⟨aQ,0,none⟩) eX aY,ae s]∧ah W (T+1) 120 #[.slice none 0 0,ae 0,.slice none 0 0,ae 0,.bool false]∧Below w.heap.size w W) ⟨by rw[←hT];exact(ah.new _ _ _).alloc _,by rw[←hT];exact ah.dG _ _ _ _,bel⟩ ?_;have sW:w.heap.size≤T:=by omega
 rw[hT];clear hT;rintro W ⟨kJ,kR,be⟩;replace be:=be.mono sW;have hW:=kR.lt;(obtain⟨j0,j1,j2,jf,jl⟩:=kJ.n3);(obtain⟨r0,r1,r2,r3,r4,rf,rl⟩:=kR.n5);have hIn:=arM jb jc aQ eX aY ps s W (Row.below h be aA) h8 aj;rw[HK.out]at hIn
 go_wp2_with (go_at_call 93;(with_reducible refine(hIn).mono ?_);rintro e w2 ⟨la,lc,na,nc,rfl,oL,oN,hb2⟩;((clear r0 r1 r2 r3 r4 rf rl);have j_:=kR.below hb2 hW;(obtain⟨r0,r1,r2,r3,r4,rf,rl⟩:=j_.n5)))
 have be2:Below w.heap.size w w2:=be.trans (hb2.mono be.size);have g2:=grownBy_trans (grownBy_trans (grownBy_trans (grownBy_trans (grownBy_set w2 (T+1) 0 (.slice la ps.length lc)) (grownBy_set _ (T+1) 1 (ae K.g))) (grownBy_set _ (T+1) 2 (.slice na 2 nc))) (grownBy_set _ (T+1) 3 (ae s))) (grownBy_set _ (T+1) 4 (.bool false));have kF:=((((j_.upd 0 (.slice la ps.length lc)).upd 1 (ae K.g)).upd 2 (.slice na 2 nc)).upd 3 (ae s)).upd 4 (.bool false);refine nJ 2 120 results65 rfl kF 5 rfl CP xJ rfl ?_;exact⟨la,lc,na,nc,rfl,(oL.aG g2 j_ ay).mono be.size,(oN.aG g2 j_ ay).mono be.size,be2.aB g2 be2.size bQ⟩
theorem arN{cs:aO}{c:Ck}{r:Nat}:(Gt ps cs c r).ls.length=c.ls.length:=by
 unfold Gt
 split
 ·unfold ES
  split
  ·rfl
  ·split
   ·rfl
   ·simp
 ·rfl
theorem ahP{cs:aO}{c:Ck}: ∀r,(Gx ps cs c r).ls.length=c.ls.length
 |0=>by unfold Gx NY;split<;>rfl
 |r+1=>by rw[Gx,arN,ahP r]
theorem ahs{cs:aO}{c:Ck}{wt:Int}(hf:uJ ps cs)(h:mW ps cs s c wt):(stepM ps cs c wt).ls.length=ps.length:=by
 unfold stepM
 split
 ·exact h.ll
 ·rw[NZ,ahP];exact PE ps c.ls h.ll
theorem aof(B jb jc aQ aY:Nat)(ps:List Ph)(cs:aO)(s:Int)(c:Ck)(wt st:Int)(la:az)(lc:Nat)(na:az)(nc:Nat)(w:ak)(hj:wQ w B jb jc aQ aY ps cs s)(hf:uJ ps cs)(hl:Sl w 194 2 la ps.length lc (gC gG c.ls))(hn:Sl w 3 1 na 2 nc (c.nx.map encI))(ok:mW ps cs s c wt):
  aH 165 #[qO jb ps.length jc aQ ps.length aY s,BD la ps.length lc c.g na 2 nc wt false,ae (-1),ae st] w (ajJ (stepM ps cs c wt) (stepW wt) (Ad cs (uN (stepM ps cs c wt).ls st)) ps.length w):=by
 obtain⟨K,hK⟩:=aI (stepM ps cs c wt);obtain⟨kw,hkw⟩: ∃k,stepW wt=k:=⟨_,rfl⟩;obtain⟨fb,hfb⟩: ∃f,Ad cs (uN K.ls st)=f:=⟨_,rfl⟩;have Lt:K.ls.length=ps.length:=by rw[←hK];exact ahs hf ok
 rw[hK,hkw,hfb];have HK:=ax hK;have su:=ax Lt;have HKW:=ax hkw;have HFB:=ax hfb;have jQ:=ax ok;have HF:=ax hf;have h8:=hj.j.n1.2;have LK:=ax hf.len;clear hK hkw hfb ok hf Lt
 go_enter func165,ntmps165
 go_upto_region 1 with fail
 obtain⟨T,hT⟩:=aI w.heap.size;refine aW (fun W=>ah W T 69 #[.slice (some ⟨jb,0,none⟩) ps.length jc,.slice (some ⟨aQ,0,none⟩) ps.length aY,ae s]∧ah W (T+1) 120 #[.slice la ps.length lc,ae c.g,.slice na 2 nc,ae wt,.bool false]∧ah W (T+1+1) 120 #[.slice none 0 0,ae 0,.slice none 0 0,ae 0,.bool false]∧Below w.heap.size w W) ⟨by rw[←hT];exact((ah.new _ _ _).alloc _).alloc _,by rw[←hT];exact(ah.dG _ _ _ _).alloc _,by rw[←hT];have:=ah.dG (w.alloc (.cells #[.slice (some ⟨jb,0,none⟩) ps.length jc,.slice (some ⟨aQ,0,none⟩) ps.length aY,ae s] 69)) (.cells #[.slice la ps.length lc,ae c.g,.slice na 2 nc,ae wt,.bool false] 120) 120 #[.slice none 0 0,ae 0,.slice none 0 0,ae 0,.bool false];rw[World.size_alloc]at this;exact this,bel⟩ ?_;have sW:w.heap.size≤T:=by omega
 have hBT:B≤T:=by have:=hj.j.lw;omega
 rw[hT];have HT:=ax hT;have aw9:T≤w.heap.size:=by omega
 clear hT;rintro W ⟨kJ,kS,kR,be⟩;have hW:=kR.lt;have uq:=hj.below (be.mono hBT);have Fq:=hl.below be sW;have Fv:=hn.below be sW;clear hj hl hn;(obtain⟨j0,j1,j2,jf,jl⟩:=kJ.n3);(obtain⟨x0,x1,x2,x3,x4,xf,xl⟩:=kS.n5);have hSt:=ax (aqT B jb jc aQ aY ps cs s c wt la lc na nc W uq HF.out Fq Fv jQ.out);rw[HK.out,HKW.out]at hSt
 go_upto_region 4 with((go_at_call 187;(with_reducible refine(hSt.out).mono ?_);rintro e w2 ⟨nV,nX,nY,nZ,rfl,oL,oN,hb2⟩))
 clear hSt;obtain⟨C,hC⟩:=aI w2.heap.size;have hWC:=hb2.size;refine aW (fun U=>ah U C 118 #[.slice nV ps.length nX,ae K.g,.slice nY 2 nZ,ae kw]∧ah U T 69 #[.slice (some ⟨jb,0,none⟩) ps.length jc,.slice (some ⟨aQ,0,none⟩) ps.length aY,ae s]∧ah U (T+1+1) 120 #[.slice none 0 0,ae 0,.slice none 0 0,ae 0,.bool false]∧Own U W.heap.size 194 2 nV ps.length nX (gC gG K.ls)∧Own U W.heap.size 3 1 nY 2 nZ (K.nx.map encI)∧wQ U B jb jc aQ aY ps cs s∧Below T w U) ⟨by rw[←hC];exact ah.new _ _ _,(kJ.below hb2 kJ.lt).alloc _,(kR.below hb2 kR.lt).alloc _,oL.alloc _,oN.alloc _,(uq.below (hb2.mono uq.j.lw)).below (by exact(Below.refl _ _).alloc (by have:=uq.j.lw;omega) _),(be.trans (hb2.mono aj)).alloc aj _⟩ ?_;rw[hC];(clear j0 j1 j2 jf jl);(clear x0 x1 x2 x3 x4 xf xl);clear hb2 oL oN kJ kS kR hC be uq Fq Fv;rintro U ⟨kC,kJ,kR,oL,oN,Sm,be⟩;(obtain⟨x0,x1,x2,x3,xf,xl⟩:=kC.n4);(obtain⟨j0,j1,j2,jf,jl⟩:=kJ.n3)
 go_upto_region 5 with((go_at_call 188;(with_reducible refine(ao7 su.out.symm oL.sl aj).mono ?_);rintro e w3 ⟨a3,c3,rfl,o3,hb3⟩))
 replace kC:=kC.below hb3 kC.lt;replace kJ:=kJ.below hb3 kJ.lt;replace kR:=kR.below hb3 kR.lt;replace oL:=oL.below hb3 aA;replace oN:=oN.below hb3 aA;have hcf:=ahr Sm.j.cf (hb3.mono Sm.j.lw) Sm.j.WC;replace be:=be.trans (hb3.mono Bf);(clear x0 x1 x2 x3 xf xl);(clear j0 j1 j2 jf jl);have hro:=Sm.rows;clear Sm hb3;(obtain⟨x0,x1,x2,x3,xf,xl⟩:=kC.n4);(obtain⟨j0,j1,j2,jf,jl⟩:=kJ.n3);(obtain⟨r0,r1,r2,r3,r4,rf,rl⟩:=kR.n5);have rC:=fun d os o=>dC w3 d os C o xl;have rJ:=fun d os o=>dC w3 d os T o jl;have hFo:=ax (anB (cs:=cs) (L:=uN K.ls st) (ca:=some ⟨aQ,0,none⟩) (cn:=ps.length) (cc:=aY) (la:=a3) (n:=ps.length) (lc:=c3) (w:=w3.drew) hcf LK.out.symm hro (Row.drew o3.row) (by rw[Zw];exact su.out.symm) aj);rw[HFB.out]at hFo;(refine nI 5 [([0,1,2,3],4)] [] bP bP ?_;refine lu ?_);(refine pF ?_;intro K hK)
 go_wp2_with (go_at_call 189;(with_reducible refine(hFo.out).mono ?_);rintro e w4 ⟨rfl,rfl⟩)
 refine dS (show Below w3.heap.size w3 w3.drew from bel) (hK _ _ ?_);clear hK K;(refine lC ?_)
 go_wp2_with fail
 have g2:=grownBy_trans (grownBy_trans (grownBy_trans (grownBy_trans (grownBy_set w3 (T+1+1) 0 (.slice nV ps.length nX)) (grownBy_set _ (T+1+1) 1 (ae K.g))) (grownBy_set _ (T+1+1) 2 (.slice nY 2 nZ))) (grownBy_set _ (T+1+1) 3 (ae kw))) (grownBy_set _ (T+1+1) 4 (.bool fb));have kF:=((((kR.upd 0 (.slice nV ps.length nX)).upd 1 (ae K.g)).upd 2 (.slice nY 2 nZ)).upd 3 (ae kw)).upd 4 (.bool fb);refine nJ 8 120 results165 rfl (kF.drewN 1) 5 rfl CP xJ rfl ?_;have qW:=below_drewN ((be.mono sW).aB g2 Bf bQ) 1;exact⟨nV,nX,nY,nZ,rfl,((oL.aG g2 kR ay).mono aj).drewN 1,((oN.aG g2 kR ay).mono aj).drewN 1,qW⟩
def ajK(K:Ck)(wt:Int)(dB did:Bool)(n:Nat)(w:ak)(e:Ending)(w':ak):Prop:=
 ∃(la:az) (lc:Nat) (na:az) (nc:Nat),e= .returned (.tuple #[BD la n lc K.g na 2 nc wt dB,.bool did])∧Own w' w.heap.size 194 2 la n lc (gC gG K.ls)∧Own w' w.heap.size 3 1 na 2 nc (K.nx.map encI)∧Below w.heap.size w w'
theorem anR(jb jc aQ eX aY:Nat)(ps:List Ph)(s:Int)(g:Int)(wt:Int)(n:Nat)(la:az)(lc:Nat)(na:az)(nc:Nat)(w:ak)(h:Row w (some ⟨jb,0,none⟩) (jI ps))(h8:ps.length≤8)(hjl:jb<w.heap.size):
  aH 106 #[qO jb ps.length jc aQ eX aY s,BD la n lc g na 2 nc wt true] w (ajK (dK ps) s false true ps.length w):=by
 obtain⟨K,hK⟩:=aI (dK ps);rw[hK];have HK:=ax hK;clear hK
 go_enter func106,ntmps106
 go_upto_region 1 with fail
 obtain⟨T,hT⟩:=aI w.heap.size;refine aW (fun W=>ah W T 69 #[.slice (some ⟨jb,0,none⟩) ps.length jc,.slice (some ⟨aQ,0,none⟩) eX aY,ae s]∧ah W (T+1) 120 #[.slice la n lc,ae g,.slice na 2 nc,ae wt,.bool true]∧ah W (T+1+1) 120 #[.slice none 0 0,ae 0,.slice none 0 0,ae 0,.bool false]∧Below w.heap.size w W) ⟨by rw[←hT];exact((ah.new _ _ _).alloc _).alloc _,by rw[←hT];exact(ah.dG _ _ _ _).alloc _,by rw[←hT];have:=ah.dG (w.alloc (.cells #[.slice (some ⟨jb,0,none⟩) ps.length jc,.slice (some ⟨aQ,0,none⟩) eX aY,ae s] 69)) (.cells #[.slice la n lc,ae g,.slice na 2 nc,ae wt,.bool true] 120) 120 #[.slice none 0 0,ae 0,.slice none 0 0,ae 0,.bool false];rw[World.size_alloc]at this;exact this,bel⟩ ?_;have sW:w.heap.size≤T:=by omega
 rw[hT];clear hT;rintro W ⟨kJ,kS,kR,be⟩;replace be:=be.mono sW;have hW:=kR.lt;(obtain⟨j0,j1,j2,jf,jl⟩:=kJ.n3);(obtain⟨x0,x1,x2,x3,x4,xf,xl⟩:=kS.n5);(obtain⟨r0,r1,r2,r3,r4,rf,rl⟩:=kR.n5);have hIn:=aeL jb jc aQ eX aY ps s W (Row.below h be aA) h8 aj;rw[HK.out]at hIn
 go_wp2_with (go_at_call 65;(with_reducible refine(hIn).mono ?_);rintro e w2 ⟨nV,nX,nY,nZ,rfl,oL,oN,hb2⟩;((clear r0 r1 r2 r3 r4 rf rl);have j_:=kR.below hb2 hW;(obtain⟨r0,r1,r2,r3,r4,rf,rl⟩:=j_.n5)))
 have be2:Below w.heap.size w w2:=be.trans (hb2.mono be.size);have g2:=grownBy_trans (grownBy_trans (grownBy_trans (grownBy_trans (grownBy_set w2 (T+1+1) 0 (.slice nV ps.length nX)) (grownBy_set _ (T+1+1) 1 (ae K.g))) (grownBy_set _ (T+1+1) 2 (.slice nY 2 nZ))) (grownBy_set _ (T+1+1) 3 (ae s))) (grownBy_set _ (T+1+1) 4 (.bool false));have kF:=((((j_.upd 0 (.slice nV ps.length nX)).upd 1 (ae K.g)).upd 2 (.slice nY 2 nZ)).upd 3 (ae s)).upd 4 (.bool false);refine aoe 4 120 5 (v:= .bool true) results106 rfl rfl kF 5 rfl CP xJ rfl ?_;exact⟨nV,nX,nY,nZ,rfl,(oL.aG g2 j_ ay).mono be.size,(oN.aG g2 j_ ay).mono be.size,be2.aB g2 be2.size bQ⟩
theorem Ic:(prog.info? 32).map (·.size)=some 8:=by kernel_rfl
theorem PG:(prog.underlying 32).map TypeDesc.isRow=some true:=by kernel_rfl
theorem vF:(prog.info? 85).map (·.size)=some 14:=by kernel_rfl
theorem FZ:(prog.underlying 85).map TypeDesc.isRow=some true:=by kernel_rfl
theorem aeg{ra:Int}(hs:Sl w 5 1 sa sn sc (sec.map a_))(hl:Sl w 3 1 la ln lc (lim.map encI))(s1:sn≤1000)(s2:ln≤1000):
  aH 123 #[KH sa sn sc rt cl la ln lc rq se ra bu] w fun e w'=> ∃(sa':az) (sc':Nat) (la':az) (nC:Nat),e= .returned (KH sa' sn sc' rt cl la' ln nC rq se ra bu)∧Own w' w.heap.size 5 1 sa' sn sc' (sec.map a_)∧Own w' w.heap.size 3 1 la' ln nC (lim.map encI)∧Below w.heap.size w w':=by
 go_enter func123,ntmps123
 go_upto_region 1 with fail
 obtain⟨R,hR⟩:=aI w.heap.size;refine aW (fun W=>ah W R 32 #[.slice sa sn sc,ae rt,ae cl,.slice la ln lc,ae rq,ae se,ae ra,ae bu]∧ah W (R+1) 32 #[.slice none 0 0,ae 0,ae 0,.slice none 0 0,ae 0,ae 0,ae 0,ae 0]∧Below w.heap.size w W∧R+2≤W.heap.size) ⟨by rw[←hR];exact(ah.new _ _ _).alloc _,by rw[←hR];exact ah.dG _ _ _ _,bel,by simp;omega⟩ ?_;have fQ:w.heap.size≤R:=by omega
 rw[hR];clear hR;rintro W ⟨kR,kZ,be,sz⟩;replace be:=be.mono fQ;(obtain⟨x0,x1,x2,x3,x4,x5,x6,x7,xf,xl⟩:=kR.n8);have z1:=hs.below be aA
 go_upto_region 2 with((go_at_call 71;(with_reducible refine(U3 sa sn sc _ _ z1 (Nq _) aj).mono ?_);rintro e w1 ⟨a1,c1,rfl,o1,hb1⟩;((clear x0 x1 x2 x3 x4 x5 x6 x7 xf xl);(replace kR:=kR.below hb1 kR.lt);(obtain⟨x0,x1,x2,x3,x4,x5,x6,x7,xf,xl⟩:=kR.n8))))
 replace kZ:=kZ.on hb1 (g':=R) aF 0 (.slice a1 sn c1);have uV:Below w.heap.size w (w1.setCell ⟨R,0,none⟩ (.slice a1 sn c1)):=bel;replace o1:=o1.wK be.size kR ay 0 (.slice a1 sn c1)
 (replace kR:=kR.set 0 (.slice a1 sn c1));(simp only[pz,lh,jX]at kR)
 clear be hb1 z1;have z2:=hl.below uV aA
 go_upto_region 3 with((go_at_call 101;(with_reducible refine(Ip la ln lc _ _ z2 (Bg _) aj).mono ?_);rintro e w2 ⟨a2,c2,rfl,o2,hb2⟩;((clear x0 x1 x2 x3 x4 x5 x6 x7 xf xl);(replace kR:=kR.below hb2 kR.lt);(obtain⟨x0,x1,x2,x3,x4,x5,x6,x7,xf,xl⟩:=kR.n8))))
 replace kZ:=kZ.on hb2 (g':=R) aF 3 (.slice a2 ln c2);have nz:Below w.heap.size w (w2.setCell ⟨R,3,none⟩ (.slice a2 ln c2)):=bel;replace o1:=o1.on hb2 kR ay 3 (.slice a2 ln c2);replace o2:=o2.wK uV.size kR ay 3 (.slice a2 ln c2)
 (replace kR:=kR.set 3 (.slice a2 ln c2));(simp only[pz,lh,jX]at kR)
 (clear x0 x1 x2 x3 x4 x5 x6 x7 xf xl)
 go_wp2_with (first|(refine gy kR PG Ic ?_)|(refine dw #[.slice a1 sn c1,ae rt,ae cl,.slice a2 ln c2,ae rq,ae se,ae ra,ae bu] kZ Ic ?_;intro W' kw gw zw))
 refine nJ 2 32 results123 rfl kw 8 rfl PG Ic rfl ?_;exact⟨a1,c1,a2,c2,rfl,o1.aG gw kZ ay,o2.aG gw kZ ay,nz.aB gw nz.size bQ⟩
def QT:aZ:= #[ae 0,.slice none 0 0,ae 0,ae 0,.slice none 0 0,ae 0,ae 0,ae 0,ae 0,.slice none 0 0,.slice none 0 0,ae 0,ae 0,ae 0]
theorem ao9{num:Int}{ra:Int}(hs:Sl w 5 1 sa sn sc (sec.map a_))(hl:Sl w 3 1 la ln lc (lim.map encI))(s1:sn=sec.length)(s1':sn≤1000)(s2:ln=lim.length)(s2':ln≤1000):
  aH 92 #[ae num,KH sa sn sc rt cl la ln lc rq se ra bu] w (VY ⟨num,sec,rt,cl,lim,rq,se,ra,bu,iZ sec rt cl,[],bu⟩ w):=by
 have H1:=ax s1;have H2:=ax s2;clear s1 s2
 go_enter func92,ntmps92
 go_upto_region 1 with fail
 obtain⟨R,hR⟩:=aI w.heap.size;refine aW (fun W=>ah W R 32 #[.slice sa sn sc,ae rt,ae cl,.slice la ln lc,ae rq,ae se,ae ra,ae bu]∧ah W (R+1) 85 QT∧Below w.heap.size w W∧R+2≤W.heap.size) ⟨by rw[←hR];exact(ah.new _ _ _).alloc _,by rw[←hR];exact ah.dG _ _ _ _,bel,by simp;omega⟩ ?_;have fQ:w.heap.size≤R:=by omega
 rw[hR];clear hR;rintro W ⟨kR,kZ,be,sz⟩;replace be:=be.mono fQ;(obtain⟨x0,x1,x2,x3,x4,x5,x6,x7,xf,xl⟩:=kR.n8);have rR:=fun d os o=>dC W d os R o xl;have bd:Below w.heap.size w W.drew:=below_drewN be 1;have z1:=hs.below bd aA;have z2:=hl.below bd aA;(refine nI 10 [([0,1,3,5,6,7,8],2),([],4),([],9)] [] bP bP ?_;refine lu ?_);(refine pF ?_;intro K hK)
 go_wp2_with (go_at_call 123;(with_reducible refine(aeg z1 z2 s1' s2').mono ?_);rintro e w1 ⟨a1,c1,a2,c2,rfl,o1,o2,hb1⟩)
 replace hb1:=jA hb1;refine dS hb1 (hK _ _ ?_);clear hK K;have uV:=be.trans (hb1.mono be.size);have z3:=(hs.below uV aA);have b3:bI w1 sa sec:=z3.row;(refine pF ?_;intro K hK)
 go_wp2_with (go_at_call 124;(with_reducible refine(arG sa sec sn sc rt cl la ln lc rq se ra bu w1 b3 H1.out aj z3.nil0).mono ?_);rintro e w2 ⟨xa,xc,l2,rfl,hk2,hn2,⟨o3,o4⟩,hb2⟩)
 have V5:=hb1.trans (hb2.mono hb1.size);refine dS V5 (hK _ _ ?_);clear hK K;(refine pF ?_;intro K hK)
 go_wp2_with (go_at_call 125;(with_reducible refine(as8 ra bu w2).mono ?_);rintro e w3 ⟨rfl,hb3⟩)
 have DI:=V5.trans (hb3.mono V5.size);refine dS DI (hK _ _ ?_);clear hK K;(refine lC ?_);(clear x0 x1 x2 x3 x4 x5 x6 x7 xf xl);clear rR bd z1 z2;have nD:=kZ.below DI kZ.lt
 go_wp2_with (refine dw #[ae num,.slice a1 sn c1,ae rt,ae cl,.slice a2 ln c2,ae rq,ae se,ae ra,ae bu,.slice xa 8 xc,.slice none 0 0,ae bu,ae ra,ae bu] nD vF ?_;intro W' kw gw zw)
 refine nJ 4 85 results92 rfl kw 14 rfl FZ vF rfl ?_;have zD:=be.trans (DI.mono be.size);have hw1:=V5.size;have hw2:=hb1.size;have p1:=((o1.below hb2 aA).below hb3 aA).aG gw nD ay;have p2:=((o2.below hb2 aA).below hb3 aA).aG gw nD ay;have p3:=((o3.below hb3 aA)).aG gw nD ay;have p4:=fun t ht=>((o4 t ht).below hb3 aA).aG gw nD ay;refine⟨⟨num,sec,a1,c1,rt,cl,lim,a2,c2,rq,se,ra,bu,l2,xa,xc,[],none,0,bu⟩,by simp only[Rx.val,←H1.out,←H2.out,←hn2.out,List.length_nil],ax (by simp only[Rx.key,hk2.out]),⟨?_,?_,?_,?_,Own.nil _ _ _ _⟩,zD.aB gw zD.size bQ⟩
 ·have:=p1.mono be.size;simpa only[H1.out]using this
 ·have:=p2.mono be.size;simpa only[H2.out]using this
 ·exact p3.mono Bf
 ·exact fun t ht=>(p4 t ht).mono Bf
theorem aog(r:Rx)(w:ak)(h:y_ w r):aH 177 #[r.val] w (VY r.key w):=by
 obtain⟨num,sec,sa,sc,rt,cl,lim,la,lc,rq,se,ra,bu,tk,ta,tc,vh,va,vc,lv⟩:=r;obtain⟨yZ,hlim,htk,QQ,RF,hsm⟩:=h;simp only at yZ hlim htk QQ RF;obtain⟨s1,s2,s3,s4,s5⟩:=hsm;simp only[Rx.key,g_]at s1 s2 s3 s4 s5
 go_enter func177,ntmps177
 go_upto_region 1 with fail
 obtain⟨R,hR⟩:=aI w.heap.size;refine aW (fun W=>ah W R 85 #[ae num,.slice sa sec.length sc,ae rt,ae cl,.slice la lim.length lc,ae rq,ae se,ae ra,ae bu,.slice ta tk.length tc,.slice va vh.length vc,ae lv,ae ra,ae bu]∧ah W (R+1) 85 #[ae 0,.slice none 0 0,ae 0,ae 0,.slice none 0 0,ae 0,ae 0,ae 0,ae 0,.slice none 0 0,.slice none 0 0,ae 0,ae 0,ae 0]∧Below w.heap.size w W∧R+2≤W.heap.size) ⟨by rw[←hR];exact(ah.new _ _ _).alloc _,by rw[←hR];exact ah.dG _ _ _ _,bel,by simp;omega⟩ ?_;have fQ:w.heap.size≤R:=by omega
 rw[hR];clear hR;rintro W ⟨kR,kZ,be,sz⟩;replace be:=be.mono fQ;(obtain⟨x0,x1,x2,x3,x4,x5,x6,x7,x8,x9,x10,x11,x12,dh,xf,xl⟩:=kR.n14);have z1:=yZ.below be aA;have z2:=hlim.below be aA
 go_upto_region 2 with((go_at_call 123;(with_reducible refine(aeg z1 z2 aj aj).mono ?_);rintro e w1 ⟨a1,c1,a2,c2,rfl,o1,o2,hb1⟩;((clear x0 x1 x2 x3 x4 x5 x6 x7 x8 x9 x10 x11 x12 dh xf xl);(replace kR:=kR.below hb1 kR.lt);(obtain⟨x0,x1,x2,x3,x4,x5,x6,x7,x8,x9,x10,x11,x12,dh,xf,xl⟩:=kR.n14))))
 (clear x0 x1 x2 x3 x4 x5 x6 x7 x8 x9 x10 x11 x12 dh xf xl);have g1:=gm R [.slice a1 sec.length c1,ae rt,ae cl,.slice a2 lim.length c2,ae rq,ae se,ae ra,ae bu] w1 1;have D6:=hb1.size;refine aW (fun U=>ah U R 85 #[ae num,.slice a1 sec.length c1,ae rt,ae cl,.slice a2 lim.length c2,ae rq,ae se,ae ra,ae bu,.slice ta tk.length tc,.slice va vh.length vc,ae lv,ae ra,ae bu]∧ah U (R+1) 85 #[ae 0,.slice none 0 0,ae 0,ae 0,.slice none 0 0,ae 0,ae 0,ae 0,ae 0,.slice none 0 0,.slice none 0 0,ae 0,ae 0,ae 0]∧Own U w.heap.size 5 1 a1 sec.length c1 (sec.map a_)∧Own U w.heap.size 3 1 a2 lim.length c2 (lim.map encI)∧Below w.heap.size w U∧R+2≤U.heap.size) ⟨ah.sets (cs:= [_,_,_,_,_,_,_,_,_,_,_,_,_,_]) [.slice a1 sec.length c1,ae rt,ae cl,.slice a2 lim.length c2,ae rq,ae se,ae ra,ae bu] 1 kR,(kZ.below hb1 kZ.lt).aB g1 aF,(o1.aG g1 kR ay).mono be.size,(o2.aG g1 kR ay).mono be.size,(be.trans (hb1.mono be.size)).aB g1 Bf bQ,by have:=g1.size;exact dA (dA sz D6) this⟩ ?_;clear kR kZ be o1 o2 hb1 g1 D6 z1 z2 sz;rintro W ⟨kR,kZ,o1,o2,nz,sz⟩;(obtain⟨x0,x1,x2,x3,x4,x5,x6,x7,x8,x9,x10,x11,x12,dh,xf,xl⟩:=kR.n14);have z3:=htk.below nz aA
 go_upto_region 3 with((go_at_call 157;(with_reducible refine(ahm ta tk.length tc _ _ z3 (wH ah9 _) aj).mono ?_);rintro e w3 ⟨a3,c3,rfl,o3,hb3⟩;((clear x0 x1 x2 x3 x4 x5 x6 x7 x8 x9 x10 x11 x12 dh xf xl);(replace kR:=kR.below hb3 kR.lt);(obtain⟨x0,x1,x2,x3,x4,x5,x6,x7,x8,x9,x10,x11,x12,dh,xf,xl⟩:=kR.n14))))
 replace kZ:=kZ.on hb3 (g':=R) aF 9 (.slice a3 tk.length c3);have zD:Below w.heap.size w (w3.setCell ⟨R,9,none⟩ (.slice a3 tk.length c3)):=bel;replace o1:=o1.on hb3 kR ay 9 (.slice a3 tk.length c3);replace o2:=o2.on hb3 kR ay 9 (.slice a3 tk.length c3);replace o3:=o3.wK nz.size kR ay 9 (.slice a3 tk.length c3)
 (replace kR:=kR.set 9 (.slice a3 tk.length c3));(simp only[pz,lh,jX]at kR)
 clear hb3 z3 nz;(clear x0 x1 x2 x3 x4 x5 x6 x7 x8 x9 x10 x11 x12 dh xf xl);obtain⟨V,hV⟩: ∃V,w3.setCell ⟨R,9,none⟩ (.slice a3 tk.length c3)=V:=⟨_,rfl⟩;rw[hV]at kR kZ zD o1 o2 o3⊢;clear hV;(obtain⟨x0,x1,x2,x3,x4,x5,x6,x7,x8,x9,x10,x11,x12,dh,xf,xl⟩:=kR.n14)
 go_wp2_with fail
 go_loopw [15] (fun s23 wr=> ∃(i:Nat) (l2:List Tk),s23=ae i∧i≤tk.length∧Hid (iH Tk.cells (fun W t=>Own W w.heap.size 5 1 t.a t.sec.length t.c (t.sec.map a_)) Tk.key 260 6 V w.heap.size tk a3 tk.length c3 i l2 wr)) (fun s _=>tk.length -(intOf s).toNat)
 case atStart=>exact⟨0,[],rfl,by omega,ax (iH.start o3)⟩
 case round=>
  (clear x0 x1 x2 x3 x4 x5 x6 x7 x8 x9 x10 x11 x12 dh xf xl);obtain⟨i,l2,rfl,hi,HD⟩:=hrel;by_cases hlt:i<tk.length
  ·have hd:=HD.out;obtain⟨g,rfl,gB,gl⟩:=hd.open_ rfl hlt;have hgR:g≠R:=fun e=>(hd.row.iw (g:=R) (t:=85) (kR.aB hd.gr (fun e2=>(o3.iw kR ay) e2)) ay) tN;have kr:=kR.aB hd.gr (fun e2=>(o3.iw kR ay) e2);have br:=zD.aB hd.gr zD.size PV;have yZ:=(QQ _ (bF hlt)).below br aA;have hs6:tk[i].sec.length≤1000:=s4 _ (List.mem_map.2 ⟨_,bF hlt,rfl⟩);have ix:(i:Int)<(tk.length:Int):=by omega
   have t1:=hd.cell Vb hlt 1 ay (v:= .slice tk[i].a tk[i].sec.length tk[i].c) rfl;(obtain⟨x0,x1,x2,x3,x4,x5,x6,x7,x8,x9,x10,x11,x12,dh,xf,xl⟩:=kr.n14);have rR:=fun d os o=>dC wr d os R o xl;have rg:=fun d os o=>dC wr d os g o gl
   go_upto_region 6 with fail
   exact afo
  ·obtain rfl:i=tk.length:=by omega
   obtain⟨hk,hl2,o3',hin⟩:=HD.out.fin rfl;have hgr:=HD.out.gr;have kr:=kR.aB hgr (fun e2=>(o3.iw kR ay) e2);have kz:=kZ.aB hgr (fun e2=>(o3.iw kZ ay) e2);have br:=zD.aB hgr zD.size (fun k hk=>o3.dW k hk);have p1:=o1.aB hgr (fun k hk=>o3.Bq o1 ay k hk);have p2:=o2.aB hgr (fun k hk=>o3.Bq o2 ay k hk);clear HD hgr;(obtain⟨x0,x1,x2,x3,x4,x5,x6,x7,x8,x9,x10,x11,x12,dh,xf,xl⟩:=kr.n14);have z5:=RF.below br aA
   go_wp2_with (go_at_call 158;(with_reducible refine(ahK va vh.length vc _ _ z5 (wH Va _) aj).mono ?_);rintro e w5 ⟨a5,c5,rfl,o5,hb5⟩;((clear x0 x1 x2 x3 x4 x5 x6 x7 x8 x9 x10 x11 x12 dh xf xl);(replace kr:=kr.below hb5 kr.lt);(obtain⟨x0,x1,x2,x3,x4,x5,x6,x7,x8,x9,x10,x11,x12,dh,xf,xl⟩:=kr.n14));(have WR:=kz.below hb5 kz.lt);(obtain⟨y0,y1,y2,y3,y4,y5,y6,y7,y8,y9,y10,y11,WS,y13,yf,yl⟩:=WR.n14))
   refine bodyPost_ret (v:=KR num a1 sec.length c1 rt cl a2 lim.length c2 rq se ra bu a3 tk.length c3 a5 vh.length c5 lv) (by simp[results,results177,go_sem,y0,y1,y2,y3,y4,y5,y6,y7,y8,y9,y10,y11,WS,y13]) rfl ?_;exact afp
theorem y_.tkG(h:y_ w r)(h8:r.tk.length≤20):RD w r.ta r.tk r.tc:=
 ⟨⟨h.tk.row,fun t ht=>(h.qG t ht).row⟩,h.tk.nil_,fun t ht=>⟨(h.qG t ht).nil0,by have:=h.sm.qG t.key (List.mem_map.2 ⟨t,ht,rfl⟩);simp only[Tk.key]at this;omega⟩,h8⟩
theorem aem{num:Int}{ra:Int}{tk:List Tk}{ta:az}{tc:Nat}{vh:List (Int × Int)}{va:az}{vc:Nat}{lv:Int}
  (h:y_ w ⟨num,sec,sa,sc,rt,cl,lim,la,lc,rq,se,ra,bu,tk,ta,tc,vh,va,vc,lv⟩):
  aH 177 #[KR num sa sec.length sc rt cl la lim.length lc rq se ra bu ta tk.length tc va vh.length vc lv] w fun e w'=> ∃(sa':az) (sc':Nat) (la':az) (nC:Nat) (wX:List Tk) (ta':az) (qU:Nat) (oK:az) (oO:Nat),
   e= .returned (KR num sa' sec.length sc' rt cl la' lim.length nC rq se ra bu ta' tk.length qU oK vh.length oO lv)∧Hid (wX.map Tk.key=tk.map Tk.key)∧Hid (wX.length=tk.length)∧iM w' w.heap.size ⟨num,sec,sa',sc',rt,cl,lim,la',nC,rq,se,ra,bu,wX,ta',qU,vh,oK,oO,lv⟩∧Below w.heap.size w w':=by
 refine(aog _ w h).mono ?_;rintro e w' ⟨⟨num',awT,sa',sc',Fg,cl',lim',la',nC,rq',se',RG,bu',wX,ta',qU,vh',oK,oO,lv'⟩,rfl,hk,hL,hb⟩;have hk:=hk.out;simp only[Rx.key,wP.mk.injEq]at hk;obtain⟨rfl,rfl,rfl,rfl,rfl,rfl,rfl,rfl,rfl,ht,rfl,rfl⟩:=hk;have hl:wX.length=tk.length:=by have:=congrArg List.length ht;simpa using this
 exact⟨sa',sc',la',nC,wX,ta',qU,oK,oO,by simp only[Rx.val,hl],ax ht,ax hl,hL,hb⟩
def Qq(K:wP)(now:Int):wP:=⟨K.num,K.sec,K.rt,K.cl,K.lim,K.rq,K.se,K.ra,K.bu,yY K.tk (zn K.tk now),K.vh,if K.lv+K.ra≤K.bu then K.lv+K.ra else K.bu⟩
theorem aoM(r:Rx)(now:Int)(w:ak)(h:y_ w r)(h8:r.tk.length=8)(hlv:0≤r.lv∧r.lv≤1000)(hra:0≤r.ra∧r.ra≤1000):aH 159 #[r.val,ae now] w (VY (Qq r.key now) w):=by
 have hG:=h.tkG aj;obtain⟨num,sec,sa,sc,rt,cl,lim,la,lc,rq,se,ra,bu,tk,ta,tc,vh,va,vc,lv⟩:=r;simp only at h8 hlv hra hG;obtain⟨GY,hlv2⟩: ∃x,(if lv+ra≤bu then lv+ra else bu)=x:=⟨_,rfl⟩;have Xp:=ax hlv2;clear hlv2;have H8:=ax h8;clear h8
 go_enter func159,ntmps159
 go_upto_region 1 with fail
 obtain⟨R,hR⟩:=aI w.heap.size;refine aW (fun W=>ah W R 85 #[ae num,.slice sa sec.length sc,ae rt,ae cl,.slice la lim.length lc,ae rq,ae se,ae ra,ae bu,.slice ta tk.length tc,.slice va vh.length vc,ae lv,ae ra,ae bu]∧ah W (R+1) 85 QT∧Below w.heap.size w W) ⟨by rw[←hR];exact(ah.new _ _ _).alloc _,by rw[←hR];exact ah.dG _ _ _ _,bel⟩ ?_;have fQ:w.heap.size≤R:=by omega
 rw[hR];clear hR;rintro W ⟨kR,kZ,be⟩;replace be:=be.mono fQ;have hW:=h.below be aA;have Xq:=(hG.below be);have sz:=kZ.lt
 go_upto_region 2 with(first|(refine gy kR FZ vF ?_)|(go_at_call 177;(with_reducible refine(aem hW).mono ?_);rintro e w1 ⟨sa1,fC,jY,D7,xe,gQ,fO,fE,fF,rfl,hk1,hl1,oR,hb1⟩)|(refine dw #[ae num,.slice sa1 sec.length fC,ae rt,ae cl,.slice jY lim.length D7,ae rq,ae se,ae ra,ae bu,.slice gQ tk.length fO,.slice fE vh.length fF,ae lv,ae ra,ae bu] (ah.new _ _ _) vF ?_;intro W2 kw gw zw))
 have D6:=hb1.size;obtain⟨N,hN⟩:=aI w1.heap.size;refine aW (fun U=>ah U N 85 #[ae num,.slice sa1 sec.length fC,ae rt,ae cl,.slice jY lim.length D7,ae rq,ae se,ae ra,ae bu,.slice gQ tk.length fO,.slice fE vh.length fF,ae lv,ae ra,ae bu]∧ah U R 85 #[ae num,.slice sa sec.length sc,ae rt,ae cl,.slice la lim.length lc,ae rq,ae se,ae ra,ae bu,.slice ta tk.length tc,.slice va vh.length vc,ae lv,ae ra,ae bu]∧ah U (R+1) 85 QT∧iM U W.heap.size ⟨num,sec,sa1,fC,rt,cl,lim,jY,D7,rq,se,ra,bu,xe,gQ,fO,vh,fE,fF,lv⟩∧Below W.heap.size W U) ⟨by rw[←hN];exact kw,((kR.below hb1 kR.lt).alloc _).aB gw PX,((kZ.below hb1 kZ.lt).alloc _).aB gw cu,(oR.below ((Below.refl _ _).alloc aA _) aA).aG gw (ah.new _ _ _) ay,(hb1.alloc D6 _).aB gw cu bQ⟩ ?_;rw[hN];have hWN:W.heap.size≤N:=by omega
 clear kR kZ oR hb1 kw gw zw D6 hN;rintro U ⟨kN,kR,kZ,oR,bU⟩;have hGU:=Xq.below bU;have uy:=bU.size;have Xr:R+1<N:=by omega
 (obtain⟨x0,x1,x2,x3,x4,x5,x6,x7,x8,x9,x10,x11,x12,dh,xf,xl⟩:=kR.n14);(obtain⟨n0,n1,n2,n3,n4,n5,n6,n7,n8,n9,n10,n11,n12,n13,nf,nl⟩:=kN.n14)
 go_upto_region 3 with((go_at_call 178;(with_reducible refine(apa ta tk tk.length tc now U hGU rfl H8.out).mono ?_);rintro e w2 ⟨xa,xc,l2,rfl,hk2,hn2,⟨o3,o4⟩,hb2⟩;((clear n0 n1 n2 n3 n4 n5 n6 n7 n8 n9 n10 n11 n12 n13 nf nl);(replace kN:=kN.below hb2 kN.lt);(obtain⟨n0,n1,n2,n3,n4,n5,n6,n7,n8,n9,n10,n11,n12,n13,nf,nl⟩:=kN.n14);(clear x0 x1 x2 x3 x4 x5 x6 x7 x8 x9 x10 x11 x12 dh xf xl);(replace kR:=kR.below hb2 kR.lt);(obtain⟨x0,x1,x2,x3,x4,x5,x6,x7,x8,x9,x10,x11,x12,dh,xf,xl⟩:=kR.n14))))
 have g2:=grownBy_set w2 N 9 (.slice xa tk.length xc);have iT:=hb2.size;replace kZ:=kZ.on hb2 (g':=N) aj 9 (.slice xa tk.length xc);replace o3:=o3.aG g2 kN ay;replace o4:=fun t ht=>(o4 t ht).aG g2 kN ay;replace oR:=(oR.below hb2 aA).aG g2 kN ay;have bU2:Below W.heap.size W (w2.setCell ⟨N,9,none⟩ (.slice xa tk.length xc)):=(bU.trans (hb2.mono uy)).aB g2 aj bQ;have j_:=kR.far (p:=⟨N,9,none⟩) Be (.slice xa tk.length xc)
 (replace kN:=kN.set 9 (.slice xa tk.length xc));(simp only[pz,lh,jX]at kN)
 (clear x0 x1 x2 x3 x4 x5 x6 x7 x8 x9 x10 x11 x12 dh xf xl);(clear n0 n1 n2 n3 n4 n5 n6 n7 n8 n9 n10 n11 n12 n13 nf nl);clear hb2 bU g2 kR;obtain⟨V,hV⟩: ∃V,w2.setCell ⟨N,9,none⟩ (.slice xa tk.length xc)=V:=⟨_,rfl⟩;rw[hV]at kN kZ o3 o4 oR bU2 j_⊢;clear hV iT;(obtain⟨x0,x1,x2,x3,x4,x5,x6,x7,x8,x9,x10,x11,x12,dh,xf,xl⟩:=j_.n14)
 go_upto_region 4 with((go_at_call 179;(with_reducible refine(arF lv ra bu V hlv hra).mono ?_);rintro e w3 ⟨rfl,hb3⟩;((clear x0 x1 x2 x3 x4 x5 x6 x7 x8 x9 x10 x11 x12 dh xf xl);replace kN:=kN.below hb3 kN.lt;(obtain⟨n0,n1,n2,n3,n4,n5,n6,n7,n8,n9,n10,n11,n12,n13,nf,nl⟩:=kN.n14))))
 (clear n0 n1 n2 n3 n4 n5 n6 n7 n8 n9 n10 n11 n12 n13 nf nl);rw[Xp.out];have g3:=gm N [ae GY,ae ra,ae bu] w3 11;have LD:=ah.sets (cs:= [_,_,_,_,_,_,_,_,_,_,_,_,_,_]) [ae GY,ae ra,ae bu] 11 kN;have nD:=(kZ.below hb3 kZ.lt).aB g3 cu;have uz:=bU2.size;have BV:=hb3.size;replace o3:=(o3.below hb3 aA).aG g3 kN ay;replace o4:=fun t ht=>((o4 t ht).below hb3 aA).aG g3 kN ay;replace oR:=(oR.below hb3 aA).aG g3 kN ay;have bU3:=(bU2.trans (hb3.mono uz)).aB g3 aj bQ
 go_wp2_with (first|(refine gy LD FZ vF ?_)|(refine dw #[ae num,.slice sa1 sec.length fC,ae rt,ae cl,.slice jY lim.length D7,ae rq,ae se,ae ra,ae bu,.slice xa tk.length xc,.slice fE vh.length fF,ae GY,ae ra,ae bu] nD vF ?_;intro W' kw gw zw))
 refine nJ 4 85 results159 rfl kw 14 rfl FZ vF rfl ?_;obtain⟨q1,q2, -, -,q5⟩:=oR;have bW:=be.size;refine⟨⟨num,sec,sa1,fC,rt,cl,lim,jY,D7,rq,se,ra,bu,l2,xa,xc,vh,fE,fF,GY⟩,by simp only[Rx.val,hn2.out],ax (by rw[←Xp.out];simp only[Rx.key,hk2.out];rfl),⟨?_,?_,?_,?_,?_⟩,(be.trans (bU3.mono bW)).aB gw (by have:=bU3.size;omega) bQ⟩
 ·exact(q1.aG gw nD ay).mono bW
 ·exact(q2.aG gw nD ay).mono bW
 ·exact(o3.aG gw nD ay).mono aj
 ·exact fun t ht=>((o4 t ht).aG gw nD ay).mono aj
 ·exact(q5.aG gw nD ay).mono bW
theorem anT{R:EN}{a:Act}{g:Nat}{cs:aZ}(i:Nat)(T:aK)(j k':Nat){v v':Value}(hres:fn.results= #[.cell i T,.tmp j,.tmp k'])(hp:a.tmps.getD i undef= .pointer (some ⟨g,0,none⟩))(hv:a.tmps.getD j undef=v)(hv':a.tmps.getD k' undef=v')(k:ah w g T cs)
  (N:Nat) (hn:cs.size=N) (hu:(P.underlying T).map TypeDesc.isRow=some true) (hi:(P.info? T).map (·.size)=some N) (hd:a.defers= []) (hR:R (.returned (.tuple #[.agg cs,v,v'])) w):bodyPost P fn R .ret a w:=by
 refine bodyPost_ret (v:= .tuple #[.agg cs,v,v']) ?_ hd hR;have hl:=tJ k T N hn hu hi;simp only[Array.getD_eq_getD_getElem?]at hp hv hv';simp[results,hres,hp,hv,hv',hl,asAddr,Sem.run_bind,Result.andThen]
@[reducible] def aa4(kind:Int)(ta:az)(tn tc:Nat)(aa:az)(an ac:Nat)(da:az)(dn dc:Nat):aZ:= #[ae kind,.slice ta tn tc,.slice aa an ac,.slice da dn dc]
theorem awk{M:Int × Int}{i er:Int}(h:Hid (M=(i,er))){ag:Int}{ba:az}{N bc:Nat}(hc:aH 220 #[.slice a n c,ae ag,.slice ba N bc,ae kind,ae now] w (ajL M w)):
  aH 220 #[.slice a n c,ae ag,.slice ba N bc,ae kind,ae now] w fun e w'=>e= .returned (.tuple #[ae i,ae er])∧Below w.heap.size w w':=hc.mono fun e w' ⟨i',er',he,hm,hb⟩=>by
 have:=h.out.symm.trans hm.out;injection this with h1 h2
 subst h1 h2;exact⟨he,hb⟩
def aa5(K:wP)(slot:Int)(w:ak)(e:Ending)(w':ak):Prop:= ∃r:Rx,e= .returned (.tuple #[r.val,ae slot,ae 0])∧Hid (r.key=K)∧iM w' w.heap.size r∧Below w.heap.size w w'
theorem arO:(prog.info? 4).map (fun i=>(i.zero,i.size,i.bytes))=some (some (.bool false),1,1):=by kernel_rfl
theorem aqW{R:Value→ak→Prop}{x:Operand}
  (n:Nat) (hx:ρ x=ae n) (hy:ρ y=ae n) (hn:n≤100000)
  (h:ah (w.alloc (.cells ((List.replicate n false).map uO).toArray 4)) w.heap.size 4 ((List.replicate n false).map uO).toArray→R (.slice (some ⟨w.heap.size,0,none⟩) n n) (w.alloc (.cells ((List.replicate n false).map uO).toArray 4))):
  CZ prog R ((execOp ρ {dst,op:= .makeSlice 87 x y,type:=ty,pos,after,guard}).run prog w):=by
 obtain⟨i0,hi,hz0,hz1,hz2⟩:=info_parts arO;have hrun:=run_make (P:=prog) w 87 4 i0 _ underlying87 hi hz0 .i64 .i64 n n aj aj JU aj;have e:madeCells (Value.bool false).cells (n*1)=((List.replicate n false).map uO).toArray:=by
  rw[Nat.mul_one,List.map_replicate];exact Yi _ _
 simp only[Int.toNat_natCast,hz1]at hrun;rw[e]at hrun;simp only[execOp,hx,hy,Sem.run_bind,Result.andThen_ok,hrun];exact h (ah.new _ _ _)
theorem ah.axb{l:List Bool}(k:ah W B' 4 (l.map uO).toArray)(hB:B≤B')(n:Nat)(hn:l.length=n)(h9:n≤1000000):Own W B 4 1 (some ⟨B',0,none⟩) n n (l.map uO):=by
 exact afy
structure aaL(r:Rx)(b:Nat):Prop where
 sec: ∀x,r.sa.map (·.block)=some x→x<b
 lim: ∀x,r.la.map (·.block)=some x→x<b
 tk: ∀x,r.ta.map (·.block)=some x→x<b
 qG: ∀t∈r.tk,∀x,t.a.map (·.block)=some x→x<b
 vh: ∀x,r.va.map (·.block)=some x→x<b
theorem iM.rlt(h:iM w B r):aaL r w.heap.size:=⟨h.sec.lt',h.lim.lt',h.tk.lt',fun t ht=>(h.qG t ht).lt',h.vh.lt'⟩
theorem Own.Gi(h:Own w B e sz a n c xs)(hl: ∀x,a.map (·.block)=some x→x<b1)(hb: ∀b,B≤b→b<b1→w'.heap[b]?=w.heap[b]?):Own w' B e sz a n c xs:=
 h.keep fun b e hB _=>hb b hB (hl b tN)
theorem iM.Gi(h:iM w B r)(hl:aaL r b1)(hb: ∀b,B≤b→b<b1→w'.heap[b]?=w.heap[b]?):iM w' B r:=
 ⟨h.sec.Gi hl.sec hb,h.lim.Gi hl.lim hb,h.tk.Gi hl.tk hb,fun t ht=>(h.qG t ht).Gi (hl.qG t ht) hb,h.vh.Gi hl.vh hb⟩
theorem Za{R:Value→ak→Prop}{T:aK}{x:Operand}(g:Nat)(cs vs:aZ)
  (hx:ρ x= .pointer (some ⟨g,0,none⟩)) (hy:ρ y= .agg vs) (k:ah w g T cs) (N:Nat) (hn:vs.size=N) (hn2:cs.size=N) (hi:(P.info? T).map (·.size)=some N) (h1:vs.toList.all (·.oneCell')=true)
  (h: ∀W',ah W' g T vs→w.grownBy W' (some g)→R undef W'):CZ P R ((execOp ρ {dst,op:= .store T x y,type:=ty,pos,after,guard}).run P w):=by
 subst hn;have hst:=run_storeVar_mid (P:=P) w g 0 T vs (k.there 0 _ aj) hi Zg;rw[Ud]at hst;unfold execOp;simp only[hx,hy,Instr.storeAt,Instr.sureAddr,Sem.run_bind,Sem.run_pure,Result.andThen_ok,hst];refine h _ ?_ (gm g _ _ _);have k2:=ah.sets (cs:=cs.toList) vs.toList 0 (by simpa using k);have:=Uw vs.toList cs.toList [] (by simp[hn2]);simp only[iK]at this;rw[this]at k2;exact k2
theorem arP{R:Value→ak→Prop}{T:aK}{x:Operand}(g:Nat)(cs:aZ)
  (hx:ρ x= .pointer (some ⟨g,0,none⟩)) (k:ah w g T cs) (N:Nat) (hn:cs.size=N) (hu:(P.underlying T).map TypeDesc.isRow=some true) (hi:(P.info? T).map (·.size)=some N)
  (h:R (.agg cs) w):CZ P R ((execOp ρ {dst,op:= .load T x,type:=ty,pos,after,guard}).run P w):=by
 unfold execOp;simp only[hx,Instr.loadAt,Instr.sureAddr,Sem.run_bind,Sem.run_pure,Result.andThen_ok,tJ k T N hn hu hi];exact h
theorem Ig{α:Type}{cells:α→aP}{o:Oper}{a:Act}(hgd:o.guard=none)(T:aK)(x:Operand)(ho:o.op= .load T x){b off:Nat}{l:List α}(h:Row w (some ⟨b,off,none⟩) (gC cells l))(hk: ∀x,(cells x).length=k)(i:Nat)(hi:i<l.length){y:α}(hy:l[i]=y)
  (hx:a.eval x= .pointer (some ⟨b,off+i*k,none⟩)) (hu:(P.underlying T).map TypeDesc.isRow=some true) (hs:(P.info? T).map (·.size)=some k) (hq:wpList P ops Q rest (a.put o.dst (.agg (cells y).toArray)) w):wpList P ops Q (o::rest) a w:=by
 subst hy;cases hd:P.underlying T with
 |none=>rw[hd]at hu;cases hu
 |some de=>
  rw[hd]at hu;refine wpList_load_mid hgd T x ho b _ hx (cells l[i]) de (fun j v hv=>?_) hd Il UN hq;have hj:j<k:=by
   have:=(List.getElem?_eq_some_iff.1 hv).1
   rwa [hk]at this
  exact h.fV hk i hi j hj hv
theorem aht{a:Act}(φ:ak→Prop)(h:φ w)(k: ∀W,φ W→wpList P ops Q rest a W):wpList P ops Q rest a w:=k w h
def qH:aZ:= #[ae 0,.slice none 0 0,ae 0,ae 0,.slice none 0 0,ae 0,ae 0,ae 0,ae 0,.slice none 0 0,.slice none 0 0,ae 0,ae 0,ae 0,.slice none 0 0,.slice none 0 0,.slice none 0 0]
theorem atd{num:Int}{ra:Int}(hs:Sl w 5 1 sa sn sc (sec.map a_))(hl:Sl w 3 1 la ln lc (lim.map encI))(s1:sn=sec.length)(s1':sn≤1000)(s2:ln=lim.length)(s2':ln≤1000)(hse:se=(n:Int))(hn:1≤n∧n≤2):
  aH 64 #[ae num,KH sa sn sc rt cl la ln lc rq se ra bu] w (VI ⟨⟨num,sec,rt,cl,lim,rq,se,ra,bu,iZ sec rt cl,[],bu⟩,[],[],List.replicate n false⟩ w):=by
 have H1:=ax s1;have H2:=ax s2;subst hse;clear s1 s2;obtain⟨K,hK⟩: ∃K:wP,(⟨num,sec,rt,cl,lim,rq,n,ra,bu,iZ sec rt cl,[],bu⟩:wP)=K:=⟨_,rfl⟩;have Xr:=fun(w:ak) (hs:Sl w 5 1 sa sn sc (sec.map a_)) (hl:Sl w 3 1 la ln lc (lim.map encI))=>ao9 (num:=num) (rt:=rt) (cl:=cl) (rq:=rq) (se:=n) (ra:=ra) (bu:=bu) hs hl H1.out s1' H2.out s2';rw[hK]at Xr⊢;have FC:=ax Xr;clear Xr hK
 go_enter func64,ntmps64
 go_upto_region 1 with fail
 obtain⟨Q,hR⟩:=aI w.heap.size;refine aW (fun W=>ah W Q 32 #[.slice sa sn sc,ae rt,ae cl,.slice la ln lc,ae rq,ae n,ae ra,ae bu]∧ah W (Q+1) 89 qH∧Below w.heap.size w W) ⟨by rw[←hR];exact(ah.new _ _ _).alloc _,by rw[←hR];exact ah.dG _ _ _ _,bel⟩ ?_;have fQ:w.heap.size≤Q:=by omega
 rw[hR];clear hR;rintro W ⟨kR,kZ,be⟩;replace be:=be.mono fQ;(obtain⟨x0,x1,x2,x3,x4,x5,x6,x7,xf,xl⟩:=kR.n8)
 go_upto_region 2 with fail
 (clear x0 x1 x2 x3 x4 x5 x6 x7 xf xl);have Sr:=ax (show∀w',fH W [(Q+1,Q+2)] w'→Sl w' 5 1 sa sn sc (sec.map a_)∧Sl w' 3 1 la ln lc (lim.map encI) from fun w' hb=>by
  have hkp: ∀b,b<w.heap.size→w'.heap[b]?=w.heap[b]?:=fun b hl=>(hb.2.2.2.2 b ⟨by have:=be.size;omega,fun r hr=>by simp at hr;subst hr;simp only;omega⟩).trans (be.block b hl);exact⟨hs.keep fun b _ _ hl=>hkp b hl,hl.keep fun b _ _ hl=>hkp b hl⟩)
 apply uG [((Q+1),(Q+2))] 7 16 [some 10,some 11,some 12,some 13,some 14,some 15,none] [⟨[7],[],[],[]⟩,⟨[7],[],[],[]⟩,⟨[0,1,7],[0,1],[0,1],[]⟩,⟨[7],[],[],[]⟩,⟨[3,7],[3],[3],[]⟩,⟨[0,1,2,3,4,7],[2,4],[2,4],[]⟩,⟨[0,1,2,3,4,5,7],[2,4,5,7],[2,4,5,7],[7]⟩,⟨[],[],[],[]⟩] [0,1,2,3,4,5,6] [2,4,6] [bC,bC,(fun f lo hi v b0 b1 W=> ∃r:Rx,v=r.val∧Hid (r.key=K)∧iM W b0 r∧aaL r b1),bC,(fun f lo hi v b0 b1 W=> ∃b,v= .slice (some ⟨b,0,none⟩) n n∧b0=b∧b1=b+1∧ah W b 4 ((List.replicate n false).map uO).toArray),(fun f lo hi v b0 b1 W=> ∃(cs:aP),f 2= .agg cs.toArray∧v= .agg (cs++ [.slice none 0 0,.slice none 0 0,f 4]).toArray),(fun f lo hi v b0 b1 W=> ∃(cs:aP),f 2= .agg cs.toArray∧ah W (Q+1) 89 (cs++ [.slice none 0 0,.slice none 0 0,f 4]).toArray),(fun f lo hi v b0 b1 W=>(b0=(Q+1)∧b1=(Q+2))∧ah W (Q+1) 89 qH)] [bG _,bG _,dM,bG _,dM,dM,dM]
 ·kernel_rfl
 ·kernel_rfl
 ·rfl
 ·rfl
 rotate_left 2
 refine⟨?pX,?pY,?p_,?qh,?qi,?qj,?qm,trivial⟩
 all_goals try(intro f lo hi w hb hx hf hk hrg R hR;(try replace hb:=fH.zero hb);(try simp(decide:=true) only[go_sem]at hf hk))
 case hx=>exact⟨⟨by omega,by have:=kZ.lt;omega⟩,by simp,trivial⟩
 case hX=>exact⟨fun _ _ _ _=>⟨⟨rfl,rfl⟩,kZ⟩,trivial⟩
 case pX=>go_simp;exact hR _ _ (bK rfl rfl bD rfl)
 case pY=>
  have kk:=hb.blk kR Bd;(obtain⟨x0,x1,x2,x3,x4,x5,x6,x7,xf,xl⟩:=kk.n8);go_simp;exact hR _ _ (bK rfl rfl bD rfl)
 case p_=>
  have hsl:=Sr.out _ hb;go_simp
  (with_reducible refine(FC.out _ hsl.1 hsl.2).mono ?_)
  rintro e w' ⟨r,rfl,hk1,hL,hb'⟩;refine⟨_,rfl,hR _ _ (iU rfl hb' ?_)⟩
  (try simp(decide:=true) only[go_sem])
  exact⟨r,rfl,hk1,hL,hL.rlt⟩
 case qh=>go_simp;exact hR _ _ (bK rfl rfl bD rfl)
 case qi=>
  refine aqW n ?_ ?_ aj fun kk=>?_
  ·go_simp
  ·go_simp
  refine hR _ _ (iU rfl bel ?_)
  (try simp(decide:=true) only[go_sem])
  exact⟨_,rfl,rfl,by simp,kk⟩
 case qj=>
  obtain⟨⟨r,h12, -⟩,b,FD, -⟩:=hf;go_simp;refine hR _ _ (iU rfl bD ?_)
  (try simp(decide:=true) only[go_sem])
  exact⟨[ae r.num,.slice r.sa r.sec.length r.sc,ae r.rt,ae r.cl,.slice r.la r.lim.length r.lc,ae r.rq,ae r.se,ae r.ra,ae r.bu,.slice r.ta r.tk.length r.tc,.slice r.va r.vh.length r.vc,ae r.lv,ae r.ra,ae r.bu],h12,by rw[FD];rfl⟩
 case qm=>
  obtain⟨⟨r,h12, -⟩,⟨b,FD, -⟩,⟨cs,aa6,h15⟩, -,kz⟩:=hf;obtain rfl:cs= [ae r.num,.slice r.sa r.sec.length r.sc,ae r.rt,ae r.cl,.slice r.la r.lim.length r.lc,ae r.rq,ae r.se,ae r.ra,ae r.bu,.slice r.ta r.tk.length r.tc,.slice r.va r.vh.length r.vc,ae r.lv,ae r.ra,ae r.bu]:=by have:=aa6.symm.trans h12;injection this with this;simpa using this
  rw[FD]at h15;refine Za (Q+1) _ #[ae r.num,.slice r.sa r.sec.length r.sc,ae r.rt,ae r.cl,.slice r.la r.lim.length r.lc,ae r.rq,ae r.se,ae r.ra,ae r.bu,.slice r.ta r.tk.length r.tc,.slice r.va r.vh.length r.vc,ae r.lv,ae r.ra,ae r.bu,.slice none 0 0,.slice none 0 0,.slice (some ⟨b,0,none⟩) n n] ?_ ?_ kz 17 rfl rfl gZ rfl fun W' kw gw=>?_
  ·go_simp
  ·go_simp
  refine hR _ _ (vH rfl rfl (A_ gw (dU.2 rfl) (fU.get _ _ hx 0 _ rfl).1 (fU.get _ _ hx 0 _ rfl).2) ?_)
  (try simp(decide:=true) only[go_sem])
  exact⟨_,h12,by rw[FD];exact kw⟩
 case hcl=>
  refine⟨bH,bH,?ai6,bH,?awl,?ai8,?VJ,?NK,trivial⟩
  all_goals first
   |exact fun f lo hi v b0 b1 w w' h hs hB hown hU hX=>by
     obtain⟨r,h1,h2,h3,h4⟩:=h;exact⟨r,h1,h2,h3.Gi h4 hown,h4⟩
   |exact fun f lo hi v b0 b1 w w' h hs hB hown hU hX=>by
     exact YN
   |exact fun f lo hi v b0 b1 w w' h hs hB hown hU hX=>⟨h.1,(hown (Q+1) yQ yQ).trans h.2⟩
   |exact fun f lo hi v b0 b1 w w' h hs hB hown hU hX=>by
     obtain⟨cs,h1,k⟩:=h;exact⟨cs,h1,(hX 0 _ rfl aF (Q+1) aA (rD _)).trans k⟩
   |exact fun _ _ _ _ _ _ _ _ h _ _ _ _ _=>h
 intro f lo hi W7 hbr hx hf hk hrg;(try replace hbr:=fH.zero hbr);clear hx;(try simp(decide:=true) only[go_sem]at hf hk);obtain⟨⟨r,h12,hkr,oR,ltR⟩,⟨b,FD,q1,q2,kB⟩,cs,aa6,kD⟩:=hf;obtain rfl:cs= [ae r.num,.slice r.sa r.sec.length r.sc,ae r.rt,ae r.cl,.slice r.la r.lim.length r.lc,ae r.rq,ae r.se,ae r.ra,ae r.bu,.slice r.ta r.tk.length r.tc,.slice r.va r.vh.length r.vc,ae r.lv,ae r.ra,ae r.bu]:=by have:=aa6.symm.trans h12;injection this with this;simpa using this
 rw[FD]at kD;have r2:=hrg.out 2 aF;have r4:=hrg.out 4 aF;have hb1:=hbr.one;have bW:=be.size;go_simp;clear hk hrg
 go_wp2_with fail
 refine nJ 4 89 results64 rfl kD 17 rfl oh gZ rfl ?_;refine⟨⟨r,[],none,0,[],none,0,List.replicate n false,some ⟨b,0,none⟩,n⟩,by simp only[Dx.val,uK,List.length_nil];rfl,ax (by simp only[Dx.key,hkr.out,oH]),⟨oR.mono aj,Own.nil _ _ _ _,by simp,Own.nil _ _ _ _,by simp,?_⟩,be.aB hb1 bW bQ⟩;have:=ah.axb (B:=w.heap.size) kB aj n aF aj;simpa only[uK]using this
def aa7(K:Ck)(wt:Int)(dB:Bool)(n:Nat)(en:aO)(w:ak)(e:Ending)(w':ak):Prop:=
 ∃(la:az) (lc:Nat) (na:az) (nc:Nat) (ea:az) (ec:Nat),e= .returned (.tuple #[BD la n lc K.g na 2 nc wt dB,BG (-1) 0 ea en.length ec])∧Own w' w.heap.size 194 2 la n lc (gC gG K.ls)∧Own w' w.heap.size 3 1 na 2 nc (K.nx.map encI)∧fZ w' w.heap.size ⟨-1,0,en,ea,ec⟩∧Below w.heap.size w w'
@[reducible] def gJ(ja:az)(jn jc:Nat)(ga:az)(gn gc:Nat)(per cap hold lock:Int):aZ:= #[.slice ja jn jc,.slice ga gn gc,ae per,ae cap,ae hold,ae lock]
def ajM(W:ak)(T:Nat)(w:ak)(ja:az)(jn jc:Nat)(ga:az)(gn gc:Nat)(per cap hold lock:Int)(jb aY aQ n D8:Nat)(s:Int)(sg sv:aZ):Prop:=
 ah W T 28 (gJ ja jn jc ga gn gc per cap hold lock)∧ah W (T+1) 69 #[.slice (some ⟨jb,0,none⟩) n D8,.slice (some ⟨aQ,0,none⟩) n aY,ae s]∧ah W (T+2) 120 sg∧ah W (T+3) 123 sv∧
 ah W (T+4) 120 #[.slice none 0 0,ae 0,.slice none 0 0,ae 0,.bool false]∧ah W (T+5) 123 #[ae 0,ae 0,.slice none 0 0]∧Below w.heap.size w W
theorem Bh(w:ak)(a b c d e f:aZ)(ta tb tc td te tf:aK):
  let W:=(((((w.alloc (.cells a ta)).alloc (.cells b tb)).alloc (.cells c tc)).alloc (.cells d td)).alloc (.cells e te)).alloc (.cells f tf)
  ah W w.heap.size ta a∧ah W (w.heap.size+1) tb b∧ah W (w.heap.size+2) tc c∧ah W (w.heap.size+3) td d∧ah W (w.heap.size+4) te e∧ah W (w.heap.size+5) tf f∧Below w.heap.size w W:=by
 refine⟨(((((ah.new _ _ _).alloc _).alloc _).alloc _).alloc _).alloc _,mr (((((ah.new _ _ _).alloc _).alloc _).alloc _).alloc _) aF,mr ((((ah.new _ _ _).alloc _).alloc _).alloc _) aF,mr (((ah.new _ _ _).alloc _).alloc _) aF,mr ((ah.new _ _ _).alloc _) aF,mr (ah.new _ _ _) aF,bel⟩
theorem apY(ja:az)(jn jc:Nat)(ga:az)(gn gc:Nat)(per cap hold lock:Int)(jb D8 aQ aY n:Nat)(s:Int)(c:Ck)(wt st now:Int)(la:az)(lc:Nat)(na:az)(nc:Nat)(en:aO)(ea:az)(ec:Nat)(ca:az)(cc:Nat)(w:ak)
  (hls:c.ls.length=n) (hnx:c.nx.length=2) (h8:n≤8) (hl:Sl w 194 2 la n lc (gC gG c.ls)) (hn:Sl w 3 1 na 2 nc (c.nx.map encI)) (hv:vP w ⟨-1,0,en,ea,ec⟩):
  aH 140 #[Dz ja jn jc ga gn gc per cap hold lock,qO jb n D8 aQ n aY s,BD la n lc c.g na 2 nc wt true,BG (-1) 0 ea en.length ec,.slice ca 0 cc,ae st,ae now] w (aa7 c wt true n en w):=by
 obtain⟨ls,g,nx⟩:=c;simp only at hls hnx hl hn;subst hls;have HX:=ax hnx;clear hnx
 go_enter func140,ntmps140
 go_upto_region 1 with fail
 obtain⟨T,hT⟩:=aI w.heap.size;refine aW (fun W=>ajM W T w ja jn jc ga gn gc per cap hold lock jb aY aQ ls.length D8 s #[.slice la ls.length lc,ae g,.slice na 2 nc,ae wt,.bool true] #[ae (-1),ae 0,.slice ea en.length ec]) ⟨by rw[←hT];exact(Bh w _ _ _ _ _ _ _ _ _ _ _ _).1,by rw[←hT];exact(Bh w _ _ _ _ _ _ _ _ _ _ _ _).2.1,by rw[←hT];exact(Bh w _ _ _ _ _ _ _ _ _ _ _ _).2.2.1,by rw[←hT];exact(Bh w _ _ _ _ _ _ _ _ _ _ _ _).2.2.2.1,by rw[←hT];exact(Bh w _ _ _ _ _ _ _ _ _ _ _ _).2.2.2.2.1,by rw[←hT];exact(Bh w _ _ _ _ _ _ _ _ _ _ _ _).2.2.2.2.2.1,bel⟩ ?_;have sW:w.heap.size≤T:=by omega
 simp only[hT,Nat.add_assoc,Nat.reduceAdd];clear hT;rintro W ⟨kF,kJ,kS,kV,kR,kQ,be⟩;have hW:=kQ.lt;have Fq:=hl.below be aA;have Fv:=hn.below be aA;have Xt:=hv.below be aA;clear hl hn hv;(obtain⟨x0,x1,x2,x3,x4,xf,xl⟩:=kS.n5)
 go_upto_region 2 with fail
 (obtain⟨v0,v1,v2,vf,vl⟩:=kV.n3);have rS:=fun d os o=>dC W d os (T+2) o xl;have rV:=fun d os o=>dC W d os (T+3) o vl;have hWd:=show Below W.heap.size W W.drew from bel
 have hSg:BF W.drew ⟨ls,la,lc,g,nx,na,nc,wt,true⟩:=⟨Fq.below hWd aA,(by rw[HX.out];exact Fv.below hWd aA),⟨by show ls.length≤1000;omega,by show nx.length≤1000;rw[HX.out];omega⟩⟩;have hCS:=ax (aez hSg);rw[HX.out]at hCS;(refine nI 4 [([0,2,3],1)] [] bP bP ?_;refine lu ?_);(refine pF ?_;intro K hK)
 go_wp2_with (go_at_call 98;(with_reducible refine(hCS.out).mono ?_);rintro e w2 ⟨nV,nX,nY,nZ,rfl,⟨oL,oN⟩,hb2⟩)
 replace hb2:=jA hb2;refine dS hb2 (hK _ _ ?_);clear hK K hCS hSg;simp only[HX.out]at oN;(refine lC ?_);have j_:=kR.below hb2 kR.lt;have kQ2:=kQ.below hb2 kQ.lt;have hv2:=Xt.below hb2 aA;have hs2:=hb2.size;(clear x0 x1 x2 x3 x4 xf xl);(clear v0 v1 v2 vf vl);clear rS rV
 go_wp2_with (go_at_call 163;(with_reducible refine(aeK hv2).mono ?_);rintro e w3 ⟨G9,G_,rfl,oV,hb3⟩;(have jk:=j_.below hb3 j_.lt;have Js:=kQ2.below hb3 kQ2.lt;(obtain⟨r0,r1,r2,r3,r4,rf,rl⟩:=jk.n5);(obtain⟨q0,q1,q2,qf,ql⟩:=Js.n3)))
 (clear r0 r1 r2 r3 r4 rf rl);(clear q0 q1 q2 qf ql);have g2:=gm (T+4) [.slice nV ls.length nX,ae g,.slice nY 2 nZ,ae wt,.bool true] w3 0;have Xu:=ah.sets (cs:= [_,_,_,_,_]) [.slice nV ls.length nX,ae g,.slice nY 2 nZ,ae wt,.bool true] 0 jk;have FH:=Js.aB g2 aF;have g3:=gm (T+5) [ae (-1),ae 0,.slice G9 en.length G_] (jy w3 (T+4) 0 [.slice nV ls.length nX,ae g,.slice nY 2 nZ,ae wt,.bool true]) 0;have kQ5:=ah.sets (cs:= [_,_,_]) [ae (-1),ae 0,.slice G9 en.length G_] 0 FH;have Su:=Xu.aB g3 aF;have oL5:=((oL.below hb3 aA).aG g2 jk ay).aG g3 FH ay;have Si:=((oN.below hb3 aA).aG g2 jk ay).aG g3 FH ay;have oV5:=((oV.aG g2 jk ay).aG g3 FH ay).mono hs2;have jS:=(((be.trans (hb2.mono be.size)).trans (hb3.mono Bf)).aB g2 (by have:=be.size;have:=hb3.size;omega) bQ).aB g3 (by have:=be.size;have:=hb3.size;have:=g2.size;omega) bQ;refine aet 14 120 15 123 results140 rfl rfl Su kQ5 5 rfl CP xJ 3 rfl yP ry rfl ?_;exact⟨nV,nX,nY,nZ,G9,G_,rfl,oL5.mono be.size,Si.mono be.size,oV5.mono be.size,jS⟩
theorem afG{P:Prop}(h:P:=by
 have kQ5:=ah.sets (cs:= [_,_,_]) [ae (-1),ae 0,.slice G9 en.length G_] 0 FH;have Su:=Xu.aB g3 aF;have oL5:=((oL.below hb3 aA).aG g2 jk ay).aG g3 FH ay;have Si:=((oN.below hb3 aA).aG g2 jk ay).aG g3 FH ay;have oV5:=((oV3.aG g2 jk ay).aG g3 FH ay).mono hws;have jS:=((be.trans (hb3.mono hws)).aB g2 (by have:=hb3.size;omega) bQ).aB g3 (by have:=hb3.size;have:=g2.size;omega) bQ;refine aet 14 120 15 123 results140 rfl rfl Su kQ5 5 rfl CP xJ 3 rfl yP ry rfl ?_;exact⟨nV,nX,nY,nZ,G9,G_,rfl,oL5,Si,oV5,jS⟩):P:=h
theorem apZ(B:Nat)(ja:az)(jn jc:Nat)(ga:az)(gn gc:Nat)(per cap hold lock:Int)(jb D8 aQ aY:Nat)(ps:List Ph)(cs:aO)(s:Int)(c:Ck)(wt st now:Int)(la:az)(lc:Nat)(na:az)(nc:Nat)(en:aO)(ea:az)(ec:Nat)(ca:az)(cc:Nat)(w:ak)
  (hj:wQ w B jb D8 aQ aY ps cs s) (hf:uJ ps cs) (ok:mW ps cs s c wt) (hl:Sl w 194 2 la ps.length lc (gC gG c.ls)) (hn:Sl w 3 1 na 2 nc (c.nx.map encI)) (hv:vP w ⟨-1,0,en,ea,ec⟩):
  aH 140 #[Dz ja jn jc ga gn gc per cap hold lock,qO jb ps.length D8 aQ ps.length aY s,BD la ps.length lc c.g na 2 nc wt false,BG (-1) 0 ea en.length ec,.slice ca 0 cc,ae st,ae now] w (aa7 (stepM ps cs c wt) (stepW wt) (Ad cs (uN (stepM ps cs c wt).ls st)) ps.length en w):=by
 have hJS:=fun(la:az) (lc:Nat) (na:az) (nc:Nat) (w:ak) (hj:wQ w B jb D8 aQ aY ps cs s) (hl:Sl w 194 2 la ps.length lc (gC gG c.ls)) (hn:Sl w 3 1 na 2 nc (c.nx.map encI))=>aof B jb D8 aQ aY ps cs s c wt st la lc na nc w hj hf hl hn ok;obtain⟨KK,hK⟩:=aI (stepM ps cs c wt);obtain⟨kw,hkw⟩: ∃k,stepW wt=k:=⟨_,rfl⟩;obtain⟨fb,hfb⟩: ∃f,Ad cs (uN KK.ls st)=f:=⟨_,rfl⟩;have hvs:=hv.sm;simp only at hvs;have su:Hid (KK.ls.length=ps.length):=ax (by rw[←hK];exact ahs hf ok);rw[hK,hkw,hfb]at hJS⊢;have HJS:=ax hJS;have h8:=hj.j.n1.2;clear hJS hK hkw hfb ok hf;obtain⟨n,uo⟩:=aI ps.length;rw[uo]at HJS h8 hl su⊢;clear uo
 go_enter func140,ntmps140
 go_upto_region 1 with fail
 obtain⟨T,hT⟩:=aI w.heap.size;refine aW (fun W=>ajM W T w ja jn jc ga gn gc per cap hold lock jb aY aQ n D8 s #[.slice la n lc,ae c.g,.slice na 2 nc,ae wt,.bool false] #[ae (-1),ae 0,.slice ea en.length ec]) ⟨by rw[←hT];exact(Bh w _ _ _ _ _ _ _ _ _ _ _ _).1,by rw[←hT];exact(Bh w _ _ _ _ _ _ _ _ _ _ _ _).2.1,by rw[←hT];exact(Bh w _ _ _ _ _ _ _ _ _ _ _ _).2.2.1,by rw[←hT];exact(Bh w _ _ _ _ _ _ _ _ _ _ _ _).2.2.2.1,by rw[←hT];exact(Bh w _ _ _ _ _ _ _ _ _ _ _ _).2.2.2.2.1,by rw[←hT];exact(Bh w _ _ _ _ _ _ _ _ _ _ _ _).2.2.2.2.2.1,bel⟩ ?_;have sW:w.heap.size≤T:=by omega
 have hBw:B≤w.heap.size:=hj.j.lw;simp only[hT,Nat.add_assoc,Nat.reduceAdd];clear hT;rintro W ⟨kF,kJ,kS,kV,kR,kQ,be⟩;have hW:=kQ.lt;(obtain⟨x0,x1,x2,x3,x4,xf,xl⟩:=kS.n5)
 go_upto_region 3 with fail
 (clear x0 x1 x2 x3 x4 xf xl);(obtain⟨f0,f1,f2,f3,f4,f5,ff,fl⟩:=kF.n6);(obtain⟨v0,v1,v2,vf,vl⟩:=kV.n3);have Xt:=hv.below be aA
 go_upto_region 4 with((go_at_call 164;(with_reducible refine(anP (ja:=ja) (jn:=jn) (jc:=jc) (ga:=ga) (gn:=gn) (gc:=gc) (per:=per) (cap:=cap) (hold:=hold) (lock:=lock) (now:=now) (la:=ca) (lc:=cc) Xt).mono ?_);rintro e w2 ⟨u_,ve,rfl,oV,hb2⟩;((clear v0 v1 v2 vf vl);have zB:=kV.below hb2 kV.lt;(obtain⟨v0,v1,v2,vf,vl⟩:=zB.n3))))
 (clear v0 v1 v2 vf vl);(clear f0 f1 f2 f3 f4 f5 ff fl);have g2:=gm (T+3) [ae (-1),ae 0,.slice u_ en.length ve] w2 0;have iT:=hb2.size;refine aW (fun U=>ah U (T+1) 69 #[.slice (some ⟨jb,0,none⟩) n D8,.slice (some ⟨aQ,0,none⟩) n aY,ae s]∧ah U (T+2) 120 #[.slice la n lc,ae c.g,.slice na 2 nc,ae wt,.bool false]∧ah U (T+3) 123 #[ae (-1),ae 0,.slice u_ en.length ve]∧ah U (T+4) 120 #[.slice none 0 0,ae 0,.slice none 0 0,ae 0,.bool false]∧ah U (T+5) 123 #[ae 0,ae 0,.slice none 0 0]∧fZ U w.heap.size ⟨-1,0,en,u_,ve⟩∧Below w.heap.size w U) ⟨(kJ.below hb2 kJ.lt).aB g2 aF,(kS.below hb2 kS.lt).aB g2 aF,ah.sets (cs:= [_,_,_]) [ae (-1),ae 0,.slice u_ en.length ve] 0 zB,(kR.below hb2 kR.lt).aB g2 aF,(kQ.below hb2 kQ.lt).aB g2 aF,(oV.aG g2 zB ay).mono be.size,(be.trans (hb2.mono be.size)).aB g2 Bf bQ⟩ ?_;clear kF kJ kS kV kR kQ be hW Xt oV hb2 zB g2 iT;rintro W ⟨kJ,kS,kV,kR,kQ,oV,be⟩;have uq:=hj.below (be.mono hBw);have Fq:=hl.below be aA;have Fv:=hn.below be aA;have hQ:=kQ.lt;(obtain⟨j0,j1,j2,jf,jl⟩:=kJ.n3);(obtain⟨x0,x1,x2,x3,x4,xf,xl⟩:=kS.n5);(obtain⟨v0,v1,v2,vf,vl⟩:=kV.n3)
 go_upto_region 5 with((go_at_call 165;(with_reducible refine(HJS.out la lc na nc W uq Fq Fv).mono ?_);rintro e w2 ⟨nV,nX,nY,nZ,rfl,oL,oN,hb2⟩;((clear x0 x1 x2 x3 x4 xf xl);have uw:=kS.below hb2 kS.lt;(obtain⟨x0,x1,x2,x3,x4,xf,xl⟩:=uw.n5))))
 (clear x0 x1 x2 x3 x4 xf xl);(clear v0 v1 v2 vf vl);(clear j0 j1 j2 jf jl);have g2:=gm (T+2) [.slice nV n nX,ae KK.g,.slice nY 2 nZ,ae kw,.bool fb] w2 0;have iT:=hb2.size;have hws:=be.size;refine aW (fun U=>ah U (T+2) 120 #[.slice nV n nX,ae KK.g,.slice nY 2 nZ,ae kw,.bool fb]∧ah U (T+3) 123 #[ae (-1),ae 0,.slice u_ en.length ve]∧ah U (T+4) 120 #[.slice none 0 0,ae 0,.slice none 0 0,ae 0,.bool false]∧ah U (T+5) 123 #[ae 0,ae 0,.slice none 0 0]∧fZ U w.heap.size ⟨-1,0,en,u_,ve⟩∧Own U w.heap.size 194 2 nV n nX (gC gG KK.ls)∧Own U w.heap.size 3 1 nY 2 nZ (KK.nx.map encI)∧Below w.heap.size w U) ⟨ah.sets (cs:= [_,_,_,_,_]) [.slice nV n nX,ae KK.g,.slice nY 2 nZ,ae kw,.bool fb] 0 uw,(kV.below hb2 kV.lt).aB g2 aF,(kR.below hb2 kR.lt).aB g2 aF,(kQ.below hb2 kQ.lt).aB g2 aF,(oV.below hb2 aA).aG g2 uw ay,(oL.aG g2 uw ay).mono hws,(oN.aG g2 uw ay).mono hws,(be.trans (hb2.mono hws)).aB g2 aj bQ⟩ ?_;clear kJ kS kV kR kQ be hQ oV hb2 uw g2 iT hws uq Fq Fv oL oN hj hl hn hv;rintro W ⟨kS,kV,kR,kQ,oV,oL,oN,be⟩;have hQ:=kQ.lt;have hws:=be.size;have hS8:en.length≤1000:=hvs;(obtain⟨x0,x1,x2,x3,x4,xf,xl⟩:=kS.n5);(obtain⟨v0,v1,v2,vf,vl⟩:=kV.n3);have rS:=fun d os o=>dC W d os (T+2) o xl;have rV:=fun d os o=>dC W d os (T+3) o vl;have hWd:=show Below W.heap.size W W.drew from bel
 have hSv:vP W.drew ⟨-1,0,en,u_,ve⟩:=(oV.g hS8).below hWd aA;cases fb with
 |true=>
  go_upto_region 6 with fail
  (refine nI 4 [([0,1,2],3)] [] bP bP ?_;refine lu ?_);(refine pF ?_;intro K hK)
  go_wp2_with (go_at_call 163;(with_reducible refine(aeK (now:=now) hSv).mono ?_);rintro e w3 ⟨G9,G_,rfl,oV3,hb3⟩)
  replace hb3:=jA hb3;refine dS hb3 (hK _ _ ?_);clear hK K;(refine lC ?_);(clear x0 x1 x2 x3 x4 xf xl);(clear v0 v1 v2 vf vl);clear rS rV;have jk:=kR.below hb3 kR.lt;have Js:=kQ.below hb3 kQ.lt;(obtain⟨r0,r1,r2,r3,r4,rf,rl⟩:=jk.n5);(obtain⟨q0,q1,q2,qf,ql⟩:=Js.n3)
  go_wp2_with fail
  (clear r0 r1 r2 r3 r4 rf rl);(clear q0 q1 q2 qf ql);have g2:=gm (T+4) [.slice nV n nX,ae KK.g,.slice nY 2 nZ,ae kw,.bool true] w3 0;have Xu:=ah.sets (cs:= [_,_,_,_,_]) [.slice nV n nX,ae KK.g,.slice nY 2 nZ,ae kw,.bool true] 0 jk;have FH:=Js.aB g2 aF;have g3:=gm (T+5) [ae (-1),ae 0,.slice G9 en.length G_] (jy w3 (T+4) 0 [.slice nV n nX,ae KK.g,.slice nY 2 nZ,ae kw,.bool true]) 0;exact afG
 |false=>
  go_upto_region 9 with fail
  (refine nI 4 [([0,1,2],3)] [] bP bP ?_;refine lu ?_);(refine pF ?_;intro K hK)
  go_wp2_with (go_at_call 166;(with_reducible refine(aod hSv).mono ?_);rintro e w3 ⟨G9,G_,rfl,oV3,hb3⟩)
  replace hb3:=jA hb3;refine dS hb3 (hK _ _ ?_);clear hK K;(refine lC ?_);(clear x0 x1 x2 x3 x4 xf xl);(clear v0 v1 v2 vf vl);clear rS rV;have jk:=kR.below hb3 kR.lt;have Js:=kQ.below hb3 kQ.lt;(obtain⟨r0,r1,r2,r3,r4,rf,rl⟩:=jk.n5);(obtain⟨q0,q1,q2,qf,ql⟩:=Js.n3)
  go_wp2_with fail
  (clear r0 r1 r2 r3 r4 rf rl);(clear q0 q1 q2 qf ql);have g2:=gm (T+4) [.slice nV n nX,ae KK.g,.slice nY 2 nZ,ae kw,.bool false] w3 0;have Xu:=ah.sets (cs:= [_,_,_,_,_]) [.slice nV n nX,ae KK.g,.slice nY 2 nZ,ae kw,.bool false] 0 jk;have FH:=Js.aB g2 aF;have g3:=gm (T+5) [ae (-1),ae 0,.slice G9 en.length G_] (jy w3 (T+4) 0 [.slice nV n nX,ae KK.g,.slice nY 2 nZ,ae kw,.bool false]) 0;exact afG
def abC(m:aU)(w:ak)(e:Ending)(w':ak):Prop:=
 ∃a n c,e= .returned (.slice a n c)∧n=m.pay.length∧Own w' w.heap.size 5 1 a n c (m.pay.map a_)∧Below w.heap.size w w'
theorem agt(n:Int)(h0:0≤n)(h1:n≤4294967295){L:Nat}(hL:Hid (L=(dI n.toNat).length))(w:ak):aH 118 #[ae n] w fun e w'=> ∃a cap,e= .returned (.tuple #[.slice a L cap,ae 0])∧Own w' w.heap.size 5 1 a L cap ((dI n.toNat).map a_)∧Below w.heap.size w w':=
 (ao3 n w).mono fun e w' h=>by
  rcases h with⟨_,_,a,L',cap,he,hl,own,hb⟩|⟨h,_⟩
  ·obtain rfl:L'=L:=by rw[hl,hL.out]
   exact⟨a,cap,he,own,hb⟩
  ·exact absurd ⟨h0,h1⟩ h
theorem ZA{k tk lo hi:Int}(w:ak)(h1:1≤k)(h2:k≤22)(hs:cZ k=⟨tk,fx,gr,lo,hi,dt⟩):aH 83 #[ae k] w fun e w'=>e= .returned (.agg #[ae fx,ae gr,ae lo,ae hi,ae dt])∧Below w.heap.size w w':=by
 have:=asM k w h1 h2;rw[hs]at this;exact this
theorem arf{Q:Nat}(h:Q<256):(Q:Int)=((UInt8.ofNat Q).toNat:Int):=by simp;omega
theorem agu{P:Prop}(h:P:=by
 go_ret;rw[←HF.out]at jK;exact⟨b6,_,cap6,rfl,jK.ajq,jK.mono hb0.size,fW _ wO⟩):P:=h
theorem aek{tok:aJ}{args:aO}{dat:aJ}{tk lo hi:Int}(ta:az)(tc:Nat)(aa da:az)(ac dc:Nat)(w:ak)(h1:1≤kind)(h2:kind≤22)(hs:cZ kind=⟨tk,fx,gr,lo,hi,dt⟩)(htl:tok.length≤10)(hg:iD ⟨tk,fx,gr,lo,hi,dt⟩ args.length)(hall: ∀n∈args,xR n)
  (hat:qx w ⟨kind,tok,args,dat⟩ ta tc aa da):aH 85 #[.agg #[ae kind,.slice ta tok.length tc,.slice aa args.length ac,.slice da dat.length dc]] w (abC ⟨kind,tok,args,dat⟩ w):=by
 have sh:=CX kind;rw[hs]at sh;obtain⟨g,hgn⟩: ∃g,Hid (mY ⟨tk,fx,gr,lo,hi,dt⟩ args.length=g):=⟨_,ax rfl⟩;obtain⟨g0,g1⟩:=U_ sh hg;rw[hgn.out]at g0 g1;obtain⟨Q,rfl⟩:=Int.eq_ofNat_of_zero_le g0;have hA:=hat.len.2.1;have hD:=hat.len.2.2;simp only at hA hD;have HS:=ax hs;have KN:=ax hall;have s1:=sh.fix;have s2:=sh.grp;simp only at s1 s2;have HQ:Hid (0<gr→fx≤(args.length:Int)∧((args.length:Int) -fx)/gr=Q):=by
  refine ax fun h0=>?_;have a:=hg;have b:=hgn.out;unfold iD at a;unfold mY at b;simp only at a b;rw[if_neg aj]at a b;exact⟨a.1,b⟩
 obtain⟨bt,ba,bd,hnil,_⟩:=hat;simp only at bt ba bd hnil;clear hall hg
 go_enter func85,ntmps85
 go_upto_region 2 with(first|(go_at_call 83;(with_reducible refine(ZA _ h1 h2 hs).mono ?_);rintro e w1 ⟨rfl,hb1⟩;(have bM:ah w1 w.heap.size 36 #[ae kind,.slice ta tok.length tc,.slice aa args.length ac,.slice da dat.length dc]:=(ah.new w _ _).below hb1 aF);(have lM:=bM.lt);obtain⟨m0,m1,m2,m3⟩:=bM.four))
 refine aW (fun W=>ah W w.heap.size 36 #[ae kind,.slice ta tok.length tc,.slice aa args.length ac,.slice da dat.length dc]∧ah W w1.heap.size 183 #[ae fx,ae gr,ae lo,ae hi,ae dt]∧Below w.heap.size w W) ⟨bM.alloc _,ah.new _ _ _,bel⟩ ?_;rintro W ⟨bM,bS,hb0⟩;clear m0 m1 m2 m3 lM hb1 hs;have HT:=ax (bt.below hb0 aA);have XX:=ax (bd.below hb0 aA);have ba':Ints W aa args:=Ints.below ba hb0 aA;obtain⟨q0,q1,q2,q3⟩:=bM.four;have lM:=bM.lt
 go_wp2_with (first|(at_builtin;refine qN rfl _ _ rfl W.heap.size none 0 0 [] rfl ta _ tc tok rfl (Own.nil _ _ _ _) HT.out rfl tok.length aj aj aA ?_;intro b2 c2 w2 eu g2 Ar;(have hb2:=Ar W bD);(have zC:=bM.below hb2 lM);(have Om:=zC.lt);obtain⟨r0,r1,r2,r3⟩:=zC.four))
 go_loopw [18,4] (fun i v wr=> ∃(k:Nat) (l:aJ) (b:az) (N cap:Nat),k≤args.length∧i=ae k∧v= .slice b N cap∧Own wr W.heap.size 5 1 b N cap (l.map a_)∧Below W.heap.size W wr∧N≤10+6*k∧l++mi (cZ kind) Q k (args.drop k)=tok++mi (cZ kind) Q 0 args) (fun i _ _=>args.length -(intOf i).toNat)
 case atStart=>exact⟨0,tok,_,_,_,Nat.zero_le _,rfl,rfl,eu,hb2,by omega,rfl⟩
 case round=>
  obtain⟨k,l,b,N,cap,hk,rfl,rfl,own,hbel,hN,hl⟩:=hrel;have HL:=ax hl;clear hl eu g2 hb2 zC Om r0 r1 r2 r3 q0 q1 q2 q3;have fM: ∀W',Below W.heap.size W W'→ah W' w.heap.size 36 #[ae kind,.slice ta tok.length tc,.slice aa args.length ac,.slice da dat.length dc]:=fun W' h=>bM.below h lM;have fS: ∀W',Below W.heap.size W W'→ah W' w1.heap.size 183 #[ae fx,ae gr,ae lo,ae hi,ae dt]:=fun W' h=>bS.below h bS.lt;have Ry:=fM _ hbel;have Rz:=fS _ hbel;have lMr:=Ry.lt;have lSr:=Rz.lt;obtain⟨u0,u1,u2,u3⟩:=Ry.four;obtain⟨v0,v1,v2,v3,v4, -, -⟩:=Rz.five;have Oo:Hid ((((k:Int)==fx)=true∧decide (0<gr)=true∧fP (cZ kind) Q k=dI (Q:Int).toNat)∨(((k:Int)==fx)=true∧decide (0<gr)=false∧fP (cZ kind) Q k= [])∨(((k:Int)==fx)=false∧fP (cZ kind) Q k= [])):=by
   have:=afe (cZ kind) Q k;show _∨_;rw[HS.out]at this⊢;exact this
  have HV:Hid (dI (Q:Int).toNat= [UInt8.ofNat Q]):=ax (by rw[Ey aj];rfl);have hQ:(Q:Int)=((UInt8.ofNat Q).toNat:Int):=arf aj;have HQB:=ax hQ;have e3:(Q:Int) % 256=(Q:Int):=Int.emod_eq_of_lt g0 (Int.lt_of_le_of_lt g1 ay);clear hQ;have fW: ∀W',Below W.heap.size W W'→Below w.heap.size w W':=fun W' h=>bel;by_cases hlt:k<args.length
  ·have c1:(k:Int)<(args.length:Int):=by omega
   rcases ba'.open with rfl|⟨ab,aaZ,rfl,hbl,hc⟩
   ·simp at hlt
   obtain⟨x,hx⟩:=aI (args[k]);have fX: ∀W',Below W.heap.size W W'→W'.cell? ⟨ab,aaZ+k,none⟩=some (ae x):=fun W' h=>by rw[(VE h).1 ab _ hbl,hc k hlt,hx]
   have cxr:=fX _ hbel;obtain⟨x0,x1⟩:xR x:=hx▸KN.out _ (bF hlt);obtain⟨xL,hxL⟩: ∃xL,Hid (xL=(dI x.toNat).length):=⟨_,ax rfl⟩;have xl:xL≤5:=by rw[hxL.out];exact F8 aj
   have HE2:Hid ((l++fP (cZ kind) Q k)++dI x.toNat++mi (cZ kind) Q (k+1) (args.drop (k+1))=tok++mi (cZ kind) Q 0 args):=by
    show _=_;rw[←HL.out,List.drop_eq_getElem_cons hlt,hx];simp[mi]
   clear hx hc;rcases Oo.out with⟨y1,y2,y3⟩|⟨y1,y2,y3⟩|⟨y1,y3⟩
   ·have HC:=ax (y3.trans HV.out);clear y3;have gp:0<gr:=of_decide_eq_true y2;obtain⟨z1,z2⟩:=HQ.out gp;have et:((args.length:Int) -fx).tdiv gr=(Q:Int):=by rw[Int.tdiv_eq_ediv_of_nonneg aj,z2]
    have d0:(gr==0)=false:=by rw[iL];exact fun q=>by rw[q]at gp;exact absurd gp ay
    clear z1 z2
    go_wp2_with (first|(at_builtin;refine J_ rfl _ _ rfl W.heap.size _ _ cap l rfl (UInt8.ofNat Q) _ rfl own HQB.out (N+1) rfl aj hbel.size ?_;intro b5 cap5 w5 jF g5 sU;(have nP:=sU W hbel);rw[←HC.out]at jF;(have GL:=fM _ nP);(have MK:=fS _ nP);obtain⟨m0,m1,m2,m3⟩:=GL.four;obtain⟨n0,n1,n2,n3,n4, -, -⟩:=MK.five;(have cx5:=fX _ nP))|(go_at_call 118;(with_reducible refine(agt x x0 x1 hxL _).mono ?_);rintro e w6 ⟨ya,yc,rfl,KO,hb6⟩;(have jK:=jF.below hb6 aA);(have KP:=KO.dL);(have wO:Below W.heap.size W w6:=bel))|(at_builtin;refine qN rfl _ _ rfl W.heap.size _ _ _ (l++fP (cZ kind) Q k) rfl ya _ _ (dI x.toNat) rfl jK KP hxL.out _ rfl aj wO.size ?_;intro b7 aa0 w7 sJ g7 GM;(have KQ:=GM W wO)))
    go_roundw
    case rel=>exact⟨k+1,(l++fP (cZ kind) Q k)++dI x.toNat,_,_,_,by omega,by go_num,rfl,sJ,KQ,by omega,HE2.out⟩
    case measure=>simp[intOf];omega
   all_goals
    have HC:=ax y3;clear y3;have jF:=own;have E5:l.map a_=(l++fP (cZ kind) Q k).map a_:=by rw[HC.out,iK]
    rw[E5]at jF;clear E5;have nP:=hbel
    go_wp2_with (first|(go_at_call 118;(with_reducible refine(agt x x0 x1 hxL _).mono ?_);rintro e w6 ⟨ya,yc,rfl,KO,hb6⟩;(have jK:=jF.below hb6 aA);(have KP:=KO.dL);(have wO:Below W.heap.size W w6:=bel))|(at_builtin;refine qN rfl _ _ rfl W.heap.size _ _ _ (l++fP (cZ kind) Q k) rfl ya _ _ (dI x.toNat) rfl jK KP hxL.out _ rfl aj wO.size ?_;intro b7 aa0 w7 sJ g7 GM;(have KQ:=GM W wO)))
    go_roundw
    case rel=>exact⟨k+1,(l++fP (cZ kind) Q k)++dI x.toNat,_,_,_,by omega,by go_num,rfl,sJ,KQ,by omega,HE2.out⟩
    case measure=>simp[intOf];omega
  ·have c1: ¬ ((k:Int)<(args.length:Int)):=by omega
   obtain rfl:k=args.length:=by omega
   have HE:Hid (l++fP (cZ kind) Q args.length=tok++mi (cZ kind) Q 0 args):=by
    show _=_;rw[←HL.out,List.drop_length];rfl
   have HF:Hid (aU.pay ⟨kind,tok,args,dat⟩=(l++fP (cZ kind) Q args.length)++dat):=ax (Zv HS.out hgn.out HE.out);clear hlt;rcases Oo.out with⟨y1,y2,y3⟩|⟨y1,y2,y3⟩|⟨y1,y3⟩
   ·have HC:=ax (y3.trans HV.out);clear y3;have gp:0<gr:=of_decide_eq_true y2;have Q0:Q=0:=by
     have:=(HQ.out gp).2;rw[beq_iff_eq]at y1;rw[y1,Int.sub_self,Int.zero_ediv]at this;omega
    have HZ:Hid (fP (cZ kind) Q args.length= [0]):=by
     show _=_;rw[HC.out,Q0];rfl
    go_wp2_with (first|(at_builtin;refine J_ rfl _ _ rfl W.heap.size _ _ cap l rfl 0 _ rfl own (by rfl) (N+1) rfl aj hbel.size ?_;intro b5 cap5 w5 jF g5 sU;(have nP:=sU W hbel);rw[←HZ.out]at jF;(have GL:=fM _ nP);obtain⟨m0,m1,m2,m3⟩:=GL.four)|(at_builtin;refine qN rfl _ _ rfl W.heap.size _ _ _ (l++fP (cZ kind) Q args.length) rfl da _ _ dat rfl jF (XX.out.below nP aA) rfl _ rfl aj nP.size ?_;intro b6 cap6 w6 jK g6 LG;(have wO:=LG W nP)))
    exact agu
   all_goals
    have HC:=ax y3;clear y3;have jF:=own;have E5:l.map a_=(l++fP (cZ kind) Q args.length).map a_:=by rw[HC.out,iK]
    rw[E5]at jF;clear E5;have nP:=hbel
    go_wp2_with (first|(at_builtin;refine qN rfl _ _ rfl W.heap.size _ _ _ (l++fP (cZ kind) Q args.length) rfl da _ _ dat rfl jF (XX.out.below nP aA) rfl _ rfl aj nP.size ?_;intro b6 cap6 w6 jK g6 LG;(have wO:=LG W nP)))
    all_goals
     exact agu
end Go.Proofs.YtiffpjamngklhaaGreat
