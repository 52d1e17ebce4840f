/- Lemmas, part 22. -/
import Derived.Test.YtiffpjamngklhaaGreatP21
namespace Go.Proofs.YtiffpjamngklhaaGreat
set_option linter.all false
set_option maxRecDepth 100000
set_option maxHeartbeats 16000000
open Go.RowKit Tryz
open Go.Sort hiding Below
variable{w W:ak}{B n i k B' c:Nat}{a:az}{e:aK}{l:aJ}{j:Jx}{cf:Cf}{js:List Jx}{K:dJ}
theorem avU{k:Int}{p:aJ}(k1:1≤k)(k2:k≤22)(hp:p.length≤200):cO.tk ⟨true,false,fG k p,false⟩=⟨(fG k p).length,false,[(0,k,p)]⟩:=by
 unfold cO.tk;have h1:=agN [] k1 k2 hp;rw[iK]at h1;rw[Vl ⟨by simp,by simp only[EJ];rw[h1]⟩];simp only[EJ,h1];have h2:t_ ⟨0,false,[]⟩ ⟨0,k,p,p.length+10,true⟩=⟨(fG k p).length,false,[(0,k,p)]⟩:=by
  rw[ais (b:=false) aF aF,Dc];simp[PR.key]
 rw[h2];exact F9 fun h=>by have:=h.2;simp[ZJ,PR.more]at this
def sO(n:Nat)(l:aJ):List cO:=(List.replicate n qZ.S).set 0 ⟨true,false,l,false⟩
theorem ZW(n:Nat)(l:aJ):(sO n l).length=n:=by simp[sO]
theorem atN(h:0<n)(l:aJ):(sO n l)[0]'(by rw[ZW];exact h)=⟨true,false,l,false⟩:=by simp[sO]
theorem au4(j:Nat)(hj:1≤j):((sO n l).map cO.op).getD j false=false:=by
 simp only[sO,eG,List.getElem?_map,List.getElem?_set_ne (show 0≠j by omega),List.getElem?_replicate]
 split<;>simp[qZ]
theorem atO(h:0<n):((sO n l).map cO.op).getD 0 false=true:=by
 simp only[sO,eG,List.getElem?_map];rw[List.getElem?_set_self oq];rfl
theorem atP(h:cO.dG ⟨true,false,l,false⟩=⟨true,false,[],false⟩):(sO n l).map cO.dG=ig n:=by
 unfold sO ig;rw[List.map_set,List.map_replicate,h];rfl
theorem avV(h:K.Small)(hk:k≤8)(hl:l.length≤1000000):Q8 K (sO k l):=
 ⟨h,by rw[ZW];exact hk,fun s hs=>by
  rcases List.mem_or_eq_of_mem_set hs with hs|rfl
  ·rw[List.eq_of_mem_replicate hs];simp[qZ]
  ·exact hl⟩
theorem atQ(hn:0<n)(ba:az)(bb:aJ)(bn bc:Nat)(w:ak)(b:Bx)(hb:qI w b)(hK:b.c.key=K)(hS:b.ss.map Sz.S=ig n)(hbb:bI w ba bb)(hbn:bn=bb.length)(hbc:bn≤bc)(h256:bb.length≤256):
  aH 16 #[b.val,.agg (tH 3 0 0 0 ba bn bc)] w (JH K (sO n bb) w):=by
 have hl:b.ss.length=n:=by have:=congrArg List.length hS;rw[JY]at this;simpa using this
 have h0:b.ss[0].S=⟨true,false,[],false⟩:=by
  have:=congrArg (fun l=>l[0]?) hS;simp only[List.getElem?_map,d_ (show 0<b.ss.length by omega),Option.map_some]at this;rw[d_ (by rw[JY];exact hn),ahY hn]at this;injection this
 have hr:cO.rcv b.ss[0].S bb=⟨true,false,bb,false⟩:=by
  rw[h0];simp only[cO.rcv,if_true,Gz,List.length_nil,dX,Nat.sub_zero,List.nil_append,Bool.false_or];rw[nM h256,jB h256];rfl
 have:=aom b 0 0 0 ba bb bn bc _ w hb aj hr.symm hbb hbn hbc aj (by rw[h0];simp);rw[hK,hS]at this;have e:(ig n).set 0 ⟨true,false,bb,false⟩=sO n bb:=by simp[ig,sO]
 rw[e]at this;exact this
theorem asw(x:Mx)(w:ak)(hat:Hg w x):aH 11 #[.agg (Mx.cells x).toArray] w (akv x.m w):=atM x.m x.ta x.tc x.aa x.da x.ac x.dc w hat
theorem asx{α:Type}{cells:α→aP}{g:Nat}{x:α}{xs:List α}(h:Own w B e k (some ⟨g,0,none⟩) n c (gC cells (x::xs)))(hk:(cells x).length=k)(T:aK)(hu:(prog.underlying T).map TypeDesc.isRow=some true)(hs:(prog.info? T).map (·.size)=some k):
  (Instr.loadAt T (.pointer (some ⟨g,0,none⟩))).run prog w= .ok (.agg (cells x).toArray) w:=by
 cases hd:prog.underlying T with
 |none=>rw[hd]at hu;cases hu
 |some de=>
  rw[hd]at hu;refine run_loadAt_mid (P:=prog) w g 0 T (cells x) de (fun j v hv=>?_) hd Il UN;have hj:j<(cells x).length:=(List.getElem?_eq_some_iff.1 hv).1;have hl:j<(gC cells (x::xs)).length:=by rw[mP,dP];omega
  rw[dX,h.cell j hl];have:(gC cells (x::xs))[j]?=some v:=by rw[mP,List.getElem?_append_left hj];exact hv
  rw[d_ hl]at this;exact this
def akw(K:dJ)(n:Nat)(M:aU)(w:ak)(e:Ending)(w':ak):Prop:=
 ∃(b:Bx) (x:Mx),e= .returned (.tuple #[b.val,.agg (Mx.cells x).toArray,.bool true])∧Hid (b.c.key=K)∧Hid (b.ss.map Sz.S=ig n)∧Hid (x.m=M)∧ik w' w.heap.size b∧iI w' w.heap.size x∧Below w.heap.size w w'
def KnR(a:Nat)(ta:aK)(ca:aZ)(B:Nat)(e:aK)(k g n c:Nat)(xs:aP)(w:ak):Prop:=ah w a ta ca∧Own w B e k (some ⟨g,0,none⟩) n c xs
theorem atS(b:Bx)(x:Mx)(w:ak)(K K':dJ)(n:Nat)(hb:qI w b)(hK:b.c.key=K)(hS:b.ss.map Sz.S=ig n)(hn:0<n)(hx:Hg w x)(hok:x.m.Ok)(Mr St:aU)(tl:List (List aU))(Fd:List aU)(hMr:Mr.Ok)(hSt:St.Ok)
  (hT: ∀W b',qI W b'→b'.c.key=K→b'.ss.map Sz.S=sO n (fG x.m.kind x.m.pay)→Below w.heap.size w W→aH 16 #[b'.val,.agg (tH 6 0 0 0 none 0 0)] W (JI K' (ig n) ([Mr,St]::tl) Fd W)):
  aH 24 #[b.val,.agg (Mx.cells x).toArray] w (akw K' n Mr w):=by
 have hbk: ∀W b' B,ik W B b'→b'.c.key=K→b'.ss.map Sz.S=sO n (fG x.m.kind x.m.pay)→qI W b':=fun W b' B h h1 h2=>h.gK h1 h2 (avV (by rw[←hK];exact hb.c.sm) (by have:=hb.n9;have:=congrArg List.length hS;rw[JY]at this;simp at this;omega) (by rw[Dc];have:=hok.EO;omega));have hfl:GI x.m=fG x.m.kind x.m.pay:=ZV hok;have hf2:(fG x.m.kind x.m.pay).length≤256:=by rw[Dc];have:=hok.EO;omega
 have HT:=ax hT;have HBK:=ax hbk;have Ti:=ax hfl;have HF2:=ax hf2;have HK:=ax hK;have HS:=ax hS;clear hT hbk hfl hf2 hK hS hok
 go_enter func24,ntmps24
 go_upto_region 1 with fail
 obtain⟨R,hR⟩:=aI w.heap.size;refine aW (fun W=>ah W R 48 b.cs∧ah W (R+1) 36 (Mx.cells x).toArray∧ah W (R+1+1) 48 je∧ah W (R+1+1+1) 36 xH∧Below w.heap.size w W) ⟨by rw[←hR];exact(((ah.new _ _ _).alloc _).alloc _).alloc _,by rw[←hR];exact((ah.dG _ _ _ _).alloc _).alloc _,by rw[←hR];exact(mr (ah.new _ _ _) aF).alloc _,by rw[←hR];exact mr (ah.new _ _ _) aF,bel⟩ ?_;have HR:=ax hR;rw[hR];clear hR;rintro W ⟨kB,kX,kO,kP,be⟩;have be:Below w.heap.size w W:=by rw[HR.out];exact be
 have ldB:=kB.IQ 48 l_ eP;have ldX:=kX.IQ 36 xK lZ;have hFr:=ax (fun V (hV:Below W.heap.size W V)=>asw x V (hx.below (be.trans (hV.mono be.size)) aA));have TF:=ax (fun V (hV:Below W.heap.size W V) (fa:az) (fn fc:Nat) (ho:bI V fa (fG x.m.kind x.m.pay)) (h1:fn=(fG x.m.kind x.m.pay).length) (h2:fn≤fc)=>atQ hn fa (fG x.m.kind x.m.pay) fn fc V b (hb.below (be.trans (hV.mono be.size)) aA) HK.out HS.out ho h1 h2 HF2.out);(refine Yg 9 [9] [] [(5,[]),(6,[]),(7,[]),(8,[])] [([(0,[]),(1,[])],2),([(3,[])],4)] bP bP ?_;refine m_ ?_);(refine lS fun K hK=>?_;(repeat(first|(refine gI rfl 48 _ rfl _ _ rfl (fun|_,⟨p,rfl⟩=>ldB p.d p.os) ?_;refine dF ?_)|(refine gI rfl 36 _ rfl _ _ rfl (fun|_,⟨p,rfl⟩=>ldX p.d p.os) ?_;refine dF ?_)|go_big_quiet_step (fail)));refine wpQuiet_nil ?_)
 go_wp2_with (go_at_call 11;(with_reducible refine(hFr.out _ bel).mono ?_);rintro e w2 ⟨fa,fn,fc,rfl,hfn,oF,hb2⟩)
 have hb3:=jA hb2;have Tt:bI w2 fa (fG x.m.kind x.m.pay):=by have:=oF.dL;rw[Ti.out]at this;exact this
 have hfn2:=hfn.out;rw[Ti.out]at hfn2;have HFN:=ax hfn2;have hfc:=oF.IJ;clear hfn hfn2;refine dS hb3 (hK _ _ ?_);clear hK K;(refine pF ?_;intro K hK)
 go_wp2_with (go_at_call 16;(with_reducible refine(TF.out _ hb3 fa fn fc Tt HFN.out hfc).mono ?_);rintro e w3 ⟨b1,rfl,zH,tq,TV,hb4⟩)
 have BV:=hb3.size;have hb5:=hb3.trans (hb4.mono BV);have hws:=be.size;refine dS hb5 (hK _ _ ?_);clear hK K;(refine lC ?_);have kB3:=kB.below hb5 kB.lt
 go_upto_region 2 with(refine dw b1.cs kB3 eP ?_;intro W4 k4 g4 z4)
 have AX:=(TV.mono (show w.heap.size≤w2.heap.size by omega)).aG g4 kB3 ay ay;have kO4:=(kO.below hb5 kO.lt).aB g4 dm;have X7:=(kP.below hb5 kP.lt).aB g4 dm;have be4:=(be.trans (hb5.mono hws)).aB g4 (dA hws hb5.size) CU;have hB4:=HBK.out W4 b1 _ AX zH.out tq.out;have tu:=ax (HT.out W4 b1 hB4 zH.out tq.out be4);clear kB kX kO kP be ldB ldX hFr TF hb3 oF Tt hfc hb2 hb4 hb5 BV kB3 g4 z4 TV hws hB4 AX
 go_upto_region 3 with(first|(refine gy k4 l_ eP ?_)|(go_at_call 16;(with_reducible refine(tu.out).mono ?_);rintro e w5 ⟨b5,outs,oa,oc,fd,rfl,HK5,JD,X8,HO5,TP,oI5,hfd,oFd,hb6⟩)|(refine dw b5.cs ((k4.below hb6 k4.lt).alloc _) eP ?_;intro W6 k6 g6 z6)|(refine xM rfl 52 _ _ rfl w5.heap.size #[.slice none 0 0,.slice none 0 0] #[.slice oa outs.length oc,.slice fd.a fd.b.length fd.c] rfl rfl ((ah.new _ _ _).aB g6 (by have:=k4.lt;have:=hb6.size;simp;omega)) 2 rfl rfl sH rfl ?_;intro W7 k7 g7 z7))
 have X9:=HO5.out;obtain⟨o0,os,rfl⟩: ∃o0 os,outs=o0::os:=by
  cases outs with
  |nil=>simp at X9
  |cons a l=>exact⟨a,l,rfl⟩
 have ho0:o0.b=h_ [Mr,St]:=by simp only[mF,List.cons.injEq]at X9;exact X9.1
 have HO0:=ax ho0;obtain⟨m,hm⟩:=aI ((o0::os).length);have hm1:(m==0)=false:=by rw[←hm];rfl
 have hm2:1≤m:=by rw[←hm];simp
 have bA:Below w5.heap.size w5 (w5.alloc (.cells #[.slice none 0 0,.slice none 0 0] 52)):=(Below.refl _ _).alloc aA _;have X_:ah (w5.alloc (.cells #[.slice none 0 0,.slice none 0 0] 52)) R 48 b1.cs:=(k4.below hb6 k4.lt).alloc _;have ax1:R+1+1+1<w5.heap.size:=jL X7.lt hb6.size;have Ya:ah W6 w5.heap.size 52 #[.slice none 0 0,.slice none 0 0]:=(ah.new _ _ _).aB g6 dm;have Ej:=be4.size;have XQ:=hb6.size;have oB7:=(((X8.mono Ej).below bA aA).aG g6 X_ ay ay).aG g7 Ya ay ay;have Yb:=(((TP.mono Ej).below bA aA).aG g6 X_ ay).aG g7 Ya ay;have oI7:Own W7 w.heap.size 5 1 o0.a o0.b.length o0.c (o0.b.map a_):=Own.aG (Own.aG (Own.below (Own.mono (oI5 o0 aF) Ej) bA aA) g6 X_ ay) g7 Ya ay;have Rj:=k6.aB g7 dm;have JF:=(((kO4.below hb6 kO4.lt).below bA aj).aB g6 dm).aB g7 dm;have kP7:=(((X7.below hb6 X7.lt).below bA aj).aB g6 dm).aB g7 dm;have sQ:=(((be4.trans (hb6.mono Ej)).trans (bA.mono aj)).aB g6 cu CU).aB g7 (by rw[z6];simp;omega) bQ;obtain⟨N,hN⟩:=aI w5.heap.size;rw[hN]at k7 ax1⊢;rw[hm]at k7 Yb⊢;have HM:=ax hm;clear X9 HO5 X8 TP oI5 oFd hb6 bA k4 X_ Ya Ej XQ k6 g6 z6 g7 z7 kO4 X7 be4 tu hm ho0 hN;obtain⟨og,rfl,og1,og2⟩:=Yb.open_ hm2;have c0:W7.cell? ⟨og,0,none⟩=some (.slice o0.a o0.b.length o0.c):=by
  have:=Yb.cell 0 (by simp[gC,Dw.cells]);simpa [gC,Dw.cells]using this
 have hSd:=ax (atG [Mr,St] o0.b o0.a o0.b.length o0.c W7 HO0 rfl oI7.sl (fun m hm=>by simp only[List.mem_cons,o_,or_false]at hm;rcases hm with rfl|rfl<;>assumption) aF);(obtain⟨y0,y1,yf,yl⟩:=k7.n2);have m0:(m:Int)≠0:=by omega
 have m1:(0:Int)<(m:Int):=by omega
 go_upto_region 6 with((go_at_call 18;(with_reducible refine(hSd.out).mono ?_);rintro e w8 ⟨ms,ma,mc,rfl,hms,oM,oMi,hb8⟩;(clear y0 y1 yf yl)))
 have hml:ms.length=2:=by have:=congrArg List.length hms.out;simpa using this
 obtain⟨x1,x2,rfl⟩: ∃x1 x2,ms= [x1,x2]:=by
  match ms,hml with
  |[x1,x2],_=>exact⟨x1,x2,rfl⟩
 have hx1:Hid (x1.m=Mr):=ax (by have:=hms.out;simp only[mF,oH,List.cons.injEq,and_true]at this;exact this.1);have X5:=oMi x1 aF;have h7s:=sQ.size;replace oM:Own w8 W7.heap.size 36 4 ma 2 mc (gC Mx.cells [x1,x2]):=oM;obtain⟨mg,rfl,mg1,mg2⟩:=oM.open_ ay;have Pj:=Rj.below hb8 Rj.lt;have Yc:=JF.below hb8 JF.lt;have kP8:=kP7.below hb8 kP7.lt;have oB8:=oB7.below hb8 aA;have Jq:=sQ.trans (hb8.mono h7s);clear k7 Rj JF kP7 oB7 sQ hSd c0 Yb oI7 oMi hms;simp only[jJ,List.length_nil,dX,Nat.reduceAdd]
 go_upto_region 8 with fail
 ((haveI:Nonempty (wR (KnR R 48 b5.cs W7.heap.size 36 4 mg 2 mc (gC Mx.cells [x1,x2]))):=⟨⟨w8,⟨Pj,oM⟩⟩⟩);refine A7 5 [([0,1,2,3],4)] [] bP bP (fun w'=> ∃p:wR (KnR R 48 b5.cs W7.heap.size 36 4 mg 2 mc (gC Mx.cells [x1,x2])),w'=p.w) ⟨⟨(w8).drew,⟨Pj,oM⟩⟩,rfl⟩ ?_;refine lu ?_)
 (refine lS fun K hK=>?_;(try refine dF ?_);(repeat(first|(refine gI rfl 48 _ rfl _ _ rfl (fun|_,⟨p,rfl⟩=>wC p.h.1 48 l_ eP) ?_;refine dF ?_)|(refine gI rfl 36 _ rfl _ _ rfl (fun|_,⟨p,rfl⟩=>asx p.h.2 (Gg _) 36 xK lZ) ?_;refine dF ?_)|go_big_quiet_step (fail)));refine wpQuiet_nil ?_);have ax2:ah w8.drew (R+1+1) 48 je:=Yc
 go_wp2_with (refine dw b5.cs ax2 eP ?_;intro W9 k9 g9 z9)
 have g9:w8.grownBy W9 (some (R+1+1)):=⟨g9.os,g9.tape,g9.output,g9.size,g9.block⟩;refine qJ ⟨⟨W9,Pj.aB g9 dm,oM.aG g9 Yc ay⟩,rfl⟩ (hK _ _ ?_);clear hK K;(refine yR ?_;(try refine dF ?_);(repeat(first|go_big_quiet_step (fail)));refine wpQuiet_nil ?_);have Tu:=kP8.aB g9 dm
 go_wp2_with (refine dw (Mx.cells x1).toArray Tu lZ ?_;intro W10 k10 g10 z10)
 have Xi:=Jq.aB g9 Jq.size CU;refine Pn 4 48 5 36 6 results24 rfl rfl rfl (k9.aB g10 dm) k10 14 4 rfl rfl l_ eP xK lZ rfl ?_;exact⟨b5,x1,rfl,HK5,JD,hx1,(oB8.aG g9 Yc ay ay).aG g10 Tu ay ay,((X5.mono h7s).aG g9 Yc ay ay).aG g10 Tu ay ay,Xi.aB g10 Xi.size CU⟩
def dk0:dY:=⟨⟨0,[],0,0,[],0,0,0,0,[],[],0⟩,[],[],[]⟩
theorem au6{c:Ck}{wt:Int}(hf:uJ j.ps j.cs)(h:mW j.ps j.cs j.s c wt):Ad j.cs (uN c.ls (-1))=false:=by
 have e:uN c.ls (-1)=c.ls.map Prod.fst:=by
  refine List.ext_getElem (by simp[uN]) fun i h1 h2=>?_;rw[ahp _ _ i (by simpa [uN]using h1),if_neg aj];simp
 have hg: ∀p,(c.ls.map Prod.fst).getD p 0=(c.ls.getD p (0,0)).1:=fun p=>by
  simp only[eG,List.getElem?_map];cases c.ls[p]?<;>rfl
 rw[e];refine ahN fun p hp h1 q hq=>?_;rw[g_,h.ll]at hp hq;rw[hg]at h1⊢;by_cases hpq:p=q
 ·subst hpq;have hl:=hf.len;have:=hf.G5.d p aj;have e2:jR j.cs p p=false:=by
   unfold jR;have:j.cs.getD ((p:Int)).toNat 0=j.cs[p]' aj:=by simp[eG,show p<j.cs.length by omega]
   rw[this,Int.toNat_natCast,hf.G5.d p aj];simp
  rw[e2,Bool.and_false]
 ·cases hq2:uX (c.ls.getD q (0,0)).1 with
  |false=>rfl
  |true=>
   have n1:(c.ls.getD p (0,0)).1≠0:=fun e=>by rw[e]at h1;simp[uX]at h1
   have n2:(c.ls.getD q (0,0)).1≠0:=fun e=>by rw[e]at hq2;simp[uX]at hq2
   rw[h.cl p q hp hq hpq n1 n2,Bool.and_false]
theorem au7(n:Ll j):(vU j (jV j) (-1)).dB=false∧(0<j.s→(vU j (jV j) (-1)).ls=List.replicate j.ps.length (0,0)):=by
 have hok:mW j.ps j.cs j.s ⟨(jV j).ls,(jV j).g,(jV j).nx⟩ (jV j).wt:=(U9 n.fine n.n1.1 n.s0.1).ok rfl;have hs:=ahQ n.fine n.n1.1 hok;unfold vU;rw[if_neg (by simp[jV])];refine⟨au6 n.fine hs,fun h0=>?_⟩;have e:stepM j.ps j.cs ⟨(jV j).ls,(jV j).g,(jV j).nx⟩ (jV j).wt=⟨(jV j).ls,(jV j).g,(jV j).nx⟩:=by
  unfold stepM;exact if_pos h0
 rw[e];rfl
theorem atU{gs:List Ax}(n:qF cf js gs)(ok:xI js gs K)(Ws:K.cf=cf)(BK:K.now≤100000)(k:Nat)(hk:0<k)(m:aU)(hm:m.Ok)(D1:dY)(Mr:aU)(E0:Int × Int × Int)(R0:Int)(rl:aO)(hrl:(if 0≤R0 then [R0]else [])=rl)(hlat:Jd js K.ss rl)
  (hD1: ∀h:0<gs.length,Aq 0 gs[0] D1) (hMr:Mr.Ok)  (hcf:rM w cf js gs) (b:Bx) (hb:qI w b) (hK:b.c.key=K) (hS:b.ss.map Sz.S=sO k (fG m.kind m.pay))
  (hH: ∀(W:ak) (d':Dx) (pa:az) (pc:Nat),pq W d'→Hid (d'.key=eY (K.ds.getD 0 dk0) (K.now+1))→Sl W 5 1 pa m.pay.length pc (m.pay.map a_)→Below w.heap.size w W→
   aH 161 #[cf.val,.agg (Dx.cells d').toArray,ae 0,.agg (It.cells ⟨0,m.kind,m.pay,pa,pc⟩).toArray,ae (K.now+1)] W (KY D1 Mr E0 R0 W)):
  aH 16 #[b.val,.agg (tH 6 0 0 0 none 0 0)] w (JI (rZ js K rl D1) (ig k) (uQ ((sO k (fG m.kind m.pay)).map cO.op) gs [Mr] (stM js gs K rl)) [Ia js K rl] w):=by
 have hjs: ∀j∈js,0≤j.s:=fun j hj=>(n.jn j hj).s0.1;have n2:=n.n2;have hd0:0<K.ds.length:=by have:=ok.nd;omega
 have he:K.ds.getD 0 dk0=K.ds[0]:=by simp[eG,hd0]
 rw[he]at hH;have htk:=avU hm.kind.1 hm.kind.2 hm.EO;have hin:cO.inp ⟨true,false,fG m.kind m.pay,false⟩= [(0,m.kind,m.pay)]:=by simp[cO.inp,htk]
 have hnx:cO.dG ⟨true,false,fG m.kind m.pay,false⟩=⟨true,false,[],false⟩:=by simp[cO.dG,htk]
 have hdk:=fun h:0<gs.length=>(ok.ds 0 h hd0).begin (n.gn _ (bF h)).1 (K.now+1);have:=aiB b js gs K (sO k (fG m.kind m.pay)) 0 0 none 0 0 w hb hK hS ok BK (by rw[Ws];exact hcf) hjs (by rw[ZW];exact hk) (fun j hj=>au4 j hj) [(0,m.kind,m.pay)] (by rw[atN hk];exact hin) aF (fun q=>if q=0 then eY K.ds[0] (K.now+1)else D1) (fun _=>Mr) (fun _=>E0) (fun _=>R0) rl
  (fun h=>rfl) (fun q hq=>by
   split
   ·exact(hdk aj).sm
   ·exact(hD1 aj).sm) (fun h=>by simpa using hD1 h) (fun q hq=>hMr.m) UL (by rw[←hrl];by_cases h:0≤R0<;>simp[zo,h]) hlat (fun q hq W d' x hG hk' hsl hkx hbe=>by
    have hq0:q=0:=by simp at hq;omega
    subst hq0;obtain⟨xc,xk,xp,xa,xcp⟩:=x;have hkx:=hkx.out;simp only[It.key,List.getElem_cons_zero,Prod.mk.injEq]at hkx;obtain⟨rfl,rfl,rfl⟩:=hkx;rw[Ws];exact hH W d' xa xcp hG hk' hsl hbe)
 rw[atP hnx]at this;exact this
theorem arl(r:Rx)(now:Int)(m:aU)(sec:aJ)(rt cl:Int)(h8:sec.length=8)(hnum:0≤r.num∧r.num<256)(htk:r.tk.map Tk.key=iZ sec rt cl)(hp:xN rt m.kind=true)(hkd:m.kind<2∨8<m.kind)(ht:m.tok=uZ r.num 0 sec)(x:Mx)(hx:Hid (x.m=m))(W:ak)(B:Nat)(hG:y_ W r)(oX:iI W B x):
  aH 200 #[r.val,.agg (Mx.cells x).toArray,ae now] W (aa5 r.key 0 W):=by
 have hxm:=hx.out;obtain⟨⟨xk,xt,xa,xd⟩,ta,tc,aa,ac,da,dc⟩:=x;simp only at hxm;subst hxm;simp only at ht hp hkd;have hl:xt.length=10:=by rw[ht,Vq,h8]
 exact an0 r xk now 0 xt ta xt.length tc aa xa.length ac da xd.length dc W hG (by have:=congrArg List.length htk;simpa [iZ]using this) oX.tok.sl rfl aj (by rw[htk,ht];exact atT r.num hnum h8 hp) hkd
theorem asy(cf:Cf)(K0:dY)(sec:aJ)(rt cl now:Int)(h8:sec.length=8)(hnum:K0.r.num=0)(htk:K0.r.tk=iZ sec rt cl)(hp:xN rt 11=true)(hsm:K0.Small)(j:Nat)(hj:j<cf.jn)(hj9:j≤1000)(W:ak)(d':Dx)(pa:az)(pc:Nat)(hG:pq W d')(hk:Hid (d'.key=K0))
  (hsl:Sl W 5 1 pa (aU.pay ⟨11,uZ 0 0 sec,[(j:Int)],[]⟩).length pc ((aU.pay ⟨11,uZ 0 0 sec,[(j:Int)],[]⟩).map a_)):
  aH 161 #[cf.val,.agg (Dx.cells d').toArray,ae 0,.agg (It.cells ⟨0,11,aU.pay ⟨11,uZ 0 0 sec,[(j:Int)],[]⟩,pa,pc⟩).toArray,ae now] W (KY K0 ⟨14,[],[11,(j:Int)],[]⟩ (0,11,0) j W):=by
 have hok:aU.Ok ⟨11,uZ 0 0 sec,[(j:Int)],[]⟩:=aiD aF (by rw[Vq,h8]) aj aj;have:=aqA cf d' 0 now ⟨0,11,aU.pay ⟨11,uZ 0 0 sec,[(j:Int)],[]⟩,pa,pc⟩ W hG K0 ⟨14,[],[11,(j:Int)],[]⟩ j 0 (fun V d2 hV hL hk2=>by
  have hk3:d2.key=K0:=hk2.out.trans hk.out;have hr3:d2.r.key=K0.r:=congrArg dY.r hk3;have hG2:pq V d2:=hL.g (by rw[hk3];exact hsm);have hn2:d2.r.num=0:=by have:=congrArg wP.num hr3;simpa [Rx.key,hnum]using this
  have ht2:d2.r.tk.map Tk.key=iZ sec rt cl:=by have:=congrArg wP.tk hr3;rw[htk]at this;simpa [Rx.key]using this
  have h:=apx cf d2 0 now 11 (aU.pay ⟨11,uZ 0 0 sec,[(j:Int)],[]⟩) pa pc V W.heap.size hL hV.size j ⟨11,uZ 0 0 sec,[(j:Int)],[]⟩ rfl hok rfl rfl (hsl.below hV aA) rfl hj d2.r.key 0 (fun U x hU oX hx=>
   arl d2.r now ⟨11,uZ 0 0 sec,[(j:Int)],[]⟩ sec rt cl h8 aj ht2 hp (.inr (by show(8:Int)<11;decide)) (by rw[hn2]) x hx U _ ((hG2.below hU aA).r) oX)
  have e:({d2.key with r:=d2.r.key}:dY)=K0:=hk3;rw[e]at h;exact h)
 have e:(if(0:Int)≠0 then(⟨15,[],[11,0],[]⟩:aU)else⟨14,[],[11,(j:Int)],[]⟩)=⟨14,[],[11,(j:Int)],[]⟩:=if_neg aF;simp only[ne_eq,not_true_eq_false,if_false,hnum]at this;exact this
structure FY(cf:Cf)(j:Jx)(gs:List Ax)(i:Nat)(lt:Bool)(K:dJ):Prop where
 ok:xI [j] gs K
 cf:K.cf=cf
 now:K.now=i
 root: ∃a,gs[0]?=some a∧(K.ds.getD 0 dk0).r.tk=iZ a.sec a.rt a.cl
 dB: ∃k,K.ss= [k]∧k.dB=lt
structure Ib(cf:Cf)(j:Jx)(gs:List Ax)(i:Nat)(lt:Bool)(K:dJ):Prop extends FY cf j gs i lt K where
 st:K.st= [-1]
theorem Vr{α:Type}{l:List α}(h:l.length=1): ∃x,l= [x]:=List.length_eq_one_iff.1 h
theorem atV{gs:List Ax}(n:qF cf [j] gs):Ib cf j gs 0 false (jU cf [j] gs):=by
 have h1:=n.n2.1;refine⟨⟨Zd n,rfl,rfl,?_,⟨jV j,rfl,rfl⟩⟩,rfl⟩;obtain⟨a,l,rfl⟩: ∃a l,gs=a::l:=by
  cases gs with
  |nil=>simp at h1
  |cons a l=>exact⟨a,l,rfl⟩
 exact⟨a,rfl,by simp[jU,wL]⟩
theorem FY.stuck{gs:List Ax}{lt:Bool}(h:FY cf j gs i lt K)(p:Int):FY cf j gs i lt ⟨K.cf,false,K.now,K.ds,K.ss,K.vs,K.st.set 0 p,K.ws⟩:=by
 have ok:=h.ok;exact⟨⟨rfl,ok.now,ok.nd,ok.ns,ok.nv,by simpa using ok.nt,ok.nw,ok.ds,ok.ss,ok.vs,ok.ws⟩,h.cf,h.now,h.root,h.dB⟩
theorem FY.begin{gs:List Ax}{lt:Bool}(h:FY cf j gs i lt K)(now:Int): ∃a,gs[0]?=some a∧(eY (K.ds.getD 0 dk0) now).r.tk=iZ a.sec a.rt a.cl:=by
 obtain⟨a,ha,ht⟩:=h.root;refine⟨a,ha,?_⟩;simp only[eY,Qq,ht];exact ark _ _ _ _
def qK(js:List Jx)(K:dJ):dJ:=rZ js K [] (eY (K.ds.getD 0 dk0) (K.now+1))
theorem FY.day{gs:List Ax}{lt:Bool}(n:qF cf [j] gs)(h:FY cf j gs i lt K): ∃lt',Ib cf j gs (i+1) lt' (qK [j] K)∧(∃v,(qK [j] K).ws= [v]∧v.1=lt')∧(lt=true→lt'=true):=by
 obtain⟨k,hk,hl⟩:=h.dB;obtain⟨st,hst⟩:=Vr (h.ok.nt:K.st.length=1);obtain⟨v,hv⟩:=Vr (h.ok.nv:K.vs.length=1);have h2:=n.n2.1;have hd0:0<K.ds.length:=by have:=h.ok.nd;omega
 have hss:(qK [j] K).ss= [vU j k st]:=by simp[qK,rZ,lH,qR,hk,hst]
 have hws:(qK [j] K).ws= [EW j (vU j k st) v]:=by simp[qK,rZ,lH,qR,wu,hk,hst,hv]
 have hds:(qK [j] K).ds.getD 0 dk0=eY (K.ds.getD 0 dk0) (K.now+1):=by
  simp only[qK,rZ,eG];rw[List.getElem?_set_self (by simpa using hd0)];rfl
 refine⟨(vU j k st).dB,⟨⟨atL n h.ok,h.cf,by simp[qK,rZ,h.now],?_,⟨_,hss,rfl⟩⟩,rfl⟩,⟨_,hws,rfl⟩,fun e=>?_⟩
 ·rw[hds];exact h.begin _
 ·rw[ahV st (hl.trans e)];exact hl.trans e
def rK(js:List Jx)(K:dJ):dJ:=rZ js K [0] (eY (K.ds.getD 0 dk0) (K.now+1))
theorem Ib.reset{gs:List Ax}(n:qF cf [j] gs)(h:Ib cf j gs i true K):(∃v,(rK [j] K).ws= [v]∧v.1=false∧(0<j.s→∀c∈v.2.2.1,c=0))∧Jd [j] K.ss [0]:=by
 obtain⟨k,hk,hl⟩:=h.dB;obtain⟨v,hv⟩:=Vr (h.ok.nv:K.vs.length=1);obtain⟨e1,e2⟩:=au7 (n.jn j aF);have hws:(rK [j] K).ws= [EW j (vU j (jV j) (-1)) v]:=by simp[rK,rZ,lH,qR,wu,hk,h.st,hv]
 refine⟨⟨_,hws,e1,fun h0 c hc=>?_⟩,.inr ⟨0,by simp,by simp[hk],rfl,by simpa [hk]using hl⟩⟩;have hc:c∈zy (vU j (jV j) (-1)).dB (vU j (jV j) (-1)).ls:=hc;rw[e1,e2 h0]at hc;simp[zy,Dp,Dy]at hc;exact hc.2
theorem avW{gs:List Ax}(n:qF cf js gs)(ok:xI js gs K)(BK:K.now≤100000){rl:aO}{D1:dY}(hlat:Jd js K.ss rl)(hD1: ∀h:0<gs.length,Aq 0 gs[0] D1)(i:Nat):(stM js gs K rl i).Ok:=by
 have ok1:=Qj (fun j hj=>⟨(n.jn j hj).fine,(n.jn j hj).n1.1,(n.jn j hj).n1.2,(n.jn j hj).s0.1⟩) (fun a ha=>(n.gn a ha).1) ok hlat hD1;have n1:=n.n1;have hnw:=ok1.nw;simp only[rZ]at hnw;have hbl:(bytesOf (wu js (qR js (lH js K.ss rl) K.st) K.vs)).length≤44:=by
  have:=MP (wu js (qR js (lH js K.ss rl) K.st) K.vs) ok1.ws;omega
 have hq:qM gs i≤4:=by
  unfold qM;rw[eG,List.getElem?_map];cases e:gs[i]? with
  |none=>simp
  |some a=>
   have:=((n.gn a (List.mem_of_getElem? e)).1).rq;simp only[Ax.num]at this;simp only[Option.map_some,Option.getD_some];omega
 refine aix (.inl rfl) (by have:=ok.now;omega) aj ?_;rw[dP,MS];omega
theorem arn{gs:List Ax}(n:qF cf [j] gs){a:Ax}(ha:gs[0]?=some a)(hrt:xN a.rt 11=true)(h:Ib cf j gs i true K)(hi:i≤1000)(k:Nat)(hk:0<k)(w:ak)(b:Bx)(hb:qI w b)(hK:b.c.key=K)(hS:b.ss.map Sz.S=ig k)(hcf:rM w cf [j] gs)(x:Mx)(hx:Hg w x)(hxm:x.m=⟨11,uZ 0 0 a.sec,[0],[]⟩):
  aH 24 #[b.val,.agg (Mx.cells x).toArray] w (akw (rK [j] K) k ⟨14,[],[11,0],[]⟩ w):=by
 obtain⟨_,hlat⟩:=h.reset n;have h8:a.sec.length=8:=(n.gn a (List.mem_of_getElem? ha)).2;have BK:K.now≤100000:=by have:=h.now;omega
 have hd0:0<K.ds.length:=by have:=h.ok.nd;have:=n.n2.1;omega
 have he:K.ds.getD 0 dk0=K.ds[0]:=by simp[eG,hd0]
 have hD1: ∀h:0<gs.length,Aq 0 gs[0] (eY (K.ds.getD 0 dk0) (K.now+1)):=fun h0=>by
  rw[he];exact(h.ok.ds 0 h0 hd0).begin (n.gn _ (bF h0)).1 _
 have hxo:x.m.Ok:=by rw[hxm];exact aiD aF (by rw[Vq,h8]) aj aj
 have hMr:aU.Ok ⟨14,[],[11,0],[]⟩:=au5 aF aj aj;obtain⟨a',ha',ht⟩:=h.toFY.begin (K.now+1);obtain rfl:a=a':=by rw[ha]at ha';injection ha'
 have n2:=n.n2.1;have hg0:gs[0]' aj=a:=by rw[d_ aj]at ha;injection ha
 obtain⟨tl,htl⟩:=ass (ops:=(sO k (fG x.m.kind x.m.pay)).map cO.op) (Ms:= [⟨14,[],[11,0],[]⟩]) (St:=stM [j] gs K [0]) n.n2.1 (fun a ha=>(n.gn a ha).1.se) (atO hk);refine atS b x w K (rK [j] K) k hb hK hS hk hx hxo ⟨14,[],[11,0],[]⟩ (stM [j] gs K [0] 0) tl [Ia [j] K [0]] hMr (avW n h.ok BK hlat hD1 0) fun W b' hb' hK' hS' hbe=>?_;have hdk:=hD1 aj;obtain⟨tk,vh,lv,hr,_,_⟩:=hdk.rg;have:=atU n h.ok h.cf BK k hk x.m hxo (eY (K.ds.getD 0 dk0) (K.now+1)) ⟨14,[],[11,0],[]⟩ (0,11,0) 0 [0] aF hlat hD1 hMr (hcf.below hbe aA) b' hb' hK' hS' (fun V d' pa pc hG hk' hsl _=>by
  have hsl2:=hsl;rw[hxm]at hsl2;have:=asy cf (eY (K.ds.getD 0 dk0) (K.now+1)) a.sec a.rt a.cl (K.now+1) h8 (by rw[hr];rfl) ht hrt hdk.sm 0 (by have:=n.hj;simp at this;omega) aj V d' pa pc hG hk' hsl2;rw[hxm];exact this)
 rw[htl]at this;exact this
theorem Sl.take1{sz m:Nat}{xs:aP}(h:Sl w e sz a n c xs)(hm:m≤n):Sl w e sz a m c (xs.take (m*sz)):=by
 have hl:=h.1;have hc:=h.2.1;have hms:m*sz≤n*sz:=Nat.mul_le_mul_right sz hm;refine⟨by rw[pV];omega,by omega,?_⟩;rcases h.2.2 with h0|⟨b,off,C,rfl,hb,hcell⟩
 ·exact .inl h0
 ·refine .inr ⟨b,off,C,rfl,hb,fun i hi=>?_⟩;have hi2:i<xs.length:=by rw[pV]at hi;omega
  rw[hcell i hi2,List.getElem_take]
def Cf.one(cf:Cf):Cf:={cf with jn:=1}
theorem qF.one{gs:List Ax}(n:qF cf js gs)(hj:js[0]?=some j):qF cf.one [j] gs:=
 ⟨rfl,n.hg,fun x hx=>by rw[dU.1 hx];exact n.jn j (List.mem_of_getElem? hj),n.gn,by simp,n.n2,n.per,n.cap,n.hold,n.lock⟩
theorem wS.c1{M:Nat}{gs:List Ax}(h:wS w B M cf js gs)(n:qF cf js gs)(hj:js[0]?=some j):rM w cf.one [j] gs:=by
 have h0:=h.c0 n;have hm:=List.mem_of_getElem? hj;have h1:1≤js.length:=n.n1.1;obtain⟨x,l,rfl⟩: ∃x l,js=x::l:=by
  cases js with
  |nil=>simp at h1
  |cons x l=>exact⟨x,l,rfl⟩
 simp at hj;subst hj;have hs:=h0.EU.take1 (m:=1) h1;refine⟨rfl,n.hg,?_,fun y hy=>by rw[dU.1 hy];exact h0.Jt _ hm,h0.grow,h0.LX,by simp,n.n2,n.per,n.cap,n.hold,n.lock⟩;have e:(gC Jx.cells (x::l)).take (1*3)=gC Jx.cells [x]:=by
  rw[mP,mP,Dj,iK];exact List.take_left' (yV x)
 rw[e]at hs;exact hs
section
variable{w w':ak}{B M:Nat}{cf:Cf}{js:List Jx}{gs:List Ax}
theorem wS.below(h:wS w B M cf js gs)(hb:Below B' w w')(hB:w.heap.size≤B'):wS w' B M cf js gs:=
 ⟨h.jr.below hb hB,h.ar.below hb hB,h.mem.keep hb.size fun b _ hl=>hb.block b aj⟩
theorem wS.aG{g:Nat}{t:aK}{cs:aZ}(h:wS w B M cf js gs)(hg:w.grownBy w' (some g))(k:ah w g t cs)(h1:69≠t)(h2:32≠t)(h3:71≠t)(h4:3≠t)(h5:5≠t):wS w' B M cf js gs:=
 ⟨h.jr.aG hg k h1,h.ar.aG hg k h2,h.mem.aG hg k h3 h4 h5⟩
theorem sN.mono(h:sN w B M js gs)(hB:B'≤B):sN w B' M js gs:=⟨⟨dA hB h.lM.1,h.lM.2⟩,fun h0=>⟨(h.j0 h0).1.mono hB,(h.j0 h0).2⟩,h.js,h.gs⟩
theorem wS.mono(h:wS w B M cf js gs)(hB:B'≤B):wS w B' M cf js gs:=⟨h.jr.mono hB,h.ar.mono hB,h.mem.mono hB⟩
end
theorem dQ.ajm{w':ak}{p:Nat}{d:Dk}(h:dQ w p d k)(hg:w.grownBy w' (some B))(hp:B≠p)(hd:d.l= []∨∀x,d.a.map (·.block)=some x→x≠B):dQ w' p d k:=by
 refine⟨(hg.block p h.1.lt (fun e=>by injection e with e;exact hp e.symm)).trans h.1,?_,h.2.2⟩;rcases hd with hd|hd
 ·exact .inl (by rw[hd];rfl)
 ·exact Row.keep h.2.1 fun b off e hl=>hg.block b hl fun e'=>by
   injection e' with e'
   exact hd b tN e'
theorem au8{l:aO}(h:Ints w a l)(hB:w.heap.size≤B):l= []∨∀x,a.map (·.block)=some x→x≠B:=by
 rcases h with h|⟨b,off,rfl,hl,_⟩
 ·exact .inl oq
 ·exact .inr fun x hx=>by simp at hx;omega
theorem au9(hn:0<n)(w:ak)(b:Bx)(hb:qI w b)(hK:b.c.key=K)(hS:b.ss.map Sz.S=List.replicate n qZ.S):aH 16 #[b.val,.agg (tH 1 0 0 0 none 0 0)] w (JH K (ig n) w):=by
 have hl:b.ss.length=n:=by have:=congrArg List.length hS;simpa using this
 have h0:b.ss[0].S=qZ.S:=by
  have:=congrArg (fun l=>l[0]?) hS;simp only[List.getElem?_map,d_ (show 0<b.ss.length by omega),Option.map_some,List.getElem?_replicate,if_pos hn,Option.some.injEq]at this;exact this
 have:=aeE b 0 0 0 none 0 0 (cO.opn b.ss[0].S) w hb aj rfl;have e1:(b.ss.map Sz.S).set 0 (cO.opn b.ss[0].S)=ig n:=by
  rw[h0,hS];rfl
 rw[e1,hK]at this;exact this
theorem atW{gs:List Ax}(n:qF cf [j] gs){lt:Bool}(h:FY cf j gs i lt K)(k:Nat)(hk:0<k)(q:Nat)(hq:q<j.ps.length)(w:ak)(b:Bx)(hb:qI w b)(hK:b.c.key=K)(hS:b.ss.map Sz.S=ig k)(hcf:rM w cf [j] gs):
  aH 16 #[b.val,.agg (tH 5 0 0 q none 0 0)] w (JH ⟨K.cf,false,K.now,K.ds,K.ss,K.vs,K.st.set 0 q,K.ws⟩ (ig k) w):=by
 have ok:=h.ok;subst hK;have hl:b.ss.length=k:=by have:=congrArg List.length hS;rw[JY]at this;simpa using this
 have:=aon b 0 0 q [j] gs gs.length 1 none 0 0 w hb aj ok.ref (by rw[show b.c.cf=cf from h.cf];exact hcf) (by have:=ok.nd;simpa [Cx.key]using this) rfl rfl (by have:=ok.ns;simpa [Cx.key]using this) (by have:=ok.nv;simpa [Cx.key]using this) (by have:=ok.nt;simpa [Cx.key]using this) (by have:=ok.nw;simpa [Cx.key]using this) aF (by simpa using hq);rw[hS]at this;exact this
theorem ah0{gs:List Ax}(n:qF cf [j] gs){lt:Bool}(h:FY cf j gs i lt K)(hi:i≤1000)(k:Nat)(hk:0<k)(w:ak)(b:Bx)(hb:qI w b)(hK:b.c.key=K)(hS:b.ss.map Sz.S=ig k)(hcf:rM w cf [j] gs):
  aH 16 #[b.val,.agg (tH 6 0 0 0 none 0 0)] w (JI (qK [j] K) (ig k) (uQ ((ig k).map cO.op) gs [] (stM [j] gs K [])) [Ia [j] K []] w):=
 agX n h.ok h.cf (by have:=h.now;omega) 0 0 none 0 0 k hk hcf b hb hK hS
theorem ZX{Bk:Nat}{b:Bx}(hB:ik W B b)(kB:ah W Bk 48 b.cs){v:Vk}(h:b.c.key.ws= [v]):
  ∃(x:Vx) (vg vc:Nat),b.c.wa=some ⟨vg,0,none⟩∧x.key=v∧W.cell? ⟨Bk,12,none⟩=some (.slice (some ⟨vg,0,none⟩) 1 vc)∧W.cell? ⟨vg,0,none⟩=some (.bool v.1)∧W.cell? ⟨vg,2,none⟩=some (.slice x.ca x.cs.length x.cc)∧Own W B 3 1 x.ca x.cs.length x.cc (x.cs.map encI)∧vg<W.heap.size:=by
 have hl:b.c.ws.length=1:=by have:=congrArg List.length h;simpa [Cx.key]using this
 obtain⟨x,hx⟩:=Vr hl;have hk:x.key=v:=by
  have:b.c.ws.map Vx.key= [v]:=h;rw[hx]at this;simpa using this
 have row:=hB.c.ws;rw[hx]at row;obtain⟨vg,OM,h1,h2⟩:=row.open_ aF;rw[OM]at row;have c0:=row.cell 0 (by simp[gC,Vx.cells]);have c2:=row.cell 2 (by simp[gC,Vx.cells]);have hit:=hB.c.r_ x (by rw[hx];simp);refine⟨x,vg,b.c.wc,OM,hk,?_,?_,?_,hit.cs,h2⟩
 ·have:=kB.cell 12;rw[this];simp only[Bx.cs,Cx.fK,brC,OM,hl];rfl
 ·rw[c0,←hk];simp[gC,Vx.cells,Vx.key]
 ·rw[c2];simp[gC,Vx.cells]
theorem Ib.rok{gs:List Ax}(n:qF cf [j] gs)(h:Ib cf j gs i true K):xI [j] gs (rK [j] K):=by
 have hd0:0<K.ds.length:=by have:=h.ok.nd;have:=n.n2.1;omega
 have he:K.ds.getD 0 dk0=K.ds[0]:=by simp[eG,hd0]
 refine Qj (fun j hj=>⟨(n.jn j hj).fine,(n.jn j hj).n1.1,(n.jn j hj).n1.2,(n.jn j hj).s0.1⟩) (fun a ha=>(n.gn a ha).1) h.ok (h.reset n).2 fun h0=>?_;rw[he];exact(h.ok.ds 0 h0 hd0).begin (n.gn _ (bF h0)).1 (K.now+1)
theorem ZY{a b c a' b' c':Value}(h:Value.tuple #[a,b,c]= .tuple #[a',b',c']):a=a'∧b=b'∧c=c':=by simpa using h
theorem aiE{a b:aZ}(h:Value.agg a= .agg b):a=b:=by injection h
def Rh(K:dJ)(n:Nat)(M:aU)(v:Value)(b0 b1:Nat)(W:ak):Prop:=
 ∃(b:Bx) (x:Mx) (U:ak),v= .tuple #[.agg b.cs,.agg (Mx.cells x).toArray,.bool true]∧Hid (b.c.key=K)∧Hid (b.ss.map Sz.S=ig n)∧Hid (x.m=M)∧ik U b0 b∧iI U b0 x∧U.heap.size≤b1∧∀k,b0≤k→k<b1→W.heap[k]?=U.heap[k]?
theorem Rh.closed{M:aU}{v:Value}{b0 b1:Nat}{W':ak}(h:Rh K n M v b0 b1 W)(hown: ∀b,b0≤b→b<b1→W'.heap[b]?=W.heap[b]?):Rh K n M v b0 b1 W':=by
 obtain⟨b,x,U,h1,h2,h3,h4,h5,h6,h7,h8⟩:=h;exact⟨b,x,U,h1,h2,h3,h4,h5,h6,h7,fun k k0 k1=>(hown k k0 k1).trans (h8 k k0 k1)⟩
structure CJ(w:ak)(p:Nat)(d:Dk)(C J Bk:Nat)(cf:Cf)(js:List Jx)(gs:List Ax)(M:Nat)(cC:aZ)(j:Jx)(kk:Nat)(K:dJ)(S:List cO)(b:Bx)(wr:ak):Prop where
 kC:ah wr C 28 cC
 kJ:ah wr J 69 (Jx.cells j).toArray
 kB:ah wr Bk 48 b.cs
 bL:ik wr w.heap.size b
 key:b.c.key=K
 qX:b.ss.map Sz.S=S
 cfg:wS wr w.heap.size M cf js gs
 dk:dQ wr p d kk
 be:Below w.heap.size w wr
section
variable{w wr W:ak}{p:Nat}{d:Dk}{C J Bk:Nat}{cf:Cf}{js:List Jx}{gs:List Ax}{M:Nat}{cC:aZ}{j:Jx}{kk:Nat}{K:dJ}{S:List cO}{b:Bx}
theorem CJ.below(h:CJ w p d C J Bk cf js gs M cC j kk K S b wr)(hb:Below wr.heap.size wr W):CJ w p d C J Bk cf js gs M cC j kk K S b W:=
 ⟨h.kC.below hb h.kC.lt,h.kJ.below hb h.kJ.lt,h.kB.below hb h.kB.lt,h.bL.below hb aA,h.key,h.qX,h.cfg.below hb aA,h.dk.below hb,h.be.trans (hb.mono h.be.size)⟩
theorem CJ.rU(h:CJ w p d C J Bk cf js gs M cC j kk K S b wr){k':Nat}(g:wr.grownBy W (some p))(hd:dQ W p d k')(hp:w.heap.size≤p)(hC:C≠p)(hJ:J≠p)(hB:Bk≠p):CJ w p d C J Bk cf js gs M cC j k' K S b W:=
 ⟨h.kC.grown g hC,h.kJ.grown g hJ,h.kB.grown g hB,h.bL.aG g h.dk.1 ay ay,h.key,h.qX,h.cfg.aG g h.dk.1 ay ay ay ay ay,hd,h.be.aB g h.be.size bQ⟩
theorem CJ.store(h:CJ w p d C J Bk cf js gs M cC j kk K S b wr){b':Bx}{K':dJ}{S':List cO}(oB:ik wr w.heap.size b')(hK:b'.c.key=K')(hS:b'.ss.map Sz.S=S')(g:wr.grownBy W (some Bk))(k:ah W Bk 48 b'.cs)(hw:w.heap.size≤Bk)(hC:C≠Bk)(hJ:J≠Bk)(hp:Bk≠p)(hd:d.l= []∨∀x,d.a.map (·.block)=some x→x≠Bk):CJ w p d C J Bk cf js gs M cC j kk K' S' b' W:=
 ⟨h.kC.grown g hC,h.kJ.grown g hJ,k,oB.aG g h.kB ay ay,hK,hS,h.cfg.aG g h.kB ay ay ay ay ay,h.dk.ajm g hp hd,h.be.aB g h.be.size bQ⟩
end
theorem agB{P:Prop}(h:P:=by
 clear hx0 hc0
 go_wp2_with fail
 go_roundw
 case rel=>exact⟨t+1,by go_num,by omega,trivial⟩
 case measure=>simp[intOf];omega):P:=h
theorem Y5{P:Prop}(h:P:=by
 go_wp2_with fail
 go_meet
 exact⟨by simp[hlt],rfl⟩):P:=h
theorem topLatch_walk(a1:az)(c1:Nat)(l1:aO)(ajn:Int)(w:ak)(h1:Ints w a1 l1)(n1:l1.length≤9223372036854775807):
  aH 6 #[.slice a1 l1.length c1,ae ajn] w fun e w'=>e= .returned (.bool true)∧Below w.heap.size w w':=by
 have hne:=fun B (hB:w.heap.size≤B)=>au8 h1 hB;have TW:=ax hne;clear hne
 go_enter func6,ntmps6
 go_upto_region 3 with(first|(go_at_call 8;(with_reducible refine(aiH a1 c1 l1 _ h1 n1).mono ?_);rintro e w1 ⟨rfl,hd1,hb1⟩)|(go_at_call 9;(with_reducible refine(agl w.heap.size w1 ⟨a1,c1,l1⟩ 0 63 hd1 ay).mono ?_);rintro e w2 ⟨cf,js,gs,M,k2,rfl,hN,hL, -,hd2,g2⟩)|(refine xM rfl 28 _ _ rfl w2.heap.size (gJ none 0 0 none 0 0 0 0 0 0) (gJ cf.ja cf.jn cf.jc cf.ga cf.gn cf.gc cf.per cf.cap cf.hold cf.lock) rfl rfl (ah.new _ _ _) 6 rfl rfl JO rfl ?_;intro W3 k3 g3 z3))
 have hP:=hN.p;have hz1:=hd1.lt;have hz2:=g2.size;have hws:=hb1.size;have be2:Below w.heap.size w w2:=hb1.grown g2 aj bQ;have bA:Below w2.heap.size w2 W3:=((Below.refl _ w2).alloc aA _).aB g3 aF bQ;have hL3:=(hL.mono hws).below bA aA;have hd3:=hd2.below bA;have eH:=be2.trans (bA.mono be2.size);obtain⟨C,hC⟩:=aI w2.heap.size;have hpC:w.heap.size<C:=by omega
 rw[hC]at k3⊢;obtain⟨j,hj⟩: ∃j,js[0]?=some j:=⟨js[0]'(by have:=hN.n1;omega),by simp⟩;have hjn:cf.jn=js.length:=hN.hj;have hj1:=hN.n1.1;have HN:=ax hN;have HP:=ax hP;have HJ:=ax hj;clear hb1 hd1 hL hd2 g2 bA g3 z3 hz1 hz2 hws be2 hC hN hP hj;obtain⟨jb,hjb,jb1,aQ⟩:=hL3.jr.open_ hj1;have hcap:=hL3.jr.IJ;rw[hjb]at k3;have k3':=k3;(obtain⟨x0,x1,x2,x3,x4,x5,xf,xl⟩:=k3'.n6);have hjc:(1:Int)≤(cf.jc:Int):=by omega
 go_upto_region 4 with fail
 (clear x0 x1 x2 x3 x4 x5 xf xl);have Yd:=grownBy_set W3 C 0 (.slice (some ⟨jb,0,none⟩) 1 cf.jc);have kC:=k3.upd 0 (.slice (some ⟨jb,0,none⟩) 1 cf.jc) (cs':=gJ (some ⟨jb,0,none⟩) 1 cf.jc cf.ga cf.gn cf.gc cf.per cf.cap cf.hold cf.lock);have hL4:=hL3.aG Yd k3 ay ay ay ay ay;have hd4:=hd3.ajm Yd aj (TW.out C aj);have be4:Below w.heap.size w (W3.setCell ⟨C,0,none⟩ (.slice (some ⟨jb,0,none⟩) 1 cf.jc)):=eH.aB Yd eH.size bQ;obtain⟨Z,hZ⟩: ∃Z,W3.setCell ⟨C,0,none⟩ (.slice (some ⟨jb,0,none⟩) 1 cf.jc)=Z:=⟨_,rfl⟩;rw[hZ]at kC hL4 hd4 be4⊢;clear hZ Yd k3 k3' hL3 hd3 eH;have hrow:=hL4.jr.sl.row;rw[hjb]at hrow;have hj0:0<js.length:=hj1;have hji:js[0]=j:=by have:=HJ.out;simpa [hj0]using this
 have kC':=kC;(obtain⟨x0,x1,x2,x3,x4,x5,xf,xl⟩:=kC'.n6)
 go_upto_region 5 with(first|(refine Ig (off:=0) rfl 69 _ rfl hrow yV 0 hj0 hji (by simp[go_sem]) age Yl ?_)|(refine xM rfl 69 _ _ rfl Z.heap.size #[.slice none 0 0,.slice none 0 0,ae 0] (Jx.cells j).toArray rfl rfl (ah.new _ _ _) 3 rfl rfl Yl rfl ?_;intro W5 k5 g5 z5))
 (clear x0 x1 x2 x3 x4 x5 xf xl);have bJ:Below Z.heap.size Z W5:=((Below.refl _ Z).alloc aA _).aB g5 aF bQ;have hCZ:C<Z.heap.size:=kC.lt;replace kC:=kC.below bJ hCZ;replace hL4:=hL4.below bJ aA;replace hd4:=hd4.below bJ;replace be4:=be4.trans (bJ.mono be4.size);obtain⟨J,hJ⟩:=aI Z.heap.size;rw[hJ]at k5 hCZ⊢;have hval:cf.one.val= .agg (gJ (some ⟨jb,0,none⟩) 1 cf.jc cf.ga cf.gn cf.gc cf.per cf.cap cf.hold cf.lock):=by simp only[Cf.one,Cf.val,hjb]
 have hNw:=ax (fun V (hV:Below W5.heap.size W5 V)=>(hval▸agQ cf.one [j] gs V ((hL4.c1 HP.out HJ.out).below hV aA):aH 15 #[.agg (gJ (some ⟨jb,0,none⟩) 1 cf.jc cf.ga cf.gn cf.gc cf.per cf.cap cf.hold cf.lock)] V (XO (jU cf.one [j] gs) (List.replicate (iE gs).toNat qZ.S) V)));clear bJ g5 z5 hrow hji hJ
 go_upto_region 6 with(first|(refine gy kC Px JO ?_)|(go_at_call 15;(with_reducible refine(hNw.out _ bD).mono ?_);rintro e w6 ⟨b0,rfl,TG,yG,oB,hb6⟩)|(refine xM rfl 48 _ _ rfl w6.heap.size je b0.cs rfl rfl (ah.new _ _ _) 14 rfl rfl eP rfl ?_;intro W7 k7 g7 z7))
 have hbb:=aiX (HP.out.one HJ.out);have XW:=hb6.size;have hws:=be4.size;have Hy:ah (w6.alloc (.cells je 48)) w6.heap.size 48 je:=ah.new _ _ _;have bB0:Below w6.heap.size w6 (w6.alloc (.cells je 48)):=(Below.refl _ _).alloc aA _;have bB:Below W5.heap.size W5 W7:=(hb6.trans (bB0.mono XW)).aB g7 cu bQ;have hJ5:=k5.lt;obtain⟨n,hn⟩:=aI ((iE gs).toNat);rw[hn]at yG hbb;have hS:CJ w w.heap.size ⟨a1,c1,l1⟩ C J w6.heap.size cf js gs M (gJ (some ⟨jb,0,none⟩) 1 cf.jc cf.ga cf.gn cf.gc cf.per cf.cap cf.hold cf.lock) j k2 (jU cf.one [j] gs) (List.replicate n qZ.S) b0 W7:=
  ⟨kC.below bB kC.lt,k5.below bB hJ5,k7,((oB.mono hws).below bB0 aA).aG g7 Hy ay ay,TG.out,yG.out,hL4.below bB aA,hd4.below bB,be4.trans (bB.mono hws)⟩
 obtain⟨Bk,TI⟩:=aI w6.heap.size;rw[TI]at hS⊢;have OC:J<Bk:=by omega
 clear k5 hL4 hd4 be4 hNw TG yG oB hb6 k7 g7 z7 XW hws Hy bB0 bB hJ5 TI kC;have hP1:=HP.out.one HJ.out;have ok0:=Zd hP1;have hG:=hS.bL.gK hS.key hS.qX (ahZ ok0 hP1 hbb.2);have TN:=ax (au9 hbb.1 W7 b0 hG hS.key hS.qX);have AZ:=ax hP1;have kB:=hS.kB;have ax3:=ax ((HP.out.jn j (List.mem_of_getElem? HJ.out)).n1);clear hP1 hG
 go_upto_region 7 with(first|(refine gy kB l_ eP ?_)|(go_at_call 16;(with_reducible refine(TN.out).mono ?_);rintro e w8 ⟨b1,rfl,zH,tq,TV,hb8⟩;(have Pj:=kB.below hb8 kB.lt))|(refine dw b1.cs Pj eP ?_;intro W9 k9 g9 z9))
 have hS9:=(hS.below hb8).store (TV.mono hS.be.size) zH.out tq.out g9 k9 aj aj aj aj (TW.out Bk aj);have ax4:=ax ok0;clear hS TN kB Pj zH tq TV hb8 k9 g9 z9 ok0
 go_wp2_with fail
 go_loopw [9,10] (fun s9 s10 wr=> ∃(i:Nat) (lt:Bool) (kk:Nat) (K:dJ) (b:Bx),s10=ae i∧s9= .bool lt∧i≤40∧CJ w w.heap.size ⟨a1,c1,l1⟩ C J Bk cf js gs M (gJ (some ⟨jb,0,none⟩) 1 cf.jc cf.ga cf.gn cf.gc cf.per cf.cap cf.hold cf.lock) j kk K (ig n) b wr∧Hid (Ib cf.one j gs i lt K)) (fun _ s10 _=>40 -(intOf s10).toNat)
 case atStart=>exact⟨0,false,k2,_,b1,rfl,rfl,by omega,hS9,ax (atV AZ.out)⟩
 case round=>
  clear hS9 ax4;obtain⟨i,lt,kk,K,b,rfl,rfl,hi,hS,HI⟩:=hrel
  go_upto_region 9 with fail
  go_cut [42] from 37 to 43 (fun s42 wx=>s42= .bool (decide (i<40) && !lt)∧wx=wr)
  case first=>
   by_cases hlt:i<40
   ·have ix:(i:Int)<40:=by omega
    cases lt
    ·exact Y5
    ·exact Y5
   ·have ix: ¬ (i:Int)<40:=by omega
    exact Y5
  case rest=>
   obtain⟨rfl,rfl⟩:=hcut;cases hq:(decide (i<40) && !lt)
   ·clear hq;cases lt
    ·go_wp2_with (go_at_call 20;(with_reducible refine(ahA _).mono ?_);rintro e w20 ⟨rfl,abJ⟩)
     go_ret;exact⟨rfl,hS.be.trans (abJ.mono hS.be.size)⟩
    ·go_wp2_with (go_at_call 12;(with_reducible refine(aqB ajn 20 _ ay ay).mono ?_);rintro e w20 ⟨r,rfl,r0,r1,rfl⟩)
     obtain⟨r,rfl⟩:=Int.eq_ofNat_of_zero_le r0
     go_loopw [80] (fun s80 wr=> ∃(t i2:Nat) (K:dJ) (b:Bx),s80=ae t∧t≤r∧i2≤100+t∧CJ w w.heap.size ⟨a1,c1,l1⟩ C J Bk cf js gs M (gJ (some ⟨jb,0,none⟩) 1 cf.jc cf.ga cf.gn cf.gc cf.per cf.cap cf.hold cf.lock) j kk K (ig n) b wr∧Hid (Ib cf.one j gs i2 true K)) (fun s80 _=>r -(intOf s80).toNat)
     case atStart=>exact⟨0,i,K,b,rfl,by omega,by omega,hS,HI⟩
     case round=>
      clear hS HI;obtain⟨t,i2,K2,b2,rfl,ht,hi2,hS,HI⟩:=hrel;by_cases hlt:t<r
      ·have ix:(t:Int)<(r:Int):=by omega
       have hG:=hS.bL.gK hS.key hS.qX (Qw HI.out.ok AZ.out hbb.2);have TY:=ax (ah0 AZ.out HI.out.toFY aj n hbb.1 wr b2 hG hS.key hS.qX (hS.cfg.c1 HP.out HJ.out));have kB:=hS.kB;obtain⟨lt',hI2,⟨v',hv',hvl⟩,hle⟩:=HI.out.toFY.day AZ.out;obtain rfl:lt'=true:=hle rfl;have HI2:=ax hI2;clear hI2 hG hle
       go_upto_region 21 with(first|(refine gy kB l_ eP ?_)|(go_at_call 16;(with_reducible refine(TY.out).mono ?_);rintro e w13 ⟨b3,outs,oa,oc,fd,rfl,D9,FI,FX, -,yE,oI3, -,oF3,DI⟩;(have Ri:=kB.below DI kB.lt))|(refine dw b3.cs Ri eP ?_;intro W14 k14 g14 z14))
       have DR:=(hS.below DI).store (FX.mono hS.be.size) D9.out FI.out g14 k14 aj aj aj aj (TW.out Bk aj);obtain⟨x,vg,vc, -, -,y0,y1, -, -,yl⟩:=ZX DR.bL DR.kB (by rw[DR.key];exact hv');rw[hvl]at y1;have HVL:=ax hvl;have yB:=DR.kB.lt;clear hS TY kB D9 FI FX yE oI3 oF3 DI Ri k14 g14 z14 hvl hv' HI
       go_wp2_with fail
       go_roundw
       case rel=>exact⟨t+1,i2+1,_,_,by go_num,by omega,by omega,DR,HI2⟩
       case measure=>simp[intOf];omega
      ·obtain rfl:t=r:=by omega
       obtain⟨a,ha⟩: ∃a,gs[0]?=some a:=⟨gs[0]' UH,by simp⟩;have hga:=HN.out.gn 0 UH;have hg0:gs[0]' UH=a:=by have:=ha;rw[d_ UH]at this;injection this
       rw[hg0]at hga;have hG:=hS.bL.gK hS.key hS.qX (Qw HI.out.ok AZ.out hbb.2);have h8:a.sec.length=8:=(HP.out.gn a (List.mem_of_getElem? ha)).2;obtain⟨T,hTT⟩:=aI (uZ 0 0 a.sec);have HTl:=ax (fun V (hV:Below wr.heap.size wr V) (x:Mx) (hx:Hg V x) (hxm:x.m=⟨11,T,[0],[]⟩)=>arn AZ.out ha (by rw[hga.rt];decide) HI.out aj n hbb.1 V b2 (hG.below hV aA) hS.key hS.qX ((hS.cfg.below hV aA).c1 HP.out HJ.out) x hx (by rw[hTT];exact hxm));have rowA:=hS.cfg.ar;obtain⟨gg,hgg,gg1,gg2⟩:=rowA.open_ HN.out.n2.1;rw[hgg]at rowA;have hgs:gs=a::gs.drop 1:=by
        cases gs with
        |nil=>simp at ha
        |cons y l=>simp at ha;subst ha;rfl
       have cA:wr.cell? ⟨gg,0,none⟩=some (.slice a.sa 8 a.sc):=by
        have:=rowA.cell 0 (by rw[oZ IE];have:=HN.out.n2.1;omega);rw[this];congr 1;have e:(gC Ax.cells gs)[0]?=some (.slice a.sa a.sec.length a.sc):=by rw[hgs];rfl
        rw[d_ (by rw[oZ IE];have:=HN.out.n2.1;omega)]at e;injection e with e
        rw[e,h8]
       have yZ:bI wr a.sa a.sec:=((hS.cfg.mem.gs a (List.mem_of_getElem? ha)).sec).dL;have hgn:(0:Int)<(cf.gn:Int):=by have:=HN.out.hg;have:=HN.out.n2.1;omega
       have aCe:0<cf.gn:=by omega
       have kC:=hS.kC;have kB:=hS.kB;have eF:ah wr C 28 #[.slice (some ⟨jb,0,none⟩) 1 cf.jc,.slice (some ⟨gg,0,none⟩) cf.gn cf.gc,ae cf.per,ae cf.cap,ae cf.hold,ae cf.lock]:=by rw[←hgg];exact kC
       have H8:=ax h8;have HTT:=ax hTT;clear hga hg0 h8 hTT hgs hgg rowA
       go_upto_region 24 with fail
       apply uG [] 19 160 [some 105,some 106,some 107,some 108,some 109,some 110,some 111,some 112,some 113,some 114,some 104,some 115,some 116,some 117,some 11,some 12,none,none,some 13] [⟨[],[],[],[]⟩,⟨[],[],[],[]⟩,⟨[1],[1],[1],[]⟩,⟨[1,2],[2],[2],[]⟩,⟨[1,2,3],[3],[3],[]⟩,⟨[1,2,3,4],[4],[4],[]⟩,⟨[1,2,3,4,5],[5],[5],[]⟩,⟨[],[],[],[]⟩,⟨[1,2,3,4,5,6,7],[6,7],[6,7],[]⟩,⟨[0,1,2,3,4,5,6,7,8],[0,6,7,8],[0,6,7,8],[]⟩,⟨[0,1,2,3,4,5,6,7,8,9],[9],[9],[]⟩,⟨[0,1,2,3,4,5,6,7,8,9,10],[9,10],[9,10],[]⟩,⟨[0,1,2,3,4,5,6,7,8,9,10],[9,10],[9,10],[]⟩,⟨[0,1,2,3,4,5,6,7,8,9,10],[9,10],[9,10],[]⟩,⟨[],[],[],[]⟩,⟨[],[],[],[]⟩,⟨[0,1,2,3,4,5,6,7,8,9,10,11,14,15],[9,10,11,14],[9,10,11,14],[14]⟩,⟨[0,1,2,3,4,5,6,7,8,9,10,11,12,14,15,16],[9,10,12,15],[9,10,12,15],[15]⟩,⟨[0,1,2,3,4,5,6,7,8,9,10,11,12,13,14,15,16,17],[13],[13],[]⟩] [0,1,2,3,4,5,6,7,8,9,10,11,12,13,14,15,16,17,18] [10,9,13,16,17,18] [bC,bC,bC,bC,bC,bC,(fun f lo hi v b0 b1 W=> ∃xa xc,v= .slice xa T.length xc∧Own W b0 5 1 xa T.length xc (T.map a_)∧∀y,xa.map (·.block)=some y→y<b1),(fun f lo hi v b0 b1 W=> ∃q,v= .slice (some ⟨q,0,none⟩) 1 1∧b0=q∧b1=q+1∧ah W q 3 #[ae 0]),(fun f lo hi v b0 b1 W=>v= .agg #[ae 11,f 6,f 7,.slice none 0 0]),(fun f lo hi v b0 b1 W=>Rh (rK [j] K2) n ⟨14,[],[11,0],[]⟩ v b0 b1 W),(fun f _ _ v _ _ _=>v=f 9),(fun f lo hi v b0 b1 W=> ∃x y,f 10= .tuple #[v,x,y]),(fun f lo hi v b0 b1 W=> ∃x y,f 10= .tuple #[x,v,y]),(fun f lo hi v b0 b1 W=> ∃x y,f 10= .tuple #[x,y,v]),(fun f lo hi v b0 b1 W=>v= .pointer (some ⟨b0,0,none⟩)∧b1=b0+1∧ah W b0 48 je),(fun f lo hi v b0 b1 W=>v= .pointer (some ⟨b0,0,none⟩)∧b1=b0+1∧ah W b0 36 xH),(fun f lo hi v b0 b1 W=>f 14= .pointer (some ⟨lo 14,0,none⟩)∧hi 14=lo 14+1∧∃(b:Bx) (x y:Value),f 9= .tuple #[.agg b.cs,x,y]∧ah W (lo 14) 48 b.cs),(fun f lo hi v b0 b1 W=>f 15= .pointer (some ⟨lo 15,0,none⟩)∧hi 15=lo 15+1∧∃(m:Mx) (x y:Value),f 9= .tuple #[x,.agg (Mx.cells m).toArray,y]∧ah W (lo 15) 36 (Mx.cells m).toArray),(fun f _ _ v _ _ _=>v=f 13)] [bG _,bG _,bG _,bG _,bG _,bG _,dM,dM,dM,dM,dM,dM,dM,dM,dM,dM,dM,dM,dM]
       ·kernel_rfl
       ·kernel_rfl
       ·rfl
       ·rfl
       ·exact trivial
       ·exact trivial
       refine⟨?pX,?pY,?p_,?qh,?qi,?qj,?qm,?rF,?vN,?xW,?z_,?Dl,?Gm,?Qu,?Qv,?avX,?avY,?avZ,?av1,trivial⟩
       all_goals try(intro f lo hi w hb hx hf hk hrg R hR;(try replace hb:=fH.zero hb);(try simp(decide:=true) only[go_sem]at hf hk))
       case pX=>
        refine arP Bk b2.cs ?_ (kB.below hb kB.lt) 14 rfl l_ eP ?_
        ·go_simp
        ·exact hR _ _ (bK rfl rfl bD rfl)
       case pY=>go_simp;exact hR _ _ (bK rfl rfl bD rfl)
       case p_=>
        have kk:=(eF.below hb eF.lt).cell 1;go_simp;exact hR _ _ (bK rfl rfl bD rfl)
       case qh|qi=>go_simp;exact hR _ _ (bK rfl rfl bD rfl)
       case qj=>
        have kk:=(hb.cell (p:=⟨gg,0,none⟩) gg2).trans cA;go_simp;exact hR _ _ (bK rfl rfl bD rfl)
       case qm=>
        go_simp
        (with_reducible refine(apR 0 0 a.sa 8 a.sc a.sec _ (yZ.below hb aA) H8.out.symm ay).mono ?_)
        rintro e w' ⟨xa,N,xc,rfl,hN, -,own,hb'⟩;have hN:=hN.out;rw[HTT.out]at hN own;subst hN;refine⟨_,rfl,hR _ _ (iU rfl hb' ?_)⟩
        (try simp(decide:=true) only[go_sem])
        exact⟨xa,xc,rfl,own,own.lt'⟩
       case rF=>
        go_simp;refine hR _ _ (iU rfl bel ?_)
        (try simp(decide:=true) only[go_sem])
        exact⟨_,rfl,rfl,by simp,ah.new _ _ _⟩
       case vN=>
        obtain⟨⟨xa,xc,h6, -⟩,q,h7, -⟩:=hf;go_simp;refine hR _ _ (iU rfl bD ?_)
        (try simp(decide:=true) only[go_sem])
        simp[h6,h7]
       case xW=>
        obtain⟨⟨xa,xc,h6,o6,l6⟩,⟨q,h7,q1,q2,k7⟩,h8⟩:=hf;rw[h6,h7]at h8;go_simp;refine(HTl.out _ hb ⟨⟨11,T,[0],[]⟩,xa,xc,some ⟨q,0,none⟩,1,none,0⟩ ⟨o6.dL,.inr ⟨q,0,rfl,k7.lt,fun i hi=>?_⟩,bI.nil _ _,fun e=>?_,?_⟩ rfl).mono ?_
        ·obtain rfl:i=0:=by have hi:i<1:=hi;omega
         exact k7.cell 0
        ·exact o6.Qc e
        ·have:=Vq 0 0 a.sec;rw[HTT.out,H8.out]at this;refine⟨?_,?_,?_⟩
         ·show T.length≤_;omega
         ·simp
         ·simp
        rintro e w' ⟨bb,y,rfl,k1,k2,k3,oB,oX,hb'⟩;refine⟨_,rfl,hR _ _ (iU rfl hb' ?_)⟩
        (try simp(decide:=true) only[go_sem])
        exact⟨bb,y,w',rfl,k1,k2,k3,oB,oX,Nat.le_refl _,fun _ _ _=>rfl⟩
       case z_=>go_simp;exact hR _ _ (iU rfl bD rfl)
       case Dl=>
        obtain⟨⟨bb,y,U,h9, -⟩,h10⟩:=hf;rw[h9]at h10;go_simp;refine hR _ _ (iU rfl bD ?_)
        (try simp(decide:=true) only[go_sem])
        exact⟨_,_,h10⟩
       case Gm=>
        obtain⟨⟨bb,y,U,h9, -⟩,h10⟩:=hf;rw[h9]at h10;go_simp;refine hR _ _ (iU rfl bD ?_)
        (try simp(decide:=true) only[go_sem])
        exact⟨_,_,h10⟩
       case Qu=>
        obtain⟨⟨bb,y,U,h9, -⟩,h10⟩:=hf;rw[h9]at h10;go_simp;refine hR _ _ (iU rfl bD ?_)
        (try simp(decide:=true) only[go_sem])
        exact⟨_,_,h10⟩
       case Qv=>
        go_simp;refine hR _ _ (iU rfl bel ?_)
        (try simp(decide:=true) only[go_sem])
        exact⟨by simp,ah.new _ _ _⟩
       case avX=>
        go_simp;refine hR _ _ (iU rfl bel ?_)
        (try simp(decide:=true) only[go_sem])
        exact⟨by simp,ah.new _ _ _⟩
       case avY=>
        obtain⟨⟨bb,y,U,h9, -⟩,h10,⟨x1,x2,h11⟩,FD,Oe,k14⟩:=hf;rw[h10,h9]at h11;simp only[Value.tuple.injEq,Array.mk.injEq,List.cons.injEq,and_true]at h11;have e11:=h11.1.symm;clear h11;refine Za (lo 14) _ bb.cs ?_ ?_ k14 14 rfl rfl eP rfl fun W' kw gw=>?_
        ·go_simp
        ·go_simp
        refine hR _ _ (vH rfl rfl (A_ gw (dU.2 rfl) rfl Oe) ?_)
        (try simp(decide:=true) only[go_sem])
        exact⟨FD,Oe,bb,_,_,h9,kw⟩
       case avZ=>
        obtain⟨⟨bb,y,U,h9, -⟩,h10,⟨x1,x2,h11⟩,FD,Oe,k14⟩:=hf;rw[h10,h9]at h11;simp only[Value.tuple.injEq,Array.mk.injEq,List.cons.injEq,and_true]at h11;have e11:=h11.2.1.symm;clear h11;refine Za (lo 15) _ (Mx.cells y).toArray ?_ ?_ k14 4 rfl rfl lZ rfl fun W' kw gw=>?_
        ·go_simp
        ·go_simp
        refine hR _ _ (vH rfl rfl (A_ gw (dU.2 rfl) rfl Oe) ?_)
        (try simp(decide:=true) only[go_sem])
        exact⟨FD,Oe,y,_,_,h9,kw⟩
       case av1=>go_simp;exact hR _ _ (iU rfl bD rfl)
       case hcl=>
        refine⟨bH,bH,bH,bH,bH,bH,?VJ,?NK,?NL,?ajg,?Vz,?VA,?VD,?aiV,?aBK,?aBL,?aBM,?aBN,?aBO,trivial⟩
        all_goals first
         |exact fun f lo hi v b0 b1 w w' h hs hB hown hU hX=>by
           obtain⟨xa,xc,h1,own,lt⟩:=h;exact⟨xa,xc,h1,own.keep fun b hb hl _=>hown b hl (lt b Nj),lt⟩
         |exact fun f lo hi v b0 b1 w w' h hs hB hown hU hX=>by
           obtain⟨q,h1,h2,h3,k⟩:=h;exact⟨q,h1,h2,h3,(hown q aj aj).trans k⟩
         |exact fun f lo hi v b0 b1 w w' h hs hB hown hU hX=>Rh.closed h hown
         |exact fun f lo hi v b0 b1 w w' h hs hB hown hU hX=>by
           obtain⟨h1,h2,k⟩:=h;exact⟨h1,h2,(hown b0 aj aj).trans k⟩
         |exact fun f lo hi v b0 b1 w w' h hs hB hown hU hX=>by
           obtain⟨h1,h2,b,x,y,h3,k⟩:=h;exact⟨h1,h2,b,x,y,h3,(hU _ aF _ aA aj).trans k⟩
         |exact fun _ _ _ _ _ _ _ _ h _ _ _ _ _=>h
       intro f lo hi W7 hbr hx hf hk hrg;(try replace hbr:=fH.zero hbr);clear hx;(try simp(decide:=true) only[go_sem]at hf hk);obtain⟨h10,⟨bb,y,U,h9,JJ,Tc,O3,AX,yI,hU1,hU2⟩,⟨x1,x2,h11⟩,⟨e14,Oe,b',x3,x4,h9b,k14⟩,⟨e15,aCf,m',x5,x6,h9c,k15⟩,h18⟩:=hf;rw[h10,h9]at h11;rw[h9]at h9b h9c;have ebb:=aiE (ZY h9b).1;have ey:=aiE (ZY h9c).2.1;have e13:=(ZY h11).2.2;rw[←e13]at h18;rw[←ebb]at k14;rw[←ey]at k15;clear h9 h9b h9c h10 h11 e13 ebb ey;have X8:ik W7 (lo 9) bb:=AX.jD (fun b h1 h2=>hU2 b h1 aj);obtain⟨⟨v,hv,hv1,hv2⟩, -⟩:=HI.out.reset AZ.out;have hv3:DV v:=(HI.out.rok AZ.out).ws v (by rw[hv];simp);obtain⟨x,vg,vc, -,hvk,WS,y0,y2,oCs,yl⟩:=ZX X8 k14 (by rw[JJ.out];exact hv);have hx8:x.cs.length≤8:=by have:=hv3.1;rw[←hvk]at this;exact this
       have hx0:0<j.s→∀c∈x.cs,c=0:=fun h0 c hc=>hv2 h0 c (by rw[←hvk];exact hc);rw[hv1]at y0;have LV:=hS.kJ.below hbr hS.kJ.lt;have uS:=hS.be.trans (hbr.mono hS.be.size);have z0:=k15.cell 0;have z0':W7.cell? ⟨lo 15,0,none⟩=some (ae 14):=by rw[z0];simp[Mx.cells,O3.out]
       have j2:W7.cell? ⟨J,2,none⟩=some (ae j.s):=LV.cell 2;have l14:=k14.lt;have l15:=k15.lt;go_simp;clear hk hrg hbr z0 O3
       go_wp2_with fail
       go_loopw [147] (fun abK wr=> ∃t:Nat,abK=ae t∧t≤x.cs.length∧wr=W7) (fun abK _=>x.cs.length -(intOf abK).toNat)
       case atStart=>exact⟨0,rfl,by omega,rfl⟩
       case round=>
        obtain⟨t,rfl,ht,rfl⟩:=hrel;by_cases hlt:t<x.cs.length
        ·have ix:(t:Int)<(x.cs.length:Int):=by omega
         obtain⟨cb,off,hca,hcb,ct⟩: ∃cb off,x.ca=some ⟨cb,off,none⟩∧cb<wr.heap.size∧wr.cell? ⟨cb,off+t,none⟩=some (ae (x.cs[t])):=by
          rcases oCs.row with h0|⟨cb,off,hca,hcb,hc⟩
          ·have:=congrArg List.length h0;simp at this;rw[this]at hlt;simp at hlt
          ·have:=hc t (by simpa using hlt);rw[List.getElem_map]at this;exact⟨cb,off,hca,hcb,this⟩
         rw[hca]at y2⊢;have hc0:=hx0;by_cases hs:0<j.s
         ·have e0:=hx0 hs _ (bF hlt);rw[e0]at ct;exact agB
         ·exact agB
        ·obtain rfl:t=x.cs.length:=by omega
         go_wp2_with (go_at_call 20;(with_reducible refine(ahA _).mono ?_);rintro e w20 ⟨rfl,abJ⟩)
         go_ret;exact⟨rfl,uS.trans (abJ.mono uS.size)⟩
   ·obtain⟨hlt,hlf⟩:i<40∧lt=false:=by simpa using hq
    subst hlf;clear hq;have kJ:=hS.kJ;have kB:=hS.kB;have AB:=ax3.out;have hSt:=ax (fun(q:Nat) (hq:q<j.ps.length) V (hcV:wS V w.heap.size M cf js gs) (hGV:qI V b)=>atW AZ.out HI.out.toFY n hbb.1 q hq V b hGV hS.key hS.qX (hcV.c1 HP.out HJ.out))
    go_upto_region 11 with fail
    have pK:ah wc J 69 #[.slice (some ⟨j.pb,0,none⟩) j.ps.length j.pc,.slice (some ⟨j.cb,0,none⟩) j.ps.length j.cc,ae j.s]:=kJ
    ((haveI:Nonempty (wR (Kn2 Bk 48 b.cs J 69 #[.slice (some ⟨j.pb,0,none⟩) j.ps.length j.pc,.slice (some ⟨j.cb,0,none⟩) j.ps.length j.cc,ae j.s])):=⟨⟨wc,⟨kB,pK⟩⟩⟩);refine an1 12 [12] [] [(8,[]),(9,[]),(10,[]),(11,[])] [([(0,[]),(1,[]),(2,[]),(3,[]),(4,[])],5),([(6,[])],7)] bP bP (fun w'=> ∃p:wR (Kn2 Bk 48 b.cs J 69 #[.slice (some ⟨j.pb,0,none⟩) j.ps.length j.pc,.slice (some ⟨j.cb,0,none⟩) j.ps.length j.cc,ae j.s]),w'=p.w) ⟨⟨(wc).drew,⟨kB,pK⟩⟩,rfl⟩ ?_;refine m_ ?_)
    (refine lS fun K hK=>?_;(try refine dF ?_);(repeat(first|(refine gI rfl 48 _ rfl _ _ rfl (fun|_,⟨p,rfl⟩=>wC p.h.1 48 l_ eP) ?_;refine dF ?_)|(refine gI rfl 67 _ rfl _ _ rfl (fun|_,⟨p,rfl⟩=>Vp (p.h.2.cell 0) underlying67) ?_;refine dF ?_)|go_big_quiet_step (fail)));refine wpQuiet_nil ?_);have XU:dQ wc.drew w.heap.size ⟨a1,c1,l1⟩ kk:=hS.dk
    go_wp2_with (go_at_call 25;(with_reducible refine(vI w.heap.size (j.ps.length:Int) _ ⟨a1,c1,l1⟩ kk XU aj aj).mono ?_);rintro e w10 ⟨v,rfl,v0,v1, -,hd10,g10⟩;(try simp only[Int.zero_add]))
    have g10:wc.grownBy w10 (some w.heap.size):=⟨g10.os,g10.tape,g10.output,g10.size,g10.block⟩;have Je:=hS.rU g10 hd10 aA aj aj aj;have Wy:=pK.grown g10 aj;refine qJ ⟨⟨w10,Je.kB,Wy⟩,rfl⟩ (hK _ _ ?_);clear hK K;obtain⟨q,rfl⟩:=Int.eq_ofNat_of_zero_le v0;have akx:=Je.bL.gK Je.key Je.qX (Qw HI.out.ok AZ.out hbb.2);(refine lS fun K hK=>?_;(try refine dF ?_);(repeat(first|go_big_quiet_step (fail)));refine wpQuiet_nil ?_)
    go_wp2_with (go_at_call 16;(with_reducible refine(hSt.out q aj _ Je.cfg akx).mono ?_);rintro e w11 ⟨b2,rfl,Sv,HS2,oB2,abL⟩)
    have WA:=Je.below abL;have aky:=Wy.below abL Wy.lt;refine qJ ⟨⟨w11,WA.kB,aky⟩,rfl⟩ (hK _ _ ?_);clear hK K;(refine yR ?_;(try refine dF ?_);(repeat(first|go_big_quiet_step (fail)));refine wpQuiet_nil ?_);have akz:=WA.kB
    go_upto_region 12 with(refine dw b2.cs akz eP ?_;intro W12 k12 g12 z12)
    have E_:=WA.store (oB2.mono Je.be.size) Sv.out HS2.out g12 k12 aj aj aj aj (TW.out Bk aj);have HJ2:=ax (HI.out.toFY.stuck q);clear hS kJ kB pK XU hSt hd10 g10 Je Wy akx Sv HS2 oB2 abL WA aky akz k12 g12 z12;have akA:=E_.bL.gK E_.key E_.qX (Qw HJ2.out.ok AZ.out hbb.2);have TY:=ax (ah0 AZ.out HJ2.out aj n hbb.1 W12 b2 akA E_.key E_.qX (E_.cfg.c1 HP.out HJ.out));have kB:=E_.kB;obtain⟨lt',hI2,⟨v',hv',hvl⟩, -⟩:=HJ2.out.day AZ.out;have HI2:=ax hI2;clear hI2 akA
    go_upto_region 13 with(first|(refine gy kB l_ eP ?_)|(go_at_call 16;(with_reducible refine(TY.out).mono ?_);rintro e w13 ⟨b3,outs,oa,oc,fd,rfl,D9,FI,FX, -,yE,oI3, -,oF3,DI⟩;(have Ri:=kB.below DI kB.lt))|(refine dw b3.cs Ri eP ?_;intro W14 k14 g14 z14))
    have DR:=(E_.below DI).store (FX.mono E_.be.size) D9.out FI.out g14 k14 aj aj aj aj (TW.out Bk aj);obtain⟨x,vg,vc, -, -,y0,y1, -, -,yl⟩:=ZX DR.bL DR.kB (by rw[DR.key];exact hv');rw[hvl]at y1;have HVL:=ax hvl;have yB:=DR.kB.lt;clear E_ TY kB D9 FI FX yE oI3 oF3 DI Ri k14 g14 z14 hvl hv' HJ2
    go_wp2_with fail
    go_roundw
    case rel=>exact⟨i+1,lt',_,_,_,by go_num,rfl,by omega,DR,HI2⟩
    case measure=>simp[intOf];omega
end Go.Proofs.YtiffpjamngklhaaGreat
