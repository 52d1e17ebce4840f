/- Lemmas, part 17. -/
import Derived.Test.YtiffpjamngklhaaGreatP16
namespace Go.Proofs.YtiffpjamngklhaaGreat
set_option linter.all false
set_option maxRecDepth 100000
set_option maxHeartbeats 16000000
open Go.RowKit Tryz
open Go.Sort hiding Below
section
open Go.RowKit Go.Sort Go.Shelf
attribute [local go_sem] Oper.semAt_some
def QG(K:dJ)(Sa:List (List aU))(Fd:List aU)(w:ak)(e:Ending)(w':ak):Prop:=
 ∃(c:Cx) (rows:List Rw) (sa:az) (sc:Nat) (fd:Rw),e= .returned (.tuple #[c.val,.agg #[.slice sa rows.length sc,.slice fd.a fd.ms.length fd.c]])∧Hid (c.key=K)∧Hid (rows.map Rw.key=Sa)∧Hid (fd.key=Fd)∧dE w' w.heap.size c∧Own w' w.heap.size 58 1 sa rows.length sc (gC Rw.cells rows)∧(∀r∈rows,jm w' w.heap.size r)∧jm w' w.heap.size fd∧Below w.heap.size w w'
def Du(ins:List Ix)(gs:List Ax)(Ms:Nat→List aU)(St:Nat→aU)(i x:Nat):List aU:=
 if(ins.getD ((iE (gs.take i)).toNat+x) xx).op then(if x=0 then Ms i else [])++ [St i]else []
def uD(gs:List Ax)(i:Nat):Nat:=((gs.map Ax.se).getD i 0).toNat
def Bv(ins:List Ix)(gs:List Ax)(Ms:Nat→List aU)(St:Nat→aU)(i:Nat):List (List aU):=
 (List.range i).flatMap fun i=>(List.range (uD gs i)).map fun x=>Du ins gs Ms St i x
def O1(ins:List Ix)(gs:List Ax)(Ms:Nat→List aU)(St:Nat→aU)(w6:ak)(U Bm i:Nat)(pre:b_)(W:ak):Prop:=
 ∃(rows:List Rw) (qa:az) (qc:Nat),rows.length≤2*i+pre.length∧vz w6 U Bm (Bv ins gs Ms St i++pre.map fun x=>Du ins gs Ms St i x) rows qa qc W
theorem O1.snoc{ins:List Ix}{gs:List Ax}{Ms:Nat→List aU}{St:Nat→aU}{w6:ak}{U Bm i:Nat}{pre:b_}{x:Nat}{rows:List Rw}{r:Rw}{A2:az}{c2:Nat}{W:ak}(hl:rows.length≤2*i+pre.length)(hr:r.key=Du ins gs Ms St i x)
  (h:vz w6 U Bm (Bv ins gs Ms St i++(pre.map fun x=>Du ins gs Ms St i x)++ [r.key]) (rows++ [r]) A2 c2 W):O1 ins gs Ms St w6 U Bm i (pre++ [x]) W:=by
 refine⟨rows++ [r],A2,c2,by simp only[dP,List.length_singleton];omega,?_⟩;rw[jg,←uM];simp only[mF,oH,←hr];exact h
theorem ahT{α:Type}(f:Nat→List α)(h: ∀i,1≤i→f i= []): ∀n,1≤n→(List.range n).flatMap f=f 0
 |1,_=>by simp
 |n+2,_=>by rw[Qa,ahT f h (n+1) aj,h (n+1) aj,iK]
theorem aq5(c:Cx)(js:List Jx)(gs:List Ax)(ins:List Ix)(ia:az)(ic nd n:Nat)(w:ak)(h:xU w c)(hrf:c.ref=false)(BK:0≤c.now∧c.now≤1000000)(hcf:rM w c.cf js gs)
  (hin:Sl w 160 2 ia ins.length ic (gC Ix.cells ins)) (hii: ∀x∈ins,AP w x) (hnd:c.ds.length=nd) (hgd:gs.length=nd) (hn:js.length=n) (l1:c.ss.length=n) (l2:c.vs.length=n) (l3:c.st.length=n) (l4:c.ws.length=n)
  (hrg: ∀d∈c.key.ds,Xy d.r) (hbs: ∀d∈c.key.ds,(eY d (c.now+1)).Small)
  (T1:List dY) (Ms:Nat→List aU) (Es:Nat→List (Int × Int × Int)) (Rl:Nat→aO) (hT1:T1.length=nd) (hRl: ∀i,1≤i→Rl i= []) (hEs: ∀i,(Es i).length≤900) (hR0:(Rl 0).length≤900)
  (hT: ∀i (hi:i<c.key.ds.length) (hi1:i<T1.length) (hi2:i<gs.length) (W:ak) (d':Dx) (oa:az) (oc:Nat) (own:List Ix),Below w.heap.size w W→pq W d'→Hid (d'.key=eY c.key.ds[i] (c.now+1))→Hid (own=BJ ins (iE (gs.take i)).toNat (List.range gs[i].se.toNat))→Sl W 160 2 oa own.length oc (gC Ix.cells own)→(∀x∈own,AP W x)→
   aH 138 #[c.cf.val,d'.val,.slice oa own.length oc,ae (c.now+1)] W (KZ T1[i] own.length (Ms i) (Es i) (Rl i) W))
  (SR:Nat→List iG) (hS0:SR 0=c.key.ss) (hSR: ∀i (hi:i<(Rl 0).length),∃(j:Nat) (hj:j<js.length) (hs:j<(SR i).length),(Rl 0)[i]=j∧(SR i)[j].dB=true∧(SR i)[j].nx.length=2∧SR (i+1)=(SR i).set j (jV js[j]))
  (S1:List iG) (V1:List sK) (W1:List Vk) (m4:S1.length=n) (m5:V1.length=n) (m6:W1.length=n)
  (hW1: ∀i (h:i<js.length) (h4:i<S1.length) (h5:i<V1.length) (h6:i<W1.length),W1[i]=EW js[i] S1[i] V1[i])
  (hok: ∀i (h:i<js.length) (h':i<S1.length),SgV js[i] S1[i]) (hfew: ∀(i:Nat) k,k≤nd→(wF (T1.take k) i).length≤1000)
  (hD: ∀i (h:i<js.length) (h1:i<(SR (Rl 0).length).length) (h2:i<c.key.vs.length) (h3:i<c.key.st.length) (h4:i<S1.length) (h5:i<V1.length) (W:ak) (s:Sx) (v:Vc) (ca:az) (cn cc B':Nat),BI W js[i]→BF W s→vP W v→Hid (s.key=(SR (Rl 0).length)[i])→Hid (v.key=c.key.vs[i])→Own W B' 297 5 ca cn cc (eQ (wF T1 i))→Hid (cn=(wF T1 i).length)→
   aH 140 #[c.cf.val,js[i].val,s.val,v.val,.slice ca cn cc,ae c.key.st[i],ae (c.now+1)] W (SH S1[i] V1[i] W))
  (q:Nat→Nat) (St:Nat→aU) (hq: ∀i (hi:i<T1.length),T1[i].r.rq=q i∧q i≤1000∧(∀b∈T1[i].au,b=false)∧St i=EL T1[i].rs (q i) W1 (c.now+1)∧uB (St i)) (hMs: ∀i,(∀m∈Ms i,uB m)∧(Ms i).length≤900) (hOk: ∀v∈W1,DV v) (Hq:uB ⟨21,[],[c.now+1],bytesOf W1⟩)
  (hs1: ∀d∈T1,d.Small) (hs2: ∀i,∀s∈SR i,s.Small) (hs3: ∀s∈S1,s.Small) (hs4: ∀v∈V1,v.en.length≤1000) (hs5: ∀v∈W1,v.2.2.1.length≤1000∧v.2.2.2.length≤1000):
  aH 73 #[c.val,.slice ia ins.length ic] w (QG ⟨c.cf,false,c.now+1,T1,S1,V1,List.replicate n (-1),W1⟩ (Bv ins gs Ms St nd) [⟨21,[],[c.now+1],bytesOf W1⟩] w):=by
 obtain⟨⟨ja,jn,jc,ga,gn,gc,per,cap,hold,lock⟩,ref,now,ds,da,dc,ss,sa,sc,vs,va,vc,st,ta,tc,ws,wa,wz⟩:=c;simp only[Cx.key]at hrf BK hcf hnd l1 l2 l3 l4 hrg hbs hT hS0 hD hq Hq⊢;subst hrf;have hcj:n=jn:=hn.symm.trans hcf.hj.symm;have hcg:nd=gn:=hgd.symm.trans hcf.hg.symm;subst hcj;subst hcg;have n14:1≤n∧n≤4:=by have:=hcf.n1;omega
 have d14:1≤nd∧nd≤4:=by have:=hcf.n2;omega
 obtain⟨jb,jo,rfl,Ha⟩:=hcf.EU.open_ aj;obtain⟨gb,go,rfl,yD⟩:=hcf.grow.open_ aj;have HG:=ax h;have B_:=ax hcf;have JA:=ax hin;have HII:=ax hii;have zK:=ax hnd;have OY:=ax hgd;have HN:=ax hn;have HL2:=ax l2;have mJ:=ax l3;have HRG:=ax hrg;have OO:=ax hbs;have HT1:=ax hT1;have wU:=ax hRl;have XH:=ax hEs;have HR0:=ax hR0;have HT:=ax hT;have yG:=ax hS0;have HSR:=ax hSR;have O3:=ax m4;have HM5:=ax m5;have HM6:=ax m6;have HW1:=ax hW1;have jQ:=ax hok;have axy:=ax hfew;have HD:=ax hD;have HQ:=ax hq;have XD:=ax hMs;have R_:=ax hOk;have S_:=ax Hq;have tq:=ax hs1;have HS2:=ax hs2;have FI:=ax hs3;have Tc:=ax hs4;have JD:=ax hs5;have hval:(Cx.val ⟨⟨some ⟨jb,jo,none⟩,n,jc,some ⟨gb,go,none⟩,nd,gc,per,cap,hold,lock⟩,false,now,ds,da,dc,ss,sa,sc,vs,va,vc,st,ta,tc,ws,wa,wz⟩)= .agg (ed (some ⟨jb,jo,none⟩) n jc (some ⟨gb,go,none⟩) nd gc per cap hold lock false now da nd dc sa n sc va n vc ta n tc wa n wz):=by
  simp only[Cx.val,IZ,hnd,l1,l2,l3,l4]
 rw[hval];have qE:=fun W hb=>aeO ⟨some ⟨jb,jo,none⟩,n,jc,some ⟨gb,go,none⟩,nd,gc,per,cap,hold,lock⟩ false now ds da dc ss sa sc vs va vc st ta tc ws wa wz nd n W ((HG.out.below (B:=w.heap.size) (w':=W) hb aA)) hnd l1 l2 l3 l4;have vT:=ax qE;clear h hcf hin hii hnd hgd hn l1 l2 l3 l4 hrg hbs hT1 hRl hEs hR0 hT hS0 hSR m4 m5 m6 hW1 hok hfew hD hq hMs hOk Hq hs1 hs2 hs3 hs4 hs5 hval qE;refine callsIn_wide.1 (callsIn_of_wp_marks (n:=6) func73 rfl trivial (wpIn_wide.2 ?_) rfl);simp only[ntmps73,List.size_toArray,jJ,List.length_nil,Nat.reduceAdd,Nat.reduceSub,Array.replicate_succ,Array.replicate_zero,List.push_toArray,List.append_toArray,List.nil_append,List.cons_append]
 go_upto_region 1 with fail
 obtain⟨R,hR⟩:=aI w.heap.size;refine aW (fun W=>ah W R 45 (ed (some ⟨jb,jo,none⟩) n jc (some ⟨gb,go,none⟩) nd gc per cap hold lock false now da nd dc sa n sc va n vc ta n tc wa n wz)∧ah W (R+1) 158 #[.slice ia ins.length ic]∧ah W (R+1+1) 45 uA∧ah W (R+1+1+1) 165 #[.slice none 0 0,.slice none 0 0]∧Below w.heap.size w W) ⟨by rw[←hR];exact(((ah.new _ _ _).alloc _).alloc _).alloc _,by rw[←hR];exact((ah.dG _ _ _ _).alloc _).alloc _,by rw[←hR];exact(mr (ah.new _ _ _) aF).alloc _,by rw[←hR];exact mr (ah.new _ _ _) aF,bel⟩ ?_;have HR:=ax hR;have fQ:w.heap.size≤R:=by omega
 rw[hR];clear hR;rintro W ⟨kR,kI,kO,kS,be⟩;have be:Below w.heap.size w W:=by rw[HR.out];exact be
 go_upto_region 2 with(first|(refine gy kR vG nK ?_)|(go_at_call 69;(with_reducible refine(vT.out W be).mono ?_);rintro e w1 ⟨ds1,iO,iP,Ec,sa1,fC,vs1,fE,fF,gQ,fO,Ci,pM,pO,rfl,zH,HLn,oC,hb1⟩;(have nH:=kR.below hb1 kR.lt))|(refine dw (ed (some ⟨jb,jo,none⟩) n jc (some ⟨gb,go,none⟩) nd gc per cap hold lock false now iO nd iP sa1 n fC fE n fF gQ n fO pM n pO) nH nK ?_;intro W2 kw gw zw))
 have hWs:=be.size;refine aW (fun Y=>ah Y R 45 (ed (some ⟨jb,jo,none⟩) n jc (some ⟨gb,go,none⟩) nd gc per cap hold lock false now iO nd iP sa1 n fC fE n fF gQ n fO pM n pO)∧ah Y (R+1) 158 #[.slice ia ins.length ic]∧ah Y (R+1+1) 45 uA∧ah Y (R+1+1+1) 165 #[.slice none 0 0,.slice none 0 0]∧dE Y w.heap.size ⟨⟨some ⟨jb,jo,none⟩,n,jc,some ⟨gb,go,none⟩,nd,gc,per,cap,hold,lock⟩,false,now,ds1,iO,iP,Ec,sa1,fC,vs1,fE,fF,st,gQ,fO,Ci,pM,pO⟩∧Below w.heap.size w Y)
  ⟨kw,(kI.below hb1 kI.lt).aB gw aF,(kO.below hb1 kO.lt).aB gw cu,(kS.below hb1 kS.lt).aB gw cu,(oC.mono hWs).aG gw nH ay,(be.trans (hb1.mono hWs)).aB gw (dA hWs hb1.size) bQ⟩ ?_
 clear kR kI kO kS be hb1 nH oC kw gw zw hWs vT;rintro Y ⟨kR,kI,kO,kS,cl,be⟩;have hmn:(if now<1073741823 then now else 1073741823)=now:=if_pos aj;(obtain⟨x0,x1,x2,x3,x4,x5,x6,x7,x8,x9,x10,x11,x12,xf,xl⟩:=kR.n13)
 go_upto_region 3 with fail
 (clear x0 x1 x2 x3 x4 x5 x6 x7 x8 x9 x10 x11 x12 xf xl);clear hmn;have gR:=grownBy_set Y R 7 (ae (now+1));have j_:=kR.upd 7 (ae (now+1));refine aW (fun Y=>ah Y R 45 (ed (some ⟨jb,jo,none⟩) n jc (some ⟨gb,go,none⟩) nd gc per cap hold lock false (now+1) iO nd iP sa1 n fC fE n fF gQ n fO pM n pO)∧ah Y (R+1) 158 #[.slice ia ins.length ic]∧ah Y (R+1+1) 45 uA∧ah Y (R+1+1+1) 165 #[.slice none 0 0,.slice none 0 0]∧dE Y w.heap.size ⟨⟨some ⟨jb,jo,none⟩,n,jc,some ⟨gb,go,none⟩,nd,gc,per,cap,hold,lock⟩,false,now+1,ds1,iO,iP,Ec,sa1,fC,vs1,fE,fF,st,gQ,fO,Ci,pM,pO⟩∧Below w.heap.size w Y)
  ⟨j_,kI.aB gR aF,kO.aB gR cu,kS.aB gR cu,by
   have q:=cl.aG gR kR ay;exact⟨q.ds,q.qV,q.ss,q.sV,q.vs,q.uk,q.st,q.ws,q.r_,q.zF,q.yz,q.yA,q.yC⟩,be.aB gR be.size bQ⟩ ?_
 clear kR kI kO kS cl be gR j_;rintro Y2 ⟨kR,kI,kO,kS,cl,be⟩;(obtain⟨x0,x1,x2,x3,x4,x5,x6,x7,x8,x9,x10,x11,x12,xf,xl⟩:=kR.n13)
 go_upto_region 5 with fail
 (clear x0 x1 x2 x3 x4 x5 x6 x7 x8 x9 x10 x11 x12 xf xl);have hY2:=be.size;have akc:aH 105 #[.agg (ed (some ⟨jb,jo,none⟩) n jc (some ⟨gb,go,none⟩) nd gc per cap hold lock false (now+1) iO nd iP sa1 n fC fE n fF gQ n fO pM n pO),.slice ia ins.length ic] Y2 (fun e w'=> ∃(l:List Dx) (rr:List Rr) (N:Nat) (ea:az) (en ec:Nat) (ra:az) (rn rc:Nat),e= .returned (.tuple #[.slice (some ⟨N,0,none⟩) nd nd,.slice ea en ec,.slice ra rn rc])∧Hid (rn=(Rl 0).length)∧vZ Y2 w.heap.size ⟨⟨some ⟨jb,jo,none⟩,n,jc,some ⟨gb,go,none⟩,nd,gc,per,cap,hold,lock⟩,false,now+1,ds1,iO,iP,Ec,sa1,fC,vs1,fE,fF,st,gQ,fO,Ci,pM,pO⟩ T1 l w'∧Hid (rr.length=nd)∧
   Own w' Y2.heap.size 163 1 (some ⟨N,0,none⟩) nd nd (gC Rr.cells rr)∧(∀i (h:i<rr.length),sG w' Y2.heap.size (uD gs i) (Ms i) rr[i])∧Own w' Y2.heap.size 3 1 ra rn rc ((Rl 0).map encI)):=by
  have K1:=zH.out;have sm:=HG.out.sm;have ld1:=HLn.out.1;have h:=apn ⟨⟨some ⟨jb,jo,none⟩,n,jc,some ⟨gb,go,none⟩,nd,gc,per,cap,hold,lock⟩,false,now+1,ds1,iO,iP,Ec,sa1,fC,vs1,fE,fF,st,gQ,fO,Ci,pM,pO⟩ w.heap.size js gs ins ia ic Y2 cl
   ⟨by have:=sm.ds;simp only[Cx.key]at this⊢;rw[K1.1];exact this,by have:=sm.WT;simp only[Cx.key]at this⊢;rw[K1.1];exact this,by have:=sm.ss;simp only[Cx.key]at this⊢;rw[K1.2.1];exact this,by have:=sm.ssm;simp only[Cx.key]at this⊢;rw[K1.2.1];exact this,by have:=sm.vs;simp only[Cx.key]at this⊢;rw[K1.2.2.1];exact this,by have:=sm.WU;simp only[Cx.key]at this⊢;rw[K1.2.2.1];exact this,sm.st,by have:=sm.ws;simp only[Cx.key]at this⊢;rw[K1.2.2.2];exact this,by have:=sm.WV;simp only[Cx.key]at this⊢;rw[K1.2.2.2];exact this⟩
   hY2 dD dD (fun W hW=>⟨JA.out.below (be.trans (hW.mono aA)) aA,fun x hx=>(HII.out x hx).below (be.trans hW) aA⟩)
   (fun d hd=>HRG.out _ ag8) (fun W hW=>B_.out.below (be.trans hW) aA) (by simp only;rw[OY.out,ld1]) T1 Ms Es Rl (by simp only;rw[HT1.out,ld1]) wU.out XH.out HR0.out
   (fun d hd=>OO.out _ ag8)
   (fun i hi hi1 hi2 W d' oa oc own hW hd hk=>HT.out i (by rw[g_,zK.out,←ld1];exact hi) hi1 hi2 W d' oa oc own (be.trans hW) hd (by
    have e:(ds.map Dx.key)[i]'(by rw[g_,zK.out,←ld1];exact hi)=ds1[i].key:=by
     have e2:=congrArg (fun l=>l[i]?) K1.1;simp only[List.getElem?_map]at e2;rw[d_ hi,d_ (by rw[zK.out,←ld1];exact hi)]at e2;simp only[Option.map_some,Option.some.injEq]at e2;rw[List.getElem_map];exact e2.symm
    rw[e];exact hk))
  have e1:(Cx.val ⟨⟨some ⟨jb,jo,none⟩,n,jc,some ⟨gb,go,none⟩,nd,gc,per,cap,hold,lock⟩,false,now+1,ds1,iO,iP,Ec,sa1,fC,vs1,fE,fF,st,gQ,fO,Ci,pM,pO⟩)= .agg (ed (some ⟨jb,jo,none⟩) n jc (some ⟨gb,go,none⟩) nd gc per cap hold lock false (now+1) iO nd iP sa1 n fC fE n fF gQ n fO pM n pO):=by
   have q:=HLn.out;simp only[Cx.val,IZ,q.1,q.2.1,q.2.2.1,q.2.2.2,mJ.out]
  rw[e1]at h;refine h.mono ?_;rintro e w' ⟨l,rr,N,ea,en,ec,ra,rn,rc,rfl,g1,g2,g3,g4,g5,g6,g7,g8⟩;simp only[ld1]at g1 g2 g4 g5 g7 g8⊢;rw[ahT Rl wU.out nd d14.1]at g2 g8;exact⟨l,rr,N,ea,en,ec,ra,rn,rc,rfl,g2,g3,g4,g5,g6,g8⟩
 have akd:=ax akc;have zJ:=ax HG.out.sm;clear akc HG;have i0:=kI.cell 0;have il:=kI.lt
 go_upto_region 6 with(first|(refine gy kR vG nK ?_)|(go_at_call 105;(with_reducible refine(akd.out).mono ?_);rintro e w5 ⟨l,rr,N,ea,en,ec,ra,rn,rc,rfl,FC,hA,HRR,oM,rk,oR⟩))
 obtain⟨sg,rfl,_,_⟩:=cl.ss.open_ (by have:=HLn.out.2.1;simp only;omega);have G6:Below w5.heap.size w5 ((w5.alloc (.cells #[.slice (some ⟨N,0,none⟩) nd nd] 206)).alloc (.cells #[.slice ea en ec] 207)):=bel;obtain⟨Bm,hBm⟩: ∃B,Y2.heap.size=B:=⟨_,rfl⟩;obtain⟨S6,hS6⟩: ∃B,w5.heap.size=B:=⟨_,rfl⟩;obtain⟨S7,hS7⟩: ∃B,w5.heap.size+1=B:=⟨_,rfl⟩;have hk5:=hA.kept;have hR5:R<w5.heap.size:=(hk5 _ _ _ kR ay).lt;have tu:Ce w R (.slice ia ins.length ic) ⟨⟨some ⟨jb,jo,none⟩,n,jc,some ⟨gb,go,none⟩,nd,gc,per,cap,hold,lock⟩,false,now+1,l,iO,iP,Ec,some ⟨sg,0,none⟩,fC,vs1,fE,fF,st,gQ,fO,Ci,pM,pO⟩ nd n N S6 S7 (uD gs) Ms rr ea en ec Bm ((w5.alloc (.cells #[.slice (some ⟨N,0,none⟩) nd nd] 206)).alloc (.cells #[.slice ea en ec] 207)):=by
  have e1:=HLn.out;rw[←hBm,←hS6,←hS7];exact⟨hA.cl.below G6 aA,hA.len.trans e1.1,e1.2.1,e1.2.2.1,mJ.out,e1.2.2.2,((hk5 _ _ _ kR ay).alloc _).alloc _,((hk5 _ _ _ kI ay).alloc _).alloc _,((hk5 _ _ _ kO ay).alloc _).alloc _,((hk5 _ _ _ kS ay).alloc _).alloc _,(ah.new _ _ _).alloc _,ah.dG _ _ _ _,HRR.out,oM.below G6 aA,fun i hi=>(rk i hi).below G6 aA,cl.st.lt',fQ,kS.lt,hR5,by omega,be.trans (hA.be.trans (G6.mono (by have:=hA.be.size;omega)))⟩
 refine aW (fun Z=>Ce w R (.slice ia ins.length ic) ⟨⟨some ⟨jb,jo,none⟩,n,jc,some ⟨gb,go,none⟩,nd,gc,per,cap,hold,lock⟩,false,now+1,l,iO,iP,Ec,some ⟨sg,0,none⟩,fC,vs1,fE,fF,st,gQ,fO,Ci,pM,pO⟩ nd n N S6 S7 (uD gs) Ms rr ea en ec Bm Z∧Own Z Bm 3 1 ra rn rc ((Rl 0).map encI)) ⟨tu,by rw[←hBm];exact oR.below G6 aA⟩ ?_;have su:=ax hA.keys;have hwB:w.heap.size≤Bm:=by omega
 rw[hS7,hS6];clear hBm hS6 hS7 tu G6 hk5 hA oM rk oR kR kI kO kS cl be i0 il hY2 akd hR5;rintro Z ⟨hTW,oR⟩;have hmn:(if(n:Int)<(n:Int)then(n:Int)else(n:Int))=(n:Int):=by simp
 have RQ:rn≤900:=by rw[FC.out];exact HR0.out
 go_wp2_with fail
 go_loopw [36] (fun s36 wr=> ∃(i:Nat) (FQ:List Sx),s36=ae i∧i≤rn∧Hid (FQ.map Sx.key=SR i)∧Ce w R (.slice ia ins.length ic) ⟨⟨some ⟨jb,jo,none⟩,n,jc,some ⟨gb,go,none⟩,nd,gc,per,cap,hold,lock⟩,false,now+1,l,iO,iP,FQ,some ⟨sg,0,none⟩,fC,vs1,fE,fF,st,gQ,fO,Ci,pM,pO⟩ nd n N S6 S7 (uD gs) Ms rr ea en ec Bm wr∧Own wr Bm 3 1 ra rn rc ((Rl 0).map encI)) (fun s36 _=>rn -(intOf s36).toNat)
 case atStart=>exact⟨0,Ec,rfl,by omega,ax (zH.out.2.1.trans yG.out.symm),hTW,oR⟩
 case round=>
  clear hTW oR;obtain⟨i,FQ,rfl,hi,abk,hTW,oR⟩:=hrel;by_cases hlt:i<rn
  ·
   have ix:(i:Int)<(rn:Int):=by omega
   obtain⟨rb,rfl,_,_⟩:=oR.open_ aj;obtain⟨j,hj,hs,hRj,hlat,hnx,hSS⟩:=HSR.out i (by rw[←FC.out];exact hlt);have r0:=oR.cell i (by simp;rw[←FC.out];exact hlt);simp only[List.getElem_map,hRj,encI]at r0;have rl0:=oR.lt' rb rfl;have hjn:j<n:=by rw[←HN.out];exact hj
   have jx:(j:Int)<(n:Int):=by omega
   have j0:(0:Int)≤(j:Int):=by omega
   have O4:=B_.out.below hTW.be aA;obtain⟨J,hJ⟩:=aI (js[j]);have hJG:=O4.Jt J (by rw[←hJ];exact bF hj);have hsl:j<FQ.length:=by rw[hTW.l1];exact hjn
   obtain⟨sx,hsx⟩: ∃s,FQ[j]=s:=⟨_,rfl⟩;have hkx:(SR i)[j]=sx.key:=by
    have e:=congrArg (fun l=>l[j]?) abk.out;simp only[List.getElem?_map,d_ hsl,d_ hs,Option.map_some,Option.some.injEq]at e;rw[hsx]at e;exact e.symm
   rw[hkx]at hlat hnx;rw[hJ]at hSS;have HSS:=ax hSS;have ajc:sx.dB=true:=hlat;have hnx2:sx.nx.length=2:=hnx;have hRs: ∀V,Below wr.heap.size wr V→aH 106 #[.agg (Jx.cells J).toArray,.agg (Sx.cells sx).toArray] V (ajK (dK J.ps) J.s false true J.ps.length V):=fun V hV=>by
    have hG:=hJG.below hV aA;have h:=anR J.pb J.pc J.cb J.ps.length J.cc J.ps J.s sx.g sx.wt sx.ls.length sx.la sx.lc sx.na sx.nc V hG.at_.j.ph hG.at_.j.n1.2 hG.at_.j.lb;simp only[Sx.cells,ajc,hnx2];exact h
   have vY:=ax hRs;have ldj:=aq4 O4.EU.row yV j hj hJ (jL Ha hTW.be.size) 69 age Yl;have Ed:=CW hTW.cl.ss.sl.row ED j hsl hsx (hTW.cl.ss.lt' sg rfl) 120 CP xJ;have kR:=hTW.kR;(obtain⟨x0,x1,x2,x3,x4,x5,x6,x7,x8,x9,x10,x11,x12,xf,xl⟩:=kR.n13);have rC:=fun d os o=>dC wr d os R o xl;clear hRs hJ hJG hlat hnx hSS hkx hsx ajc hnx2 hRj
   go_upto_region 10 with fail
   (refine JM 19 [19] (.mM [(0,[]),(1,[]),(2,[]),(3,[]),(4,[]),(5,[]),(6,[]),(7,[]),(8,[]),(9,[]),(10,[]),(11,[]),(12,[]),(13,[])] (.op 14 (.mM [(15,[]),(16,[]),(17,[]),(18,[])] (.fin [])))) bP bP ?_);(refine JP fun K hK=>?_;refine m_ ?_;(repeat(first|(refine gI rfl 69 _ rfl _ _ rfl (fun|_,⟨p,rfl⟩=>ldj p.d p.os) ?_;refine dF ?_)|(refine gI rfl 120 _ rfl _ _ rfl (fun|_,⟨p,rfl⟩=>Ed p.d p.os) ?_;refine dF ?_)|go_big_quiet_step (fail)));refine wpQuiet_nil ?_;refine hK _ _ ?_;clear hK K);(refine vK fun K hK=>?_;simp only[jM,jO])
   go_wp2_with (go_at_call 106;(with_reducible refine(vY.out _ bel).mono ?_);rintro e w2 ⟨la,lc,na,nc,rfl,oL,oN,hb2⟩)
   have hb3:=jA hb2;refine dS hb3 (hK _ _ ?_);clear hK K;(refine vO ?_);(refine wE ?_;refine m_ ?_);(clear x0 x1 x2 x3 x4 x5 x6 x7 x8 x9 x10 x11 x12 xf xl);clear rC ldj Ed kR O4 r0;have ap:=hTW.cl.apart oN aA;have hsl2:(dK J.ps).ls.length=J.ps.length:=by simp[dK]
   have abl:(dK J.ps).nx.length=2:=by have:=oN.1;simpa using this
   replace hTW:=hTW.below hb3;replace oR:=oR.below hb3 aA;have hwr:w.heap.size≤wr.heap.size:=by have:=hb3.size;have:=hTW.hR;omega
   replace oL:=oL.mono (show w.heap.size≤wr.drew.heap.size from hwr);replace oN:=oN.mono (show w.heap.size≤wr.drew.heap.size from hwr);have row:=hTW.cl.ss;have room:j*5+5≤(gC Sx.cells FQ).length:=by rw[oZ ED];omega
   go_wp2_with (refine yO rfl 120 _ _ rfl (off:=j*5) #[.slice la J.ps.length lc,ae (dK J.ps).g,.slice na 2 nc,ae J.s,.bool false] rfl rfl row room 5 rfl xJ rfl ?_;intro W4 h4 z4;(have H4:=ax h4;clear h4 z4))
   have ey:Sx.cells ⟨(dK J.ps).ls,la,lc,(dK J.ps).g,(dK J.ps).nx,na,nc,J.s,false⟩= [.slice la J.ps.length lc,ae (dK J.ps).g,.slice na 2 nc,ae J.s,.bool false]:=by simp only[Sx.cells,hsl2,abl]
   have e4:W4=jy w2 sg (j*5) (Sx.cells ⟨(dK J.ps).ls,la,lc,(dK J.ps).g,(dK J.ps).nx,na,nc,J.s,false⟩):=by rw[ey];exact H4.out
   have gr:=gm sg (Sx.cells ⟨(dK J.ps).ls,la,lc,(dK J.ps).g,(dK J.ps).nx,na,nc,J.s,false⟩) w2 (j*5);rw[←e4]at gr;have hT2:=hTW.signal rfl hjn e4 ⟨by simp only;rw[hsl2];exact oL,by simp only;rw[abl];exact oN⟩ ap;have AL:=oR.aC (xa:=some ⟨sg,0,none⟩) gr row ay;have HKY:Hid ((FQ.set j ⟨(dK J.ps).ls,la,lc,(dK J.ps).g,(dK J.ps).nx,na,nc,J.s,false⟩).map Sx.key=SR (i+1)):=ax (by rw[List.map_set,abk.out,HSS.out];rfl);have HT2:=ax hT2;have HO2:=ax AL;clear hT2 AL gr e4 ey H4 row room oR hTW oL oN ap hsl2 abl;go_roundw
   case rel=>exact⟨i+1,_,by go_num,by omega,HKY,HT2.out,HO2.out⟩
   case measure=>simp[intOf];omega
  ·obtain rfl:rn=i:=by omega
   have hlr:rn=(Rl 0).length:=FC.out;have FM:FQ.map Sx.key=SR (Rl 0).length:=by rw[abk.out,hlr]
   have K1:=zH.out;have LN:=HLn.out;have hTL:=su.out;have hwr:=hTW.be.size;have hSt:aH 107 #[.pointer (some ⟨R,0,none⟩)] wr (fun e w'=> ∃(AU:List Sx) (vs3:List Vc) (yL:List Vx) (qY:az),e= .returned (.tuple #[])∧Hid (sD wr w.heap.size R ⟨some ⟨jb,jo,none⟩,n,jc,some ⟨gb,go,none⟩,nd,gc,per,cap,hold,lock⟩ false (now+1) l iO iP (some ⟨sg,0,none⟩) fC fE fF gQ fO qY n st (FQ.map Sx.key) S1 (vs1.map Vc.key) V1 W1 n n n AU vs3 yL w')):=by
    have h:=aqd ⟨⟨some ⟨jb,jo,none⟩,n,jc,some ⟨gb,go,none⟩,nd,gc,per,cap,hold,lock⟩,false,now+1,l,iO,iP,FQ,some ⟨sg,0,none⟩,fC,vs1,fE,fF,st,gQ,fO,Ci,pM,pO⟩ R w.heap.size js gs S1 V1 W1 wr hTW.cl
     ⟨by simp only[Cx.key];rw[hTL,HT1.out];omega,by simp only[Cx.key];rw[hTL];exact tq.out,by simp only[Cx.key];rw[g_,hTW.l1];omega,by simp only[Cx.key];rw[FM];exact HS2.out _,by simp only[Cx.key];rw[g_,LN.2.2.1];omega,by simp only[Cx.key];rw[K1.2.2.1];exact zJ.out.WU,by simp only[Cx.key];rw[mJ.out];omega,by simp only[Cx.key];rw[g_,LN.2.2.2];omega,by simp only[Cx.key];rw[K1.2.2.2];exact zJ.out.WV⟩
     fQ hwr (by simp only[hTW.ld,hTW.l1,LN.2.2.1,LN.2.2.2,mJ.out];exact hTW.kR) (fun W hW=>B_.out.below (hTW.be.trans hW) aA) (by simp only;rw[hTW.l1,HN.out]) (by simp only;rw[LN.2.2.1,HN.out]) (by simp only;rw[mJ.out,HN.out]) (by rw[O3.out,HN.out]) (by rw[HM5.out,HN.out]) (by rw[HM6.out,HN.out]) (by simp only;rw[LN.2.2.2,HN.out]) HW1.out jQ.out
     (fun i k hk=>by simp only at hk⊢;rw[List.map_take,hTL];exact axy.out i k (by rw[←hTW.ld];exact hk))
     (fun i h h1 h2 h3 h4 h5 W s v ca cn cc B' g1 g2 g3 g4 g5 g6 g7=>by
      simp only at h1 h2 h3 g4 g5 g6 g7;rw[hTL]at g6 g7;refine HD.out i h (by rw[←FM,g_];exact h1) (by rw[←K1.2.2.1,g_];exact h2) h3 h4 h5 W s v ca cn cc B' g1 g2 g3 (ax ?_) (ax ?_) g6 g7
      ·rw[g4.out];have e:=congrArg (fun l=>l[i]?) FM;simp only[List.getElem?_map,d_ h1,Option.map_some]at e;rw[d_ (by rw[←FM,g_];exact h1)]at e;exact Option.some.inj e
      ·rw[g5.out];have e:=congrArg (fun l=>l[i]?) K1.2.2.1;simp only[List.getElem?_map,d_ h2,Option.map_some]at e;have e3:i<vs.length:=by have:=congrArg List.length K1.2.2.1;simp only[g_]at this;omega
       simp only[d_ e3,Option.map_some]at e;rw[List.getElem_map];exact Option.some.inj e)
    refine h.mono ?_;rintro e w' ⟨AU,vs3,yL,qY,he,hI⟩;simp only[LN.2.2.2]at hI;exact⟨AU,vs3,yL,qY,he,hI⟩
   have HST:=ax hSt;clear hSt hTL K1 LN
   go_upto_region 13 with((go_at_call 107;(with_reducible refine(HST.out).mono ?_);rintro e w6 ⟨AU,vs3,yL,qY,rfl,HI⟩))
   have MC:=hTW.awv HI.out rfl;have HT3:=ax MC;have Og:Hid (yL.map Vx.key=W1):=ax (by rw[HI.out.k3,nM (by rw[HM6.out];exact Nat.le_refl _),List.drop_of_length_le aF,iK]);have HSK:Hid (AU.map Sx.key=S1):=ax (by rw[HI.out.k1,nM (by rw[O3.out];exact Nat.le_refl _),List.drop_of_length_le (by rw[g_,hTW.l1];exact Nat.le_refl _),iK]);have HVK:Hid (vs3.map Vc.key=V1):=ax (by rw[HI.out.k2,nM (by rw[HM5.out];exact Nat.le_refl _),List.drop_of_length_le (by rw[g_];have:=HLn.out.2.2.1;omega),iK]);have ake:Hid (Cx.key ⟨⟨some ⟨jb,jo,none⟩,n,jc,some ⟨gb,go,none⟩,nd,gc,per,cap,hold,lock⟩,false,now+1,l,iO,iP,AU,some ⟨sg,0,none⟩,fC,vs3,fE,fF,List.replicate n (-1),gQ,fO,yL,qY,n⟩).Small:=ax (by
    have e1:=su.out;have e2:=HSK.out;have e3:=HVK.out;have e4:=Og.out;simp only[Cx.key,e1,e2,e3,e4];exact⟨by simp only;rw[HT1.out];omega,tq.out,by simp only;rw[O3.out];omega,FI.out,by simp only;rw[HM5.out];omega,Tc.out,by simp only[uK];omega,by simp only;rw[HM6.out];omega,JD.out⟩)
   obtain⟨U,hU⟩:=aI w6.heap.size;have hUb: ∀k,(some sg:Option Nat)=some k→k<U:=fun k hk=>by injection hk with hk;subst hk;rw[←hU];exact MC.cl.ss.lt' sg rfl
   have HKS:=ax FM;have hRU:R+1+1+1<U:=by have:=MC.kS.lt;omega
   have h6U:S6<U:=by have:=MC.k6.lt;omega
   have h7U:S7<U:=by have:=MC.k7.lt;omega
   have hwU:w.heap.size≤U:=by omega
   have kR:=MC.kR;clear hTW oR HST FM MC
   go_upto_region 14 with fail
   refine aW (fun W=>Below U w6 W∧ah W U 165 #[.slice none 0 0,.slice none 0 0]∧W.heap.size=U+1) ⟨by rw[←hU];exact bel,by rw[←hU];exact ah.new _ _ _,by simp[hU]⟩ ?_;have HU:=ax hU;clear hU;rintro W7 ⟨b7,kU,z7⟩;replace kR:=kR.below b7 (by have:=hRU;omega);(obtain⟨x0,x1,x2,x3,x4,x5,x6,x7,x8,x9,x10,x11,x12,xf,xl⟩:=kR.n13)
   go_wp2_with fail
   (clear x0 x1 x2 x3 x4 x5 x6 x7 x8 x9 x10 x11 x12 xf xl);clear kR;have hT0:vz w6 U Bm [] [] none 0 W7:=⟨b7,kU,Own.nil _ _ _ _,(fun r hr=>by cases hr),rfl,by simp⟩;have hw7:U<W7.heap.size:=by omega
   clear b7 kU z7;refine wp_loop (fun a' wr=> ∃(i:Nat) (rows:List Rw) (qa:az) (qc:Nat) (gV:List Deferred) (u:U8),(i≤nd∧rows.length≤2*i∧Hid (vz w6 U Bm (Bv ins gs Ms St i) rows qa qc wr)∧Marks w.heap.size wr.heap.size wr gV)∧a'={tmps:=List.toArray ((Value.agg (ed (some {block:=jb,off:=jo}) n jc (some {block:=gb,off:=go}) nd gc per cap hold lock false now da nd dc sa n sc va n vc ta n tc wa n wz))::(Value.slice ia ins.length ic)::(Value.pointer (some {block:=R,off:=0}))::(Value.pointer (some {block:=R+1,off:=0}))::(Value.pointer (some {block:=R+1+1,off:=0}))::(Value.pointer (some {block:=R+1+1+1,off:=0}))::(Value.pointer (some {block:=S6,off:=0}))::(Value.pointer (some {block:=S7,off:=0}))::(Value.slice ra (Rl 0).length rc)::undef::u10::(Value.pointer (some {block:=U,off:=0}))::u.a0::undef::undef::(Value.agg (ed (some {block:=jb,off:=jo}) n jc (some {block:=gb,off:=go}) nd gc per cap hold lock false now da nd dc sa n sc va n vc ta n tc wa n wz))::(Value.agg (ed (some {block:=jb,off:=jo}) n jc (some {block:=gb,off:=go}) nd gc per cap hold lock false now iO nd iP (some {block:=sg,off:=0}) n fC fE n fF gQ n fO pM n pO))::(Value.pointer (some {block:=R,off:=7}))::(Value.int IntKind.i64 now)::(Value.int IntKind.i64 now)::(Value.int IntKind.i64 (now+1))::(Value.pointer (some {block:=R,off:=7}))::(Value.pointer (some {block:=R,off:=6}))::(Value.bool false)::undef::undef::undef::(Value.tuple #[Value.slice (some {block:=N,off:=0}) nd nd,Value.slice ea en ec,Value.slice ra (Rl 0).length rc])::(Value.agg (ed (some {block:=jb,off:=jo}) n jc (some {block:=gb,off:=go}) nd gc per cap hold lock false (now+1) iO nd iP (some {block:=sg,off:=0}) n fC fE n fF gQ n fO pM n pO))::(Value.slice ia ins.length ic)::(Value.tuple #[Value.slice (some {block:=N,off:=0}) nd nd,Value.slice ea en ec,Value.slice ra (Rl 0).length rc])::(Value.slice (some {block:=N,off:=0}) nd nd)::(Value.slice ea en ec)::(Value.slice ra (Rl 0).length rc)::(Value.slice ra (Rl 0).length rc)::(Value.int IntKind.i64 ↑(Rl 0).length)::(Value.int IntKind.i64 ↑(Rl 0).length)::(Value.bool false)::u38::u39::u40::u41::u42::u43::u44::u45::u46::u47::u48::u49::u50::u51::u52::u53::u54::u55::u56::u57::u58::u59::u60::u61::u62::u63::u64::u65::u66::u67::u68::u69::u70::u71::u72::u73::(Value.tuple #[])::(Value.pointer (some {block:=R,off:=0}))::(Value.pointer (some {block:=R,off:=1}))::(Value.slice (some {block:=gb,off:=go}) nd gc)::(Value.int IntKind.i64 ↑nd)::(ae i)::u.a1::u.a2::u.a3::u.a4::u.a5::u.a6::undef::undef::undef::undef::undef::undef::undef::undef::undef::undef::undef::undef::undef::undef::undef::undef::undef::undef::undef::undef::undef::undef::undef::undef::undef::undef::undef::undef::undef::undef::undef::undef::undef::undef::undef::u.a7::undef::undef::undef::undef::undef::undef::undef::undef::undef::undef:: []),defers:=gV}) (fun a' _=>nd -(intOf (a'.tmps.getD 79 undef)).toNat) ?_ ?_
   ·exact⟨0,[],none,0,[],⟨_,_,_,_,_,_,_,_⟩,⟨by omega,by simp,ax hT0,trivial⟩,rfl⟩
   ·clear hT0 hw7;rintro a' wr ⟨i,rows,qa,qc,gV,u,⟨hi,hr2,HTD,hms⟩,ha'⟩;subst ha';have xA:=HTD.out;by_cases hlt:i<nd
    ·have ix:(i:Int)<(nd:Int):=by omega
     obtain⟨O,hO⟩:=aI wr.heap.size;have HO:=ax hO;have XK:U<O:=by have:=xA.kU.lt;omega
     have axz:=ax (hO▸hms)
     go_upto_region 17 with fail
     have bO:Below wr.heap.size wr (wr.alloc (.cells #[ae (i:Int)] 3)):=bel;refine aW (fun W=>vz w6 U Bm (Bv ins gs Ms St i) rows qa qc W∧ah W O 3 #[ae (i:Int)]∧W.heap.size=O+1∧Marks w.heap.size O W gV) ⟨xA.below bO,by rw[←hO];exact ah.new _ _ _,by simp[hO],by rw[←hO];exact hms.others (CO bO)⟩ ?_;clear hO xA bO hms axz;rintro W8 ⟨xA,kO,z8,hm8⟩;have kR:=(HT3.out.kR.below xA.be aj);(obtain⟨x0,x1,x2,x3,x4,x5,x6,x7,x8,x9,x10,x11,x12,xf,xl⟩:=kR.n13);have o0:=kO.cell 0;have ol:=kO.lt
     go_upto_region 18 with((go_at_call 108;(with_reducible refine(aev (some ⟨jb,jo,none⟩) n jc (some ⟨gb,go,none⟩) nd gc per cap hold lock i _).mono ?_);rintro e w' ⟨rfl,rfl⟩))
     (clear x0 x1 x2 x3 x4 x5 x6 x7 x8 x9 x10 x11 x12 xf xl);have b9:Below W8.heap.size W8 ((W8.alloc (.cells (gJ (some ⟨jb,jo,none⟩) n jc (some ⟨gb,go,none⟩) nd gc per cap hold lock) 28)).alloc (.cells #[ae (i:Int)] 3)):=bel;refine aW (fun W=>vz w6 U Bm (Bv ins gs Ms St i) rows qa qc W∧ah W O 3 #[ae (i:Int)]∧ah W (O+1) 28 (gJ (some ⟨jb,jo,none⟩) n jc (some ⟨gb,go,none⟩) nd gc per cap hold lock)∧ah W (O+1+1) 3 #[ae (i:Int)]∧W.heap.size=O+3∧Marks w.heap.size O W gV) ⟨xA.below b9,(kO.alloc _).alloc _,by rw[←z8];exact(ah.new _ _ _).alloc _,by rw[←z8];exact ah.dG _ _ _ _,by simp[z8],hm8.others (CO b9)⟩ ?_
     try rw[z8]
     clear xA kO z8 hm8 b9 kR o0 ol;rintro w9 ⟨xA,kO,kC,kA,z9,XB⟩;have qW:Below w.heap.size w w9:=HT3.out.be.trans (xA.be.mono hwU);have hC:=B_.out.below qW aA;have hig:i<gs.length:=by rw[OY.out];exact hlt
     have hse:=fun a ha=>(hC.LX a ha).fine.se;obtain⟨k,hk⟩: ∃k:Nat,gs[i].se=k:=⟨gs[i].se.toNat,by have:=hse _ (bF hig);simp only[Ax.num]at this;omega⟩;have hk12:1≤k∧k≤2:=by have:=hse _ (bF hig);simp only[Ax.num]at this;omega
     have hs4:=F_ (gs.take i) (fun a ha=>hse a (List.mem_of_mem_take ha));obtain⟨sb,hsb⟩: ∃sb:Nat,iE (gs.take i)=sb:=⟨(iE (gs.take i)).toNat,by omega⟩;have GU:=hC.n2.2;have h4:(gs.take i).length≤4:=by
      rw[pV];omega
     have axw:sb≤8:=by omega
     have seq:=aeM 5 aj (some ⟨jb,jo,none⟩) n jc gb go gc per cap hold lock gs i k hig hk (O+1) (O+1+1) w9 (by rw[OY.out];exact kC) kA hC.grow hC.n2.2 hse;have henc:(fun x:Nat=> #[Value.agg #[ae (i:Int),ae (x:Int),ae (iE (gs.take i)+x)]])=fun x:Nat=> #[Value.agg #[ae (i:Int),ae (x:Int),ae ((sb+x:Nat):Int)]]:=by funext x;rw[hsb];simp
     rw[henc]at seq;have hkk:uD gs i=k:=by
      unfold uD;rw[eG,d_ (by simpa using hig),List.getElem_map,Option.getD_some,hk];rfl
     have HK:=ax hkk;have XI:Hid ((iE (gs.take i)).toNat=sb):=ax (by rw[hsb];rfl);clear henc hk hkk hsb hC hse hs4 GU h4;refine(wpIn_wide (n:=6)).1 ?_;refine JV (F:=Fence.wide) rfl aj (gf:=142) (lb:= #[.pointer (some ⟨O+1,0,none⟩),.pointer (some ⟨O+1+1,0,none⟩)]) rfl trivial (enters_of func142 bP rfl)
      seq (fun h k=>jW.trans h k) (fun W l o o' hl h1 h2 h3=>jW.put (S:=w9.heap.size) aj aj (by have:=yD;have:=qW.size;omega) W l o o' hl) bD (fun _=>rfl)
      (fun pre W=>O+3≤W.heap.size∧ah W O 3 #[ae (i:Int)]∧ah W (O+1) 28 (gJ (some ⟨jb,jo,none⟩) n jc (some ⟨gb,go,none⟩) nd gc per cap hold lock)∧ah W (O+1+1) 3 #[ae (i:Int)]∧Marks w.heap.size O W gV∧O1 ins gs Ms St w6 U Bm i pre W)
      (fun _ _ _=>False)
      (fun pre W W' row h hg hr=>⟨dA h.1 hg.size,h.2.1.turn hg fun r e=>(hr r e).2,h.2.2.1.turn hg fun r e=>(hr r e).2,h.2.2.2.1.turn hg fun r e=>(hr r e).2,h.2.2.2.2.1.keep aA fun D hD hd=>hg.block D (lX.1 hd).1 fun e=>Zi,by
       obtain⟨rows,qa,qc,hl,ht⟩:=h.2.2.2.2.2;exact⟨rows,qa,qc,hl,ht.turn (C:=w9.heap.size) aj hg hr⟩⟩)
      (fun cd pre W W' row h hg hr=>h.elim)
      ⟨by omega,kO,kC,kA,XB,rows,qa,qc,by simpa using hr2,by simpa using xA⟩
      (fun pre x a' W=>(∃P:Nat,O+3≤P∧ah W P 218 #[ae i,ae x,ae ((sb+x:Nat):Int)]∧a'={tmps:=List.toArray ((Value.agg (ed (some {block:=jb,off:=jo}) n jc (some {block:=gb,off:=go}) nd gc per cap hold lock false now da nd dc sa n sc va n vc ta n tc wa n wz))::(Value.slice ia ins.length ic)::(Value.pointer (some {block:=R,off:=0}))::(Value.pointer (some {block:=R+1,off:=0}))::(Value.pointer (some {block:=R+1+1,off:=0}))::(Value.pointer (some {block:=R+1+1+1,off:=0}))::(Value.pointer (some {block:=S6,off:=0}))::(Value.pointer (some {block:=S7,off:=0}))::(Value.slice ra (Rl 0).length rc)::undef::u10::(Value.pointer (some {block:=U,off:=0}))::(.pointer (some ⟨O,0,none⟩))::(.pointer (some ⟨P,0,none⟩))::undef::(Value.agg (ed (some {block:=jb,off:=jo}) n jc (some {block:=gb,off:=go}) nd gc per cap hold lock false now da nd dc sa n sc va n vc ta n tc wa n wz))::(Value.agg (ed (some {block:=jb,off:=jo}) n jc (some {block:=gb,off:=go}) nd gc per cap hold lock false now iO nd iP (some {block:=sg,off:=0}) n fC fE n fF gQ n fO pM n pO))::(Value.pointer (some {block:=R,off:=7}))::(Value.int IntKind.i64 now)::(Value.int IntKind.i64 now)::(Value.int IntKind.i64 (now+1))::(Value.pointer (some {block:=R,off:=7}))::(Value.pointer (some {block:=R,off:=6}))::(Value.bool false)::undef::undef::undef::(Value.tuple #[Value.slice (some {block:=N,off:=0}) nd nd,Value.slice ea en ec,Value.slice ra (Rl 0).length rc])::(Value.agg (ed (some {block:=jb,off:=jo}) n jc (some {block:=gb,off:=go}) nd gc per cap hold lock false (now+1) iO nd iP (some {block:=sg,off:=0}) n fC fE n fF gQ n fO pM n pO))::(Value.slice ia ins.length ic)::(Value.tuple #[Value.slice (some {block:=N,off:=0}) nd nd,Value.slice ea en ec,Value.slice ra (Rl 0).length rc])::(Value.slice (some {block:=N,off:=0}) nd nd)::(Value.slice ea en ec)::(Value.slice ra (Rl 0).length rc)::(Value.slice ra (Rl 0).length rc)::(Value.int IntKind.i64 ↑(Rl 0).length)::(Value.int IntKind.i64 ↑(Rl 0).length)::(Value.bool false)::u38::u39::u40::u41::u42::u43::u44::u45::u46::u47::u48::u49::u50::u51::u52::u53::u54::u55::u56::u57::u58::u59::u60::u61::u62::u63::u64::u65::u66::u67::u68::u69::u70::u71::u72::u73::(Value.tuple #[])::(Value.pointer (some {block:=R,off:=0}))::(Value.pointer (some {block:=R,off:=1}))::(Value.slice (some {block:=gb,off:=go}) nd gc)::(Value.int IntKind.i64 ↑nd)::(ae i)::(.bool true)::(ae i)::(.pointer (some ⟨R,0,none⟩))::(Dz (some ⟨jb,jo,none⟩) n jc (some ⟨gb,go,none⟩) nd gc per cap hold lock)::(ae i)::(.func (.func 142) #[] #[.pointer (some ⟨O+1,0,none⟩),.pointer (some ⟨O+1+1,0,none⟩)])::(.agg #[ae i,ae x,ae ((sb+x:Nat):Int)])::undef::undef::undef::undef::undef::undef::undef::undef::undef::undef::undef::undef::undef::undef::undef::undef::undef::undef::undef::undef::undef::undef::undef::undef::undef::undef::undef::undef::undef::undef::undef::undef::undef::undef::u.a7::undef::undef::undef::undef::undef::undef::undef::undef::undef::undef:: []),defers:= []})∧pre.length+1≤k∧x<k)
      (fun pre x a' s W W' row h hg hr=>⟨by
       obtain⟨P,hP,kP,e⟩:=h.1;exact⟨P,hP,kP.turn hg fun r e=>(hr r e).2,e⟩,h.2⟩) ?assign ?body ?done ?stop
     case assign=>
      rintro L pre x W K hI ⟨t,hv⟩ hK;have hpl:pre.length+1≤k∧x<k:=⟨by have:=congrArg List.length hv;simp at this;omega,List.mem_range.1 (by rw[hv];simp)⟩;clear hv t;obtain⟨hz,kO,kC,kA,hmk,rows,qa,qc,hl,ht⟩:=hI;obtain⟨z,hzx⟩:=aI (sb+x);simp only[hzx]at hK⊢;clear hzx
      gi_wp2
      have bA:Below W.heap.size W (W.alloc (.cells #[ae i,ae x,ae z] 218)):=bel;exact hK _ _ ((CO bA).from _) (jW.below bA) ⟨dA hz bA.size,kO.below bA kO.lt,kC.below bA kC.lt,kA.below bA kA.lt,hmk.others (CO bA),rows,qa,qc,hl,ht.below bA⟩ ⟨⟨W.heap.size,hz,ah.new _ _ _,rfl⟩,hpl⟩
     case body=>
      rintro L pre x a' W hL hrec ⟨hz,kO,kC,kA,hmk,IU,n_,iJ,hl,ht⟩ ⟨⟨P,hP,kP,rfl⟩,hpl,hxk⟩;obtain⟨z,hzx⟩:=aI (sb+x);have HZ:=ax hzx;rw[hzx]at kP⊢;clear hzx;have hTW:=HT3.out.below (by rw[HU.out];exact ht.be);have hbW:=hTW.be;have hgU:gb<U:=by omega
      have hr4:IU.length+1≤900:=by omega
      have kR:=hTW.kR;have kI:=hTW.kI;(obtain⟨x0,x1,x2,x3,x4,x5,x6,x7,x8,x9,x10,x11,x12,xf,xl⟩:=kR.n13);(obtain⟨p0,p1,p2,pf,pl⟩:=kP.n3);have i0:=kI.cell 0;have il:=kI.lt;have o0:=kO.cell 0;have ol:=kO.lt;have u0:=ht.kU.cell 0;have uf:=ht.kU.frozen 0;have ul:=ht.kU.lt;by_cases hzl:z<ins.length
      ·have iz:(z:Int)<(ins.length:Int):=by omega
       have hiw:=JA.out.below hbW aA;obtain⟨ib,io,rfl,ilt⟩:=hiw.open_ aj;obtain⟨v,hv⟩:=aI (ins[z]);have y0:=hiw.row.fV EG z hzl 0 ay (v:= .bool v.op) (by rw[hv];rfl);simp only[iV]at y0;have HV:Hid (ins.getD ((iE (gs.take i)).toNat+x) xx=v):=ax (by rw[XI.out,HZ.out,eG,d_ hzl,hv];rfl);clear hv hiw hzl;obtain⟨op,hop⟩:=aI v.op;rw[hop]at y0;have HOP:=ax hop;clear hop;cases op
       ·have bV:Below W.heap.size W (W.alloc (.cells (Rw.cells uC).toArray 58)):=bel;have ht1:=ht.below bV
        gi_wp2_with ((gi_at_builtin;refine P_ rfl (.tmp 116) (.tmp 118) 163 58 1 24 rfl underlying163 Y0 ay ay (U+1) n_ IU.length iJ _ rfl ht1.row _ (Rw.cells uC) rfl (ah.new _ _ _) rfl (aal _) aj cu ?_;intro A2 c2 V2 kH di;(have xy:=ht1.kU.aC di.1 ht1.row ay);(have v0:=xy.cell 0);(have v1:=xy.frozen 0);(have v2:=xy.lt)))
        have q:=ZL hz XK hgU kO kC kA hmk ht bV di kH ⟨Own.nil _ _ _ _,fun m hm=>by cases hm⟩ hr4;exact⟨q.1.from _,q.2.1,q.2.2.1,q.2.2.2.1,q.2.2.2.2.1,q.2.2.2.2.2.1,q.2.2.2.2.2.2.1,O1.snoc hl (by simp only[Du,HV.out,HOP.out];rfl) q.2.2.2.2.2.2.2⟩
       ·have hlr:i<rr.length:=by rw[hTW.rl];exact hlt
        obtain⟨r0,hr0⟩: ∃r,rr[i]=r:=⟨_,rfl⟩;have n0:=hTW.oM.row.fV Qh i hlr 0 ay (v:= .slice r0.a r0.rs.length r0.c) (by rw[hr0];rfl);simp only[iV,dX,Nat.mul_one]at n0;have nl:=hTW.oM.lt' N rfl;have hil:i<l.length:=by rw[hTW.ld];exact hlt
        have hi1:i<T1.length:=by rw[HT1.out];exact hlt
        have hkd:l[i].key=T1[i]:=by
         have e:=congrArg (fun l=>l[i]?) su.out;simp only[List.getElem?_map,d_ hil,d_ hi1,Option.map_some,Option.some.injEq]at e;exact e
        have ajd: ∀V,Below W.heap.size W V→aH 109 #[.agg (ed (some ⟨jb,jo,none⟩) n jc (some ⟨gb,go,none⟩) nd gc per cap hold lock false (now+1) iO nd iP (some ⟨sg,0,none⟩) n fC fE n fF gQ n fO qY n n),.agg #[ae i,ae x,ae z],.slice r0.a r0.rs.length r0.c,.slice ea en ec] V (RwR (Du ins gs Ms St i x) Bm V):=fun V hV=>by
         have XL:=hTW.below hV;have rk:=XL.rk i hlr;rw[hr0]at rk;have hln:=rk.len;rw[HK.out]at hln;have hnum:x<r0.rs.length:=by omega
         have hrx:r0.rs[x].key=if x=0 then Ms i else []:=by
          have e:=congrArg (fun l=>l[x]?) rk.keys;simp only[List.getElem?_map,d_ hnum,Option.map_some]at e;cases x with
          |zero=>simpa using e
          |succ y=>
           rw[List.getElem?_cons_succ,List.getElem?_replicate,if_pos (by rw[HK.out];omega)]at e;simpa using e
         obtain⟨q1,q2,q3,q4,q5⟩:=HQ.out i hi1;have kq:l[i].r.rq=q i:=by rw[←hkd]at q1;exact q1
         have ka: ∀b∈l[i].au,b=false:=by rw[←hkd]at q3;exact q3
         have ks:l[i].rs.map Rq.key=T1[i].rs:=by rw[←hkd];rfl
         have h:=aq3 ⟨⟨some ⟨jb,jo,none⟩,n,jc,some ⟨gb,go,none⟩,nd,gc,per,cap,hold,lock⟩,false,now+1,l,iO,iP,AU,some ⟨sg,0,none⟩,fC,vs3,fE,fF,List.replicate n (-1),gQ,fO,yL,qY,n⟩ Bm i x z (q i) r0.a r0.c r0.rs ea en ec V (XL.cl.g ake.out) hil kq q2 (fun v hv=>R_.out _ ag5) (by rw[hln,←HK.out,←rk.len];have o:=rk.row;rw[←rk.len]at o;exact o.sl) hnum (rk.it _ (bF hnum)) (by have:=XL.oM.lt' N rfl;have:=XL.oM.dW N rfl;omega)
          (fun m hm=>by
           rw[hrx]at hm
           split at hm
           ·exact(XD.out i).1 m hm
           ·cases hm)
          (by
           have e:r0.rs[x].ms.length=r0.rs[x].key.length:=by simp[Rw.key]
           rw[e,hrx]
           split
           ·exact(XD.out i).2
           ·simp)
          (by simp only[ks,Og.out];rw[←q4];exact q5) ka
         have e1:Cx.val ⟨⟨some ⟨jb,jo,none⟩,n,jc,some ⟨gb,go,none⟩,nd,gc,per,cap,hold,lock⟩,false,now+1,l,iO,iP,AU,some ⟨sg,0,none⟩,fC,vs3,fE,fF,List.replicate n (-1),gQ,fO,yL,qY,n⟩= .agg (ed (some ⟨jb,jo,none⟩) n jc (some ⟨gb,go,none⟩) nd gc per cap hold lock false (now+1) iO nd iP (some ⟨sg,0,none⟩) n fC fE n fF gQ n fO qY n n):=by
          have a1:=hTW.ld;have a2:=hTW.l1;have a3:=hTW.l2;have a4:=hTW.l4;simp only at a1 a2 a3 a4;simp only[Cx.val,IZ,a1,a2,a3,a4,uK]
         rw[e1]at h;have e2:Du ins gs Ms St i x=r0.rs[x].key++ [EL (l[i].rs.map Rq.key) (q i) (yL.map Vx.key) (now+1)]:=by
          simp only[Du,HV.out,HOP.out,if_true,hrx,ks,Og.out,←q4]
         rw[e2];exact h
        have XM:=ax ajd;have Jw:=kR.IQ 45 vG nK;have ldP:=kP.IQ 218 aqj apq;have k6:=hTW.k6.cell 0;have k7:=hTW.k7.cell 0;have k6l:=hTW.k6.lt;have k7l:=hTW.k7.lt;have r6:=fun d os o=>dC W d os S6 o k6l;have r7:=fun d os o=>dC W d os S7 o k7l;have rO:=fun d os o=>dC W d os O o ol;have rN:=fun d os o=>dC W d os N o nl;have hBm:Bm≤W.heap.size:=by have:=hTW.oM.dW N rfl;omega
        clear ajd hr0 hkd
        gi_wp2
        (refine anE 7 [] [0,1,2,3,4,5,6] bP bP ?_;refine lu ?_);(refine yR ?_;(repeat(first|(refine gI rfl 45 _ rfl _ _ rfl (fun|_,⟨p,rfl⟩=>Jw p.d p.os) ?_;refine dF ?_)|(refine gI rfl 218 _ rfl _ _ rfl (fun|_,⟨p,rfl⟩=>ldP p.d p.os) ?_;refine dF ?_)|go_big_quiet_step (fail)));refine wpQuiet_nil ?_)
        go_wp2_with (go_at_call 109;(with_reducible refine(XM.out _ bel).mono ?_);rintro e w2 ⟨r,rfl,hrk,oRw,hb2⟩)
        have hb3:=jA hb2;(clear x0 x1 x2 x3 x4 x5 x6 x7 x8 x9 x10 x11 x12 xf xl);(clear p0 p1 p2 pf pl);clear i0 il o0 ol u0 uf ul k6 k7 k6l k7l r6 r7 rO rN n0 nl Jw ldP;have bV:Below W.heap.size W (w2.alloc (.cells (Rw.cells r).toArray 58)):=hb3.alloc hb3.size _;have ht1:=ht.below bV;have aa_:=hb3.size;have ht0:=ht.below hb3;have u0:=ht0.kU.cell 0;have ul:=ht0.kU.lt
        gi_wp2_with ((gi_at_builtin;refine P_ rfl (.tmp 116) (.tmp 118) 163 58 1 24 rfl underlying163 Y0 ay ay (U+1) n_ IU.length iJ _ rfl ht1.row _ (Rw.cells r) rfl (ah.new _ _ _) rfl (aal _) aj cu ?_;intro A2 c2 V2 kH di;(have xy:=ht1.kU.aC di.1 ht1.row ay);(have v0:=xy.cell 0);(have v1:=xy.frozen 0);(have v2:=xy.lt)))
        have q:=ZL hz XK hgU kO kC kA hmk ht bV di kH (oRw.below (bel:Below w2.heap.size w2 (w2.alloc (.cells (Rw.cells r).toArray 58))) aA) hr4;exact⟨q.1.from _,q.2.1,q.2.2.1,q.2.2.2.1,q.2.2.2.2.1,q.2.2.2.2.2.1,q.2.2.2.2.2.2.1,O1.snoc hl hrk.out q.2.2.2.2.2.2.2⟩
      ·have iz: ¬ (z:Int)<(ins.length:Int):=by omega
       have HV:Hid (ins.getD ((iE (gs.take i)).toNat+x) xx=xx):=ax (by rw[XI.out,HZ.out,eG,List.getElem?_eq_none aj];rfl);have bV:Below W.heap.size W (W.alloc (.cells (Rw.cells uC).toArray 58)):=bel;have ht1:=ht.below bV
       gi_wp2_with ((gi_at_builtin;refine P_ rfl (.tmp 116) (.tmp 118) 163 58 1 24 rfl underlying163 Y0 ay ay (U+1) n_ IU.length iJ _ rfl ht1.row _ (Rw.cells uC) rfl (ah.new _ _ _) rfl (aal _) aj cu ?_;intro A2 c2 V2 kH di;(have xy:=ht1.kU.aC di.1 ht1.row ay);(have v0:=xy.cell 0);(have v1:=xy.frozen 0);(have v2:=xy.lt)))
       have q:=ZL hz XK hgU kO kC kA hmk ht bV di kH ⟨Own.nil _ _ _ _,fun m hm=>by cases hm⟩ hr4;exact⟨q.1.from _,q.2.1,q.2.2.1,q.2.2.2.1,q.2.2.2.2.1,q.2.2.2.2.2.1,q.2.2.2.2.2.2.1,O1.snoc hl (by simp only[Du,HV.out];rfl) q.2.2.2.2.2.2.2⟩
     case done=>
      rintro D xs W hD rfl ⟨hz,kO,kC,kA,hmk,IU,n_,iJ,hl,ht⟩ hK2;rw[List.length_range]at hl;have hDs:D<W.heap.size:=(lX.1 hK2).1;have HM:Hid (Marks w.heap.size W.heap.size W ({target:= .collected D,args:= #[]}::gV)):=ax ⟨⟨D,rfl,by omega,hDs,hK2,fun d' hd' e=>by
       obtain⟨D2,e2,h2⟩:=hmk.lt d' hd';rw[e2]at e;injection e with e
       omega⟩,hmk.keep aj fun _ _ _=>rfl⟩
      have HT2:Hid (vz w6 U Bm (Bv ins gs Ms St (i+1)) IU n_ iJ W):=ax (by
       have e:Bv ins gs Ms St (i+1)=Bv ins gs Ms St i++(List.range k).map fun x=>Du ins gs Ms St i x:=by
        simp only[Bv,Qa,HK.out]
       rw[e];exact ht)
      have hl2:IU.length≤2*(i+1):=by omega
      clear hK2 hDs kO kC kA hmk ht hl hz xA z9 XB qW
      go_wp2_with fail
      exact⟨⟨i+1,IU,n_,iJ,_,⟨_,_,_,_,_,_,_,_⟩,⟨by omega,hl2,HT2,HM.out⟩,by go_num⟩,by simp[intOf];omega⟩
     case stop=>
      rintro D cd pre W hD h1 h2 hK;exact h2.elim
    ·obtain rfl:nd=i:=by omega
     have hTW:=HT3.out.below (by rw[HU.out];exact xA.be);have hg:=hTW.cl.g ake.out;have hFe:aH 111 #[ae (now+1),.slice qY n n] wr (OL ⟨21,[],[now+1],bytesOf W1⟩ wr):=by
      have h:=ape qY yL n n (now+1) wr hg.vws hTW.l4.symm (fun v hv=>R_.out _ ag5) (by have:=hTW.l4;simp only at this;omega);rw[Og.out]at h;exact h
     have HFE:=ax hFe;have kR:=hTW.kR;have kU:=xA.kU;(obtain⟨x0,x1,x2,x3,x4,x5,x6,x7,x8,x9,x10,x11,x12,xf,xl⟩:=kR.n13);have u0:=kU.cell 0;have u1:=kU.cell 1;have uf:=kU.frozen;have ul:=kU.lt;clear hFe hg
     go_upto_region 25 with(first|(go_at_call 111;(with_reducible refine(HFE.out).mono ?_);rintro e w2 ⟨xm,rfl,hxm,oX,hb2⟩;((clear x0 x1 x2 x3 x4 x5 x6 x7 x8 x9 x10 x11 x12 xf xl);clear u0 u1 uf ul;have hb3:Below wr.heap.size wr (w2.alloc (.cells (Mx.cells xm).toArray 36)):=hb2.alloc hb2.size _;have kX:ah (w2.alloc (.cells (Mx.cells xm).toArray 36)) w2.heap.size 36 (gC Mx.cells [xm]).toArray:=(by rw[mP,Dj,iK];exact ah.new _ _ _);have oXs:=kX.Am Gg aA 1 rfl aj;have xq:=oX.below (bel:Below w2.heap.size w2 (w2.alloc (.cells (Mx.cells xm).toArray 36))) aA;have hfd:uB xm.m:=(by rw[hxm.out];exact S_.out);have XA:aH 110 #[.slice (some ⟨w2.heap.size,0,none⟩) 1 1] (w2.alloc (.cells #[ae xm.m.kind,.slice xm.ta xm.m.tok.length xm.tc,.slice xm.aa xm.m.args.length xm.ac,.slice xm.da xm.m.dat.length xm.dc] 36)) (fun e w'=>e= .returned (.slice (some ⟨w2.heap.size,0,none⟩) 1 1)∧Below (w2.alloc (.cells (Mx.cells xm).toArray 36)).heap.size (w2.alloc (.cells (Mx.cells xm).toArray 36)) w'):=afR (some ⟨w2.heap.size,0,none⟩) 1 1 [xm] _ oXs.sl rfl aj (fun m hm=>by rw[dU.1 hm];exact xq.QD hfd.2) (fun m hm=>by rw[dU.1 hm];exact hfd.1)))|(go_at_call 110;(with_reducible refine(XA).mono ?_);rintro e w3 ⟨rfl,hb4⟩;(have hb5:=hb3.trans (hb4.mono hb3.size);have Ee:=kU.below hb5 kU.lt;have u0:=Ee.cell 0;have u1:=Ee.cell 1;have uf:=Ee.frozen;have ul:=Ee.lt)))
     have gU:=grownBy_set w3 U 1 (.slice (some ⟨w2.heap.size,0,none⟩) 1 1);have kU4:=Ee.upd 1 (.slice (some ⟨w2.heap.size,0,none⟩) 1 1);have abm:=xA.below hb5;have Ld:=hTW.below hb5;have z5:=hb5.size;have iT:=hb2.size;have oF:=((oXs.below hb4 aA).aG gU Ee ay).mono (show w.heap.size≤w2.heap.size from dA hTW.be.size iT);have oFx:=((xq.below hb4 aA).aG gU Ee ay ay).mono (show w.heap.size≤wr.heap.size from hTW.be.size);have hBw:w.heap.size≤Bm:=hwB;refine aW (fun Y=>ah Y R 45 (ed (some ⟨jb,jo,none⟩) n jc (some ⟨gb,go,none⟩) nd gc per cap hold lock false (now+1) iO nd iP (some ⟨sg,0,none⟩) n fC fE n fF gQ n fO qY n n)∧ah Y (R+1+1) 45 uA∧ah Y (R+1+1+1) 165 #[.slice none 0 0,.slice none 0 0]∧ah Y U 165 #[.slice qa rows.length qc,.slice (some ⟨w2.heap.size,0,none⟩) 1 1]∧dE Y w.heap.size ⟨⟨some ⟨jb,jo,none⟩,n,jc,some ⟨gb,go,none⟩,nd,gc,per,cap,hold,lock⟩,false,now+1,l,iO,iP,AU,some ⟨sg,0,none⟩,fC,vs3,fE,fF,List.replicate n (-1),gQ,fO,yL,qY,n⟩∧Own Y w.heap.size 58 1 qa rows.length qc (gC Rw.cells rows)∧(∀r∈rows,jm Y w.heap.size r)∧jm Y w.heap.size ⟨[xm],some ⟨w2.heap.size,0,none⟩,1⟩∧Below w.heap.size w Y∧Marks w.heap.size wr.heap.size Y gV)
      ⟨Ld.kR.aB gU cu,Ld.kO.aB gU cu,Ld.kS.aB gU cu,kU4,Ld.cl.aG gU Ee ay,(abm.row.aG gU Ee ay).mono aj,fun r hr=>((abm.it r hr).aG gU Ee ay ay ay).mono hBw,⟨oF,fun m hm=>by rw[dU.1 hm];exact oFx⟩,Ld.be.aB gU Ld.be.size bQ,(hms.others (CO hb5)).others (KeepsOthers.setCell _ _ _)⟩ ?_
     have HXM:=ax hxm.out;have HKT:=ax xA.keys;obtain⟨X,hX⟩:=aI w2.heap.size;rw[hX];clear hX gU kU4 abm Ld z5 iT oF oFx xA hTW kR kU HTD hms hb2 hb3 hb4 hb5 oX xq oXs kX Ee u0 u1 uf ul XA hfd;rintro Y ⟨kR,kO,kS,kU,cl,oR,oI,oF,be,hms⟩;have FT:=kR.drewN 1;have vC:=kO.drewN 1;have kSd:=kS.drewN 1;have Td:=kU.drewN 1;have bd:Below Y.heap.size Y Y.drew:=bel
     haveI:Nonempty (Jb (akb R U (ed (some ⟨jb,jo,none⟩) n jc (some ⟨gb,go,none⟩) nd gc per cap hold lock false (now+1) iO nd iP (some ⟨sg,0,none⟩) n fC fE n fF gQ n fO qY n n) #[.slice qa rows.length qc,.slice (some ⟨X,0,none⟩) 1 1])):=⟨⟨Y,kR,kU⟩⟩
     refine A7 3 [([0,1],2)] [] bP bP (fun w'=> ∃p:Jb (akb R U (ed (some ⟨jb,jo,none⟩) n jc (some ⟨gb,go,none⟩) nd gc per cap hold lock false (now+1) iO nd iP (some ⟨sg,0,none⟩) n fC fE n fF gQ n fO qY n n) #[.slice qa rows.length qc,.slice (some ⟨X,0,none⟩) 1 1]),w'=p.w) ⟨⟨Y.drew,FT,Td⟩,rfl⟩ ?_;simp only[dV,mF,oH,jM,jO,EI,EJ];refine lS fun K hK=>?_
     repeat(first|(refine gI rfl 45 _ rfl _ _ rfl (fun|_,⟨p,rfl⟩=>wC p.h.1 45 vG nK) ?_;refine dF ?_)|(refine gI rfl 165 _ rfl _ _ rfl (fun|_,⟨p,rfl⟩=>wC p.h.2 165 agf Uj) ?_;refine dF ?_)|go_big_quiet_step (fail))
     refine wpQuiet_nil ?_
     go_wp2_with (refine dw (ed (some ⟨jb,jo,none⟩) n jc (some ⟨gb,go,none⟩) nd gc per cap hold lock false (now+1) iO nd iP (some ⟨sg,0,none⟩) n fC fE n fF gQ n fO qY n n) vC nK ?_;intro Wc kvc FU zc)
     refine qJ ⟨⟨Wc,FT.aB FU cu,Td.aB FU cu⟩,rfl⟩ (hK _ _ ?_);clear hK K;refine yR ?_;refine wpQuiet_nil ?_;have Ef:=kSd.aB FU aF
     go_wp2_with (refine dw #[.slice qa rows.length qc,.slice (some ⟨X,0,none⟩) 1 1] Ef Uj ?_;intro Wd kvd MF zd)
     have hdz:=bd.size;refine Uh (B:=w.heap.size) (U:=wr.heap.size) (I:=fun _ W=>ah W (R+1+1) 45 (ed (some ⟨jb,jo,none⟩) n jc (some ⟨gb,go,none⟩) nd gc per cap hold lock false (now+1) iO nd iP (some ⟨sg,0,none⟩) n fC fE n fF gQ n fO qY n n)∧ah W (R+1+1+1) 165 #[.slice qa rows.length qc,.slice (some ⟨X,0,none⟩) 1 1]∧dE W w.heap.size ⟨⟨some ⟨jb,jo,none⟩,n,jc,some ⟨gb,go,none⟩,nd,gc,per,cap,hold,lock⟩,false,now+1,l,iO,iP,AU,some ⟨sg,0,none⟩,fC,vs3,fE,fF,List.replicate n (-1),gQ,fO,yL,qY,n⟩∧Own W w.heap.size 58 1 qa rows.length qc (gC Rw.cells rows)∧(∀r∈rows,jm W w.heap.size r)∧jm W w.heap.size ⟨[xm],some ⟨X,0,none⟩,1⟩∧Below w.heap.size w W)
      (fun s W W' row h hg hr=>⟨h.1.turn hg fun r e=>(hr r e).2,h.2.1.turn hg fun r e=>(hr r e).2,h.2.2.1.turn hg fun r e=>(hr r e).2,h.2.2.2.1.turn hg fun r e=>(hr r e).2,fun r hr2=>(h.2.2.2.2.1 r hr2).turn hg fun r e=>(hr r e).2,h.2.2.2.2.2.1.turn hg fun r e=>(hr r e).2,h.2.2.2.2.2.2.grown hg h.2.2.2.2.2.2.size fun k e=>(hr k e).1⟩) (fun W h=>?_) gV Wd
      (((hms.others (KeepsOthers.drew Y)).others (KeepsOthers.of_grownBy FU fun j o e h=>by injection e with e;subst e;rw[show(Y.drew).heap[R+1+1]?=_ from vC]at h;injection h with h;rw[←h];rfl)).others (KeepsOthers.of_grownBy MF fun j o e h=>by injection e with e;subst e;rw[show Wc.heap[R+1+1+1]?=_ from Ef]at h;injection h with h;rw[←h];rfl))
      ⟨kvc.aB MF aF,kvd,((cl.below bd aA).aG FU vC ay).aG MF Ef ay,((oR.below bd aA).aG FU vC ay).aG MF Ef ay,fun r hr=>(((oI r hr).below bd aA).aG FU vC ay ay ay).aG MF Ef ay ay ay,((oF.below bd aA).aG FU vC ay ay ay).aG MF Ef ay ay ay,((be.trans (bd.mono be.size)).aB FU (dA be.size hdz) bQ).aB MF (dA (dA be.size hdz) FU.size) bQ⟩
     obtain⟨k4,k5,cl4,oR4,oI4,oF4,be4⟩:=h;have q4:=tJ k4 45 13 rfl vG nK;have q5:=tJ k5 165 2 rfl agf Uj;refine⟨.tuple #[.agg (ed (some ⟨jb,jo,none⟩) n jc (some ⟨gb,go,none⟩) nd gc per cap hold lock false (now+1) iO nd iP (some ⟨sg,0,none⟩) n fC fE n fF gQ n fO qY n n),.agg #[.slice qa rows.length qc,.slice (some ⟨X,0,none⟩) 1 1]],by simp[results,results73,q4,q5,asAddr,Sem.run_bind,Result.andThen],?_⟩;have e1:Cx.val ⟨⟨some ⟨jb,jo,none⟩,n,jc,some ⟨gb,go,none⟩,nd,gc,per,cap,hold,lock⟩,false,now+1,l,iO,iP,AU,some ⟨sg,0,none⟩,fC,vs3,fE,fF,List.replicate n (-1),gQ,fO,yL,qY,n⟩= .agg (ed (some ⟨jb,jo,none⟩) n jc (some ⟨gb,go,none⟩) nd gc per cap hold lock false (now+1) iO nd iP (some ⟨sg,0,none⟩) n fC fE n fF gQ n fO qY n n):=by
      have a1:l.length=nd:=HT3.out.ld;have a2:AU.length=n:=HT3.out.l1;have a3:vs3.length=n:=HT3.out.l2;have a4:yL.length=n:=HT3.out.l4;simp only[Cx.val,IZ,a1,a2,a3,a4,uK]
     refine⟨⟨⟨some ⟨jb,jo,none⟩,n,jc,some ⟨gb,go,none⟩,nd,gc,per,cap,hold,lock⟩,false,now+1,l,iO,iP,AU,some ⟨sg,0,none⟩,fC,vs3,fE,fF,List.replicate n (-1),gQ,fO,yL,qY,n⟩,rows,qa,qc,⟨[xm],some ⟨X,0,none⟩,1⟩,by rw[e1];rfl,ax ?_,ax HKT.out,ax (by simp only[Rw.key,mF,oH,HXM.out]),cl4,oR4,oI4,oF4,be4⟩;simp only[Cx.key,su.out,HSK.out,HVK.out,Og.out]
end
end Go.Proofs.YtiffpjamngklhaaGreat
