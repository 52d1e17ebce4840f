/- Lemmas, part 19. -/
import Derived.Test.YtiffpjamngklhaaGreatP17
import Derived.Test.YtiffpjamngklhaaGreatP18
namespace Go.Proofs.YtiffpjamngklhaaGreat
set_option linter.all false
set_option maxRecDepth 100000
set_option maxHeartbeats 16000000
open Go.RowKit Tryz
open Go.Sort hiding Below
variable{w w' W wr W' w1:ak}{B i B' n' c' sz' off N R M k0 z B2:Nat}{t:aK}{P:Program}{ys:aP}{xa:az}{j:Jx}{js:List Jx}{st rl:aO}{ss:List iG}
theorem U7{ops:Array Oper}{rest:List Oper}{o:Oper}{a:Act}{Q:dR}(hgd:o.guard=none)(T:aK)(x:Operand)(ho:o.op= .load T x)(g off:Nat)(t:aK)(cs:aZ)(vs:aP)
  (hx:a.eval x= .pointer (some ⟨g,off,none⟩)) (k:ah w g t cs) (hv:(cs.toList.drop off).take vs.length=vs) (hu:(P.underlying T).map TypeDesc.isRow=some true) (hi:(P.info? T).map (·.size)=some vs.length)
  (h:wpList P ops Q rest (a.put o.dst (.agg vs.toArray)) w):wpList P ops Q (o::rest) a w:=by
 cases hd:P.underlying T with
 |none=>rw[hd]at hu;cases hu
 |some d=>
  rw[hd]at hu;have hl:=run_loadVar_mid (P:=P) w g off T vs d (fun j v hj=>by
   rw[k.cell];have hj2:j<vs.length:=(List.getElem?_eq_some_iff.1 hj).1;have e:=congrArg (fun l=>l[j]?) hv;simp only[List.getElem?_take,if_pos hj2,List.getElem?_drop,hj]at e;simpa using e) hd Il hi
  refine wpList_plain hgd fun K hK=>?_;unfold Oper.wp execOp;simp only[ho,hx,Instr.loadAt,Instr.sureAddr,Sem.run_bind,Sem.run_pure,Result.andThen_ok,hl];exact hK _ _ h
structure Sz where
 S:cO
 a:az
 c:Nat
def Sz.cells(s:Sz):aP:= [.bool s.S.op,.bool s.S.dr,.slice s.a s.S.buf.length s.c,.bool s.S.gb]
theorem xP(x:Sz):(Sz.cells x).length=4:=rfl
def qZ:Sz:=⟨⟨false,false,[],false⟩,none,0⟩
def yM(w:ak)(B:Nat)(s:Sz):Prop:=Own w B 5 1 s.a s.S.buf.length s.c (s.S.buf.map a_)
theorem yM.at_{s:Sz}(h:yM w B s)(h9:s.S.buf.length≤1000000):FV w s.S.buf s.a s.S.buf.length s.c:=
 ⟨h.dL,rfl,h.IJ,fun e=>h.Qc e,h9⟩
structure Bx where
 c:Cx
 ss:List Sz
 sa:az
 sc:Nat
@[reducible] def brC(ja:az)(jn jc:Nat)(ga:az)(gn gc:Nat)(per cap hold lock:Int)(ref:Bool)(now:Int)(da:az)(dn dc:Nat)(sa:az)(sn sc:Nat)(va:az)(vn vc:Nat)(ta:az)(tn tc:Nat)(wa:az)(wn wc:Nat)(ba:az)(bn bc:Nat):aZ:=
 #[.slice ja jn jc,.slice ga gn gc,ae per,ae cap,ae hold,ae lock,.bool ref,ae now,.slice da dn dc,.slice sa sn sc,.slice va vn vc,.slice ta tn tc,.slice wa wn wc,.slice ba bn bc]
@[reducible] def Cx.fK(x:Cx)(xb:az)(i k:Nat):aZ:=brC x.cf.ja x.cf.jn x.cf.jc x.cf.ga x.cf.gn x.cf.gc x.cf.per x.cf.cap x.cf.hold x.cf.lock x.ref x.now x.da x.ds.length x.dc x.sa x.ss.length x.sc x.va x.vs.length x.vc x.ta x.st.length x.tc x.wa x.ws.length x.wc xb i k
@[reducible] def Bx.val(b:Bx):Value:= .agg (b.c.fK b.sa b.ss.length b.sc)
structure qI(w:ak)(b:Bx):Prop where
 c:xU w b.c
 ss:Sl w 107 4 b.sa b.ss.length b.sc (gC Sz.cells b.ss)
 it: ∀s∈b.ss,FV w s.S.buf s.a s.S.buf.length s.c
 n9:b.ss.length≤8
theorem qI.below{b:Bx}(h:qI w b)(hb:Below B w w')(hB:w.heap.size≤B):qI w' b:=⟨h.c.below hb hB,h.ss.below hb hB,fun s hs=>(h.it s hs).below hb hB,h.n9⟩
structure ik(w:ak)(B:Nat)(b:Bx):Prop where
 c:dE w B b.c
 ss:Own w B 107 4 b.sa b.ss.length b.sc (gC Sz.cells b.ss)
 it: ∀s∈b.ss,yM w B s
section
variable{w w':ak}{B B':Nat}{b:Bx}
theorem ik.below{C:Nat}(h:ik w C b)(hb:Below B w w')(hB:w.heap.size≤B):ik w' C b:=⟨h.c.below hb hB,h.ss.below hb hB,fun s hs=>(h.it s hs).below hb hB⟩
theorem ik.mono(h:ik w B b)(hB:B'≤B):ik w B' b:=⟨h.c.mono hB,h.ss.mono hB,fun s hs=>(h.it s hs).mono hB⟩
theorem ik.g(h:ik w B b)(hs:b.c.key.Small)(h9:b.ss.length≤8)(hm: ∀s∈b.ss,s.S.buf.length≤1000000):qI w b:=⟨h.c.g hs,h.ss.sl,fun s q=>(h.it s q).at_ (hm s q),h9⟩
theorem ik.aG{g:Nat}{cs:aZ}(h:ik w B b)(hg:w.grownBy w' (some g))(k:ah w g t cs)(hne:t ∉ KG)(h1:t≠107):ik w' B b:=
 ⟨h.c.aG hg k hne,h.ss.aG hg k h1.symm,fun s hs=>Own.aG (h.it s hs) hg k (fun e=>hne (e▸by decide))⟩
end
theorem eP:(prog.info? 48).map (·.size)=some 14:=by kernel_rfl
theorem l_:(prog.underlying 48).map TypeDesc.isRow=some true:=by kernel_rfl
theorem Et:(prog.info? 107).map (·.size)=some 4:=by kernel_rfl
theorem PI:(prog.underlying 107).map TypeDesc.isRow=some true:=by kernel_rfl
theorem agP:(prog.info? 107).map (fun i=>(i.zero,i.size,i.bytes))=some (some (.agg #[.bool false,.bool false,.slice none 0 0,.bool false]),4,40):=by kernel_rfl
def je:aZ:= #[.slice none 0 0,.slice none 0 0,ae 0,ae 0,ae 0,ae 0,.bool false,ae 0,.slice none 0 0,.slice none 0 0,.slice none 0 0,.slice none 0 0,.slice none 0 0,.slice none 0 0]
theorem aqn(ja:az)(jn jc:Nat)(ga:az)(gn gc:Nat)(per cap hold lock:Int)(gs:List Ax)(w:ak)(hg:Sl w 32 8 ga gn gc (gC Ax.cells gs))(hn:gn=gs.length)(h4:1≤gs.length∧gs.length≤4)(hse: ∀a∈gs,1≤a.se∧a.se≤2):
  aH 33 #[Dz ja jn jc ga gn gc per cap hold lock,ae gn] w fun e w'=>e= .returned (ae (iE gs))∧Below w.heap.size w w':=by
 subst hn;obtain⟨gb,go,rfl,yD⟩:=hg.open_ aj
 go_enter func33,ntmps33
 go_upto_region 1 with fail
 obtain⟨R,hR⟩:=aI w.heap.size;refine aW (fun W=>ah W R 28 (gJ ja jn jc (some ⟨gb,go,none⟩) gs.length gc per cap hold lock)∧Below w.heap.size w W) ⟨by rw[←hR];exact ah.new _ _ _,bel⟩ ?_;have HR:=ax hR;rw[hR];clear hR;rintro W ⟨kR,be⟩;have be:Below w.heap.size w W:=by rw[HR.out];exact be
 (obtain⟨x0,x1,x2,x3,x4,x5,xf,xl⟩:=kR.n6)
 go_wp2_with fail
 (clear x0 x1 x2 x3 x4 x5 xf xl)
 go_loopw [11,5] (fun s11 s5 wr=> ∃(i:Nat),s11=ae i∧i≤gs.length∧s5=ae (iE (gs.take i))∧Below w.heap.size w wr) (fun s11 _ _=>gs.length -(intOf s11).toNat)
 case atStart=>exact⟨0,rfl,by omega,rfl,be⟩
 case round=>
  clear be kR;obtain⟨i,rfl,hi,rfl,hb⟩:=hrel;by_cases hlt:i<gs.length
  ·have ix:(i:Int)<(gs.length:Int):=by omega
   have ix2: ¬ (gs.length:Int)≤(i:Int):=by omega
   have hgr:=hg.below hb aA;have Xz:=F_ (gs.take i) (fun a ha=>hse a (List.mem_of_mem_take ha));have slen:(gs.take i).length≤4:=by rw[pV];omega
   have HS:=ax (agM gs i hlt);have Gy:=hse _ (bF hlt);obtain⟨x,hx⟩:=aI (gs[i]);rw[hx]at HS Gy;have glr:=jL yD hb.size
   go_upto_region 5 with(first|(refine Ig rfl 32 _ rfl hgr.row IE i hlt hx rfl PG Ic ?_)|(refine dw (Ax.cells x).toArray (ah.new _ _ _) Ic ?_;intro W2 kT gw zw))
   replace hb:=(hb.alloc hb.size _).aB gw (by have:=hb.size;simp;omega) (fun k hk=>by injection hk with hk;have:=hb.size;omega);obtain⟨T,hT⟩:=aI wr.heap.size;rw[hT]at kT⊢;clear hgr hx glr hT gw zw;obtain⟨S,hS⟩:=aI (iE (gs.take i));rw[hS]at Xz HS⊢;clear hS;have t5:=kT.cell 5;simp[Ax.cells]at t5;have tl:=kT.lt
   go_wp2_with fail
   go_roundw
   case rel=>exact⟨i+1,by go_num,by omega,by rw[HS.out],hb⟩
   case measure=>simp[intOf];omega
  ·obtain rfl:i=gs.length:=by omega
   rw[List.take_length]
   go_wp2_with fail
   go_ret;exact⟨rfl,hb⟩
def XO(K:dJ)(S:List cO)(w:ak)(e:Ending)(w':ak):Prop:= ∃b:Bx,e= .returned b.val∧Hid (b.c.key=K)∧Hid (b.ss.map Sz.S=S)∧ik w' w.heap.size b∧Below w.heap.size w w'
theorem agQ(cf:Cf)(js:List Jx)(gs:List Ax)(w:ak)(h:rM w cf js gs):aH 15 #[cf.val] w (XO (jU cf js gs) (List.replicate (iE gs).toNat qZ.S) w):=by
 have hNew:=fun W (hb:Below w.heap.size w W)=>arQ cf js gs W (h.below hb aA);have hse: ∀a∈gs,1≤a.se∧a.se≤2:=fun a ha=>(h.LX a ha).fine.se;have hBase:=fun W (hb:Below w.heap.size w W)=>aqn cf.ja cf.jn cf.jc cf.ga cf.gn cf.gc cf.per cf.cap cf.hold cf.lock gs W ((by have:=h.grow;rw[←h.hg]at this;exact this:Sl w 32 8 cf.ga cf.gn cf.gc (gC Ax.cells gs)).below hb aA) h.hg h.n2 hse;have hs9:=F_ gs hse;have hg4:=h.n2.2;obtain⟨S,hS⟩: ∃S:Nat,iE gs=S:=⟨(iE gs).toNat,by omega⟩;rw[hS]at hBase hs9⊢;have HS:=ax hS;have abo:=ax hNew;have awx:=ax hBase;obtain⟨ja,jn,jc,ga,gn,gc,per,cap,hold,lock⟩:=cf;clear h hNew hBase hS
 go_enter func15,ntmps15
 go_upto_region 1 with fail
 obtain⟨R,hR⟩:=aI w.heap.size;refine aW (fun W=>ah W R 28 (gJ ja jn jc ga gn gc per cap hold lock)∧ah W (R+1) 48 je∧Below w.heap.size w W) ⟨by rw[←hR];exact(ah.new _ _ _).alloc _,by rw[←hR];exact ah.dG _ _ _ _,bel⟩ ?_;have HR:=ax hR;rw[hR];clear hR;rintro W ⟨kR,kO,be⟩;have be:Below w.heap.size w W:=by rw[HR.out];exact be
 (obtain⟨x0,x1,x2,x3,x4,x5,xf,xl⟩:=kR.n6)
 go_upto_region 2 with(first|(go_at_call 32;(with_reducible refine(abo.out _ be).mono ?_);rintro e w1 ⟨c,rfl,HK,oC,hb1⟩;(clear x0 x1 x2 x3 x4 x5 xf xl))|(refine dw (c.fK none 0 0) (ah.new _ _ _) eP ?_;intro W2 kw gw zw))
 have hws:=be.size;have D6:=hb1.size;have axB:c.ref=false:=congrArg dJ.ref HK.out;have bA:Below w1.heap.size w1 (w1.alloc (.cells je 48)):=bel;have kB0:ah (w1.alloc (.cells je 48)) w1.heap.size 48 je:=ah.new _ _ _;obtain⟨B,hB⟩:=aI w1.heap.size;have hRB:R+1<w1.heap.size:=(kO.below hb1 kO.lt).lt;refine aW (fun Y=>ah Y R 28 (gJ ja jn jc ga gn gc per cap hold lock)∧ah Y (R+1) 48 je∧ah Y B 48 (c.fK none 0 0)∧dE Y w.heap.size c∧Below w.heap.size w Y) ⟨((kR.below hb1 kR.lt).below bA aj).aB gw cu,((kO.below hb1 kO.lt).below bA aj).aB gw cu,by rw[←hB];exact kw,((oC.mono hws).below bA aA).aG gw kB0 ay,((be.trans (hb1.mono hws)).trans (bA.mono aj)).aB gw cu bQ⟩ ?_;rw[hB]at hRB⊢;clear kR kO be oC hb1 kw gw zw hws D6 bA kB0 hB;rintro Y ⟨kR,kO,kB,oC,be⟩;have hsn:iE gs=(S:Int):=HS.out;(obtain⟨x0,x1,x2,x3,x4,x5,xf,xl⟩:=kR.n6);have kB2:=kB;(obtain⟨b0,b1,b2,b3,b4,b5,b6,b7,b8,b9,b10,b11,b12,b13,bf,bl⟩:=kB2.n14);rw[axB]at b6
 go_upto_region 4 with(first|(go_at_call 33;(with_reducible refine(awx.out _ be).mono ?_);rintro e w3 ⟨rfl,hb3⟩;((clear x0 x1 x2 x3 x4 x5 xf xl);(clear b0 b1 b2 b3 b4 b5 b6 b7 b8 b9 b10 b11 b12 b13 bf bl)))|(refine U5 (cells:=Sz.cells) 40 S qZ #[.bool false,.bool false,.slice none 0 0,.bool false] xP ay rfl underlying46 agP ay ?_ ?_ aj ?_;(focus rfl);(focus rfl);intro W4 kM bM zM;(have hb4:=hb3.trans (bM.mono hb3.size);have kB3:=kB.below hb4 kB.lt;(obtain⟨b0,b1,b2,b3,b4,b5,b6,b7,b8,b9,b10,b11,b12,b13,bf,bl⟩:=kB3.n14))))
 (clear b0 b1 b2 b3 b4 b5 b6 b7 b8 b9 b10 b11 b12 b13 bf bl);have g5:=grownBy_set W4 B 13 (.slice (some ⟨w3.heap.size,0,none⟩) S S);have kB5:ah _ B 48 (c.fK (some ⟨w3.heap.size,0,none⟩) S S):=kB3.upd 13 (.slice (some ⟨w3.heap.size,0,none⟩) S S);have O5:=(kO.below hb4 kO.lt).aB g5 cu;have hYs:=be.size;have BV:=hb3.size;have oS:=(kM.Am xP (show w.heap.size≤w3.heap.size by omega) S aF aj).aG g5 kB3 ay;have oC5:=(oC.below hb4 aA).aG g5 kB3 ay;have jS:=(be.trans (hb4.mono hYs)).aB g5 (by have:=hb4.size;omega) CU
 go_wp2_with (first|(refine gy kB5 l_ eP ?_)|(refine dw (c.fK (some ⟨w3.heap.size,0,none⟩) S S) O5 eP ?_;intro W6 kw gw zw))
 refine nJ 2 48 results15 rfl kw 14 rfl l_ eP rfl ?_;have hl:(List.replicate S qZ).length=S:=by simp
 refine⟨⟨c,List.replicate S qZ,some ⟨w3.heap.size,0,none⟩,S⟩,by simp only[Bx.val,hl],HK,ax aF,⟨oC5.aG gw O5 ay,by simp only[hl];exact oS.aG gw O5 ay,fun s hs=>by rw[(List.mem_replicate.1 hs).2];exact Own.nil _ _ _ _⟩,jS.aB gw jS.size CU⟩
structure JE(w:ak)(R:Nat)(br:aZ)(c:Cx)(m N:Nat)(S0:List cO)(i:Nat)(l:List Sz)(wr:ak):Prop where
 kR:ah wr R 48 br
 kO:ah wr (R+1) 48 je
 len:l.length=m
 row:Own wr w.heap.size 107 4 (some ⟨N,0,none⟩) m m (gC Sz.cells l)
 it: ∀s∈l,yM wr w.heap.size s
 keys:l.map Sz.S=S0.take i++List.replicate (m -i) qZ.S
 be:Below w.heap.size w wr
theorem JE.below{br:aZ}{c:Cx}{m:Nat}{S0:List cO}{l:List Sz}(h:JE w R br c m N S0 i l wr)(hb:Below wr.heap.size wr W):JE w R br c m N S0 i l W:=
 ⟨h.kR.below hb h.kR.lt,h.kO.below hb h.kO.lt,h.len,h.row.below hb aA,fun s hs=>(h.it s hs).below hb aA,h.keys,h.be.trans (hb.mono h.be.size)⟩
theorem yM.aC{s:Sz}(h:yM w B s)(hg:w.grownBy w' (xa.map (·.block)))(x:Own w B' t sz' xa n' c' ys)(hne:5≠t):yM w' B s:=Own.aC h hg x hne
theorem agi{P:Prop}(h:P:=by
 rcases CS hs with hs|rfl
 ·exact(h.it s hs).aC (xa:=some ⟨N,0,none⟩) gr row ay
 ·exact hy.aC (xa:=some ⟨N,0,none⟩) gr row ay):P:=h
theorem JE.store{br:aZ}{c:Cx}{m:Nat}{S0:List cO}{l:List Sz}(h:JE w R br c m N S0 i l wr)(hi:i<m)(hS:S0.length=m){y:Sz}(hy:yM wr w.heap.size y)(hk:y.S=S0[i]' aj)(hW:W=jy wr N (i*4) (Sz.cells y)):JE w R br c m N S0 (i+1) (l.set i y) W:=by
 have gr:=gm N (Sz.cells y) wr (i*4);rw[←hW]at gr;have hl:=h.len;have row:=h.row;refine⟨h.kR.aC (xa:=some ⟨N,0,none⟩) gr row ay,h.kO.aC (xa:=some ⟨N,0,none⟩) gr row ay,by rw[iQ];exact hl,?_,fun s hs=>?_,?_,h.be.aC (xa:=some ⟨N,0,none⟩) gr row h.be.size aA⟩
 ·rw[C9 xP l i aj y,hW];exact row.sets (Sz.cells y) (i*4)
 ·exact agi
 ·rw[List.map_set,h.keys,hk];have:=IG S0 (List.replicate m qZ.S) i aj (by simp[hS]);simp only[List.drop_replicate]at this;rw[this]
theorem Ue(b:Bx)(w:ak)(h:qI w b):aH 34 #[b.val] w (XO b.c.key (b.ss.map Sz.S) w):=by
 obtain⟨c,ss,sa,sc⟩:=b;obtain⟨hC,hS,hit,h9⟩:=h;simp only at hC hS hit h9⊢;have HC:=ax hC;obtain⟨m,hm⟩:=aI ss.length;have HM:=ax hm;have HIT:=ax hit;rw[hm]at hS h9;have hval:(Bx.val ⟨c,ss,sa,sc⟩)= .agg (c.fK sa m sc):=by simp only[Bx.val,hm]
 rw[hval];clear hC hm hit hval
 go_enter func34,ntmps34
 go_upto_region 1 with fail
 obtain⟨R,hR⟩:=aI w.heap.size;refine aW (fun W=>ah W R 48 (c.fK sa m sc)∧ah W (R+1) 48 je∧Below w.heap.size w W) ⟨by rw[←hR];exact(ah.new _ _ _).alloc _,by rw[←hR];exact ah.dG _ _ _ _,bel⟩ ?_;have HR:=ax hR;rw[hR];clear hR;rintro W ⟨kR,kO,be⟩;have be:Below w.heap.size w W:=by rw[HR.out];exact be
 (obtain⟨x0,x1,x2,x3,x4,x5,x6,x7,x8,x9,x10,x11,x12,dh,xf,xl⟩:=kR.n14)
 go_upto_region 2 with(refine U5 (cells:=Sz.cells) 40 m qZ #[.bool false,.bool false,.slice none 0 0,.bool false] xP ay rfl underlying46 agP ay ?_ ?_ aj ?_;(focus rfl);(focus rfl);intro W3 kM bM zM)
 (clear x0 x1 x2 x3 x4 x5 x6 x7 x8 x9 x10 x11 x12 dh xf xl);obtain⟨N,hN⟩:=aI W.heap.size;have hws:=be.size;have hI:JE w R (c.fK sa m sc) c m N (ss.map Sz.S) 0 (List.replicate m qZ) W3:=⟨kR.below bM kR.lt,kO.below bM kO.lt,by simp,by rw[←hN];exact kM.Am xP hws m aF aj,fun s hs=>by rw[(List.mem_replicate.1 hs).2];exact Own.nil _ _ _ _,by simp,be.trans (bM.mono hws)⟩;rw[hN];clear kR kO be kM bM zM hws hN;have kR:=hI.kR;(obtain⟨x0,x1,x2,x3,x4,x5,x6,x7,x8,x9,x10,x11,x12,dh,xf,xl⟩:=kR.n14)
 go_wp2_with fail
 (clear x0 x1 x2 x3 x4 x5 x6 x7 x8 x9 x10 x11 x12 dh xf xl);clear kR
 go_loopw [13] (fun s13 wr=> ∃(i:Nat) (l:List Sz),s13=ae i∧i≤m∧JE w R (c.fK sa m sc) c m N (ss.map Sz.S) i l wr) (fun s13 _=>m -(intOf s13).toNat)
 case atStart=>exact⟨0,_,rfl,by omega,hI⟩
 case round=>
  clear hI;obtain⟨i,l,rfl,hi,hI⟩:=hrel;by_cases hlt:i<m
  ·have ix:(i:Int)<(m:Int):=by omega
   have hSr:=hS.below hI.be aA;obtain⟨g,o,rfl,yD⟩:=hSr.open_ aj;have him:i<ss.length:=by rw[HM.out];exact hlt
   obtain⟨z,hz⟩:=aI (ss[i]);have hat:=(HIT.out z Zk).below hI.be aA
   go_upto_region 5 with(first|(refine Ig rfl 107 _ rfl hSr.row xP i him hz rfl PI Et ?_)|(refine dw (Sz.cells z).toArray (ah.new _ _ _) Et ?_;intro W2 kT gw zw))
   have bT:Below wr.heap.size wr W2:=((Below.refl _ wr).alloc aA _).aB gw aF bQ;replace hI:=hI.below bT;replace hat:=hat.below bT aA;have HZ:Hid ((ss.map Sz.S)[i]'(by simpa using him)=z.S):=ax (by rw[List.getElem_map,hz]);obtain⟨T,hT⟩:=aI wr.heap.size;rw[hT]at kT⊢;clear bT gw zw hT hSr yD hz;have Tf:Hid (aH 68 #[.agg (Sz.cells z).toArray] W2 (Oa z.S W2)):=ax (Ub z.S.op z.S.dr z.S.gb z.S.buf z.a z.S.buf.length z.c W2 hat);have room:i*4+4≤(gC Sz.cells l).length:=by rw[oZ xP,hI.len];omega
   go_upto_region 6 with(first|(refine gy kT PI Et ?_)|(go_at_call 68;(with_reducible refine(Tf.out).mono ?_);rintro e w4 ⟨xa,xc,xn,AV,rfl,oX,hb4⟩;(have w_:=hI.below hb4;have row:=w_.row))|(refine yO rfl 107 _ _ rfl (off:=i*4) #[.bool z.S.op,.bool z.S.dr,.slice xa xn xc,.bool z.S.gb] rfl rfl row room 4 rfl Et rfl ?_;intro W5 h5 z5;(have H5:=ax h5;clear h5 z5)))
   have e5:W5=jy w4 N (i*4) (Sz.cells ⟨z.S,xa,xc⟩):=by rw[H5.out];simp only[Sz.cells,AV.out]
   have Jz:=w_.store hlt (by simp;exact HM.out) (y:=⟨z.S,xa,xc⟩) (by unfold yM;simp only;rw[←AV.out];exact oX.mono hI.be.size) (by simp only;exact HZ.out.symm) e5;have HI5:=ax Jz;clear Jz e5 H5 row room w_ hI oX hb4 Tf hat kT
   go_wp2_with fail
   go_roundw
   case rel=>exact⟨i+1,_,by go_num,by omega,HI5.out⟩
   case measure=>simp[intOf];omega
  ·obtain rfl:m=i:=by omega
   have hk:l.map Sz.S=ss.map Sz.S:=by rw[hI.keys,nM (by simp;exact tY HM.out),Nat.sub_self];simp
   have qE:Hid (aH 69 #[.agg (ed c.cf.ja c.cf.jn c.cf.jc c.cf.ga c.cf.gn c.cf.gc c.cf.per c.cf.cap c.cf.hold c.cf.lock c.ref c.now c.da c.ds.length c.dc c.sa c.ss.length c.sc c.va c.vs.length c.vc c.ta c.st.length c.tc c.wa c.ws.length c.wc)] wr (QB c.key wr)):=ax (afq c wr (HC.out.below hI.be aA));have kR:=hI.kR;have kO:=hI.kO;have HI:=ax hI;have HKY:=ax hk;clear hI hk;(obtain⟨x0,x1,x2,x3,x4,x5,x6,x7,x8,x9,x10,x11,x12,dh,xf,xl⟩:=kR.n14)
   go_wp2_with (first|(refine U7 rfl 45 _ rfl R 0 48 _ [.slice c.cf.ja c.cf.jn c.cf.jc,.slice c.cf.ga c.cf.gn c.cf.gc,ae c.cf.per,ae c.cf.cap,ae c.cf.hold,ae c.cf.lock,.bool c.ref,ae c.now,.slice c.da c.ds.length c.dc,.slice c.sa c.ss.length c.sc,.slice c.va c.vs.length c.vc,.slice c.ta c.st.length c.tc,.slice c.wa c.ws.length c.wc] rfl kR rfl vG nK ?_)|(go_at_call 69;(with_reducible refine(qE.out).mono ?_);rintro e w7 ⟨c2,rfl,hk2,oC,hb7⟩;((clear x0 x1 x2 x3 x4 x5 x6 x7 x8 x9 x10 x11 x12 dh xf xl);have JF:=kO.below hb7 kO.lt))|(refine dw (c2.fK (some ⟨N,0,none⟩) m m) JF eP ?_;intro W8 kw gw zw))
   refine nJ 2 48 results34 rfl kw 14 rfl l_ eP rfl ?_;have Ht:=HI.out.below hb7;have hws:=HI.out.be.size;refine⟨⟨c2,l,some ⟨N,0,none⟩,m⟩,by simp only[Bx.val,Ht.len],hk2,HKY,⟨(oC.mono hws).aG gw JF ay,by simp only[Ht.len];exact Ht.row.aG gw JF ay,fun s hs=>Own.aG (Ht.it s hs) gw JF ay⟩,Ht.be.aB gw Ht.be.size CU⟩
def h_(ms:List aU):aJ:=ms.flatMap fun m=>fG m.kind m.pay
theorem aeP(ms:List aU)(m:aU):h_ (ms++ [m])=h_ ms++fG m.kind m.pay:=by simp[h_]
theorem agR: ∀ms:List aU,(∀m∈ms,m.Ok)→(h_ ms).length≤210*ms.length
 |[],_=>by simp[h_]
 |m::ms,h=>by
  have h1:=agR ms fun x hx=>h x (List.mem_cons_of_mem _ hx);have h2:=(h m List.mem_cons_self).EO;have h3:=Dc m.kind m.pay;simp only[h_,List.flatMap_cons,dP,jJ]at h1⊢;omega
def abp(l:aJ)(w:ak)(e:Ending)(w':ak):Prop:= ∃(xa:az) (n xc:Nat),e= .returned (.slice xa n xc)∧Hid (n=l.length)∧Own w' w.heap.size 5 1 xa n xc (l.map a_)∧Below w.heap.size w w'
theorem aeD(a:az)(n c:Nat)(ms:List Mx)(w:ak)(h:Sl w 36 4 a n c (gC Mx.cells ms))(hn:n=ms.length)(h9:n≤1000)(hm: ∀m∈ms,Hg w m)(hok: ∀m∈ms,m.m.Ok):
  aH 74 #[.slice a n c] w (abp (h_ (ms.map Mx.m)) w):=by
 have HN:=ax hn;have HM:=ax hm;have jQ:=ax hok;clear hn hm hok
 go_enter func74,ntmps74
 go_wp2_with fail
 go_loopw [10,3] (fun s10 s3 wr=> ∃(i k:Nat) (xa:az) (xc:Nat),s10=ae i∧i≤n∧s3= .slice xa k xc∧Hid (k=(h_ ((ms.take i).map Mx.m)).length)∧k≤210*i∧Own wr w.heap.size 5 1 xa k xc ((h_ ((ms.take i).map Mx.m)).map a_)∧Below w.heap.size w wr) (fun s10 _ _=>n -(intOf s10).toNat)
 case atStart=>exact⟨0,0,none,0,rfl,by omega,rfl,ax rfl,by omega,Own.nil _ _ _ _,Below.refl _ _⟩
 case round=>
  obtain⟨i,k,xa,xc,rfl,hi,rfl,su,hk,oX,hb⟩:=hrel;by_cases hlt:i<n
  ·have ix:(i:Int)<(n:Int):=by omega
   have hsl:=h.below hb aA;obtain⟨g,o,rfl,yD⟩:=hsl.open_ aj;have him:i<ms.length:=by rw[←HN.out];exact hlt
   obtain⟨x,hx⟩:=aI (ms[i]);have hmem:x∈ms:=by rw[←hx];exact bF him
   have hxg:=HM.out x hmem;have hxo:=jQ.out x hmem;have HT:Hid (h_ ((ms.take (i+1)).map Mx.m)=h_ ((ms.take i).map Mx.m)++fG x.m.kind x.m.pay):=ax (by rw[List.take_succ_eq_append_getElem him,jg,hx];exact aeP _ _)
   go_upto_region 5 with(first|(refine Ig rfl 36 _ rfl hsl.row Gg i him hx rfl xK lZ ?_)|(refine dw (Mx.cells x).toArray (ah.new _ _ _) lZ ?_;intro W2 kT gw zw))
   have bT:Below wr.heap.size wr W2:=((Below.refl _ wr).alloc aA _).aB gw aF bQ;replace oX:=oX.below bT aA;replace hb:=hb.trans (bT.mono hb.size);obtain⟨T,hT⟩:=aI wr.heap.size;rw[hT]at kT⊢;clear bT gw zw hT hsl yD hx;have hFr:Hid (aH 112 #[.agg (Mx.cells x).toArray] W2 fun e w'=> ∃a:az × Nat,e= .returned (.tuple #[.slice a.1 (fG x.m.kind x.m.pay).length a.2,ae 0])∧bI w' a.1 (fG x.m.kind x.m.pay)∧Below W2.heap.size W2 w'):=ax (by
    have hat:qx W2 x.m x.ta x.tc x.aa x.da:=⟨hxg.tok.below hb aA,hxg.args.below hb aA,hxg.dat.below hb aA,hxg.nil,hxg.len⟩;refine(ar4 x.m x.ta x.tc x.aa x.da x.ac x.dc W2 hat rfl rfl rfl).mono ?_;rintro e w' (⟨_,a,n,c,rfl,rfl,hB,hb⟩|⟨hno,_,_⟩)
    ·exact⟨(a,c),rfl,hB,hb⟩
    ·exact absurd hxo hno)
   have hfl:=Dc x.m.kind x.m.pay;have hpl:=hxo.EO;obtain⟨fl,abq⟩: ∃f,(fG x.m.kind x.m.pay).length=f:=⟨_,rfl⟩;have Ti:=ax abq;rw[abq]at hfl hFr;have hf9:fl≤210:=by omega
   clear hfl hpl;have O6:=hb.size;have l0:fG x.m.kind x.m.pay=fG x.m.kind x.m.pay:=rfl;clear abq hxg hxo hmem
   go_upto_region 6 with(first|(refine gy kT xK lZ ?_)|(go_at_call 112;(with_reducible refine(hFr.out).mono ?_);rintro e w4 ⟨⟨fa,fc⟩,rfl,hF,hb4⟩))
   have hb5:=hb.trans (hb4.mono O6);have yI:=oX.below hb4 aA;have hw4:=hb5.size;clear hb4 hFr oX kT
   go_wp2_with (at_builtin;refine qN rfl _ _ rfl w.heap.size xa k xc (h_ ((ms.take i).map Mx.m)) rfl fa fl fc (fG x.m.kind x.m.pay) rfl yI hF Ti.out.symm (k+fl) rfl aj hw4 ?_;intro xb xd w5 jF g5 sU)
   have HR2:Hid (Own w5 w.heap.size 5 1 xb (k+fl) xd ((h_ ((ms.take (i+1)).map Mx.m)).map a_)):=ax (by rw[HT.out];exact jF);have axC:Hid (k+fl=(h_ ((ms.take (i+1)).map Mx.m)).length):=ax (by rw[HT.out,dP,←su.out,Ti.out]);have hbw:=sU _ hb5;clear jF g5 sU yI hF hb5 hb;go_roundw
   case rel=>exact⟨i+1,k+fl,xb,xd,by go_num,by omega,rfl,axC,by omega,HR2.out,hbw⟩
   case measure=>simp[intOf];omega
  ·obtain rfl:n=i:=by omega
   have e:ms.take n=ms:=nM (tY HN.out.symm);rw[e]at su oX
   go_wp2_with fail
   go_ret;exact⟨xa,k,xc,rfl,su,oX,hb⟩
def VP(S:cO)(x:Ix):Prop:=x.op=S.op∧x.its.map It.key=S.inp
def FW:Dw:=⟨[],none,0⟩
def Cj(w:ak)(B:Nat)(d:Dw):Prop:=Own w B 5 1 d.a d.b.length d.c (d.b.map a_)
theorem sH:(prog.info? 52).map (·.size)=some 2:=by kernel_rfl
theorem JQ:(prog.underlying 52).map TypeDesc.isRow=some true:=by kernel_rfl
theorem apt:(prog.info? 160).map (·.size)=some 2:=by kernel_rfl
theorem aq9:(prog.info? 160).map (fun i=>(i.zero,i.size,i.bytes))=some (some (.agg #[.bool false,.slice none 0 0]),2,32):=by kernel_rfl
theorem Qi:(prog.info? 30).map (fun i=>(i.zero,i.size,i.bytes))=some (some (.slice none 0 0),1,24):=by kernel_rfl
def BB(w w':ak):Prop:= ∀b t cs,ah w b t cs→107≠t→160≠t→ah w' b t cs
theorem BB.below(h:BB w w1)(hb:Below w1.heap.size w1 w'):BB w w':=fun b t cs k h1 h2=>(h b t cs k h1 h2).below hb (h b t cs k h1 h2).lt
theorem BB.row(h:BB w w1)(hg:w1.grownBy w' (xa.map (·.block)))(x:Own w1 B' t sz' xa n' c' ys)(ht:t=107∨t=160):BB w w':=fun b e cs k h1 h2=>(h b e cs k h1 h2).aC hg x (by rcases ht with rfl|rfl<;>assumption)
theorem BB.new{g:Nat}(h:BB w w1)(hg:w1.grownBy w' (some g))(hw:w.heap.size≤g):BB w w':=fun b e cs k h1 h2=>(h b e cs k h1 h2).aB hg (fun e=>by injection e with e;have:=k.lt;omega)
structure Hu(w:ak)(B R:Nat)(br:aZ)(c:Cx)(m N sc M:Nat)(S0:List cO)(i:Nat)(l:List Sz)(xs:List Ix)(wr:ak):Prop where
 cl:dE wr B c
 kR:ah wr R 48 br
 kO:ah wr (R+1) 48 je
 kP:ah wr (R+1+1) 52 #[.slice none 0 0,.slice none 0 0]
 len:l.length=m
 row:Own wr B 107 4 (some ⟨N,0,none⟩) m sc (gC Sz.cells l)
 it: ∀s∈l,yM wr B s
 keys:l.map Sz.S=(S0.map cO.dG).take i++S0.drop i
 xl:xs.length=m
 xr:Own wr B 160 2 (some ⟨M,0,none⟩) m m (gC Ix.cells xs)
 xi: ∀j (h:j<xs.length) (h0:j<S0.length),j<i→Own wr B 128 3 xs[j].a xs[j].its.length xs[j].c (gC It.cells xs[j].its)∧(∀t∈xs[j].its,Own wr 0 5 1 t.a t.pay.length t.c (t.pay.map a_))∧VP S0[j] xs[j]
 be:Below B w wr
 kept:BB w wr
section
variable{w:ak}{B R:Nat}{br:aZ}{c:Cx}{m N sc M:Nat}{S0:List cO}{i:Nat}{l:List Sz}{xs:List Ix}{wr W:ak}
theorem Hu.below(h:Hu w B R br c m N sc M S0 i l xs wr)(hb:Below wr.heap.size wr W)(hB:B≤w.heap.size):Hu w B R br c m N sc M S0 i l xs W:=
 ⟨h.cl.below hb aA,h.kR.below hb h.kR.lt,h.kO.below hb h.kO.lt,h.kP.below hb h.kP.lt,h.len,h.row.below hb aA,fun s hs=>Own.below (h.it s hs) hb aA,h.keys,h.xl,h.xr.below hb aA,fun j h1 h2 h3=>⟨(h.xi j h1 h2 h3).1.below hb aA,fun t ht=>((h.xi j h1 h2 h3).2.1 t ht).below hb aA,(h.xi j h1 h2 h3).2.2⟩,h.be.trans (hb.mono (dA hB h.be.size)),h.kept.below hb⟩
theorem Hu.store(h:Hu w B R br c m N sc M S0 i l xs wr)(hB:B≤w.heap.size)(hi:i<m)(hS:S0.length=m){y:Sz}{x:Ix}{W1:ak}(hy:yM wr B y)(hk:y.S=(S0[i]' aj).dG)(hW:W1=jy wr N (i*4) (Sz.cells y))
  (hx:Own wr B 128 3 x.a x.its.length x.c (gC It.cells x.its)) (hp: ∀t∈x.its,Own wr 0 5 1 t.a t.pay.length t.c (t.pay.map a_)) (hkx:VP (S0[i]' aj) x) (hW2:W=jy W1 M (i*2) (Ix.cells x)):Hu w B R br c m N sc M S0 (i+1) (l.set i y) (xs.set i x) W:=by
 have g1:=gm N (Sz.cells y) wr (i*4);rw[←hW]at g1;have g2:=gm M (Ix.cells x) W1 (i*2);rw[←hW2]at g2;have hl:=h.len;have hxl:=h.xl;have r1:=h.row;have r2:=h.xr.aC (xa:=some ⟨N,0,none⟩) g1 r1 ay;have hsz:=dA hB h.be.size;have z1:=g1.size;have two: ∀{B':Nat} {e:aK} {sz n' c':Nat} {a:az} {zs:aP},Own wr B' e sz a n' c' zs→e≠107→e≠160→Own W B' e sz a n' c' zs:=fun o h1 h2=>(o.aC (xa:=some ⟨N,0,none⟩) g1 r1 h1).aC (xa:=some ⟨M,0,none⟩) g2 r2 h2;refine⟨(h.cl.aC (xa:=some ⟨N,0,none⟩) g1 r1 ay).aC (xa:=some ⟨M,0,none⟩) g2 r2 ay,(h.kR.aC (xa:=some ⟨N,0,none⟩) g1 r1 ay).aC (xa:=some ⟨M,0,none⟩) g2 r2 ay,(h.kO.aC (xa:=some ⟨N,0,none⟩) g1 r1 ay).aC (xa:=some ⟨M,0,none⟩) g2 r2 ay,(h.kP.aC (xa:=some ⟨N,0,none⟩) g1 r1 ay).aC (xa:=some ⟨M,0,none⟩) g2 r2 ay,by rw[iQ];exact hl,?_,fun s hs=>?_,?_,by rw[iQ];exact hxl,?_,fun j h1 h2 h3=>?_,(h.be.aC (xa:=some ⟨N,0,none⟩) g1 r1 hsz aA).aC (xa:=some ⟨M,0,none⟩) g2 r2 aj aA,(h.kept.row (xa:=some ⟨N,0,none⟩) g1 r1 (.inl rfl)).row (xa:=some ⟨M,0,none⟩) g2 r2 (.inr rfl)⟩
 ·have o:=r1.sets (Sz.cells y) (i*4);rw[←hW]at o;have o2:=o.aC (xa:=some ⟨M,0,none⟩) g2 r2 ay;rw[C9 xP l i aj y];exact o2
 ·rcases CS hs with hs|rfl
  ·exact two (h.it s hs) ay ay
  ·exact two hy ay ay
 ·rw[List.map_set,h.keys,hk];have:=IG (S0.map cO.dG) S0 i cu aF;rw[List.getElem_map]at this;exact this
 ·rw[C9 EG xs i aj x,hW2];exact r2.sets (Ix.cells x) (i*2)
 ·rw[List.getElem_set]
  split
  ·next e=>subst e;exact⟨two hx ay ay,fun t ht=>two (hp t ht) ay ay,hkx⟩
  ·have q:=h.xi j P6 h2 aj;exact⟨two q.1 ay ay,fun t ht=>two (q.2.1 t ht) ay ay,q.2.2⟩
end
structure JG(W9:ak)(X N2 nr:Nat)(fa:az)(fn fc:Nat)(O7:aJ)(Sb:List (aJ))(i:Nat)(outs:List Dw)(wr:ak):Prop where
 be:Below W9.heap.size W9 wr
 kX:ah wr X 52 #[.slice (some ⟨N2,0,none⟩) nr nr,.slice fa fn fc]
 len:outs.length=nr
 row:Own wr W9.heap.size 30 1 (some ⟨N2,0,none⟩) nr nr (gC Dw.cells outs)
 it: ∀o∈outs,Cj wr W9.heap.size o
 keys:outs.map Dw.b=Sb.take i++List.replicate (nr -i) []
 fb:Own wr W9.heap.size 5 1 fa fn fc (O7.map a_)
section
variable{W9:ak}{X N2 nr:Nat}{fa:az}{fn fc:Nat}{O7:aJ}{Sb:List (aJ)}{i:Nat}{outs:List Dw}{wr W:ak}
theorem JG.below(h:JG W9 X N2 nr fa fn fc O7 Sb i outs wr)(hb:Below wr.heap.size wr W):JG W9 X N2 nr fa fn fc O7 Sb i outs W:=
 ⟨h.be.trans (hb.mono h.be.size),h.kX.below hb h.kX.lt,h.len,h.row.below hb aA,fun o ho=>Own.below (h.it o ho) hb aA,h.keys,h.fb.below hb aA⟩
theorem JG.store(h:JG W9 X N2 nr fa fn fc O7 Sb i outs wr)(hi:i<nr)(hS:Sb.length=nr){y:Dw}(hy:Cj wr W9.heap.size y)(hk:y.b=Sb[i]' aj):JG W9 X N2 nr fa fn fc O7 Sb (i+1) (outs.set i y) (wr.setCell ⟨N2,i,none⟩ (.slice y.a y.b.length y.c)):=by
 have gr:=grownBy_set wr N2 i (.slice y.a y.b.length y.c);have row:=h.row;have hl:=h.len;refine⟨h.be.aC (xa:=some ⟨N2,0,none⟩) gr row h.be.size aA,h.kX.aC (xa:=some ⟨N2,0,none⟩) gr row ay,by rw[iQ];exact hl,?_,fun o ho=>?_,?_,h.fb.aC (xa:=some ⟨N2,0,none⟩) gr row ay⟩
 ·have e:=Nz xO outs i aj y 0 (.slice y.a y.b.length y.c) ay (by rfl);rw[Nat.mul_one,iV]at e;rw[e];exact row.set i _
 ·rcases CS ho with ho|rfl
  ·exact Own.aC (xa:=some ⟨N2,0,none⟩) (h.it o ho) gr row ay
  ·exact Own.aC (xa:=some ⟨N2,0,none⟩) hy gr row ay
 ·rw[List.map_set,h.keys,hk];have:=IG Sb (List.replicate nr []) i aj (by simp[hS]);simp only[List.drop_replicate]at this;rw[this]
end
def Wl(R X:Nat)(br ou:aZ)(w':ak):Prop:=ah w' R 48 br∧ah w' X 52 ou
theorem anX{fn:Func}{R:EN}{a:Act}{g h:Nat}{cs ds:aZ}(i:Nat)(T:aK)(j:Nat)(U:aK)(hres:fn.results= #[.cell i T,.cell j U])(hp:a.tmps.getD i undef= .pointer (some ⟨g,0,none⟩))(hq:a.tmps.getD j undef= .pointer (some ⟨h,0,none⟩))(k:ah w g T cs)(k2:ah w h U ds)
  (N M:Nat) (hn:cs.size=N) (hm:ds.size=M) (hu:(P.underlying T).map TypeDesc.isRow=some true) (hi:(P.info? T).map (·.size)=some N) (hu2:(P.underlying U).map TypeDesc.isRow=some true) (hi2:(P.info? U).map (·.size)=some M) (hd:a.defers= []) (hR:R (.returned (.tuple #[.agg cs,.agg ds])) w):bodyPost P fn R .ret a w:=by
 refine bodyPost_ret (v:= .tuple #[.agg cs,.agg ds]) ?_ hd hR;have hl:=tJ k T N hn hu hi;have hl2:=tJ k2 U M hm hu2 hi2;simp only[Array.getD_eq_getD_getElem?]at hp hq;simp[results,hres,hp,hq,hl,hl2,asAddr,Sem.run_bind,Result.andThen]
def BtO(K:dJ)(S1:List cO)(Sa:List (List aU))(Fd:List aU)(B:Nat)(w:ak)(e:Ending)(w':ak):Prop:=
 ∃(b:Bx) (outs:List Dw) (oa:az) (oc:Nat) (fd:Dw),e= .returned (.tuple #[b.val,.agg #[.slice oa outs.length oc,.slice fd.a fd.b.length fd.c]])∧Hid (b.c.key=K)∧Hid (b.ss.map Sz.S=S1)∧ik w' B b∧Hid (outs.map Dw.b=Sa.map h_)∧Own w' w.heap.size 30 1 oa outs.length oc (gC Dw.cells outs)∧(∀o∈outs,Cj w' w.heap.size o)∧Hid (fd.b=h_ Fd)∧Cj w' w.heap.size fd∧Below B w w'∧BB w w'
theorem aqp(b:Bx)(B:Nat)(S0:List cO)(K:dJ)(Sa:List (List aU))(Fd:List aU)(w:ak)(h:ik w B b)(hB:B≤w.heap.size)(hS:b.ss.map Sz.S=S0)(h9:1≤S0.length∧S0.length≤8)(qW: ∀s∈S0,s.buf.length≤1000000)(hsm:b.c.key.Small)
  (Tj:(∀l∈Sa,(∀m∈l,uB m)∧l.length≤1000)∧Sa.length≤900) (Hq:(∀m∈Fd,uB m)∧Fd.length≤1000)
  (hMT: ∀(W:ak) (c:Cx) (ins:List Ix) (ia:az) (ic:Nat),Below B w W→xU W c→Hid (c.key=b.c.key)→Sl W 160 2 ia ins.length ic (gC Ix.cells ins)→(∀x∈ins,AP W x)→Hid (ins.length=S0.length∧∀j (h:j<ins.length) (h0:j<S0.length),VP S0[j] ins[j])→
   aH 73 #[c.val,.slice ia ins.length ic] W (QG K Sa Fd W)):
  aH 40 #[b.val] w (BtO K (S0.map cO.dG) Sa Fd B w):=by
 obtain⟨c,ss,sa,sc⟩:=b;obtain⟨hC,Tm,hit⟩:=h;simp only at hC Tm hit hS hsm hMT⊢;obtain⟨m,hm⟩:=aI ss.length;have hml:S0.length=m:=by rw[←hS];simpa using hm
 rw[hm]at Tm;obtain⟨N,rfl,_,_⟩:=Tm.open_ aj;have hval:(Bx.val ⟨c,ss,some ⟨N,0,none⟩,sc⟩)= .agg (c.fK (some ⟨N,0,none⟩) m sc):=by simp only[Bx.val,hm]
 rw[hval];have HMT:=ax hMT;have zJ:=ax hsm;have HB9:=ax qW;have uj:=ax hml;have HSA:=ax Tj;have S_:=ax Hq;have yG:=ax hS;have m9:1≤m∧m≤8:=by omega
 clear hMT hsm hval qW hml Tj Hq hS h9
 go_enter func40,ntmps40
 go_upto_region 1 with fail
 obtain⟨R,hR⟩:=aI w.heap.size;refine aW (fun W=>ah W R 48 (c.fK (some ⟨N,0,none⟩) m sc)∧ah W (R+1) 48 je∧ah W (R+1+1) 52 #[.slice none 0 0,.slice none 0 0]∧Below w.heap.size w W) ⟨by rw[←hR];exact((ah.new _ _ _).alloc _).alloc _,by rw[←hR];exact(ah.dG _ _ _ _).alloc _,by rw[←hR];exact mr (ah.new _ _ _) aF,bel⟩ ?_;have HR:=ax hR;have hBR:B≤R:=by omega
 rw[hR];clear hR;rintro W ⟨kR,kO,kP,be⟩;have be:Below w.heap.size w W:=by rw[HR.out];exact be
 (obtain⟨x0,x1,x2,x3,x4,x5,x6,x7,x8,x9,x10,x11,x12,dh,xf,xl⟩:=kR.n14)
 go_upto_region 2 with(refine U5 (cells:=Ix.cells) 32 m xx #[.bool false,.slice none 0 0] EG ay rfl underlying158 aq9 ay ?_ ?_ aj ?_;(focus rfl);(focus rfl);intro W3 kM bM zM)
 (clear x0 x1 x2 x3 x4 x5 x6 x7 x8 x9 x10 x11 x12 dh xf xl);obtain⟨M,hM⟩:=aI W.heap.size;have hws:=be.size;have eH:=be.trans (bM.mono hws);have hI:Hu w B R (c.fK (some ⟨N,0,none⟩) m sc) c m N sc M S0 0 ss (List.replicate m xx) W3:=⟨hC.below eH aA,kR.below bM kR.lt,kO.below bM kO.lt,kP.below bM kP.lt,hm,Tm.below eH aA,fun s hs=>Own.below (hit s hs) eH aA,by rw[yG.out];simp,by simp,by rw[←hM];exact kM.Am EG (dA hB hws) m aF aj,fun j h1 h2 h3=>by omega,eH.mono hB,fun b t cs k _ _=>k.below eH k.lt⟩;rw[hM];clear kR kO kP be kM bM zM hws hM eH hC Tm hit hm;have kR:=hI.kR;(obtain⟨x0,x1,x2,x3,x4,x5,x6,x7,x8,x9,x10,x11,x12,dh,xf,xl⟩:=kR.n14)
 go_wp2_with fail
 (clear x0 x1 x2 x3 x4 x5 x6 x7 x8 x9 x10 x11 x12 dh xf xl);clear kR
 go_loopw [18] (fun G8 wr=> ∃(i:Nat) (l:List Sz) (xs:List Ix),G8=ae i∧i≤m∧Hu w B R (c.fK (some ⟨N,0,none⟩) m sc) c m N sc M S0 i l xs wr) (fun G8 _=>m -(intOf G8).toNat)
 case atStart=>exact⟨0,_,_,rfl,by omega,hI⟩
 case round=>
  clear hI;obtain⟨i,l,xs,rfl,hi,hI⟩:=hrel;by_cases hlt:i<m
  ·
   have ix:(i:Int)<(m:Int):=by omega
   have hil:i<l.length:=by rw[hI.len];exact hlt
   have hi0:i<S0.length:=by rw[uj.out];exact hlt
   obtain⟨z,hz⟩:=aI (l[i]);have Cm:z.S=S0[i]:=by
    have:=Qg Sz.S l (S0.map cO.dG) S0 i hI.keys hil cu hi0;rw[hz]at this;exact this
   have GN:=ax Cm;have hat:=(hI.it z (by rw[←hz];exact bF hil)).at_ (by rw[Cm];exact HB9.out _ (bF hi0));have tu:Hid (∀V,Below wr.heap.size wr V→aH 72 #[.agg (Sz.cells z).toArray] V (akg z.S V)):=ax (fun V hV=>aq8 z.S.op z.S.dr z.S.gb z.S.buf z.a z.S.buf.length z.c V (hat.below hV aA));have Ed:=CW hI.row.sl.row xP i hil hz (hI.row.lt' N rfl) 107 PI Et;have kR:=hI.kR;(obtain⟨x0,x1,x2,x3,x4,x5,x6,x7,x8,x9,x10,x11,x12,dh,xf,xl⟩:=kR.n14);have rC:=fun d os o=>dC wr d os R o xl;clear hat hz Cm
   go_upto_region 5 with fail
   (refine JM 15 [15,17] (.mM [(0,[]),(1,[]),(2,[]),(3,[]),(4,[]),(5,[]),(6,[]),(7,[]),(8,[]),(9,[])] (.op 10 (.mM [(11,[]),(12,[]),(13,[]),(14,[])] (.fin [16,17])))) bP bP ?_);(refine JP fun K hK=>?_;refine m_ ?_;(repeat(first|(refine gI rfl 107 _ rfl _ _ rfl (fun|_,⟨p,rfl⟩=>Ed p.d p.os) ?_;refine dF ?_)|go_big_quiet_step (fail)));refine wpQuiet_nil ?_;refine hK _ _ ?_;clear hK K);(refine vK fun K hK=>?_;simp only[jM,jO])
   go_wp2_with (go_at_call 72;(with_reducible refine(tu.out _ bel).mono ?_);rintro e w2 ⟨T,xa,xc,xn,its,ya,yc,yn,hT,AV,hyn,hky,rfl,oX,oY,oP,hb2⟩)
   have hb3:=jA hb2;refine dS hb3 (hK _ _ ?_);clear hK K;(refine vO ?_);(refine wE ?_;refine m_ ?_);(clear x0 x1 x2 x3 x4 x5 x6 x7 x8 x9 x10 x11 x12 dh xf xl);clear rC Ed kR tu;have hwr:B≤wr.heap.size:=dA hB hI.be.size;have sF:=hI.below hb3 hB;have row:=sF.row;have akh:=sF.xr;have room:i*4+4≤(gC Sz.cells l).length:=by rw[oZ xP,hI.len];omega
   have aje:i*2+2≤(gC Ix.cells xs).length:=by rw[oZ EG,hI.xl];omega
   go_wp2_with (first|(refine yO rfl 107 _ _ rfl (off:=i*4) #[.bool T.op,.bool T.dr,.slice xa xn xc,.bool T.gb] rfl rfl row room 4 rfl Et rfl ?_;intro W4 h4 z4;(have H4:=ax h4;have ajf:=akh.aC (xa:=some ⟨N,0,none⟩) (h4▸gm N _ w2 (i*4)) row ay;clear h4 z4))|(refine yO rfl 160 _ _ rfl (off:=i*2) #[.bool z.S.op,.slice ya yn yc] rfl rfl ajf aje 2 rfl apt rfl ?_;intro W5 h5 z5;(have H5:=ax h5;clear h5 z5)))
   have e4:W4=jy w2 N (i*4) (Sz.cells ⟨T,xa,xc⟩):=by rw[H4.out];simp only[Sz.cells,AV.out]
   have e5:W5=jy W4 M (i*2) (Ix.cells ⟨z.S.op,its,ya,yc⟩):=by rw[H5.out];simp only[Ix.cells,hyn.out]
   have Jz:=sF.store hB hlt uj.out (y:=⟨T,xa,xc⟩) (x:=⟨z.S.op,its,ya,yc⟩) (by unfold yM;simp only;rw[←AV.out];exact oX.mono (show B≤wr.drew.heap.size from hwr)) (by simp only;rw[←GN.out];exact hT.out.symm) e4 (by simp only;rw[←hyn.out];exact oY.mono (show B≤wr.drew.heap.size from hwr)) oP ⟨by simp only;rw[GN.out],by simp only;rw[hky.out,GN.out]⟩ e5;have HI5:=ax Jz;clear Jz e4 e5 H4 H5 row akh ajf room aje sF hI oX oY oP hb2 hb3;go_roundw
   case rel=>exact⟨i+1,_,_,by go_num,by omega,HI5.out⟩
   case measure=>simp[intOf];omega
  ·obtain rfl:m=i:=by omega
   have hkk:l.map Sz.S=S0.map cO.dG:=by rw[hI.keys,nM (by simp;exact tY uj.out),List.drop_of_length_le (tY uj.out),iK]
   have HKK:=ax hkk;have tu:Hid (aH 73 #[.agg #[.slice c.cf.ja c.cf.jn c.cf.jc,.slice c.cf.ga c.cf.gn c.cf.gc,ae c.cf.per,ae c.cf.cap,ae c.cf.hold,ae c.cf.lock,.bool c.ref,ae c.now,.slice c.da c.ds.length c.dc,.slice c.sa c.ss.length c.sc,.slice c.va c.vs.length c.vc,.slice c.ta c.st.length c.tc,.slice c.wa c.ws.length c.wc],.slice (some ⟨M,0,none⟩) m m] wr (QG K Sa Fd wr)):=ax (by
    have q:=HMT.out wr c xs (some ⟨M,0,none⟩) m hI.be (hI.cl.g zJ.out) (ax rfl) (by rw[hI.xl];exact hI.xr.sl) (fun x hx=>by
     obtain⟨j,hj,rfl⟩:=List.mem_iff_getElem.1 hx;have q:=hI.xi j hj (by have:=hI.xl;have:=uj.out;omega) (by have:=hI.xl;omega);exact⟨q.1.sl,fun t ht=>(q.2.1 t ht).sl⟩) (ax ⟨by rw[hI.xl,uj.out],fun j h1 h2=>(hI.xi j h1 h2 (by have:=hI.xl;omega)).2.2⟩)
    rw[hI.xl]at q;exact q)
   have kR:=hI.kR;(obtain⟨x0,x1,x2,x3,x4,x5,x6,x7,x8,x9,x10,x11,x12,dh,xf,xl⟩:=kR.n14)
   go_upto_region 8 with(first|(refine U7 rfl 45 _ rfl R 0 48 _ [.slice c.cf.ja c.cf.jn c.cf.jc,.slice c.cf.ga c.cf.gn c.cf.gc,ae c.cf.per,ae c.cf.cap,ae c.cf.hold,ae c.cf.lock,.bool c.ref,ae c.now,.slice c.da c.ds.length c.dc,.slice c.sa c.ss.length c.sc,.slice c.va c.vs.length c.vc,.slice c.ta c.st.length c.tc,.slice c.wa c.ws.length c.wc] rfl kR rfl vG nK ?_)|(go_at_call 73;(with_reducible refine(tu.out).mono ?_);rintro e w5 ⟨c2,rows,qa,qc,fd,rfl,hk2,hrows,hfd,oC,oR,oI,oF,hb5⟩;((clear x0 x1 x2 x3 x4 x5 x6 x7 x8 x9 x10 x11 x12 dh xf xl);have k60:=(ah.new w5 45 uA).alloc (.cells #[.slice none 0 0,.slice none 0 0] 165)))|(refine dw #[.slice c2.cf.ja c2.cf.jn c2.cf.jc,.slice c2.cf.ga c2.cf.gn c2.cf.gc,ae c2.cf.per,ae c2.cf.cap,ae c2.cf.hold,ae c2.cf.lock,.bool c2.ref,ae c2.now,.slice c2.da c2.ds.length c2.dc,.slice c2.sa c2.ss.length c2.sc,.slice c2.va c2.vs.length c2.vc,.slice c2.ta c2.st.length c2.tc,.slice c2.wa c2.ws.length c2.wc] k60 nK ?_;intro W6 k6 g6 z6;(have k70:=(ah.dG w5 (.cells uA 45) 165 #[.slice none 0 0,.slice none 0 0]).aB g6 aF))|(refine dw #[.slice qa rows.length qc,.slice fd.a fd.ms.length fd.c] k70 Uj ?_;intro W7 k7 g7 z7))
   have hwr:=hI.be.size;have XQ:=hb5.size;have bA:Below w5.heap.size w5 ((w5.alloc (.cells uA 45)).alloc (.cells #[.slice none 0 0,.slice none 0 0] 165)):=bel;have k70:=(ah.dG w5 (.cells uA 45) 165 #[.slice none 0 0,.slice none 0 0]).aB g6 aF;obtain⟨X6,XR⟩: ∃X,w5.heap.size=X:=⟨_,rfl⟩;have b7:Below w5.heap.size w5 W7:=((bA.aB g6 cu bQ)).aB g7 (by have:=g6.size;simp at this;omega) bQ;have QY:B≤wr.heap.size:=dA hB hwr;have Ht:=(hI.below (hb5.trans (b7.mono XQ)) hB);refine aW (fun Y=>Hu w B R (c.fK (some ⟨N,0,none⟩) m sc) c m N sc M S0 m l xs Y∧ah Y X6 45 #[.slice c2.cf.ja c2.cf.jn c2.cf.jc,.slice c2.cf.ga c2.cf.gn c2.cf.gc,ae c2.cf.per,ae c2.cf.cap,ae c2.cf.hold,ae c2.cf.lock,.bool c2.ref,ae c2.now,.slice c2.da c2.ds.length c2.dc,.slice c2.sa c2.ss.length c2.sc,.slice c2.va c2.vs.length c2.vc,.slice c2.ta c2.st.length c2.tc,.slice c2.wa c2.ws.length c2.wc]∧ah Y (X6+1) 165 #[.slice qa rows.length qc,.slice fd.a fd.ms.length fd.c]∧dE Y B c2∧Own Y B 58 1 qa rows.length qc (gC Rw.cells rows)∧(∀r∈rows,jm Y B r)∧jm Y B fd) ⟨Ht,by rw[←XR];exact k6.aB g7 aF,by rw[←XR];exact k7,(oC.below b7 aA).mono QY,(oR.below b7 aA).mono QY,fun r hr=>((oI r hr).below b7 aA).mono QY,(oF.below b7 aA).mono QY⟩ ?_;have hX9:R+1+1<X6:=by have:=hI.kP.lt;omega
   rw[XR];clear hI kR tu k60 k6 g6 z6 k70 k7 g7 z7 bA b7 Ht oC oR oI oF hb5 hwr XQ XR QY hkk;rintro Y ⟨hI,kC,kS,oC,oR,oI,oF⟩;have kR:=hI.kR
   go_upto_region 9 with(first|(refine gy kC vG nK ?_)|(refine P8 rfl 45 _ _ rfl R 0 48 (c.fK (some ⟨N,0,none⟩) m sc).toList #[.slice c2.cf.ja c2.cf.jn c2.cf.jc,.slice c2.cf.ga c2.cf.gn c2.cf.gc,ae c2.cf.per,ae c2.cf.cap,ae c2.cf.hold,ae c2.cf.lock,.bool c2.ref,ae c2.now,.slice c2.da c2.ds.length c2.dc,.slice c2.sa c2.ss.length c2.sc,.slice c2.va c2.vs.length c2.vc,.slice c2.ta c2.st.length c2.tc,.slice c2.wa c2.ws.length c2.wc] rfl rfl kR (by exact(by decide:13≤14)) nK rfl ?_;intro W8 k8 g8 z8))
   have Tn:ah W8 R 48 (c2.fK (some ⟨N,0,none⟩) m sc):=k8;have hYs:=hI.be.size;have hBY:B≤Y.heap.size:=dA hB hYs;obtain⟨nr,hnr⟩: ∃n,rows.length=n:=⟨_,rfl⟩;have aB5:nr≤900:=by
    have e:=congrArg List.length hrows.out;rw[g_]at e;have:=HSA.out.2;omega
   refine aW (fun Z=>ah Z R 48 (c2.fK (some ⟨N,0,none⟩) m sc)∧ah Z (R+1) 48 je∧ah Z (R+1+1) 52 #[.slice none 0 0,.slice none 0 0]∧ah Z (X6+1) 165 #[.slice qa nr qc,.slice fd.a fd.ms.length fd.c]∧ik Z B ⟨c2,l,some ⟨N,0,none⟩,sc⟩∧Own Z B 58 1 qa nr qc (gC Rw.cells rows)∧(∀r∈rows,jm Z B r)∧jm Z B fd∧Below B w Z∧w.heap.size≤Z.heap.size∧BB w Z)
    ⟨Tn,hI.kO.aB g8 aF,hI.kP.aB g8 cu,by rw[←hnr];exact kS.aB g8 cu,⟨oC.aG g8 kR ay,by simp only;rw[hI.len];exact hI.row.aG g8 kR ay,fun s hs=>Own.aG (hI.it s hs) g8 kR ay⟩,by rw[←hnr];exact oR.aG g8 kR ay,fun r hr=>(oI r hr).aG g8 kR ay ay ay,oF.aG g8 kR ay ay ay,hI.be.aB g8 hBY bQ,dA hYs g8.size,hI.kept.new g8 (by rw[HR.out];exact Nat.le_refl _)⟩ ?_
   have RZ:=ax hnr;have HLM:=ax hI.len;clear hI kC kS oC oR oI oF kR k8 Tn g8 z8 hYs hBY hnr;rintro W9 ⟨kR,kO,kP,kS,hBr,oR,oI,oF,be,O6,hkp⟩;have hFr:Hid (∀V,Below W9.heap.size W9 V→aH 74 #[.slice fd.a fd.ms.length fd.c] V (abp (h_ Fd) V)):=ax (fun V hV=>by
    have oV:=oF.below hV aA;have e:=hfd.out;have q:=aeD fd.a fd.ms.length fd.c fd.ms V oV.row.sl rfl (by have:=S_.out.2;have:=congrArg List.length e;simp only[Rw.key,g_]at this;omega) (fun x hx=>(oV.it x hx).QD (S_.out.1 x.m (by rw[←e];exact List.mem_map.2 ⟨x,hx,rfl⟩)).2) (fun x hx=>(S_.out.1 x.m (by rw[←e];exact List.mem_map.2 ⟨x,hx,rfl⟩)).1);rw[←e];exact q)
   have Tq:=hFr;have s0:=kS.cell 0;have s1:=kS.cell 1;have sl:=kS.lt;have rS:=fun d os o=>dC W9 d os (X6+1) o sl;have b0:Below W9.heap.size W9 W9.drew:=bel
   try simp only[Act.put]
   go_cut [8] (fun s8 wx=> ∃(X N2:Nat) (fa:az) (fn fc:Nat),s8= .pointer (some ⟨X,0,none⟩)∧W9.heap.size≤X∧Hid (fn=(h_ Fd).length)∧ah wx X 52 #[.slice (some ⟨N2,0,none⟩) nr nr,.slice fa fn fc]∧Own wx W9.heap.size 30 1 (some ⟨N2,0,none⟩) nr nr (gC Dw.cells (List.replicate nr FW))∧Own wx W9.heap.size 5 1 fa fn fc ((h_ Fd).map a_)∧Below W9.heap.size W9 wx)
   case first=>
    (refine aol 9 [9] [(0,[]),(1,[]),(2,[]),(4,[]),(5,[])] 3 6 8 (.fork 6 8 (.mM [(7,[])] (.op 8 (.fin []))) (.op 6 (.mM [(7,[])] (.fin [])))) (.fork 3 8 (.mM [(7,[])] (.op 8 (.fin []))) (.op 3 (.mM [(7,[])] (.fin [])))) (.fork 3 6 (.op 6 (.mM [(7,[])] (.fin []))) (.op 3 (.mM [(7,[])] (.fin [])))) bP bP ?_;refine m_ ?_)
    repeat(go_big_quiet_step (fail))
    refine wpQuiet_nil ?_;intro F hF;refine⟨?_,?_,?_⟩
    ·go_wp2_with (refine JX (cells:=Dw.cells) 24 nr FW (.slice none 0 0) xO rfl rfl underlying50 Qi ay ?_ ?_ aj ?_;(focus rfl);(focus rfl);intro Wm kM bM zM;clear zM)
     have oM:=kM.Am xO (show W9.heap.size≤W9.drew.heap.size from b0.size) nr aF aj;have b1:=b0.trans (bM.mono b0.size);refine dS b1 ?_
     try refine dF ?_
     (refine Np (fun K hK=>?_) (fun K hK=>?_)<;>simp only[jM,jO])
     ·go_wp2_with (go_at_call 74;(with_reducible refine(Tq.out _ bel).mono ?_);rintro e wf ⟨fa,fn,fc,rfl,hfn,oF,yN⟩)
      replace oM:=oM.below yN aA;replace oF:=oF.mono (show W9.heap.size≤Wm.heap.size from b1.size);have b2:=b1.trans (yN.mono b1.size);refine dS b2 (hK _ _ ?_);clear hK K
      try refine dF ?_
      (refine vO ?_);(refine vK fun K hK=>?_;simp only[jM,jO])
      go_wp2_with fail
      have bA:Below wf.heap.size wf (wf.alloc (.cells #[.slice none 0 0,.slice none 0 0] 52)):=(Below.refl _ _).alloc aA _;have kX:ah (wf.alloc (.cells #[.slice none 0 0,.slice none 0 0] 52)) wf.heap.size 52 #[.slice none 0 0,.slice none 0 0]:=ah.new _ _ _;replace oM:=oM.below bA aA;replace oF:=oF.below bA aA;have b3:=b2.trans (bA.mono b2.size);refine dS b3 (hK _ _ ?_);clear hK K
      try refine dF ?_
      refine wE ((hF _ _ _).2 ?_);refine m_ ?_
      go_wp2_with (refine dw #[.slice (some ⟨W9.drew.heap.size,0,none⟩) nr nr,.slice fa fn fc] kX sH ?_;intro Wz kz gz zz)
      go_meet
      exact⟨wf.heap.size,W9.drew.heap.size,fa,fn,fc,rfl,MZ,hfn,kz,oM.aG gz kX ay,oF.aG gz kX ay,b3.aB gz b3.size MX⟩
     ·go_wp2_with fail
      have bA:Below Wm.heap.size Wm (Wm.alloc (.cells #[.slice none 0 0,.slice none 0 0] 52)):=(Below.refl _ _).alloc aA _;have kX:ah (Wm.alloc (.cells #[.slice none 0 0,.slice none 0 0] 52)) Wm.heap.size 52 #[.slice none 0 0,.slice none 0 0]:=ah.new _ _ _;replace oM:=oM.below bA aA;have b2:=b1.trans (bA.mono b1.size);refine dS b2 (hK _ _ ?_);clear hK K
      try refine dF ?_
      (refine vK fun K hK=>?_;simp only[jM,jO])
      go_wp2_with (go_at_call 74;(with_reducible refine(Tq.out _ bel).mono ?_);rintro e wf ⟨fa,fn,fc,rfl,hfn,oF,yN⟩)
      replace oM:=oM.below yN aA;replace kX:=kX.below yN kX.lt;replace oF:=oF.mono (show W9.heap.size≤(Wm.alloc (.cells #[.slice none 0 0,.slice none 0 0] 52)).heap.size from b2.size);have b3:=b2.trans (yN.mono b2.size);refine dS b3 (hK _ _ ?_);clear hK K
      try refine dF ?_
      (refine vO ?_);refine wE ((hF _ _ _).2 ?_);refine m_ ?_
      go_wp2_with (refine dw #[.slice (some ⟨W9.drew.heap.size,0,none⟩) nr nr,.slice fa fn fc] kX sH ?_;intro Wz kz gz zz)
      go_meet
      exact⟨Wm.heap.size,W9.drew.heap.size,fa,fn,fc,rfl,MZ,hfn,kz,oM.aG gz kX ay,oF.aG gz kX ay,b3.aB gz b3.size MX⟩
    ·go_wp2_with (go_at_call 74;(with_reducible refine(Tq.out _ bel).mono ?_);rintro e wf ⟨fa,fn,fc,rfl,hfn,oF,yN⟩)
     replace oF:=oF.mono (show W9.heap.size≤W9.drew.heap.size from b0.size);have b1:=b0.trans (yN.mono b0.size);refine dS b1 ?_
     try refine dF ?_
     (refine Np (fun K hK=>?_) (fun K hK=>?_)<;>simp only[jM,jO])
     ·go_wp2_with (refine JX (cells:=Dw.cells) 24 nr FW (.slice none 0 0) xO rfl rfl underlying50 Qi ay ?_ ?_ aj ?_;(focus rfl);(focus rfl);intro Wm kM bM zM;clear zM)
      replace oF:=oF.below bM aA;have oM:=kM.Am xO (show W9.heap.size≤wf.heap.size from b1.size) nr aF aj;have b2:=b1.trans (bM.mono b1.size);refine dS b2 (hK _ _ ?_);clear hK K
      try refine dF ?_
      (refine vO ?_);(refine vK fun K hK=>?_;simp only[jM,jO])
      go_wp2_with fail
      have bA:Below Wm.heap.size Wm (Wm.alloc (.cells #[.slice none 0 0,.slice none 0 0] 52)):=(Below.refl _ _).alloc aA _;have kX:ah (Wm.alloc (.cells #[.slice none 0 0,.slice none 0 0] 52)) Wm.heap.size 52 #[.slice none 0 0,.slice none 0 0]:=ah.new _ _ _;replace oF:=oF.below bA aA;replace oM:=oM.below bA aA;have b3:=b2.trans (bA.mono b2.size);refine dS b3 (hK _ _ ?_);clear hK K
      try refine dF ?_
      refine wE ((hF _ _ _).2 ?_);refine m_ ?_
      go_wp2_with (refine dw #[.slice (some ⟨wf.heap.size,0,none⟩) nr nr,.slice fa fn fc] kX sH ?_;intro Wz kz gz zz)
      go_meet
      exact⟨Wm.heap.size,wf.heap.size,fa,fn,fc,rfl,MZ,hfn,kz,oM.aG gz kX ay,oF.aG gz kX ay,b3.aB gz b3.size MX⟩
     ·go_wp2_with fail
      have bA:Below wf.heap.size wf (wf.alloc (.cells #[.slice none 0 0,.slice none 0 0] 52)):=(Below.refl _ _).alloc aA _;have kX:ah (wf.alloc (.cells #[.slice none 0 0,.slice none 0 0] 52)) wf.heap.size 52 #[.slice none 0 0,.slice none 0 0]:=ah.new _ _ _;replace oF:=oF.below bA aA;have b2:=b1.trans (bA.mono b1.size);refine dS b2 (hK _ _ ?_);clear hK K
      try refine dF ?_
      (refine vK fun K hK=>?_;simp only[jM,jO])
      go_wp2_with (refine JX (cells:=Dw.cells) 24 nr FW (.slice none 0 0) xO rfl rfl underlying50 Qi ay ?_ ?_ aj ?_;(focus rfl);(focus rfl);intro Wm kM bM zM;clear zM)
      replace oF:=oF.below bM aA;replace kX:=kX.below bM kX.lt;have oM:Own Wm W9.heap.size 30 1 (some ⟨wf.heap.size+1,0,none⟩) nr nr (gC Dw.cells (List.replicate nr FW)):=by have q:=kM.Am xO (show W9.heap.size≤(wf.alloc (.cells #[.slice none 0 0,.slice none 0 0] 52)).heap.size from b2.size) nr aF aj;first|(rw[World.size_alloc]at q;exact q)|(simpa using q)
      have b3:=b2.trans (bM.mono b2.size);refine dS b3 (hK _ _ ?_);clear hK K
      try refine dF ?_
      (refine vO ?_);refine wE ((hF _ _ _).2 ?_);refine m_ ?_
      go_wp2_with (refine dw #[.slice (some ⟨(wf.heap.size+1),0,none⟩) nr nr,.slice fa fn fc] kX sH ?_;intro Wz kz gz zz)
      go_meet
      exact⟨wf.heap.size,(wf.heap.size+1),fa,fn,fc,rfl,MZ,hfn,kz,oM.aG gz kX ay,oF.aG gz kX ay,b3.aB gz b3.size MX⟩
    ·go_wp2_with fail
     have bA:Below W9.drew.heap.size W9.drew (W9.drew.alloc (.cells #[.slice none 0 0,.slice none 0 0] 52)):=(Below.refl _ _).alloc aA _;have kX:ah (W9.drew.alloc (.cells #[.slice none 0 0,.slice none 0 0] 52)) W9.drew.heap.size 52 #[.slice none 0 0,.slice none 0 0]:=ah.new _ _ _;have b1:=b0.trans (bA.mono b0.size);refine dS b1 ?_
     try refine dF ?_
     (refine Np (fun K hK=>?_) (fun K hK=>?_)<;>simp only[jM,jO])
     ·go_wp2_with (refine JX (cells:=Dw.cells) 24 nr FW (.slice none 0 0) xO rfl rfl underlying50 Qi ay ?_ ?_ aj ?_;(focus rfl);(focus rfl);intro Wm kM bM zM;clear zM)
      replace kX:=kX.below bM kX.lt;have oM:Own Wm W9.heap.size 30 1 (some ⟨W9.drew.heap.size+1,0,none⟩) nr nr (gC Dw.cells (List.replicate nr FW)):=by have q:=kM.Am xO (show W9.heap.size≤(W9.drew.alloc (.cells #[.slice none 0 0,.slice none 0 0] 52)).heap.size from b1.size) nr aF aj;first|(rw[World.size_alloc]at q;exact q)|(simpa using q)
      have b2:=b1.trans (bM.mono b1.size);refine dS b2 (hK _ _ ?_);clear hK K
      try refine dF ?_
      (refine vK fun K hK=>?_;simp only[jM,jO])
      go_wp2_with (go_at_call 74;(with_reducible refine(Tq.out _ bel).mono ?_);rintro e wf ⟨fa,fn,fc,rfl,hfn,oF,yN⟩)
      replace kX:=kX.below yN kX.lt;replace oM:=oM.below yN aA;replace oF:=oF.mono (show W9.heap.size≤Wm.heap.size from b2.size);have b3:=b2.trans (yN.mono b2.size);refine dS b3 (hK _ _ ?_);clear hK K
      try refine dF ?_
      (refine vO ?_);refine wE ((hF _ _ _).2 ?_);refine m_ ?_
      go_wp2_with (refine dw #[.slice (some ⟨(W9.drew.heap.size+1),0,none⟩) nr nr,.slice fa fn fc] kX sH ?_;intro Wz kz gz zz)
      go_meet
      exact⟨W9.drew.heap.size,(W9.drew.heap.size+1),fa,fn,fc,rfl,MZ,hfn,kz,oM.aG gz kX ay,oF.aG gz kX ay,b3.aB gz b3.size MX⟩
     ·go_wp2_with (go_at_call 74;(with_reducible refine(Tq.out _ bel).mono ?_);rintro e wf ⟨fa,fn,fc,rfl,hfn,oF,yN⟩)
      replace kX:=kX.below yN kX.lt;replace oF:=oF.mono (show W9.heap.size≤(W9.drew.alloc (.cells #[.slice none 0 0,.slice none 0 0] 52)).heap.size from b1.size);have b2:=b1.trans (yN.mono b1.size);refine dS b2 (hK _ _ ?_);clear hK K
      try refine dF ?_
      (refine vK fun K hK=>?_;simp only[jM,jO])
      go_wp2_with (refine JX (cells:=Dw.cells) 24 nr FW (.slice none 0 0) xO rfl rfl underlying50 Qi ay ?_ ?_ aj ?_;(focus rfl);(focus rfl);intro Wm kM bM zM;clear zM)
      replace kX:=kX.below bM kX.lt;replace oF:=oF.below bM aA;have oM:=kM.Am xO (show W9.heap.size≤wf.heap.size from b2.size) nr aF aj;have b3:=b2.trans (bM.mono b2.size);refine dS b3 (hK _ _ ?_);clear hK K
      try refine dF ?_
      (refine vO ?_);refine wE ((hF _ _ _).2 ?_);refine m_ ?_
      go_wp2_with (refine dw #[.slice (some ⟨wf.heap.size,0,none⟩) nr nr,.slice fa fn fc] kX sH ?_;intro Wz kz gz zz)
      go_meet
      exact⟨W9.drew.heap.size,wf.heap.size,fa,fn,fc,rfl,MZ,hfn,kz,oM.aG gz kX ay,oF.aG gz kX ay,b3.aB gz b3.size MX⟩
   case rest=>
    obtain⟨X,N2,fa,fn,fc,rfl,hXW,hfn,kX,oM,Tt,bx⟩:=hcut;have hI:JG W9 X N2 nr fa fn fc (h_ Fd) (Sa.map h_) 0 (List.replicate nr FW) wc:=⟨bx,kX,by simp,oM,fun o ho=>by rw[(List.mem_replicate.1 ho).2];exact Own.nil _ _ _ _,by simp[FW],Tt⟩;have Sr:Hid ((Sa.map h_).length=nr):=ax (by rw[g_,←hrows.out,g_];exact RZ.out);clear bx kX oM Tt b0 rS s0 s1;have Ef:=kS.below hI.be kS.lt;have s0:=Ef.cell 0;have s1:=Ef.cell 1;have sl:=Ef.lt
    go_wp2_with fail
    clear s0 s1 sl Ef
    go_loopw [58] (fun s58 wr=> ∃(i:Nat) (outs:List Dw),s58=ae i∧i≤nr∧JG W9 X N2 nr fa fn fc (h_ Fd) (Sa.map h_) i outs wr) (fun s58 _=>nr -(intOf s58).toNat)
    case atStart=>exact⟨0,_,rfl,by omega,hI⟩
    case round=>
     clear hI;obtain⟨i,outs,rfl,hi,hI⟩:=hrel;by_cases hlt:i<nr
     ·have ix:(i:Int)<(nr:Int):=by omega
      have oRr:=oR.below hI.be aA;obtain⟨qb,rfl,_,qlt⟩:=oRr.open_ aj;have hir:i<rows.length:=by rw[RZ.out];exact hlt
      obtain⟨r,hr⟩:=aI (rows[i]);have y0:=oRr.row.fV Vj i hir 0 ay (v:= .slice r.a r.ms.length r.c) (by rw[hr];rfl);simp only[iV,dX,Nat.mul_one]at y0;have hSi:i<Sa.length:=by have:=Sr.out;rw[g_]at this;omega
      have hrk:r.key=Sa[i]:=by
       have e:=congrArg (fun l=>l[i]?) hrows.out;simp only[List.getElem?_map,d_ hir,d_ hSi,Option.map_some,Option.some.injEq]at e;rw[hr]at e;exact e
      have aki:Hid (∀V,Below wr.heap.size wr V→aH 74 #[.slice r.a r.ms.length r.c] V (abp (h_ Sa[i]) V)):=ax (fun V hV=>by
       have oV:=(oI r (by rw[←hr];exact bF hir)).below (hI.be.trans (hV.mono hI.be.size)) aA;have hs:=HSA.out.1 _ (bF hSi);have hx: ∀x∈r.ms,uB x.m:=fun x hx=>hs.1 _ (by rw[←hrk];exact List.mem_map.2 ⟨x,hx,rfl⟩);have q:=aeD r.a r.ms.length r.c r.ms V oV.row.sl rfl (by have:=hs.2;rw[←hrk]at this;simpa [Rw.key]using this) (fun x hx'=>(oV.it x hx').QD (hx x hx').2) (fun x hx'=>(hx x hx').1);rw[←hrk];exact q)
      have kX:=hI.kX;have x0:=kX.cell 0;have xl:=kX.lt;have rX:=fun d os o=>dC wr d os X o xl;clear hr hrk oRr
      go_upto_region 13 with fail
      (refine JM 6 [6] (.mM [(0,[]),(1,[]),(2,[]),(3,[])] (.op 4 (.mM [(5,[])] (.fin [])))) bP bP ?_);(refine vO ?_);(refine vK fun K hK=>?_;simp only[jM,jO])
      go_wp2_with (go_at_call 74;(with_reducible refine(aki.out _ bel).mono ?_);rintro e w2 ⟨ga,gn,gc,rfl,hgn,oG,hb2⟩)
      have hb3:=jA hb2;refine dS hb3 (hK _ _ ?_);clear hK K;(refine vO ?_);(refine wE ?_;refine m_ ?_);have hwr:=hI.be.size;have sF:=hI.below hb3;have row:=sF.row;have fz:=row.frozen i;have nl:=row.lt' N2 rfl;have n0:=row.cell i (by rw[oZ xO,sF.len];omega);have w_:=sF.store hlt Sr.out (y:=⟨h_ Sa[i],ga,gc⟩) (by unfold Cj;simp only;rw[←hgn.out];exact oG.mono (show W9.heap.size≤wr.drew.heap.size from hwr)) aF;simp only[←hgn.out]at w_;have HI4:=ax w_;clear w_ hb2 hb3 aki kX x0 xl rX
      go_wp2_with fail
      go_roundw
      case rel=>exact⟨i+1,_,by go_num,by omega,HI4.out⟩
      case measure=>simp[intOf];omega
     ·obtain rfl:nr=i:=by omega
      have hko:outs.map Dw.b=Sa.map h_:=by rw[hI.keys,nM (tY Sr.out),Nat.sub_self];simp
      have Sj:=kR.below hI.be kR.lt;have kO9:=kO.below hI.be kO.lt;have Tu:=kP.below hI.be kP.lt;have hRX:R+1+1<X:=by
       have h1:=kP.lt;have h2:X≥W9.heap.size:=hXW;omega
      have bd:Below wr.heap.size wr wr.drew:=bel;have FT:=Sj.drewN 1;have vC:=kO9.drewN 1;have kPd:=Tu.drewN 1;have kXd:=hI.kX.drewN 1
      go_upto_region 15 with fail
      haveI:Nonempty (Jb (Wl R X (c2.fK (some ⟨N,0,none⟩) m sc) #[.slice (some ⟨N2,0,none⟩) nr nr,.slice fa fn fc])):=⟨⟨wr,Sj,hI.kX⟩⟩
      refine A7 3 [([0,1],2)] [] bP bP (fun w'=> ∃p:Jb (Wl R X (c2.fK (some ⟨N,0,none⟩) m sc) #[.slice (some ⟨N2,0,none⟩) nr nr,.slice fa fn fc]),w'=p.w) ⟨⟨wr.drew,FT,kXd⟩,rfl⟩ ?_;simp only[dV,mF,oH,jM,jO,EI,EJ];refine lS fun K hK=>?_
      repeat(first|(refine gI rfl 48 _ rfl _ _ rfl (fun|_,⟨p,rfl⟩=>wC p.h.1 48 l_ eP) ?_;refine dF ?_)|(refine gI rfl 52 _ rfl _ _ rfl (fun|_,⟨p,rfl⟩=>wC p.h.2 52 JQ sH) ?_;refine dF ?_)|go_big_quiet_step (fail))
      refine wpQuiet_nil ?_
      go_wp2_with (refine dw (c2.fK (some ⟨N,0,none⟩) m sc) vC eP ?_;intro Wv kv gv zv)
      refine qJ ⟨⟨Wv,FT.aB gv aF,kXd.aB gv cu⟩,rfl⟩ (hK _ _ ?_);clear hK K;refine yR ?_;refine wpQuiet_nil ?_;have tC:=kPd.aB gv aF
      go_wp2_with (refine dw #[.slice (some ⟨N2,0,none⟩) nr nr,.slice fa fn fc] tC sH ?_;intro Wu ku gu zu)
      have hdz:=bd.size;have hRB:B≤R:=hBR;have qW:Below wr.heap.size wr Wu∨True:= .inr trivial;refine anX 2 48 3 52 results40 rfl rfl (kv.aB gu aF) ku 14 2 rfl rfl l_ eP JQ sH rfl ?_;have Le:=((((hBr.below hI.be aA).below bd aA).aG gv vC ay ay).aG gu tC ay ay);refine⟨⟨c2,l,some ⟨N,0,none⟩,sc⟩,outs,some ⟨N2,0,none⟩,nr,⟨h_ Fd,fa,fc⟩,by simp only[Bx.val,HLM.out,hI.len,hfn.out],hk2,HKK,Le,ax hko,?_,fun o ho=>?_,ax rfl,?_,?_,(((hkp.below hI.be).below bd).new gv (by have:=HR.out;omega)).new gu (by have:=HR.out;omega)⟩
      ·rw[hI.len];exact(((hI.row.below bd aA).aG gv vC ay).aG gu tC ay).mono O6
      ·exact Own.mono (((Own.below (hI.it o ho) bd aA).aG gv vC ay).aG gu tC ay) O6
      ·unfold Cj;simp only;rw[←hfn.out];exact(((hI.fb.below bd aA).aG gv vC ay).aG gu tC ay).mono O6
      ·have hB9:B≤W9.heap.size:=dA hB O6;have QS:B≤wr.heap.size:=dA hB9 hI.be.size;exact(((be.trans (hI.be.mono hB9)).trans (bd.mono QS)).aB gv (dA QS hdz) bQ).aB gu (dA (dA QS hdz) gv.size) bQ
theorem aqr(c:Cx)(js:List Jx)(gs:List Ax)(nd n j p:Nat)(w:ak)(h:xU w c)(hrf:c.ref=false)(hcf:rM w c.cf js gs)(hnd:c.ds.length=nd)(hgd:gs.length=nd)(hn:js.length=n)(l1:c.ss.length=n)(l2:c.vs.length=n)(l3:c.st.length=n)(l4:c.ws.length=n)(hj:j<js.length)(hp:p<js[j].ps.length):
  aH 39 #[c.val,ae j,ae p] w (QB ⟨c.cf,false,c.now,c.key.ds,c.key.ss,c.key.vs,c.st.set j p,c.key.ws⟩ w):=by
 obtain⟨⟨ja,jn,jc,ga,gn,gc,per,cap,hold,lock⟩,ref,now,ds,da,dc,ss,sa,sc,vs,va,vc,st,ta,tc,ws,wa,wz⟩:=c;simp only[Cx.key]at hrf hcf hnd l1 l2 l3 l4⊢;subst hrf;have hcj:n=jn:=hn.symm.trans hcf.hj.symm;have hcg:nd=gn:=hgd.symm.trans hcf.hg.symm;subst hcj;subst hcg;have n14:1≤n∧n≤4:=by have:=hcf.n1;omega
 obtain⟨jb,jo,rfl,Ha⟩:=hcf.EU.open_ aj;have hval:(Cx.val ⟨⟨some ⟨jb,jo,none⟩,n,jc,ga,nd,gc,per,cap,hold,lock⟩,false,now,ds,da,dc,ss,sa,sc,vs,va,vc,st,ta,tc,ws,wa,wz⟩)= .agg (ed (some ⟨jb,jo,none⟩) n jc ga nd gc per cap hold lock false now da nd dc sa n sc va n vc ta n tc wa n wz):=by
  simp only[Cx.val,IZ,hnd,l1,l2,l3,l4]
 rw[hval];have qE:=fun W hb=>aeO ⟨some ⟨jb,jo,none⟩,n,jc,ga,nd,gc,per,cap,hold,lock⟩ false now ds da dc ss sa sc vs va vc st ta tc ws wa wz nd n W (h.below (B:=w.heap.size) (w':=W) hb aA) hnd l1 l2 l3 l4;have vT:=ax qE;have B_:=ax hcf;have HP:=ax hp;have mJ:=ax l3;have hjn:j<n:=by omega
 clear h hcf hp hval qE hnd hgd hn l1 l2 l3 l4
 go_enter func39,ntmps39
 go_upto_region 1 with fail
 obtain⟨R,hR⟩:=aI w.heap.size;refine aW (fun W=>ah W R 45 (ed (some ⟨jb,jo,none⟩) n jc ga nd gc per cap hold lock false now da nd dc sa n sc va n vc ta n tc wa n wz)∧ah W (R+1) 45 uA∧Below w.heap.size w W) ⟨by rw[←hR];exact(ah.new _ _ _).alloc _,by rw[←hR];exact ah.dG _ _ _ _,bel⟩ ?_;have HR:=ax hR;rw[hR];clear hR;rintro W ⟨kR,kO,be⟩;have be:Below w.heap.size w W:=by rw[HR.out];exact be
 go_upto_region 2 with(first|(refine gy kR vG nK ?_)|(go_at_call 69;(with_reducible refine(vT.out W be).mono ?_);rintro e w1 ⟨ds1,iO,iP,Ec,sa1,fC,vs1,fE,fF,gQ,fO,Ci,pM,pO,rfl,zH,HLn,oC,hb1⟩;(have nH:=kR.below hb1 kR.lt))|(refine dw (ed (some ⟨jb,jo,none⟩) n jc ga nd gc per cap hold lock false now iO nd iP sa1 n fC fE n fF gQ n fO pM n pO) nH nK ?_;intro W2 kw gw zw))
 have hws:=be.size;obtain⟨tg,rfl,_,_⟩:=oC.st.open_ (by simp only;rw[mJ.out];omega);have fQ:w.heap.size≤R:=by rw[HR.out];exact Nat.le_refl _
 refine aW (fun Y=>ah Y R 45 (ed (some ⟨jb,jo,none⟩) n jc ga nd gc per cap hold lock false now iO nd iP sa1 n fC fE n fF (some ⟨tg,0,none⟩) n fO pM n pO)∧ah Y (R+1) 45 uA∧dE Y w.heap.size ⟨⟨some ⟨jb,jo,none⟩,n,jc,ga,nd,gc,per,cap,hold,lock⟩,false,now,ds1,iO,iP,Ec,sa1,fC,vs1,fE,fF,st,some ⟨tg,0,none⟩,fO,Ci,pM,pO⟩∧Below w.heap.size w Y)
  ⟨kw,(kO.below hb1 kO.lt).aB gw aF,(oC.mono hws).aG gw nH ay,(be.trans (hb1.mono hws)).aB gw (dA hws hb1.size) bQ⟩ ?_
 clear kR kO be hb1 nH oC kw gw zw hws vT;rintro Y ⟨kR,kO,cl,be⟩;have hmn:(if(n:Int)<(n:Int)then(n:Int)else(n:Int))=(n:Int):=by simp
 have j0: ¬ (j:Int)<0:=by omega
 have j1: ¬ (n:Int)≤(j:Int):=by omega
 have jx:(j:Int)<(n:Int):=by omega
 have p0:(0:Int)≤(p:Int):=by omega
 have O4:=B_.out.below be aA;obtain⟨J,hJ⟩:=aI (js[j]);have hpl:=HP.out;rw[hJ]at hpl;have p1:(p:Int)<(J.ps.length:Int):=by omega
 have y0:=O4.EU.row.fV yV j hj 0 ay (v:= .slice (some ⟨J.pb,0,none⟩) J.ps.length J.pc) (by rw[hJ];rfl);simp only[iV]at y0;have yl:=jL Ha be.size;have row:Own Y w.heap.size 3 1 (some ⟨tg,0,none⟩) st.length fO (st.map encI):=cl.st;have fz:=row.frozen j;have nl:=row.lt' tg rfl;have n0:=row.cell j (by simp;rw[mJ.out];omega);clear hJ O4;(obtain⟨x0,x1,x2,x3,x4,x5,x6,x7,x8,x9,x10,x11,x12,xf,xl⟩:=kR.n13)
 go_upto_region 6 with fail
 (clear x0 x1 x2 x3 x4 x5 x6 x7 x8 x9 x10 x11 x12 xf xl);have gS:=grownBy_set Y tg j (ae p);have Su:=kR.aC (xa:=some ⟨tg,0,none⟩) gS row ay;have O5:=kO.aC (xa:=some ⟨tg,0,none⟩) gS row ay;have cl5:=cl.setSt rfl (i:=j) (p:Int);have jS:=be.aC (xa:=some ⟨tg,0,none⟩) gS row be.size aA
 go_wp2_with (first|(refine gy Su vG nK ?_)|(refine dw (ed (some ⟨jb,jo,none⟩) n jc ga nd gc per cap hold lock false now iO nd iP sa1 n fC fE n fF (some ⟨tg,0,none⟩) n fO pM n pO) O5 nK ?_;intro W6 kw gw zw))
 refine nJ 6 45 results39 rfl kw 13 rfl vG nK rfl ?_;have q:=HLn.out;refine⟨⟨⟨some ⟨jb,jo,none⟩,n,jc,ga,nd,gc,per,cap,hold,lock⟩,false,now,ds1,iO,iP,Ec,sa1,fC,vs1,fE,fF,st.set j p,some ⟨tg,0,none⟩,fO,Ci,pM,pO⟩,by simp only[Cx.val,IZ,q.1,q.2.1,q.2.2.1,q.2.2.2,iQ,mJ.out],ax ?_,cl5.aG gw O5 ay,jS.aB gw jS.size bQ⟩;have K1:=zH.out;simp only[Cx.key,K1.1,K1.2.1,K1.2.2.1,K1.2.2.2]
def ajl(w:ak)(base:Nat)(num rt:Int)(a:Ax):Prop:=
 a.sec=BM (1000+num) 8∧a.rt=rt∧a.cl=3∧a.lim.length=4∧(∀x∈a.lim,0≤x∧x≤3)∧1≤a.lim.getD 0 0∧1≤a.lim.getD 1 0∧(1≤a.rq∧a.rq≤3)∧(1≤a.se∧a.se≤2)∧(1≤a.ra∧a.ra≤3)∧(a.ra≤a.bu∧a.bu≤7)∧
 Own w base 5 1 a.sa 8 a.sc (a.sec.map a_)∧Own w base 3 1 a.la 4 a.lc (a.lim.map encI)
def avM(l:aO)(k:Nat):Nat:=iter (eU l) 8 k
def avN(p:Nat)(d:Dk)(k:Nat)(num rt:Int)(w:ak)(e:Ending)(w':ak):Prop:= ∃a:Ax,e= .returned (.agg (Ax.cells a).toArray)∧ajl w' w.heap.size num rt a∧(d.l= []→a.se=1)∧dQ w' p d (avM d.l k)∧w.grownBy w' (some p)
structure wR(D:ak→Prop) where
 w:ak
 h:D w
theorem ZO{b:Nat}{v:Value}(h:w.cell? ⟨b,off,none⟩=some v):(Instr.loadAt 3 (.pointer (some ⟨b,off,none⟩))).run prog w= .ok v w:=by
 simp[go_sem,Instr.loadAt,isAgg,underlying,underlying3,h]
theorem aqs(p:Nat)(w:ak)(d:Dk)(k:Nat)(num rt:Int)(hd:dQ w p d k)(hn:0≤num∧num≤4):
  aH 29 #[.pointer (some ⟨p,0,none⟩),ae num,ae rt] w (avN p d k num rt w):=by
 go_enter func29,ntmps29
 go_upto_region 2 with(first|(go_at_call 14;(with_reducible refine(ash _ _ aj aj).mono ?_);rintro e w1 ⟨sa,sc,rfl,oS,hb1⟩;(have hd1:=(hd.alloc (.cells #[.slice none 0 0,ae 0,ae 0,.slice none 0 0,ae 0,ae 0,ae 0,ae 0] 32)).below hb1))|(go_at_call 27;(with_reducible refine(CQ p 1 3 _ d k hd1 aj aj aj).mono ?_);rintro e w2 ⟨v1,rfl,v10,v11, -,hd2,g2⟩)|(go_at_call 27;(with_reducible refine(CQ p 1 3 _ d (eU d.l k) hd2 aj aj aj).mono ?_);rintro e w3 ⟨v2,rfl,v20,v21, -,hd3,g3⟩)|(go_at_call 25;(with_reducible refine(vI p 3 _ d _ hd3 aj aj).mono ?_);rintro e w4 ⟨v3,rfl,v30,v31, -,hd4,g4⟩)|(go_at_call 25;(with_reducible refine(vI p 3 _ d _ hd4 aj aj).mono ?_);rintro e w5 ⟨v4,rfl,v40,v41, -,hd5,g5⟩)|(go_at_call 27;(with_reducible refine(CQ p 1 3 _ d _ (hd5.alloc _) aj aj aj).mono ?_);rintro e w6 ⟨v5,rfl,v50,v51, -,hd6,g6⟩)|(go_at_call 27;(with_reducible refine(CQ p 1 2 _ d _ hd6 aj aj aj).mono ?_);rintro e w7 ⟨v6,rfl,v60,v61,hv6,hd7,g7⟩)|(go_at_call 27;(with_reducible refine(CQ p 1 3 _ d _ hd7 aj aj aj).mono ?_);rintro e w8 ⟨v7,rfl,v70,v71, -,hd8,g8⟩))
 have hpl:=hd.lt;have z1:=hb1.size;have z2:=g2.size;have z3:=g3.size;have z4:=g4.size;have z5:=g5.size;have z6:=g6.size;have z7:=g7.size;have z8:=g8.size;have oR:=ah.new w 32 #[.slice none 0 0,ae 0,ae 0,.slice none 0 0,ae 0,ae 0,ae 0,ae 0];simp at z1 z6;obtain⟨T,hT⟩:=aI w8.heap.size;obtain⟨L,hL⟩:=aI w5.heap.size;refine aW (fun W=>dQ W p d (iter (eU d.l) 7 k)∧ah W T 32 #[.slice sa 8 sc,ae rt,ae 3,.slice (some ⟨L,0,none⟩) 4 4,ae (1+v5),ae (1+v6),ae (1+v7),ae 0]∧ah W w.heap.size 32 #[.slice none 0 0,ae 0,ae 0,.slice none 0 0,ae 0,ae 0,ae 0,ae 0]∧
  Own W (w.heap.size+1) 5 1 sa 8 sc ((BM (1000+num) 8).map a_)∧ah W L 3 (([1+v1,1+v2,v3,v4]:aO).map encI).toArray∧w.grownBy W (some p)∧T<W.heap.size∧w.heap.size<L∧L<T∧sa.map (·.block)≠some T) ⟨hd8.alloc _,by rw[←hT,←hL];exact ah.new _ _ _,?_,?_,?_,?_,?_,?_,?_,?_⟩ ?_
 ·have h1:=((oR.below hb1 oR.lt).grown g2 aj).grown g3 aj;have h2:=(((h1.grown g4 aj).grown g5 aj).alloc (.cells (([1+v1,1+v2,v3,v4]:aO).map encI).toArray 3)).grown g6 aj;exact((h2.grown g7 aj).grown g8 aj).alloc _
 ·have oS':=oS.mono (show w.heap.size+1≤_ by simp);have hpl:=Nat.lt_succ_of_lt hpl;have h1:=((((oS'.grown g2 hpl).grown g3 hpl).grown g4 hpl).grown g5 hpl).below (((Below.refl _ _).alloc aA (.cells (([1+v1,1+v2,v3,v4]:aO).map encI).toArray 3))) aA;exact(((h1.grown g6 hpl).grown g7 hpl).grown g8 hpl).below ((Below.refl _ _).alloc aA _) aA
 ·rw[←hL];have h1:=ah.new w5 3 (([1+v1,1+v2,v3,v4]:aO).map encI).toArray;exact(((h1.grown g6 aj).grown g7 aj).grown g8 aj).alloc _
 ·have h1:=(((((World.grownBy_alloc w _ _).trans (hb1.Io _)).trans g2).trans g3).trans g4).trans g5;exact((((h1.trans (World.grownBy_alloc _ _ _)).trans g6).trans g7).trans g8).trans (World.grownBy_alloc _ _ _)
 ·simp;omega
 ·omega
 ·omega
 ·intro e;have:=oS.lt' T e;omega
 rw[hT,hL];clear oR hb1 oS g2 g3 g4 g5 g6 g7 g8 hd1 hd2 hd3 hd4 hd5 hd6 hd7 hd8 z1 z2 z3 z4 z5 z6 z7 z8 hT hL;rintro W ⟨XU,kT,kR,oS,kL,gW,lT,lL1,lL2,nS⟩;have hcT:W.cell? ⟨T,6,none⟩=some (ae (1+v7)):=kT.cell 6
 haveI:Nonempty (wR (fun w'=>w'.cell? ⟨T,6,none⟩=some (ae (1+v7)))):=⟨⟨W,hcT⟩⟩
 refine A7 4 [([0,1,2],3)] [] bP bP (fun w'=> ∃q:wR (fun w'=>w'.cell? ⟨T,6,none⟩=some (ae (1+v7))),w'=q.w) ⟨⟨W.drew,hcT⟩,rfl⟩ ?_;simp only[dV,mF,oH,jM,jO,EI,EJ];refine lS fun K hK=>?_
 try refine dF ?_
 repeat(first|(refine gI rfl 3 _ rfl _ _ rfl (fun|_,⟨p,rfl⟩=>ZO p.h) ?_;refine dF ?_)|go_big_quiet_step (fail))
 refine wpQuiet_nil ?_;have hpl':p<W.heap.size:=jL hpl gW.size
 go_wp2_with ((go_at_call 25;(with_reducible refine(vI p 5 _ d (iter (eU d.l) 7 k) (XU.below (show Below W.heap.size W W.drew from bel)) aj aj).mono ?_);rintro e wc ⟨vb,rfl,vb0,vb1, -,hdc,gc⟩;(try simp only[Int.zero_add])))
 have gc:W.grownBy wc (some p):=⟨gc.os,gc.tape,gc.output,gc.size,gc.block⟩;have zR:=kR.lt;have TD:=kT.grown gc aj;have kRc:=kR.grown gc aj;refine qJ ⟨⟨_,TD.cell 6⟩,rfl⟩ (hK _ _ ?_);clear hK K;refine yR ?_;refine wpQuiet_nil ?_;have ht:w.heap.size<wc.heap.size:=jL zR gc.size;have k3:=TD.lt;have kf:=TD.frozen;have e5:IntKind.i64.wrap (1+v7+vb)=1+v7+vb:=by rw[IntKind.wrap_i64];omega
 have k7:wc.cell? ⟨T,7,none⟩=some (ae 0):=TD.cell 7
 go_upto_region 3 with fail
 have kTd:ah (wc.setCell ⟨T,7,none⟩ (ae (1+v7+vb))) T 32 #[.slice sa 8 sc,ae rt,ae 3,.slice (some ⟨L,0,none⟩) 4 4,ae (1+v5),ae (1+v6),ae (1+v7),ae (1+v7+vb)]:=TD.set 7 _;have FT:=kRc.far (p:=⟨T,7,none⟩) Be (ae (1+v7+vb))
 go_wp2_with (first|(refine gy kTd PG Ic ?_)|(refine dw #[.slice sa 8 sc,ae rt,ae 3,.slice (some ⟨L,0,none⟩) 4 4,ae (1+v5),ae (1+v6),ae (1+v7),ae (1+v7+vb)] FT Ic ?_;intro We kw gw zw))
 refine nJ 6 32 results29 rfl kw 8 rfl PG Ic rfl ?_;have g1:=(gW.trans gc).ZM (g:=T) (o:=7) (v:=ae (1+v7+vb)) aj;have gE:w.grownBy We (some p):=⟨gw.os.trans g1.os,gw.tape.trans g1.tape,gw.output.trans g1.output,dA g1.size gw.size,fun b hb hne=>(gw.block b (jL hb g1.size) CV).trans (g1.block b hb hne)⟩;have VQ: ∀b,b<wc.heap.size→b≠T→b≠w.heap.size→We.heap[b]?=wc.heap[b]?:=fun b hb h1 h2=>(gw.block b (by simpa [World.setCell]using hb) CV).trans (Below.heap_setCell wc ⟨T,7,none⟩ _ b (fun e=>h1 e));have oLc:Own wc w.heap.size 3 1 (some ⟨L,0,none⟩) 4 4 (([1+v1,1+v2,v3,v4]:aO).map encI):=(kL.grown gc aj).I7 aj 4 rfl ay;have oSc:=oS.grown gc aj;refine⟨⟨BM (1000+num) 8,sa,sc,rt,3,[1+v1,1+v2,v3,v4],some ⟨L,0,none⟩,4,1+v5,1+v6,1+v7,1+v7+vb⟩,by simp only[Ax.cells,ZN];rfl,⟨rfl,rfl,rfl,rfl,fun x hx=>?_,by simp;omega,by simp;omega,by simp only;omega,by simp only;omega,by simp only;omega,by simp only;omega,?_,?_⟩,fun hl=>?_,?_,gE⟩
 ·simp at hx;omega
 ·exact(oSc.keep fun b e hb hl=>VQ b hl (fun q=>nS (by rw[e,q];rfl)) (fun q=>by omega)).mono aj
 ·exact oLc.keep fun b e hb hl=>VQ b hl ag6 ag6
 ·have:=hv6.out;rw[hl]at this;simp[nN]at this;simp only;omega
 ·refine hdc.closed hd (fun _ b hb hl hne=>?_) ?_
  ·exact VQ b aj aj aj
  ·exact VQ p aj aj aj
structure rY(w:ak)(B:Nat)(j:Jx):Prop where
 ph:Own w B 71 8 (some ⟨j.pb,0,none⟩) j.ps.length j.pc (jI j.ps)
 cf:Own w B 3 1 (some ⟨j.cb,0,none⟩) j.ps.length j.cc (j.cs.map encI)
structure v_(w:ak)(B:Nat)(a:Ax):Prop where
 sec:Own w B 5 1 a.sa a.sec.length a.sc (a.sec.map a_)
 lim:Own w B 3 1 a.la a.lim.length a.lc (a.lim.map encI)
structure Ll(j:Jx):Prop where
 fine:uJ j.ps j.cs
 n1:1≤j.ps.length∧j.ps.length≤8
 s0:0≤j.s∧j.s≤2
structure AgN(rt:Int)(i:Nat)(a:Ax):Prop where
 sec:a.sec=BM (1000+i) 8
 rt:a.rt=rt
 cl:a.cl=3
 fine:Gn a.num
 lo:1≤a.lim.getD 0 0∧1≤a.lim.getD 1 0
 rq:a.rq≤3
section
variable{w w':ak}{B B':Nat}
theorem rY.mono(h:rY w B j)(hb:B'≤B):rY w B' j:=⟨h.ph.mono hb,h.cf.mono hb⟩
theorem v_.mono{a:Ax}(h:v_ w B a)(hb:B'≤B):v_ w B' a:=⟨h.sec.mono hb,h.lim.mono hb⟩
theorem rY.keep(h:rY w B j)(hk: ∀b,B≤b→b<w.heap.size→w'.heap[b]?=w.heap[b]?):rY w' B j:=⟨h.ph.keep fun b _=>hk b,h.cf.keep fun b _=>hk b⟩
theorem v_.keep{a:Ax}(h:v_ w B a)(hk: ∀b,B≤b→b<w.heap.size→w'.heap[b]?=w.heap[b]?):v_ w' B a:=⟨h.sec.keep fun b _=>hk b,h.lim.keep fun b _=>hk b⟩
theorem rY.aG{g:Nat}{cs:aZ}(h:rY w B j)(hg:w.grownBy w' (some g))(k:ah w g t cs)(h1:71≠t)(h2:3≠t):rY w' B j:=⟨h.ph.aG hg k h1,h.cf.aG hg k h2⟩
theorem v_.aG{a:Ax}{g:Nat}{cs:aZ}(h:v_ w B a)(hg:w.grownBy w' (some g))(k:ah w g t cs)(h1:5≠t)(h2:3≠t):v_ w' B a:=⟨h.sec.aG hg k h1,h.lim.aG hg k h2⟩
theorem rY.aC(h:rY w B j)(hg:w.grownBy w' (xa.map (·.block)))(x:Own w B2 t sz' xa n' c' ys)(h1:71≠t)(h2:3≠t):rY w' B j:=⟨h.ph.aC hg x h1,h.cf.aC hg x h2⟩
theorem v_.aC{a:Ax}(h:v_ w B a)(hg:w.grownBy w' (xa.map (·.block)))(x:Own w B2 t sz' xa n' c' ys)(h1:5≠t)(h2:3≠t):v_ w' B a:=⟨h.sec.aC hg x h1,h.lim.aC hg x h2⟩
end
structure sN(w:ak)(B M:Nat)(js:List Jx)(gs:List Ax):Prop where
 lM:B≤M∧M≤w.heap.size
 j0: ∀(h:0<js.length),rY w B js[0]∧js[0].pb<M∧js[0].cb<M
 js: ∀i (h:i<js.length),1≤i→rY w M js[i]
 gs: ∀a∈gs,v_ w M a
theorem sN.keep{gs:List Ax}(h:sN w B M js gs)(hz:w.heap.size≤w'.heap.size)(hk: ∀b,B≤b→b<w.heap.size→w'.heap[b]?=w.heap[b]?):sN w' B M js gs:=
 ⟨⟨h.lM.1,by have:=h.lM.2;omega⟩,fun h0=>⟨(h.j0 h0).1.keep hk,(h.j0 h0).2⟩,fun i hi h1=>(h.js i hi h1).keep fun b hb=>hk b (by have:=h.lM.1;omega),fun a ha=>(h.gs a ha).keep fun b hb=>hk b (by have:=h.lM.1;omega)⟩
theorem sN.aC{gs:List Ax}(h:sN w B M js gs)(hg:w.grownBy w' (xa.map (·.block)))(x:Own w B2 t sz' xa n' c' ys)(h1:71≠t)(h2:3≠t)(h3:5≠t):sN w' B M js gs:=
 ⟨⟨h.lM.1,dA h.lM.2 hg.size⟩,fun h0=>⟨(h.j0 h0).1.aC hg x h1 h2,(h.j0 h0).2⟩,fun i hi h0=>(h.js i hi h0).aC hg x h1 h2,fun a ha=>(h.gs a ha).aC hg x h3 h2⟩
theorem sN.aG{gs:List Ax}{g:Nat}{cs:aZ}(h:sN w B M js gs)(hg:w.grownBy w' (some g))(k:ah w g t cs)(h1:71≠t)(h2:3≠t)(h3:5≠t):sN w' B M js gs:=
 ⟨⟨h.lM.1,dA h.lM.2 hg.size⟩,fun h0=>⟨(h.j0 h0).1.aG hg k h1 h2,(h.j0 h0).2⟩,fun i hi h0=>(h.js i hi h0).aG hg k h1 h2,fun a ha=>(h.gs a ha).aG hg k h3 h2⟩
theorem sN.aaQ{gs:List Ax}(h:sN w B M js gs)(hj:rY w z j)(hz:M≤z)(hg:gs= []): ∃M',M≤M'∧sN w B M' (js++ [j]) gs:=by
 subst hg;by_cases h0:js= []
 ·subst h0;refine⟨w.heap.size,h.lM.2,⟨⟨by have:=h.lM;omega,Nat.le_refl _⟩,fun h0=>⟨hj.mono (by have:=h.lM.1;omega),hj.ph.lt' _ rfl,hj.cf.lt' _ rfl⟩,fun i hi h1=>?_,by simp⟩⟩;simp at hi;omega
 ·have h1:0<js.length:=List.length_pos_iff.2 h0;refine⟨M,Nat.le_refl _,⟨h.lM,fun h0=>?_,fun i hi hi1=>?_,by simp⟩⟩
  ·rw[List.getElem_append_left h1];exact h.j0 h1
  ·rw[List.getElem_append]
   split
   ·exact h.js i _ hi1
   ·simpa using hj.mono hz
structure yu(w:ak)(p:Nat)(d:Dk)(R C:Nat)(per cap hold lock:Int)(W:ak)(kk:Nat)(js:List Jx)(ja:az)(jc:Nat)(gs:List Ax)(ga:az)(gc M:Nat):Prop where
 kR:ah W R 28 (gJ none 0 0 none 0 0 0 0 0 0)
 kC:ah W C 28 (gJ ja js.length jc ga gs.length gc per cap hold lock)
 jr:Own W w.heap.size 69 3 ja js.length jc (gC Jx.cells js)
 ar:Own W w.heap.size 32 8 ga gs.length gc (gC Ax.cells gs)
 mem:sN W w.heap.size M js gs
 dk:dQ W p d kk
 gr:w.grownBy W (some p)
section
variable{w:ak}{p:Nat}{d:Dk}{R C:Nat}{per cap hold lock:Int}{W:ak}{kk:Nat}{js:List Jx}{ja:az}{jc:Nat}{gs:List Ax}{ga:az}{gc M:Nat}
theorem yu.call(h:yu w p d R C per cap hold lock W kk js ja jc gs ga gc M){kk':Nat}(g:W.grownBy W' (some p))(hd:dQ W' p d kk')(hp:p<w.heap.size)(hR:w.heap.size≤R)(hC:w.heap.size≤C):yu w p d R C per cap hold lock W' kk' js ja jc gs ga gc M:=
 ⟨h.kR.grown g aj,h.kC.grown g aj,h.jr.grown g hp,h.ar.grown g hp,h.mem.keep g.size fun b hb hl=>g.block b hl CV,hd,h.gr.trans g⟩
theorem yu.alloc(h:yu w p d R C per cap hold lock W kk js ja jc gs ga gc M)(o:Obj):yu w p d R C per cap hold lock (W.alloc o) kk js ja jc gs ga gc M:=
 ⟨h.kR.alloc _,h.kC.alloc _,h.jr.alloc _,h.ar.alloc _,h.mem.keep aF fun b hb hl=>Below.heap_alloc W o b hl,h.dk.alloc _,h.gr.agS o⟩
theorem yu.aaQ(h:yu w p d R C per cap hold lock W kk js ja jc [] ga gc M){A':az}(g:Grew w.heap.size W W' ja A')(row:Own W' w.heap.size 69 3 A' (js.length+1) c' (gC Jx.cells (js++ [j])))(hj:rY W z j)(hz:M≤z)
  (hd0:dQ w p d k0) (hC:w.heap.size≤C) (XV:R≠C): ∃M',yu w p d R C per cap hold lock (W'.setCell ⟨C,0,none⟩ (.slice A' (js.length+1) c')) kk (js++ [j]) A' c' [] ga gc M':=by
 obtain⟨M',hM,hm⟩:=h.mem.aaQ hj hz rfl;have hp:=hd0.lt;have hl:(js++ [j]).length=js.length+1:=by simp
 have g2:=grownBy_set W' C 0 (.slice A' (js.length+1) c');have kC:=h.kC.aC g.1 h.jr ay;have s1:=h.gr.size;have s2:=g.1.size;refine⟨M',(h.kR.aC g.1 h.jr ay).aB g2 (by simpa using fun e=>XV e.symm),?_,by rw[hl];exact row.aG g2 kC ay,(h.ar.aC g.1 h.jr ay).aG g2 kC ay,(hm.aC g.1 h.jr ay ay ay).aG g2 kC ay ay ay,?_,?_⟩
 ·have:=kC.set 0 (.slice A' (js.length+1) c');simp only[dP,jJ,List.length_nil,dX];exact this
 ·refine(h.dk.ajk hd0 g s1 h.jr.dW).set aj (hd0.arr.imp id fun hh b hb=>by have:=hh b hb;omega) _
 ·exact(h.gr.ahy g h.jr.dW).ZM hC
theorem yu.awE(h:yu w p d R C per cap hold lock W kk js ja jc gs ga gc M){A':az}{a:Ax}(g:Grew w.heap.size W W' ga A')(row:Own W' w.heap.size 32 8 A' (gs.length+1) c' (gC Ax.cells (gs++ [a])))(ha:v_ W z a)(hz:M≤z)
  (hd0:dQ w p d k0) (hC:w.heap.size≤C) (XV:R≠C):yu w p d R C per cap hold lock (W'.setCell ⟨C,1,none⟩ (.slice A' (gs.length+1) c')) kk js ja jc (gs++ [a]) A' c' M:=by
 have hp:=hd0.lt;have hl:(gs++ [a]).length=gs.length+1:=by simp
 have g2:=grownBy_set W' C 1 (.slice A' (gs.length+1) c');have kC:=h.kC.aC g.1 h.ar ay;have s1:=h.gr.size;have s2:=g.1.size;have hm:=h.mem;have hm2:sN W w.heap.size M js (gs++ [a]):=⟨hm.lM,hm.j0,hm.js,fun x hx=>by
  rcases lW.1 hx with hx|hx
  ·exact hm.gs x hx
  ·rw[dU.1 hx];exact ha.mono hz⟩
 refine⟨(h.kR.aC g.1 h.ar ay).aB g2 (by simpa using fun e=>XV e.symm),?_,(h.jr.aC g.1 h.ar ay).aG g2 kC ay,by rw[hl];exact row.aG g2 kC ay,(hm2.aC g.1 h.ar ay ay ay).aG g2 kC ay ay ay,?_,?_⟩
 ·have:=kC.set 1 (.slice A' (gs.length+1) c');simp only[dP,jJ,List.length_nil,dX];exact this
 ·refine(h.dk.ajk hd0 g s1 h.ar.dW).set aj (hd0.arr.imp id fun hh b hb=>by have:=hh b hb;omega) _
 ·exact(h.gr.ahy g h.ar.dW).ZM hC
end
structure abr(cf:Cf)(js:List Jx)(gs:List Ax)(rt:Int):Prop where
 hj:cf.jn=js.length
 hg:cf.gn=gs.length
 jn: ∀j∈js,Ll j
 gn: ∀i (h:i<gs.length),AgN rt i gs[i]
 n1:1≤js.length∧js.length≤2
 n2:1≤gs.length∧gs.length≤3
 per:1≤cf.per∧cf.per≤4
 cap:0≤cf.cap∧cf.cap≤3
 hold:1≤cf.hold∧cf.hold≤3
 lock:0≤cf.lock∧cf.lock≤4
structure wS(w:ak)(B M:Nat)(cf:Cf)(js:List Jx)(gs:List Ax):Prop where
 jr:Own w B 69 3 cf.ja js.length cf.jc (gC Jx.cells js)
 ar:Own w B 32 8 cf.ga gs.length cf.gc (gC Ax.cells gs)
 mem:sN w B M js gs
def axH(p:Nat)(d:Dk)(rt:Int)(w:ak)(e:Ending)(w':ak):Prop:= ∃(cf:Cf) (js:List Jx) (gs:List Ax) (M k:Nat),e= .returned cf.val∧abr cf js gs rt∧wS w' w.heap.size M cf js gs∧(d.l= []→gs.length=1∧∀a∈gs,a.se=1)∧dQ w' p d k∧w.grownBy w' (some p)
theorem aqt:(prog.info? 69).map (fun i=>(i.zero.isSome,i.zero.map (fun z=>z.cells.size),i.size,i.bytes))=some (true,some 3,3,56):=by kernel_rfl
theorem aqu:(prog.info? 32).map (fun i=>(i.zero.isSome,i.zero.map (fun z=>z.cells.size),i.size,i.bytes))=some (true,some 8,8,96):=by kernel_rfl
theorem Px:(prog.underlying 28).map TypeDesc.isRow=some true:=by kernel_rfl
theorem JO:(prog.info? 28).map (·.size)=some 6:=by kernel_rfl
theorem avO{num rt:Int}{a:Ax}(h:ajl w B num rt a)(hi:num=i)(hr:0≤rt∧rt≤63):AgN rt i a∧v_ w B a:=by
 obtain⟨h1,h2,h3,h4,h5,h6,h7,h8,h9,h10,h11,h12,h13⟩:=h;subst hi;refine⟨⟨h1,h2,h3,⟨?_,?_,?_,?_,?_,?_,?_,?_⟩,⟨h6,h7⟩,h8.2⟩,?_,?_⟩
 ·simp only[Ax.num];omega
 ·simp only[Ax.num];omega
 ·simpa only[Ax.num]using h4
 ·intro x hx;have:=h5 x hx;omega
 ·simp only[Ax.num];omega
 ·simp only[Ax.num];omega
 ·simp only[Ax.num];omega
 ·simp only[Ax.num];omega
 ·have:a.sec.length=8:=by rw[h1];exact ZN _ _
  rw[this];exact h12
 ·rw[h4];exact h13
theorem Vp{b:Nat}{v:Value}(h:w.cell? ⟨b,off,none⟩=some v){T e:aK}(hu:prog.underlying T=some (.slice e)):(Instr.loadAt T (.pointer (some ⟨b,off,none⟩))).run prog w= .ok v w:=by
 simp[go_sem,Instr.loadAt,isAgg,underlying,hu,h]
theorem awF{l:aO}{kk:Nat}{ps:List Ph}{cs:aO}{s:Int}{a b c e:Nat}(hm:ps.length=J8 l kk)(hok: ∀p∈ps,mO p)(Ei:Hid (∀j (h:j<ps.length),ps[j].ring=(ui (nN l kk 6)).getD (2*j) 0∧ps[j].group=(ui (nN l kk 6)).getD (2*j+1) 0))
  (hcs:Hid (∃ext,cs=(List.range (J8 l kk)).map fun i=>pI (ui (nN l kk 6)) ext i (J8 l kk))) (s0:0≤s) (s2:s≤2):Ll ⟨ps,cs,s,a,b,c,e⟩:=by
 have hb:=Gf l kk (show(1:Int)≤6 by decide);have h8:=Yr (nN l kk 6);refine⟨ase hb.1 hb.2 hm hok Ei.out hcs.out,?_,s0,s2⟩;simp only;rw[hm];exact h8
theorem atE{l:aO}(h:l= [])(k:Nat)(n:Int):nN l k n=0:=by subst h;simp[nN]
theorem agl(p:Nat)(w:ak)(d:Dk)(k:Nat)(rt:Int)(hd:dQ w p d k)(hr:0≤rt∧rt≤63):
  aH 9 #[.pointer (some ⟨p,0,none⟩),ae rt] w (axH p d rt w):=by
 have hpl:=hd.lt
 go_enter func9,ntmps9
 go_upto_region 2 with(first|(go_at_call 27;(with_reducible refine(CQ p 1 4 _ d k (hd.alloc _) aj aj aj).mono ?_);rintro e w2 ⟨v1,rfl,v10,v11, -,hd2,g2⟩)|(go_at_call 25;(with_reducible refine(vI p 4 _ d _ hd2 aj aj).mono ?_);rintro e w3 ⟨v2,rfl,v20,v21, -,hd3,g3⟩)|(go_at_call 27;(with_reducible refine(CQ p 1 3 _ d _ hd3 aj aj aj).mono ?_);rintro e w4 ⟨v3,rfl,v30,v31, -,hd4,g4⟩)|(go_at_call 25;(with_reducible refine(vI p 5 _ d _ hd4 aj aj).mono ?_);rintro e w5 ⟨v4,rfl,v40,v41, -,hd5,g5⟩))
 have s2:=g2.size;have s3:=g3.size;have s4:=g4.size;have s5:=g5.size;simp at s2;obtain⟨C,hC⟩:=aI w5.heap.size;refine aW (fun W=> ∃kk,yu w p d w.heap.size C (1+v1) v2 (1+v3) v4 W kk [] none 0 [] none 0 w.heap.size) ⟨_,⟨?_,by rw[←hC];exact ah.new _ _ _,Own.nil _ _ _ _,Own.nil _ _ _ _,⟨⟨Nat.le_refl _,by simp;omega⟩,by simp,by simp,by simp⟩,hd5.alloc _,?_⟩⟩ ?_
 ·exact(((((ah.new w 28 (gJ none 0 0 none 0 0 0 0 0 0)).grown g2 aj).grown g3 aj).grown g4 aj).grown g5 aj).alloc _
 ·exact(((((World.grownBy_alloc w _ _).trans g2).trans g3).trans g4).trans g5).agS _
 rw[hC];have XV:w.heap.size<C:=by omega
 clear hC s2 s3 s4 s5 g2 g3 g4 g5 hd2 hd3 hd4 hd5;rintro W ⟨kk,hS⟩
 go_wp2_with (go_at_call 25;(with_reducible refine(vI p 2 _ d kk hS.dk aj aj).mono ?_);rintro e w6 ⟨v5,rfl,v50,v51, -,hd6,g6⟩;(try simp only[Int.zero_add]))
 have hS6:=hS.call g6 hd6 hpl aj aj;clear hS hd6 g6;obtain⟨x5,rfl⟩:=Int.eq_ofNat_of_zero_le v50
 go_loopw [6] (fun s wr=> ∃(n:Nat) (kk M:Nat) (js:List Jx) (ja:az) (jc:Nat),s=ae n∧1≤js.length+n∧js.length+n≤2∧(∀j∈js,Ll j)∧yu w p d w.heap.size C (1+v1) v2 (1+v3) v4 wr kk js ja jc [] none 0 M) (fun s _=>(intOf s).toNat)
 case atStart=>exact⟨1+x5,_,_,[],_,_,by go_num,by simp,by simp;omega,by simp,hS6⟩
 case round=>
  clear hS6 v50 v51;obtain⟨n,kk,M,js,ja,jc,rfl,n1,n2,hN,hS⟩:=hrel;by_cases hn:0<n
  ·have hnx:(0:Int)<(n:Int):=by omega
   go_upto_region 5 with fail
   have hc0:wr.cell? ⟨C,0,none⟩=some (.slice ja js.length jc):=hS.kC.cell 0
   haveI:Nonempty (wR (fun w'=>w'.cell? ⟨C,0,none⟩=some (.slice ja js.length jc))):=⟨⟨wr,hc0⟩⟩
   refine A7 5 [([0,1,2],3),([],4)] [] bP bP (fun w'=> ∃q:wR (fun w'=>w'.cell? ⟨C,0,none⟩=some (.slice ja js.length jc)),w'=q.w) ⟨⟨wr.drew,hc0⟩,rfl⟩ ?_;simp only[dV,mF,oH,jM,jO,EI,EJ];refine lS fun K hK=>?_
   repeat(first|(refine gI rfl 25 _ rfl _ _ rfl (fun|_,⟨p,rfl⟩=>Vp p.h underlying25) ?_;refine dF ?_)|go_big_quiet_step (fail))
   refine wpQuiet_nil ?_
   go_wp2_with ((go_at_call 28;(with_reducible refine(aoo p _ d kk (hS.dk.below (show Below wr.heap.size wr wr.drew from bel))).mono ?_);rintro e wa ⟨v,rfl,⟨jb,GH,aQ,aY,ps,cs,s,rfl,hm,hok,Ei,hcs,s0,s2,oP,oC⟩,Tz,ga⟩))
   have ga:wr.grownBy wa (some p):=⟨ga.os,ga.tape,ga.output,ga.size,ga.block⟩;have hS2:=hS.call ga Tz hpl aj aj;have hJN:Ll ⟨ps,cs,s,jb,GH,aQ,aY⟩:=awF hm hok Ei hcs s0 s2;have hJL:rY wa wr.heap.size ⟨ps,cs,s,jb,GH,aQ,aY⟩:=⟨by rw[←hm]at oP;exact oP,by rw[←hm]at oC;exact oC⟩;rw[←hm];clear oP oC hm Ei hcs hok;refine qJ ⟨⟨wa,hS2.kC.cell 0⟩,rfl⟩ (hK _ _ ?_);clear hK K;refine lS fun K hK=>?_;refine wpQuiet_nil ?_
   go_wp2_with fail
   have hS3:=hS2.alloc (.cells (Jx.cells ⟨ps,cs,s,jb,GH,aQ,aY⟩).toArray 69);have axI:rY (wa.alloc (.cells (Jx.cells ⟨ps,cs,s,jb,GH,aQ,aY⟩).toArray 69)) wr.heap.size ⟨ps,cs,s,jb,GH,aQ,aY⟩:=hJL.keep fun b _ hb=>Below.heap_alloc wa _ b hb;refine qJ ⟨⟨_,hS3.kC.cell 0⟩,rfl⟩ (hK _ _ ?_);clear hK K;refine yR ?_;refine wpQuiet_nil ?_;have akl:=hS3.jr;have hz:=hS3.gr.size
   go_wp2_with ((at_builtin;refine zV rfl (.tmp 25) (.tmp 28) 25 69 3 56 rfl underlying25 aqt ay ay w.heap.size ja js.length jc _ rfl akl wa.heap.size (Jx.cells ⟨ps,cs,s,jb,GH,aQ,aY⟩) rfl (ah.new _ _ _) (yV _) (auD _) aj hz ?_;intro A' c' Wx oA gA;(have kx:=hS3.kC.aC gA.1 akl ay);have x0:=kx.cell 0;have xf:=kx.frozen;have xl:=kx.lt))
   go_roundw
   case rel=>
    rw[show gC Jx.cells js++Jx.cells ⟨ps,cs,s,jb,GH,aQ,aY⟩=gC Jx.cells (js++ [⟨ps,cs,s,jb,GH,aQ,aY⟩])by rw[yS];simp[gC]]at oA;obtain⟨M',hS4⟩:=hS3.aaQ gA oA axI hS.mem.lM.2 hd aj aj;refine⟨n -1,_,M',js++ [⟨ps,cs,s,jb,GH,aQ,aY⟩],A',c',by go_num,by simp;omega,by simp;omega,fun j hj=>?_,hS4⟩;rcases lW.1 hj with hj|hj
    ·exact hN j hj
    ·rw[dU.1 hj];exact hJN
   case measure=>simp[intOf];omega
  ·obtain rfl:n=0:=by omega
   simp only[iV]at n1 n2;simp only[show((0:Nat):Int)=0 from rfl]
   go_wp2_with (go_at_call 25;(with_reducible refine(vI p 3 _ d kk hS.dk aj aj).mono ?_);rintro e w7 ⟨v6,rfl,v60,v61,hv6,hd7,g7⟩;(try simp only[Int.zero_add]))
   have hS7:=hS.call g7 hd7 hpl aj aj;clear hS hd7 g7 hn;obtain⟨x6,rfl⟩:=Int.eq_ofNat_of_zero_le v60
   go_loopw [34,7] (fun s s7 wr=> ∃(i:Nat) (kk:Nat) (gs:List Ax) (ga:az) (gc:Nat),s=ae i∧i=gs.length∧i≤1+x6∧(∀i (h:i<gs.length),AgN rt i gs[i])∧(d.l= []→∀a∈gs,a.se=1)∧yu w p d w.heap.size C (1+v1) v2 (1+v3) v4 wr kk js ja jc gs ga gc M) (fun s _ _=>1+x6 -(intOf s).toNat)
   case atStart=>exact⟨0,_,[],_,_,by go_num,rfl,by omega,by simp,by simp,hS7⟩
   case round=>
    clear hS7;obtain⟨i,kk2,gs,ga,gc,rfl,hi,hi2,SN,hse,hS⟩:=hrel;by_cases hlt:i<1+x6
    ·have hix:(i:Int)<1+(x6:Int):=by omega
     have HI:=ax hi;clear hi
     go_upto_region 9 with fail
     have hc1:wr.cell? ⟨C,1,none⟩=some (.slice ga gs.length gc):=hS.kC.cell 1
     haveI:Nonempty (wR (fun w'=>w'.cell? ⟨C,1,none⟩=some (.slice ga gs.length gc))):=⟨⟨wr,hc1⟩⟩
     refine A7 7 [([0,1,2,3,4],5),([],6)] [] bP bP (fun w'=> ∃q:wR (fun w'=>w'.cell? ⟨C,1,none⟩=some (.slice ga gs.length gc)),w'=q.w) ⟨⟨wr.drew,hc1⟩,rfl⟩ ?_;simp only[dV,mF,oH,jM,jO,EI,EJ];refine lS fun K hK=>?_
     repeat(first|(refine gI rfl 26 _ rfl _ _ rfl (fun|_,⟨p,rfl⟩=>Vp p.h underlying26) ?_;refine dF ?_)|go_big_quiet_step (fail))
     refine wpQuiet_nil ?_
     go_wp2_with ((go_at_call 29;(with_reducible refine(aqs p _ d kk2 _ _ (hS.dk.below (show Below wr.heap.size wr wr.drew from bel)) aj).mono ?_);rintro e wa ⟨⟨sec,sa,sc,Fg,cl,lim,la,lc,rq,se,ra,bu⟩,rfl,hA,Gy,Tz,MI⟩))
     have MI:wr.grownBy wa (some p):=⟨MI.os,MI.tape,MI.output,MI.size,MI.block⟩;have hS2:=hS.call MI Tz hpl aj aj;obtain⟨hAN,hAL⟩:=avO hA (by rw[HI.out]) hr;have hAL:v_ wa wr.heap.size ⟨sec,sa,sc,Fg,cl,lim,la,lc,rq,se,ra,bu⟩:=hAL;clear hA;refine qJ ⟨⟨wa,hS2.kC.cell 1⟩,rfl⟩ (hK _ _ ?_);clear hK K;refine lS fun K hK=>?_;refine wpQuiet_nil ?_;simp only[Ax.cells]
     go_wp2_with fail
     have hS3:=hS2.alloc (.cells (Ax.cells ⟨sec,sa,sc,Fg,cl,lim,la,lc,rq,se,ra,bu⟩).toArray 32);have axJ:v_ (wa.alloc (.cells (Ax.cells ⟨sec,sa,sc,Fg,cl,lim,la,lc,rq,se,ra,bu⟩).toArray 32)) wr.heap.size ⟨sec,sa,sc,Fg,cl,lim,la,lc,rq,se,ra,bu⟩:=hAL.keep fun b _ hb=>Below.heap_alloc wa _ b hb;refine qJ ⟨⟨_,hS3.kC.cell 1⟩,rfl⟩ (hK _ _ ?_);clear hK K;refine yR ?_;refine wpQuiet_nil ?_;have rowA:=hS3.ar;have hz:=hS3.gr.size;have hl9:gs.length≤100000:=by rw[←HI.out];omega
     go_wp2_with ((at_builtin;refine zV rfl (.tmp 38) (.tmp 43) 26 32 8 96 rfl underlying26 aqu ay ay w.heap.size ga gs.length gc _ rfl rowA wa.heap.size (Ax.cells ⟨sec,sa,sc,Fg,cl,lim,la,lc,rq,se,ra,bu⟩) rfl (ah.new _ _ _) (IE _) (auE _) hl9 hz ?_;intro A' c' Wx oA gA;(have kx:=hS3.kC.aC gA.1 rowA ay);have x0:=kx.cell 1;have xf:=kx.frozen;have xl:=kx.lt))
     go_roundw
     case rel=>
      rw[show gC Ax.cells gs++Ax.cells ⟨sec,sa,sc,Fg,cl,lim,la,lc,rq,se,ra,bu⟩=gC Ax.cells (gs++ [⟨sec,sa,sc,Fg,cl,lim,la,lc,rq,se,ra,bu⟩])by rw[yS];simp[gC]]at oA;have hS4:=hS3.awE gA oA axJ hS.mem.lM.2 hd aj aj;refine⟨i+1,_,gs++ [⟨sec,sa,sc,Fg,cl,lim,la,lc,rq,se,ra,bu⟩],A',c',by go_num,by simp[HI.out],by omega,fun j hj=>?_,fun hl a ha=>?_,hS4⟩
      ·rw[List.getElem_append]
       split
       ·exact SN j _
       ·simp at hj;have:j=gs.length:=by omega
        subst this;simpa using hAN
      ·rcases lW.1 ha with ha|ha
       ·exact hse hl a ha
       ·rw[dU.1 ha];exact Gy hl
     case measure=>simp[intOf];omega
    ·obtain rfl:i=1+x6:=by omega
     have kC:=hS.kC;have kR:=hS.kR;have HI:=ax hi;clear hi
     go_wp2_with (first|(refine gy kC Px JO ?_)|(refine dw (gJ ja js.length jc ga gs.length gc (1+v1) v2 (1+v3) v4) kR JO ?_;intro We kw gw zw))
     refine nJ 4 28 results9 rfl kw 6 rfl Px JO rfl ?_;have hj1:=hS.mem.j0 aj;refine⟨⟨ja,js.length,jc,ga,gs.length,gc,1+v1,v2,1+v3,v4⟩,js,gs,M,kk2,rfl,⟨rfl,rfl,hN,SN,⟨by omega,by omega⟩,⟨by rw[←HI.out];omega,by rw[←HI.out];omega⟩,⟨by simp only;omega,by simp only;omega⟩,⟨by simp only;omega,by simp only;omega⟩,⟨by simp only;omega,by simp only;omega⟩,⟨by simp only;omega,by simp only;omega⟩⟩,
      ⟨hS.jr.aG gw kR ay,hS.ar.aG gw kR ay,hS.mem.aG gw kR ay ay ay⟩,fun hl=>⟨?_,hse hl⟩,?_,?_⟩
     ·have:=hv6.out;rw[atE hl]at this;rw[←HI.out];omega
     ·exact hS.dk.closed hd (fun _ b hb hl hne=>gw.block b (by have:=hS.gr.size;omega) CV) (gw.block p hS.dk.lt CV)
     ·exact⟨gw.os.trans hS.gr.os,gw.tape.trans hS.gr.tape,gw.output.trans hS.gr.output,dA hS.gr.size gw.size,fun b hb hne=>(gw.block b (jL hb hS.gr.size) CV).trans (hS.gr.block b hb hne)⟩
structure zx(j:Jx)(k:iG):Prop where
 ll:k.ls.length=j.ps.length
 nl:k.nx.length=2
 li: ∀i (h:i<j.ps.length) (h':i<k.ls.length),xZ j.ps[i] k.ls[i].1 k.ls[i].2
 ok:k.dB=false→mW j.ps j.cs j.s ⟨k.ls,k.g,k.nx⟩ k.wt
def vU(j:Jx)(k:iG)(st:Int):iG:=if k.dB then k else
 ⟨(stepM j.ps j.cs ⟨k.ls,k.g,k.nx⟩ k.wt).ls,(stepM j.ps j.cs ⟨k.ls,k.g,k.nx⟩ k.wt).g,(stepM j.ps j.cs ⟨k.ls,k.g,k.nx⟩ k.wt).nx,stepW k.wt,Ad j.cs (uN (stepM j.ps j.cs ⟨k.ls,k.g,k.nx⟩ k.wt).ls st)⟩
theorem mW.sg{c:Ck}{wt:Int}(h:mW j.ps j.cs j.s c wt)(b:Bool):zx j ⟨c.ls,c.g,c.nx,wt,b⟩:=⟨h.ll,h.nl,h.li,fun _=>h⟩
theorem U9(hf:uJ j.ps j.cs)(h1:1≤j.ps.length)(hs:0≤j.s):zx j (jV j):=(atf hf.ok h1 hs).sg false
theorem aiw{k:iG}(st:Int)(hf:uJ j.ps j.cs)(h1:1≤j.ps.length)(h:zx j k):zx j (vU j k st):=by
 unfold vU;by_cases hl:k.dB=true
 ·rw[if_pos hl];exact h
 ·rw[if_neg hl];exact(ahQ hf h1 (h.ok (by simpa using hl))).sg _
theorem ahV{k:iG}(st:Int)(h:k.dB=true):vU j k st=k:=by unfold vU;rw[if_pos h]
theorem zx.small{k:iG}(h:zx j k)(h1:j.ps.length≤8):k.Small:=⟨by have:=h.ll;omega,by have:=h.nl;omega⟩
theorem zx.v{k:iG}(h:zx j k):SgV j k:=⟨h.ll,h.nl,h.li⟩
theorem asq(cf:Cf)(j:Jx)(k:iG)(V:sK)(st now:Int)(W:ak)(s:Sx)(v:Vc)(ca:az)(cc:Nat)(hj:BI W j)(hs:BF W s)(hv:vP W v)(hk:Hid (s.key=k))(hV:Hid (v.key=V))(AB:V.ph= -1)(hgr:V.gr=0)(ok:zx j k):
  aH 140 #[cf.val,j.val,s.val,v.val,.slice ca 0 cc,ae st,ae now] W (SH (vU j k st) V W):=by
 obtain⟨ls,la,lc,g,nx,na,nc,wt,dB⟩:=s;obtain⟨ph,gr,en,ea,ec⟩:=v;have hk:=hk.out;have hV:=hV.out;subst hk hV;simp only[Vc.key]at AB hgr;subst AB hgr;have h1:=ok.ll;have h2:=ok.nl;simp only[Sx.key]at h1 h2;have sl:=hs.ls;have sn:=hs.nx;simp only[h1,h2]at sl sn;have e1:(Sx.val ⟨ls,la,lc,g,nx,na,nc,wt,dB⟩)=BD la j.ps.length lc g na 2 nc wt dB:=by simp only[Sx.val,h1,h2]
 rw[e1];have key: ∀(K:Ck) (wt':Int) (Wq:Bool),K.ls.length=j.ps.length→K.nx.length=2→∀e w',aa7 K wt' Wq j.ps.length en W e w'→SH ⟨K.ls,K.g,K.nx,wt',Wq⟩ ⟨-1,0,en⟩ W e w':=by
  rintro⟨kl,kg,kn⟩ wt' Wq hl hn e w' ⟨la',nC,na',Jk,Ou,Ov,rfl,o1,o2,o3,hb⟩;simp only at hl hn o1 o2;refine⟨⟨kl,la',nC,kg,kn,na',Jk,wt',Wq⟩,⟨-1,0,en,Ou,Ov⟩,?_,ax rfl,ax rfl,⟨?_,?_⟩,o3,hb⟩
  ·simp only[Sx.val,Vc.val,hl,hn]
  ·simpa only[hl]using o1
  ·simpa only[hn]using o2
 have h8:=hj.at_.j.n1;have sg:=aiw st hj.fine h8.1 ok;cases dB
 ·have hc:=ok.ok rfl;simp only[Sx.key]at hc;have hS:=apZ W.heap.size cf.ja cf.jn cf.jc cf.ga cf.gn cf.gc cf.per cf.cap cf.hold cf.lock j.pb j.pc j.cb j.cc j.ps j.cs j.s ⟨ls,g,nx⟩ wt st now la lc na nc en ea ec ca cc W hj.at_ hj.fine hc sl sn hv;have hd:vU j (Sx.key ⟨ls,la,lc,g,nx,na,nc,wt,false⟩) st=⟨(stepM j.ps j.cs ⟨ls,g,nx⟩ wt).ls,(stepM j.ps j.cs ⟨ls,g,nx⟩ wt).g,(stepM j.ps j.cs ⟨ls,g,nx⟩ wt).nx,stepW wt,Ad j.cs (uN (stepM j.ps j.cs ⟨ls,g,nx⟩ wt).ls st)⟩:=rfl;rw[hd]at sg⊢;have g1:=sg.ll;have g2:=sg.nl;clear sg hd;generalize stepM j.ps j.cs ⟨ls,g,nx⟩ wt=K at hS g1 g2⊢;generalize Ad j.cs (uN K.ls st)=fb at hS⊢;generalize stepW wt=wt' at hS⊢;simp only[Jx.val,Cf.val,Vc.val,Vc.key];exact hS.mono (key K wt' fb g1 g2)
 ·have hS:=apY cf.ja cf.jn cf.jc cf.ga cf.gn cf.gc cf.per cf.cap cf.hold cf.lock j.pb j.pc j.cb j.cc j.ps.length j.s ⟨ls,g,nx⟩ wt st now la lc na nc en ea ec ca cc W h1 h2 h8.2 sl sn hv;rw[ahV st rfl];simp only[Jx.val,Cf.val,Vc.val,Vc.key,Sx.key];exact hS.mono (key ⟨ls,g,nx⟩ wt true h1 h2)
theorem aix{K n:Int}{D:aJ}(hK:K=17∨K=21)(h0:0≤n)(h1:n<1073741824)(hD:D.length≤100):aU.Ok ⟨K,[],[n],D⟩:=by
 have hs:cZ K=⟨0,1,0,0,0, -1⟩:=by rcases hK with rfl|rfl<;>rfl
 have hl:(dI n.toNat).length≤5:=F8 aj;have hp:aU.pay ⟨K,[],[n],D⟩=dI n.toNat++D:=by
  simp[aU.pay,hs,mi,fP]
 refine⟨by show 1≤K∧K≤22;omega,by simp[hs],.inl (by simp[hs]),by simp[hs,iD],by simp;omega,fun m hm=>?_,?_⟩
 ·rw[dU.1 hm];exact⟨h0,by omega⟩
 ·rw[hp,dP];omega
theorem VU{K n:Int}{D:aJ}(hK:K=17∨K=21)(h0:0≤n)(h1:n<1073741824)(hD:D.length≤100):uB ⟨K,[],[n],D⟩:=
 ⟨aix hK h0 h1 hD,by simp,by simp,by simp only;omega⟩
structure Aq(i:Nat)(a:Ax)(d:dY):Prop where
 rs:d.rs= []
 au:d.au=List.replicate a.se.toNat false
 rg: ∃tk vh lv,d.r=⟨i,a.sec,a.rt,a.cl,a.lim,a.rq,a.se,a.ra,a.bu,tk,vh,lv⟩∧tk.length=8∧0≤lv∧lv≤1000
 sm:d.Small
theorem ari{k:List ny}{f:Int→Bool}(h: ∀t∈k,t.sec.length≤1000): ∀t∈yY k f,t.sec.length≤1000:=by
 intro t ht;obtain⟨i,hi,rfl⟩:=List.getElem_of_mem ht;have hi':i<k.length:=by simpa [yY]using hi
 simp only[yY,List.getElem_mapIdx]
 split
 ·simp[BA]
 ·exact h _ (bF hi')
theorem Aq.begin{a:Ax}{d:dY}(h:Aq i a d)(hf:Gn a.num)(now:Int):Aq i a (eY d now):=by
 obtain⟨rs,au,⟨tk,vh,lv,hr,h8,l0,l1⟩,sm⟩:=h;have s1:=sm.r;have hra:=hf.ra;have hbu:=hf.bu;simp only[Ax.num]at hra hbu;refine⟨by simp[eY,rs],au,⟨yY tk (zn tk now),vh,if lv+a.ra≤a.bu then lv+a.ra else a.bu,by simp[eY,Qq,hr],by simpa [yY]using h8,?_,?_⟩,?_⟩
 ·split<;>omega
 ·split<;>omega
 ·refine⟨⟨s1.sec,s1.lim,?_,?_,s1.vh⟩,by simp[eY,rs],by simp[eY,rs],sm.dr,sm.ds,sm.au⟩
  ·have:=s1.tk;simpa [eY,Qq,yY]using this
  ·exact ari s1.qG
theorem Aq.rgB{a:Ax}{d:dY}(h:Aq i a d)(hf:Gn a.num):Xy d.r:=by
 obtain⟨rs,au,⟨tk,vh,lv,hr,h8,l0,l1⟩,sm⟩:=h;have hra:=hf.ra;have hbu:=hf.bu;simp only[Ax.num]at hra hbu;rw[hr];exact⟨h8,⟨l0,l1⟩,by simp only;omega⟩
structure xI(js:List Jx)(gs:List Ax)(K:dJ):Prop where
 ref:K.ref=false
 now:0≤K.now
 nd:K.ds.length=gs.length
 ns:K.ss.length=js.length
 nv:K.vs.length=js.length
 nt:K.st.length=js.length
 nw:K.ws.length=js.length
 ds: ∀i (h:i<gs.length) (h':i<K.ds.length),Aq i gs[i] K.ds[i]
 ss: ∀i (h:i<js.length) (h':i<K.ss.length),zx js[i] K.ss[i]
 vs: ∀v∈K.vs,v.ph= -1∧v.gr=0∧v.en.length≤1000
 ws: ∀v∈K.ws,DV v
def lH(js:List Jx)(ss:List iG):aO→List iG
 |[]=>ss
 |r::_=>match js[r.toNat]? with
  |none=>ss
  |some j=>ss.set r.toNat (jV j)
def qR(js:List Jx)(ss:List iG)(st:aO):List iG:=List.zipWith (fun p x=>vU p.1 p.2 x) (js.zip ss) st
def wu(js:List Jx)(ss:List iG)(vs:List sK):List Vk:=List.zipWith (fun p v=>EW p.1 p.2 v) (js.zip ss) vs
theorem aiy{k:iG}{v:sK}(h:k.ls.length=j.ps.length)(h8:j.ps.length≤8):DV (EW j k v):=by
 refine⟨?_,?_,fun c hc=>?_⟩
 ·show(zy k.dB k.ls).length≤8;rw[aih];omega
 ·show(Fe k.dB j.ps k.ls).length≤8;rw[aii _ _ _ h];omega
 ·have hc:c∈zy k.dB k.ls:=hc;unfold zy at hc
  split at hc
  ·rw[List.eq_of_mem_replicate hc];omega
  ·obtain⟨l,_,rfl⟩:=List.mem_map.1 hc;exact at7 _
theorem ZU(js:List Jx)(ss:List iG)(rl:aO):(lH js ss rl).length=ss.length:=by
 unfold lH
 split
 ·rfl
 ·split<;>simp
def uQ(ops:List Bool)(gs:List Ax)(Ms:List aU)(St:Nat→aU):List (List aU):=
 (List.range gs.length).flatMap fun i=>(List.range (uD gs i)).map fun x=>if ops.getD ((iE (gs.take i)).toNat+x) false then(if x=0 then(if i=0 then Ms else [])else [])++ [St i]else []
theorem au0(ins:List Ix)(gs:List Ax)(Ms:List aU)(St:Nat→aU):Bv ins gs (fun i=>if i=0 then Ms else []) St gs.length=uQ (ins.map Ix.op) gs Ms St:=by
 unfold Bv uQ;have: ∀k,(ins.getD k xx).op=(ins.map Ix.op).getD k false:=fun k=>by
  simp only[eG,List.getElem?_map];cases ins[k]?<;>rfl
 simp only[Du,this]
def rZ(js:List Jx)(K:dJ)(rl:aO)(D':dY):dJ:=
 ⟨K.cf,false,K.now+1,(K.ds.map fun d=>eY d (K.now+1)).set 0 D',qR js (lH js K.ss rl) K.st,K.vs,List.replicate js.length (-1),wu js (qR js (lH js K.ss rl) K.st) K.vs⟩
def qM(gs:List Ax)(i:Nat):Nat:=((gs.map Ax.rq).getD i 0).toNat
def stM(js:List Jx)(gs:List Ax)(K:dJ)(rl:aO)(i:Nat):aU:=EL [] (qM gs i) (wu js (qR js (lH js K.ss rl) K.st) K.vs) (K.now+1)
def Ia(js:List Jx)(K:dJ)(rl:aO):aU:=⟨21,[],[K.now+1],bytesOf (wu js (qR js (lH js K.ss rl) K.st) K.vs)⟩
theorem agT{T:List dY}(h: ∀d∈T,d.rs= [])(j:Int):wF T j= []:=by
 unfold wF;rw[List.flatMap_eq_nil_iff];intro d hd;rw[h d hd];rfl
def Jd(js:List Jx)(ss:List iG)(rl:aO):Prop:=rl= []∨∃(j:Nat) (h:j<js.length) (h':j<ss.length),rl= [(j:Int)]∧ss[j].dB=true
theorem aiz(hf: ∀j∈js,uJ j.ps j.cs∧1≤j.ps.length∧0≤j.s)(h: ∀i (h:i<js.length) (h':i<ss.length),zx js[i] ss[i])(hr:Jd js ss rl):
  ∀i (h:i<js.length) (h':i<(lH js ss rl).length),zx js[i] (lH js ss rl)[i]:=by
 rcases hr with rfl|⟨j,hj,hj',rfl,_⟩
 ·exact h
 ·intro i hi hi';have e:lH js ss [(j:Int)]=ss.set j (jV js[j]):=by
   simp only[lH,Int.toNat_natCast,d_ hj]
  rw[ZU]at hi';simp only[e,List.getElem_set]
  split
  ·next heq=>
   subst heq;have:=hf js[j] (bF hj);exact U9 this.1 this.2.1 this.2.2
  ·exact h i hi hi'
theorem ahW(h1:ss.length=js.length)(h2:st.length=js.length):(qR js ss st).length=js.length:=by simp[qR,h1,h2]
theorem ahX(h:i<(qR js ss st).length)(h0:i<js.length)(h1:i<ss.length)(h2:i<st.length):(qR js ss st)[i]=vU js[i] ss[i] st[i]:=by simp[qR]
theorem aar{vs:List sK}(h1:ss.length=js.length)(h2:vs.length=js.length):(wu js ss vs).length=js.length:=by simp[wu,h1,h2]
theorem aiA{vs:List sK}(h:i<(wu js ss vs).length)(h0:i<js.length)(h1:i<ss.length)(h2:i<vs.length):(wu js ss vs)[i]=EW js[i] ss[i] vs[i]:=by simp[wu]
theorem Qj{gs:List Ax}{K:dJ}{D':dY}(vW: ∀j∈js,uJ j.ps j.cs∧1≤j.ps.length∧j.ps.length≤8∧0≤j.s)(AY: ∀a∈gs,Gn a.num)(ok:xI js gs K)(hr:Jd js K.ss rl)(hD: ∀h:0<gs.length,Aq 0 gs[0] D'):xI js gs (rZ js K rl D'):=by
 have hss:=aiz (fun j hj=>⟨(vW j hj).1,(vW j hj).2.1,(vW j hj).2.2.2⟩) ok.ss hr;have l1:(lH js K.ss rl).length=js.length:=by rw[ZU,ok.ns]
 have l2:=ahW l1 ok.nt;have hs1: ∀i (h:i<js.length) (h':i<(qR js (lH js K.ss rl) K.st).length),zx js[i] (qR js (lH js K.ss rl) K.st)[i]:=fun i h h'=>by
  rw[ahX h' h aj (by have:=ok.nt;omega)];have:=vW js[i] (bF h);exact aiw _ this.1 this.2.1 (hss i h aj)
 refine⟨rfl,by have:=ok.now;simp only[rZ];omega,by simp[rZ,ok.nd],l2,ok.nv,by simp[rZ],aar l2 ok.nv,fun i h h'=>?_,hs1,ok.vs,fun v hv=>?_⟩
 ·have h0:i<K.ds.length:=by have:=ok.nd;omega
  simp only[rZ,List.getElem_set,List.getElem_map]
  split
  ·next heq=>subst heq;exact hD h
  ·exact(ok.ds i h h0).begin (AY _ (bF h)) _
 ·obtain⟨i,hi,rfl⟩:=List.getElem_of_mem hv;simp only[rZ]at hi⊢;have hi':i<js.length:=by rw[aar l2 ok.nv]at hi;exact hi
  rw[aiA hi hi' aj (by have:=ok.nv;omega)];have:=vW js[i] (bF hi');exact aiy (hs1 i hi' aj).ll this.2.2.1
end Go.Proofs.YtiffpjamngklhaaGreat
