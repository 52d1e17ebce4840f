/- Lemmas, part 14. -/
import Derived.Test.YtiffpjamngklhaaGreatP12
import Derived.Test.YtiffpjamngklhaaGreatP13
namespace Go.Proofs.YtiffpjamngklhaaGreat
set_option linter.all false
set_option maxRecDepth 100000
set_option maxHeartbeats 16000000
open Go.RowKit Tryz
open Go.Sort hiding Below
variable{w w':ak}{B n i B' c sz cp tn an dn:Nat}{t e:aK}{a ta:az}{Q:dR}{xs ys:aP}{s:Int}{ps:List Ph}
theorem apU(n:Nat)(w:ak)(h1:1≤n)(h8:n≤8):aH 66 #[ae n] w (VZ ⟨-1,0,List.replicate n (-1)⟩ w):=by
 go_enter func66,ntmps66
 go_upto_region 2 with fail
 obtain⟨R,hR⟩:=aI w.heap.size;refine aW (fun W=>ah W R 123 #[ae 0,ae 0,.slice none 0 0]∧ah W (R+1) 123 #[ae (-1),ae 0,.slice none 0 0]∧Below w.heap.size w W) ⟨by rw[←hR];exact(ah.new _ _ _).alloc _,by rw[←hR];exact ah.dG _ _ _ _,bel⟩ ?_;have fQ:w.heap.size≤R:=by omega
 rw[hR];clear hR;rintro W ⟨kR,kS,be⟩;replace be:=be.mono fQ;have hSl:=kS.lt;(obtain⟨x0,x1,x2,xf,xl⟩:=kS.n3)
 go_upto_region 4 with(first|(refine ZH n ?_ ?_ aj ?_;(focus rfl);(focus rfl);intro W2 B hB kB bB;((clear x0 x1 x2 xf xl);replace kS:=kS.below bB kS.lt;(obtain⟨x0,x1,x2,xf,xl⟩:=kS.n3))))
 have hBW:W.heap.size≤B:=by rw[hB.out];exact Nat.le_refl _
 have uw:=kS.upd 2 (.slice (some ⟨B,0,none⟩) n n);have g1:=grownBy_set W2 (R+1) 2 (.slice (some ⟨B,0,none⟩) n n);have hRB:R+1<B:=by omega
 (clear x0 x1 x2 xf xl);refine aW (fun U=>ah U B 3 ((jv (List.replicate n (-1)) n 0).map encI).toArray∧ah U R 123 #[ae 0,ae 0,.slice none 0 0]∧ah U (R+1) 123 #[ae (-1),ae 0,.slice (some ⟨B,0,none⟩) n n]∧Below w.heap.size w U) ⟨by rw[Pz];exact kB.aB g1 cu,(kR.below bB kR.lt).aB g1 aF,uw,(be.trans (bB.mono be.size)).aB g1 (by have:=be.size;have:=bB.size;omega) bQ⟩ ?_;clear kB kR kS uw g1 bB hB;have hwB:w.heap.size≤B:=by have:=be.size;omega
 clear be hBW hSl;rintro U ⟨kB,kR,kS,be⟩;(obtain⟨x0,x1,x2,xf,xl⟩:=kS.n3)
 go_wp2_with fail
 go_loopw [18] (fun G8 wr=> ∃i:Nat,G8=ae i∧i≤n∧ah wr B 3 ((jv (List.replicate n (-1)) n i).map encI).toArray∧ah wr R 123 #[ae 0,ae 0,.slice none 0 0]∧ah wr (R+1) 123 #[ae (-1),ae 0,.slice (some ⟨B,0,none⟩) n n]∧Below w.heap.size w wr) (fun s _=>n -(intOf s).toNat)
 case atStart=>exact⟨0,rfl,by omega,kB,kR,kS,be⟩
 case round=>
  (clear x0 x1 x2 xf xl);clear kB kR kS be;obtain⟨i,rfl,hi,kB,kR,kS,be⟩:=hrel;(obtain⟨x0,x1,x2,xf,xl⟩:=kS.n3);by_cases hlt:i<n
  ·have ix:(i:Int)<(n:Int):=by omega
   have u0:=F7 kB aF hlt;have uf:=kB.frozen;have ul:=kB.lt;have g1:=grownBy_set wr B i (ae (-1))
   go_wp2_with fail
   go_roundw
   case rel=>exact⟨i+1,by go_num,by omega,JW kB aF hlt (-1) aF,kR.aB g1 cu,kS.aB g1 cu,be.aB g1 be.size bQ⟩
   case measure=>simp[intOf];omega
  ·obtain rfl:i=n:=by omega
   (clear x0 x1 x2 xf xl);rw[PN aF]at kB;have oB:=ah.I7 (B:=w.heap.size) kB hwB i aF aj
   go_wp2_with (first|(refine gy kS yP ry ?_)|(refine dw #[ae (-1),ae 0,.slice (some ⟨B,0,none⟩) i i] kR ry ?_;intro W' kw gw zw))
   refine nJ 2 123 results66 rfl kw 3 rfl yP ry rfl ?_;exact⟨some ⟨B,0,none⟩,i,by simp,⟨by simpa using oB.aG gw kR ay⟩,be.aB gw be.size bQ⟩
structure Jx where
 ps:List Ph
 cs:aO
 s:Int
 pb:Nat
 pc:Nat
 cb:Nat
 cc:Nat
def Jx.cells(j:Jx):aP:= [.slice (some ⟨j.pb,0,none⟩) j.ps.length j.pc,.slice (some ⟨j.cb,0,none⟩) j.ps.length j.cc,ae j.s]
theorem yV(x:Jx):(Jx.cells x).length=3:=rfl
theorem auD(x:Jx): ∀u∈Jx.cells x,u.oneCell'=true:=by intro u hu;simp only[Jx.cells,List.mem_cons,o_,or_false]at hu;rcases hu with rfl|rfl|rfl<;>rfl
structure BI(w:ak)(j:Jx):Prop where
 at_:wQ w w.heap.size j.pb j.pc j.cb j.cc j.ps j.cs j.s
 fine:uJ j.ps j.cs
structure Ax where
 sec:aJ
 sa:az
 sc:Nat
 rt:Int
 cl:Int
 lim:aO
 la:az
 lc:Nat
 rq:Int
 se:Int
 ra:Int
 bu:Int
def Ax.cells(a:Ax):aP:= [.slice a.sa a.sec.length a.sc,ae a.rt,ae a.cl,.slice a.la a.lim.length a.lc,ae a.rq,ae a.se,ae a.ra,ae a.bu]
theorem IE(x:Ax):(Ax.cells x).length=8:=rfl
theorem auE(x:Ax): ∀u∈Ax.cells x,u.oneCell'=true:=by intro u hu;simp only[Ax.cells,List.mem_cons,o_,or_false]at hu;rcases hu with rfl|rfl|rfl|rfl|rfl|rfl|rfl|rfl<;>rfl
def Ax.num(a:Ax):VK:=⟨a.rt,a.cl,a.lim,a.rq,a.se,a.ra,a.bu⟩
structure Xv(w:ak)(a:Ax):Prop where
 sec:Sl w 5 1 a.sa a.sec.length a.sc (a.sec.map a_)
 lim:Sl w 3 1 a.la a.lim.length a.lc (a.lim.map encI)
 s8:a.sec.length=8
 fine:Gn a.num
structure rM(w:ak)(cf:Cf)(js:List Jx)(gs:List Ax):Prop where
 hj:cf.jn=js.length
 hg:cf.gn=gs.length
 EU:Sl w 69 3 cf.ja js.length cf.jc (gC Jx.cells js)
 Jt: ∀j∈js,BI w j
 grow:Sl w 32 8 cf.ga gs.length cf.gc (gC Ax.cells gs)
 LX: ∀a∈gs,Xv w a
 n1:1≤js.length∧js.length≤4
 n2:1≤gs.length∧gs.length≤4
 per:1≤cf.per∧cf.per≤4
 cap:0≤cf.cap∧cf.cap≤3
 hold:1≤cf.hold∧cf.hold≤3
 lock:0≤cf.lock∧cf.lock≤4
section
variable{w w':ak}{B:Nat}
theorem BI.below{j:Jx}(h:BI w j)(hb:Below B w w')(hB:w.heap.size≤B):BI w' j:=by
 have hb':=hb.mono hB;have h1:=h.at_.below hb';exact⟨⟨h1.j.mono hb'.size aA,h1.ring,h1.rows⟩,h.fine⟩
theorem Xv.below{a:Ax}(h:Xv w a)(hb:Below B w w')(hB:w.heap.size≤B):Xv w' a:=⟨h.sec.below hb hB,h.lim.below hb hB,h.s8,h.fine⟩
theorem rM.below{cf:Cf}{js:List Jx}{gs:List Ax}(h:rM w cf js gs)(hb:Below B w w')(hB:w.heap.size≤B):rM w' cf js gs:=
 ⟨h.hj,h.hg,h.EU.below hb hB,fun j hj=>(h.Jt j hj).below hb hB,h.grow.below hb hB,fun a ha=>(h.LX a ha).below hb hB,h.n1,h.n2,h.per,h.cap,h.hold,h.lock⟩
end
theorem apc(cf:Cf)(js:List Jx)(gs:List Ax)(w:ak)(h:rM w cf js gs):aH 62 #[cf.val] w fun e w'=>e= .returned (.bool true)∧Below w.heap.size w w':=by
 obtain⟨ja,jn,jc,ga,gn,gc,per,cap,hold,lock⟩:=cf;obtain⟨rfl,rfl,hjs,aa8,has,aa9,n1,n2,h1,h2,h3,h4⟩:=h;simp only at hjs has h1 h2 h3 h4;obtain⟨jb,jo,rfl,Ha⟩:=hjs.open_ aj;obtain⟨gb,go,rfl,yD⟩:=has.open_ aj
 go_enter func62,ntmps62
 go_upto_region 1 with fail
 obtain⟨R,hR⟩:=aI w.heap.size;refine aW (fun W=>ah W R 28 (gJ (some ⟨jb,jo,none⟩) js.length jc (some ⟨gb,go,none⟩) gs.length gc per cap hold lock)∧Below w.heap.size w W) ⟨by rw[←hR];exact ah.new _ _ _,bel⟩ ?_;have fQ:w.heap.size≤R:=by omega
 rw[hR];clear hR;rintro W ⟨kR,be⟩;replace be:=be.mono fQ;(obtain⟨x0,x1,x2,x3,x4,x5,xf,xl⟩:=kR.n6);obtain⟨nj,hnj⟩: ∃n,js.length=n:=⟨_,rfl⟩;obtain⟨na,hna⟩: ∃n,gs.length=n:=⟨_,rfl⟩;have HNJ:=ax hnj;have HNA:=ax hna;rw[hnj]at kR hjs n1 x0⊢;rw[hna]at kR has n2 x1⊢;clear hnj hna
 go_upto_region 3 with((go_at_call 89;(with_reducible refine(MO _ aj aj).mono ?_);rintro e wz ⟨rfl,rfl⟩))
 go_wp2_with fail
 (clear x0 x1 x2 x3 x4 x5 xf xl)
 go_loopw [22] (fun LJ wr=> ∃i:Nat,LJ=ae i∧i≤nj∧ah wr R 28 (gJ (some ⟨jb,jo,none⟩) nj jc (some ⟨gb,go,none⟩) na gc per cap hold lock)∧Below w.heap.size w wr) (fun s _=>nj -(intOf s).toNat)
 case atStart=>exact⟨0,rfl,by omega,kR,be⟩
 case round=>
  clear kR be;obtain⟨i,rfl,hi,kR,be⟩:=hrel;by_cases hlt:i<nj
  ·have ix:(i:Int)<(nj:Int):=by omega
   have hil:i<js.length:=by rw[HNJ.out];exact hlt
   have hjr:=hjs.below be aA;have hji:=(aa8 _ (bF hil)).below be aA;have y0:=hjr.row.fV yV i hil 0 ay (v:= .slice (some ⟨js[i].pb,0,none⟩) js[i].ps.length js[i].pc) rfl;have y1:=hjr.row.fV yV i hil 1 ay (v:= .slice (some ⟨js[i].cb,0,none⟩) js[i].ps.length js[i].cc) rfl;have y2:=hjr.row.fV yV i hil 2 ay (v:=ae js[i].s) rfl;simp only[iV]at y0;obtain⟨j,hj⟩:=aI (js[i]);rw[hj]at hji y0 y1 y2;clear hj;obtain⟨ps,cs,s,pb,pc,cb,cc⟩:=j;simp only at y0 y1 y2;have yl:jb<wr.heap.size:=jL Ha be.size;have hja:=hji.at_;have vW:=hji.fine;simp only at hja vW;have hj2:=hja.below (show Below wr.heap.size wr (wr.alloc (.cells #[.slice (some ⟨pb,0,none⟩) ps.length pc,.slice (some ⟨cb,0,none⟩) ps.length cc,ae s] 69)) from bel)
   go_wp2_with (go_at_call 90;(with_reducible refine(aes pb pc cb cc ps cs s _ hj2.j.ph hj2.j.cf vW hj2.j.s0).mono ?_);rintro e w2 ⟨rfl,hb2⟩)
   have be2:=(be.alloc be.size (.cells #[.slice (some ⟨pb,0,none⟩) ps.length pc,.slice (some ⟨cb,0,none⟩) ps.length cc,ae s] 69)).trans (hb2.mono Na);go_roundw
   case rel=>exact⟨i+1,by go_num,by omega,(kR.alloc _).below hb2 PX,be2⟩
   case measure=>simp[intOf];omega
  ·obtain rfl:i=nj:=by omega
   (obtain⟨x0,x1,x2,x3,x4,x5,xf,xl⟩:=kR.n6)
   go_wp2_with fail
   (clear x0 x1 x2 x3 x4 x5 xf xl);clear HNJ hjs n1 hi hlt
   go_loopw [33] (fun s33 wr=> ∃k:Nat,s33=ae k∧k≤na∧ah wr R 28 (gJ (some ⟨jb,jo,none⟩) i jc (some ⟨gb,go,none⟩) na gc per cap hold lock)∧Below w.heap.size w wr) (fun s _=>na -(intOf s).toNat)
   case atStart=>exact⟨0,rfl,by omega,kR,be⟩
   case round=>
    clear kR be;obtain⟨k,rfl,hk,kR,be⟩:=hrel;by_cases hlt:k<na
    ·have ix:(k:Int)<(na:Int):=by omega
     have hil:k<gs.length:=by rw[HNA.out];exact hlt
     have hjr:=has.below be aA;have hji:=(aa9 _ (bF hil)).below be aA;obtain⟨j,hj⟩:=aI (gs[k]);have yy: ∀m (hm:m<8) v,(Ax.cells j)[m]?=some v→wr.cell? ⟨gb,go+k*8+m,none⟩=some v:=fun m hm v hv=>hjr.row.fV IE k hil m hm (by rw[hj];exact hv);rw[hj]at hji;clear hj;obtain⟨sec,sa,sc,rt,cl,lim,la,lc,rq,se,ra,bu⟩:=j;obtain⟨hse,D5,hs8,hfi⟩:=hji;simp only at hse D5 hs8;have LY:=hfi.ll;simp only[Ax.num]at LY hfi;have y0:=yy 0 ay _ rfl;have y1:=yy 1 ay _ rfl;have y2:=yy 2 ay _ rfl;have y3:=yy 3 ay _ rfl;have y4:=yy 4 ay _ rfl;have y5:=yy 5 ay _ rfl;have y6:=yy 6 ay _ rfl;have y7:=yy 7 ay _ rfl;simp only[iV]at y0;rw[hs8]at y0;rw[LY]at y3;clear hs8 LY yy;have yl:gb<wr.heap.size:=jL yD be.size;obtain⟨C,hC⟩: ∃C:aZ,C= #[.slice sa 8 sc,ae rt,ae cl,.slice la 4 lc,ae rq,ae se,ae ra,ae bu]:=⟨_,rfl⟩;have axc:Ints (wr.alloc (.cells #[.slice sa 8 sc,ae rt,ae cl,.slice la 4 lc,ae rq,ae se,ae ra,ae bu] 32)) la lim:=(D5.row).alloc _;clear hC C;have hPA:=ax (apb sa sc la lc ⟨rt,cl,lim,rq,se,ra,bu⟩ _ axc hfi)
     go_wp2_with (go_at_call 91;(with_reducible refine(hPA.out).mono ?_);rintro e w2 ⟨rfl,hb2⟩)
     have be2:=(be.alloc be.size (.cells #[.slice sa 8 sc,ae rt,ae cl,.slice la 4 lc,ae rq,ae se,ae ra,ae bu] 32)).trans (hb2.mono Na);go_roundw
     case rel=>exact⟨k+1,by go_num,by omega,(kR.alloc _).below hb2 PX,be2⟩
     case measure=>simp[intOf];omega
    ·obtain rfl:k=na:=by omega
     (obtain⟨x0,x1,x2,x3,x4,x5,xf,xl⟩:=kR.n6)
     go_wp2_with (go_at_call 89;(with_reducible refine(MO _ aj aj).mono ?_);rintro e wz ⟨rfl,rfl⟩)
     go_ret;exact⟨rfl,be⟩
theorem zV{ops:Array Oper}{rest:List Oper}{o:Oper}{a:Act}(hgd:o.guard=none)(s x:Operand)(T E:aK)(k bytes:Nat)
  (ho:o.op= .call {callee:= .builtin .append,args:= #[s,x],argTypes:= #[T,T]}) (hu:prog.underlying T=some (.slice E))
  (hik:(prog.info? E).map (fun i=>(i.zero.isSome,i.zero.map (fun z=>z.cells.size),i.size,i.bytes))=some (true,some k,k,bytes)) (hk:0<k) (hby:bytes≤10000)
  (base:Nat) (A:az) (n c:Nat) (xs:aP) (hs:a.eval s= .slice A n c) (own:Own w base E k A n c xs) (g:Nat) (cells:aP) (hx:a.eval x= .slice (some ⟨g,0,none⟩) 1 1) (hg:ah w g E cells.toArray) (hl:cells.length=k)
  (h1: ∀u∈cells,u.oneCell'=true) (hn:n≤100000) (hbase:base≤w.heap.size)
  (h: ∀A' c' W',Own W' base E k A' (n+1) c' (xs++cells)→Grew base w W' A A'→wpList prog ops Q rest (a.put o.dst (.slice A' (n+1) c')) W'):wpList prog ops Q (o::rest) a w:=by
 cases hq:prog.info? E with
 |none=>rw[hq]at hik;cases hik
 |some i0=>
  rw[hq]at hik;simp only[Option.map_some,Option.some.injEq,Prod.mk.injEq]at hik;obtain⟨k1,k2,k3,k4⟩:=hik;cases hz:i0.zero with
  |none=>rw[hz]at k1;cases k1
  |some z=>
   rw[hz]at k2;simp at k2;refine zL _ hgd s x T ho base E i0 z k bytes hu hq hz k3 k4 k2 hk A n c xs hs (some ⟨g,0,none⟩) 1 1 hx own cells aj ?_ h1 Ii ?_ hbase h
   ·refine .inr ⟨g,0,rfl,hg.lt,fun i hi=>?_⟩;rw[hg.cell];simp[hi]
   ·have:(n+1)*bytes≤100001*10000:=Nat.mul_le_mul aj hby;omega
theorem ap0:(prog.info? 89).map (fun i=>(i.zero.isSome,i.zero.map (fun z=>z.cells.size),i.size,i.bytes))=some (true,some 17,17,248):=by kernel_rfl
theorem ap3:(prog.info? 120).map (fun i=>(i.zero.isSome,i.zero.map (fun z=>z.cells.size),i.size,i.bytes))=some (true,some 5,5,72):=by kernel_rfl
theorem ap4:(prog.info? 123).map (fun i=>(i.zero.isSome,i.zero.map (fun z=>z.cells.size),i.size,i.bytes))=some (true,some 3,3,40):=by kernel_rfl
theorem ap5:(prog.info? 73).map (fun i=>(i.zero.isSome,i.zero.map (fun z=>z.cells.size),i.size,i.bytes))=some (true,some 4,4,56):=by kernel_rfl
theorem YP:(prog.info? 3).map (fun i=>(i.zero.isSome,i.zero.map (fun z=>z.cells.size),i.size,i.bytes))=some (true,some 1,1,8):=by kernel_rfl
theorem Own.xX(o:Own w B e sz a n c xs)(hg:w.grownBy w' (ta.map (·.block)))(h:Apart ta a):Own w' B e sz a n c xs:=o.aB hg fun k hk hb=>h k hk hb
theorem iM.xX{r:Rx}(h:iM w B r)(hg:w.grownBy w' (ta.map (·.block)))(x:Own w B' 3 sz ta n c ys)(ap:Apart ta r.la):iM w' B r:=
 ⟨h.sec.aC hg x ay,h.lim.xX hg ap,h.tk.aC hg x ay,fun t ht=>(h.qG t ht).aC hg x ay,h.vh.aC hg x ay⟩
theorem dZ.xX{d:Dx}(h:dZ w B d)(hg:w.grownBy w' (ta.map (·.block)))(x:Own w B' 3 sz ta n c ys)(ap:Apart ta d.r.la):dZ w' B d:=
 ⟨h.r.xX hg x ap,h.rs.aC hg x ay,fun t ht=>(h.lg t ht).aC hg x ay,h.dr.aC hg x ay,fun t ht=>(h.ds t ht).aC hg x ay,h.au.aC hg x ay⟩
theorem iR.xX{d:Sx}(h:iR w B d)(hg:w.grownBy w' (ta.map (·.block)))(x:Own w B' 3 sz ta n c ys)(ap:Apart ta d.na):iR w' B d:=⟨h.ls.aC hg x ay,h.nx.xX hg ap⟩
theorem fZ.xX{d:Vc}(h:fZ w B d)(hg:w.grownBy w' (ta.map (·.block)))(ap:Apart ta d.ea):fZ w' B d:=⟨h.en.xX hg ap⟩
theorem jH.xX{d:Vx}(h:jH w B d)(hg:w.grownBy w' (ta.map (·.block)))(ap:Apart ta d.ca∧Apart ta d.na):jH w' B d:=⟨h.cs.xX hg ap.1,h.ns.xX hg ap.2⟩
section
variable{w w':ak}{B:Nat}{c:Cx}
theorem dE.ajN(h:dE w B c)(g:w.grownBy w' (c.da.map (·.block))){l:List Dx}(own:Own w' B 89 17 a l.length cp (gC Dx.cells l))(it: ∀d∈l,dZ w' B d)(ap: ∀d∈l,Apart c.ta d.r.la):dE w' B {c with ds:=l,da:=a,dc:=cp}:=
 ⟨own,it,h.ss.aC g h.ds ay,fun d hd=>(h.sV d hd).aC g h.ds ay ay,h.vs.aC g h.ds ay,fun d hd=>(h.uk d hd).aC g h.ds ay,h.st.aC g h.ds ay,h.ws.aC g h.ds ay,fun d hd=>(h.r_ d hd).aC g h.ds ay,ap,h.yz,h.yA,h.yC⟩
theorem dE.ajO(h:dE w B c)(g:w.grownBy w' (c.sa.map (·.block))){l:List Sx}(own:Own w' B 120 5 a l.length cp (gC Sx.cells l))(it: ∀d∈l,iR w' B d)(ap: ∀d∈l,Apart c.ta d.na):dE w' B {c with ss:=l,sa:=a,sc:=cp}:=
 ⟨h.ds.aC g h.ss ay,fun d hd=>(h.qV d hd).aC g h.ss ay,own,it,h.vs.aC g h.ss ay,fun d hd=>(h.uk d hd).aC g h.ss ay,h.st.aC g h.ss ay,h.ws.aC g h.ss ay,fun d hd=>(h.r_ d hd).aC g h.ss ay,h.zF,ap,h.yA,h.yC⟩
theorem dE.ajP(h:dE w B c)(g:w.grownBy w' (c.va.map (·.block))){l:List Vc}(own:Own w' B 123 3 a l.length cp (gC Vc.cells l))(it: ∀d∈l,fZ w' B d)(ap: ∀d∈l,Apart c.ta d.ea):dE w' B {c with vs:=l,va:=a,vc:=cp}:=
 ⟨h.ds.aC g h.vs ay,fun d hd=>(h.qV d hd).aC g h.vs ay,h.ss.aC g h.vs ay,fun d hd=>(h.sV d hd).aC g h.vs ay ay,own,it,h.st.aC g h.vs ay,h.ws.aC g h.vs ay,fun d hd=>(h.r_ d hd).aC g h.vs ay,h.zF,h.yz,ap,h.yC⟩
theorem dE.ajQ(h:dE w B c)(g:w.grownBy w' (c.wa.map (·.block))){l:List Vx}(own:Own w' B 73 4 a l.length cp (gC Vx.cells l))(it: ∀d∈l,jH w' B d)(ap: ∀d∈l,Apart c.ta d.ca∧Apart c.ta d.na):dE w' B {c with ws:=l,wa:=a,wc:=cp}:=
 ⟨h.ds.aC g h.ws ay,fun d hd=>(h.qV d hd).aC g h.ws ay,h.ss.aC g h.ws ay,fun d hd=>(h.sV d hd).aC g h.ws ay ay,h.vs.aC g h.ws ay,fun d hd=>(h.uk d hd).aC g h.ws ay,h.st.aC g h.ws ay,own,it,h.zF,h.yz,h.yA,ap⟩
theorem dE.ajR(h:dE w B c)(g:w.grownBy w' (c.ta.map (·.block))){l:aO}(own:Own w' B 3 1 a l.length cp (l.map encI))(hnew:a.map (·.block)=c.ta.map (·.block)∨a.map (·.block)=some w.heap.size):dE w' B {c with st:=l,ta:=a,tc:=cp}:=by
 have ap: ∀b:az,Apart c.ta b→(∀k,b.map (·.block)=some k→k<w.heap.size)→Apart a b:=fun b hb hl k hk hbk=>by
  rcases hnew with e|e
  ·exact hb k (e▸hk) hbk
  ·rw[e]at hk;injection hk with hk;have:=hl k hbk;omega
 exact⟨h.ds.aC g h.st ay,fun d hd=>(h.qV d hd).xX g h.st (h.zF d hd),h.ss.aC g h.st ay,fun d hd=>(h.sV d hd).xX g h.st (h.yz d hd),h.vs.aC g h.st ay,fun d hd=>(h.uk d hd).xX g (h.yA d hd),own,h.ws.aC g h.st ay,fun d hd=>(h.r_ d hd).xX g (h.yC d hd),
  fun d hd=>ap _ (h.zF d hd) (h.qV d hd).r.lim.lt',fun d hd=>ap _ (h.yz d hd) (h.sV d hd).nx.lt',fun d hd=>ap _ (h.yA d hd) (h.uk d hd).en.lt',fun d hd=>⟨ap _ (h.yC d hd).1 (h.r_ d hd).cs.lt',ap _ (h.yC d hd).2 (h.r_ d hd).ns.lt'⟩⟩
theorem CS{α:Type}{l:List α}{x y:α}(h:x∈l.set i y):x∈l∨x=y:=List.mem_or_eq_of_mem_set h
theorem dE.awm(h:dE w B c){g:Nat}(hg:c.da=some ⟨g,0,none⟩)(hi:i<c.ds.length){y:Dx}(hw':w'=jy w g (i*17) (Dx.cells y))(hy:dZ w B y)(ap:Apart c.ta y.r.la):dE w' B {c with ds:=c.ds.set i y}:=by
 have gr:=gm g (Dx.cells y) w (i*17);rw[←hw']at gr;have vX:w.grownBy w' (c.da.map (·.block)):=by rw[hg];exact gr
 have own:Own w' B 89 17 c.da (c.ds.set i y).length c.dc (gC Dx.cells (c.ds.set i y)):=by
  have o:=h.ds;rw[hg]at o⊢;rw[iQ,C9 Bo c.ds i hi y,hw'];exact o.sets (Dx.cells y) (i*17)
 have:=h.ajN vX own (fun d hd=>by
  rcases CS hd with hd|rfl
  ·exact(h.qV d hd).aC vX h.ds ay
  ·exact hy.aC vX h.ds ay) (fun d hd=>by
  rcases CS hd with hd|rfl
  ·exact h.zF d hd
  ·exact ap)
 exact this
theorem dE.ai9(h:dE w B c){g:Nat}(hg:c.sa=some ⟨g,0,none⟩)(hi:i<c.ss.length){y:Sx}(hw':w'=jy w g (i*5) (Sx.cells y))(hy:iR w B y)(ap:Apart c.ta y.na):dE w' B {c with ss:=c.ss.set i y}:=by
 have gr:=gm g (Sx.cells y) w (i*5);rw[←hw']at gr;have vX:w.grownBy w' (c.sa.map (·.block)):=by rw[hg];exact gr
 have own:Own w' B 120 5 c.sa (c.ss.set i y).length c.sc (gC Sx.cells (c.ss.set i y)):=by
  have o:=h.ss;rw[hg]at o⊢;rw[iQ,C9 ED c.ss i hi y,hw'];exact o.sets (Sx.cells y) (i*5)
 exact h.ajO vX own (fun d hd=>by
  rcases CS hd with hd|rfl
  ·exact(h.sV d hd).aC vX h.ss ay ay
  ·exact hy.aC vX h.ss ay ay) (fun d hd=>by
  rcases CS hd with hd|rfl
  ·exact h.yz d hd
  ·exact ap)
theorem dE.awn(h:dE w B c){g:Nat}(hg:c.va=some ⟨g,0,none⟩)(hi:i<c.vs.length){y:Vc}(hw':w'=jy w g (i*3) (Vc.cells y))(hy:fZ w B y)(ap:Apart c.ta y.ea):dE w' B {c with vs:=c.vs.set i y}:=by
 have gr:=gm g (Vc.cells y) w (i*3);rw[←hw']at gr;have vX:w.grownBy w' (c.va.map (·.block)):=by rw[hg];exact gr
 have own:Own w' B 123 3 c.va (c.vs.set i y).length c.vc (gC Vc.cells (c.vs.set i y)):=by
  have o:=h.vs;rw[hg]at o⊢;rw[iQ,C9 IA c.vs i hi y,hw'];exact o.sets (Vc.cells y) (i*3)
 exact h.ajP vX own (fun d hd=>by
  rcases CS hd with hd|rfl
  ·exact(h.uk d hd).aC vX h.vs ay
  ·exact hy.aC vX h.vs ay) (fun d hd=>by
  rcases CS hd with hd|rfl
  ·exact h.yA d hd
  ·exact ap)
theorem dE.setWs(h:dE w B c){g:Nat}(hg:c.wa=some ⟨g,0,none⟩)(hi:i<c.ws.length){y:Vx}(hw':w'=jy w g (i*4) (Vx.cells y))(hy:jH w B y)(ap:Apart c.ta y.ca∧Apart c.ta y.na):dE w' B {c with ws:=c.ws.set i y}:=by
 have gr:=gm g (Vx.cells y) w (i*4);rw[←hw']at gr;have vX:w.grownBy w' (c.wa.map (·.block)):=by rw[hg];exact gr
 have own:Own w' B 73 4 c.wa (c.ws.set i y).length c.wc (gC Vx.cells (c.ws.set i y)):=by
  have o:=h.ws;rw[hg]at o⊢;rw[iQ,C9 IB c.ws i hi y,hw'];exact o.sets (Vx.cells y) (i*4)
 exact h.ajQ vX own (fun d hd=>by
  rcases CS hd with hd|rfl
  ·exact(h.r_ d hd).aC vX h.ws ay
  ·exact hy.aC vX h.ws ay) (fun d hd=>by
  rcases CS hd with hd|rfl
  ·exact h.yC d hd
  ·exact ap)
theorem dE.setSt(h:dE w B c){g:Nat}(hg:c.ta=some ⟨g,0,none⟩)(x:Int):dE (w.setCell ⟨g,i,none⟩ (ae x)) B {c with st:=c.st.set i x}:=by
 have vX:w.grownBy (w.setCell ⟨g,i,none⟩ (ae x)) (c.ta.map (·.block)):=by rw[hg];exact grownBy_set w g i _
 have own:Own (w.setCell ⟨g,i,none⟩ (ae x)) B 3 1 c.ta (c.st.set i x).length c.tc ((c.st.set i x).map encI):=by
  have o:=h.st;rw[hg]at o⊢;rw[iQ,List.map_set];exact o.set i _
 exact h.ajR vX own (.inl rfl)
theorem IG{α:Type}(A B:List α)(i:Nat)(hA:i<A.length)(hl:A.length=B.length):(A.take i++B.drop i).set i A[i]=A.take (i+1)++B.drop (i+1):=by
 have h1:(A.take i).length=i:=by rw[pV];omega
 rw[List.set_append_right _ _ aj,h1,Nat.sub_self,List.drop_eq_getElem_cons (by omega:i<B.length),jX,List.take_succ_eq_append_getElem hA,uM];rfl
theorem dE.apart{U:ak}(h:dE w B c)(o:Own U B' e sz a n cp xs)(hB:w.heap.size≤B'):Apart c.ta a:=fun k hk hb=>by
 have:=h.st.lt' k hk;have:=o.dW k hb;omega
end
structure Mx where
 m:aU
 ta:az
 tc:Nat
 aa:az
 ac:Nat
 da:az
 dc:Nat
@[reducible] def Mx.val(x:Mx):Value:= .agg #[ae x.m.kind,.slice x.ta x.m.tok.length x.tc,.slice x.aa x.m.args.length x.ac,.slice x.da x.m.dat.length x.dc]
def Mx.cells(x:Mx):aP:= [ae x.m.kind,.slice x.ta x.m.tok.length x.tc,.slice x.aa x.m.args.length x.ac,.slice x.da x.m.dat.length x.dc]
theorem Gg(x:Mx):(Mx.cells x).length=4:=rfl
theorem Ve(x:Mx): ∀u∈Mx.cells x,u.oneCell'=true:=by intro u hu;simp only[Mx.cells,List.mem_cons,o_,or_false]at hu;rcases hu with rfl|rfl|rfl|rfl<;>rfl
structure iI(w:ak)(B:Nat)(x:Mx):Prop where
 tok:Own w B 5 1 x.ta x.m.tok.length x.tc (x.m.tok.map a_)
 args:Own w B 3 1 x.aa x.m.args.length x.ac (x.m.args.map encI)
 dat:Own w B 5 1 x.da x.m.dat.length x.dc (x.m.dat.map a_)
def OL(M:aU)(w:ak)(e:Ending)(w':ak):Prop:= ∃x:Mx,e= .returned x.val∧Hid (x.m=M)∧iI w' w.heap.size x∧Below w.heap.size w w'
section
variable{w w':ak}{B B':Nat}{x:Mx}
theorem iI.below(h:iI w B x)(hb:Below B' w w')(hB:w.heap.size≤B'):iI w' B x:=⟨h.tok.below hb hB,h.args.below hb hB,h.dat.below hb hB⟩
theorem iI.mono(h:iI w B x)(hB:B'≤B):iI w B' x:=⟨h.tok.mono hB,h.args.mono hB,h.dat.mono hB⟩
theorem iI.aG{g:Nat}{cs:aZ}(h:iI w B x)(hg:w.grownBy w' (some g))(k:ah w g t cs)(h1:t≠5)(h2:t≠3):iI w' B x:=⟨h.tok.aG hg k h1.symm,h.args.aG hg k h2.symm,h.dat.aG hg k h1.symm⟩
theorem iI.aC{sz' n' c':Nat}{xa:az}(h:iI w B x)(hg:w.grownBy w' (xa.map (·.block)))(o:Own w B' t sz' xa n' c' ys)(h1:t≠5)(h2:t≠3):iI w' B x:=⟨h.tok.aC hg o h1.symm,h.args.aC hg o h2.symm,h.dat.aC hg o h1.symm⟩
theorem iI.QD(h:iI w B x)(hl:x.m.tok.length≤1000000∧x.m.args.length≤1000000∧x.m.dat.length≤1000000):qx w x.m x.ta x.tc x.aa x.da:=⟨h.tok.dL,h.args.ints,h.dat.dL,fun e=>h.tok.Qc e,hl⟩
end
theorem ape(va:az)(its:List Vx)(vn vc:Nat)(now:Int)(w:ak)(hv:vV w va its)(hvn:vn=its.length)(hc: ∀v∈its,DV v.key)(hl:its.length≤1000):
  aH 111 #[ae now,.slice va vn vc] w (OL ⟨21,[],[now],bytesOf (its.map Vx.key)⟩ w):=by
 subst hvn;have HLB:=ax (ah8 hc hl)
 go_enter func111,ntmps111
 go_wp2_with ((go_at_call 148;(with_reducible refine(ahg va its its.length vc _ ((hv.alloc _).alloc _) rfl aj hc).mono ?_);rintro e w2 ⟨ba,bc,bn,hbn,rfl,own,hb2⟩;((have kR:=(((ah.new w 36 #[ae 0,.slice none 0 0,.slice none 0 0,.slice none 0 0]).alloc (.cells #[ae now] 3)).below hb2 cu));(have kA:=((ah.next w (.cells #[ae 0,.slice none 0 0,.slice none 0 0,.slice none 0 0] 36) 3 #[ae now]).below hb2 aF));(obtain⟨m0,m1,m2,m3⟩:=kR.four);(have lR:=kR.lt);(have fR:=kR.frozen))))
 have k4:=kR.QI (ae 21) (.slice none 0 0) (.slice (some ⟨w.heap.size+1,0,none⟩) 1 1) (.slice ba bn bc);have hlt:=hb2.size;simp at hlt;refine bodyPost_ret (v:= .agg #[ae 21,.slice none 0 0,.slice (some ⟨w.heap.size+1,0,none⟩) 1 1,.slice ba bn bc]) (by simp[results,results111,go_sem,m0,m1,m2,m3]) rfl ?_;have kA2:ah _ (w.heap.size+1) 3 #[ae now]:=(((kA.far (p:=⟨w.heap.size,0,none⟩) aF (ae 21)).far (p:=⟨w.heap.size,1,none⟩) aF (.slice none 0 0)).far (p:=⟨w.heap.size,2,none⟩) aF (.slice (some ⟨w.heap.size+1,0,none⟩) 1 1)).far (p:=⟨w.heap.size,3,none⟩) aF (.slice ba bn bc);have q:ba.map (·.block)≠some w.heap.size:=fun e=>by have:=own.dW _ e;simp at this;omega
 have own4:=(((own.far (p:=⟨w.heap.size,0,none⟩) q (ae 21)).far (p:=⟨w.heap.size,1,none⟩) q (.slice none 0 0)).far (p:=⟨w.heap.size,2,none⟩) q (.slice (some ⟨w.heap.size+1,0,none⟩) 1 1)).far (p:=⟨w.heap.size,3,none⟩) q (.slice ba bn bc);refine⟨⟨⟨21,[],[now],bytesOf (its.map Vx.key)⟩,none,0,some ⟨w.heap.size+1,0,none⟩,1,ba,bc⟩,by simp only[Mx.val,hbn.out,List.length_nil,List.length_singleton],ax rfl,⟨Own.nil _ _ _ _,?_,?_⟩,bel⟩
 ·exact ah.I7 (l:= [now]) kA2 aj 1 rfl aj
 ·have:=own4.mono (base':=w.heap.size) cu;simpa only[hbn.out]using this
theorem anU(va:az)(its:List Vx)(vn vc:Nat)(now:Int)(ca:az)(cs:aJ)(cn cc:Nat)(w:ak)(hv:vV w va its)(hvn:vn=its.length)(hc: ∀v∈its,DV v.key)(hl:its.length≤1000)(hcs:bI w ca cs)(hcn:cn=cs.length)(hcl:cn≤11000):
  aH 169 #[ae now,.slice va vn vc,.slice ca cn cc] w (OL ⟨17,[],[now],bytesOf (its.map Vx.key)++cs⟩ w):=by
 subst hvn;have DU:=ax hcn;clear hcn;have HLB:=ax (ah8 hc hl)
 go_enter func169,ntmps169
 go_wp2_with (first|(go_at_call 148;(with_reducible refine(ahg va its its.length vc _ ((hv.alloc _).alloc _) rfl aj hc).mono ?_);rintro e w2 ⟨ba,bc,bn,hbn,rfl,own,hb2⟩;((have kR:=(((ah.new w 36 #[ae 0,.slice none 0 0,.slice none 0 0,.slice none 0 0]).alloc (.cells #[ae now] 3)).below hb2 cu));(have kA:=((ah.next w (.cells #[ae 0,.slice none 0 0,.slice none 0 0,.slice none 0 0] 36) 3 #[ae now]).below hb2 aF));(have hcs2:=(((hcs.alloc (.cells #[ae 0,.slice none 0 0,.slice none 0 0,.slice none 0 0] 36)).alloc (.cells #[ae now] 3)).below hb2 aA));(have hlt:=hb2.size);(simp at hlt);(have be2:Below w.heap.size w w2:=bel);(have own:=own.mono (show w.heap.size+2≤_ by simp))))|(at_builtin;refine qN rfl _ _ rfl (w.heap.size+2) ba bn bc (bytesOf (its.map Vx.key)) rfl ca cn cc cs rfl own hcs2 DU.out (bn+cn) rfl (by have:=HLB.out;have:=hbn.out;omega) aj ?_;intro xb xd w3 jE g3 DX;(have jk:=kR.jT g3 (fun e=>by have:=own.dW _ e;omega));(have kA3:=kA.jT g3 (fun e=>by have:=own.dW _ e;omega));(have eH:Below w.heap.size w w3:=⟨g3.1.os.trans be2.os,g3.1.tape.trans be2.tape,g3.1.output.trans be2.output,dA be2.size g3.1.size,fun k hk=>(g3.1.block k aj (fun e=>by have:=own.dW k e.symm;omega)).trans (be2.block k hk)⟩);(obtain⟨m0,m1,m2,m3⟩:=jk.four);(have lR:=jk.lt);(have fR:=jk.frozen)))
 have k4:=jk.QI (ae 17) (.slice none 0 0) (.slice (some ⟨w.heap.size+1,0,none⟩) 1 1) (.slice xb (bn+cn) xd);refine bodyPost_ret (v:= .agg #[ae 17,.slice none 0 0,.slice (some ⟨w.heap.size+1,0,none⟩) 1 1,.slice xb (bn+cn) xd]) (by simp[results,results169,go_sem,m0,m1,m2,m3]) rfl ?_;have kA2:ah _ (w.heap.size+1) 3 #[ae now]:=(((kA3.far (p:=⟨w.heap.size,0,none⟩) aF (ae 17)).far (p:=⟨w.heap.size,1,none⟩) aF (.slice none 0 0)).far (p:=⟨w.heap.size,2,none⟩) aF (.slice (some ⟨w.heap.size+1,0,none⟩) 1 1)).far (p:=⟨w.heap.size,3,none⟩) aF (.slice xb (bn+cn) xd);have q:xb.map (·.block)≠some w.heap.size:=fun e=>by have:=jE.dW _ e;omega
 have own4:=(((jE.far (p:=⟨w.heap.size,0,none⟩) q (ae 17)).far (p:=⟨w.heap.size,1,none⟩) q (.slice none 0 0)).far (p:=⟨w.heap.size,2,none⟩) q (.slice (some ⟨w.heap.size+1,0,none⟩) 1 1)).far (p:=⟨w.heap.size,3,none⟩) q (.slice xb (bn+cn) xd);have hl:bn+cn=(bytesOf (its.map Vx.key)++cs).length:=by rw[dP,←hbn.out,←DU.out]
 refine⟨⟨⟨17,[],[now],bytesOf (its.map Vx.key)++cs⟩,none,0,some ⟨w.heap.size+1,0,none⟩,1,xb,xd⟩,by simp only[Mx.val,hl,List.length_nil,List.length_singleton],ax rfl,⟨Own.nil _ _ _ _,?_,?_⟩,bel⟩
 ·exact ah.I7 (l:= [now]) kA2 aj 1 rfl aj
 ·have:=own4.mono (base':=w.heap.size) aj;simpa only[hl]using this
theorem ate(n:Nat):BH (List.replicate n ((0:Int),(0:Int)))=true:=by simp[BH]
theorem atf{cs:aO}(hok: ∀p∈ps,mO p)(h1:1≤ps.length)(hs:0≤s):mW ps cs s (dK ps) s:=by
 have hg:=ZI hok h1;refine⟨by simp[dK],rfl,fun i hi h2=>?_,fun p q hp hq hpq h1 h2=>?_,by simp[dK],by simp only[dK];omega,fun r hr=>?_,hs,Int.le_refl _,.inr (ate _)⟩
 ·simp only[dK,List.getElem_replicate];exact .inl ⟨rfl,rfl⟩
 ·exfalso
  apply h1;simp only[dK];rw[eG,List.getElem?_replicate]
  split<;>rfl
 ·exact aai ps 0 r hr
theorem ahQ{cs:aO}{c:Ck}{wt:Int}(hf:uJ ps cs)(h1:1≤ps.length)(h:mW ps cs s c wt):mW ps cs s (stepM ps cs c wt) (stepW wt):=by
 unfold stepM stepW;by_cases hw:0<wt
 ·rw[if_pos hw,if_pos hw];have:=h.wr;exact⟨h.ll,h.nl,h.li,h.cl,h.g0,h.g1,h.nx,by omega,by have:=h.w1;omega,.inr (by rcases this with h0|h0;omega;exact h0)⟩
 ·rw[if_neg hw,if_neg hw];have hw0:wt=0:=by have:=h.w0;omega
  subst hw0;have h2:mW ps cs s ⟨yU ps c.ls,c.g,c.nx⟩ 0:=agK hf.ok h;exact aaj hf.ok h1 hf.ring (aif hf.G5) h2 2 aA
def wL(i:Nat)(a:Ax):dY:=⟨⟨i,a.sec,a.rt,a.cl,a.lim,a.rq,a.se,a.ra,a.bu,iZ a.sec a.rt a.cl,[],a.bu⟩,[],[],List.replicate a.se.toNat false⟩
def jV(j:Jx):iG:=⟨(dK j.ps).ls,(dK j.ps).g,(dK j.ps).nx,j.s,false⟩
def IM(j:Jx):sK:=⟨-1,0,List.replicate j.ps.length (-1)⟩
def EW(j:Jx)(k:iG)(v:sK):Vk:=(k.dB,!k.dB && (v.ph != -1),zy k.dB k.ls,Fe k.dB j.ps k.ls)
def uA:aZ:= #[.slice none 0 0,.slice none 0 0,ae 0,ae 0,ae 0,ae 0,.bool false,ae 0,.slice none 0 0,.slice none 0 0,.slice none 0 0,.slice none 0 0,.slice none 0 0]
@[reducible] def ed(ja:az)(jn jc:Nat)(ga:az)(gn gc:Nat)(per cap hold lock:Int)(ref:Bool)(now:Int)(da:az)(dn dc:Nat)(sa:az)(sn sc:Nat)(va:az)(vn vc:Nat)(ta:az)(tn tc:Nat)(wa:az)(wn wc:Nat):aZ:=
 #[.slice ja jn jc,.slice ga gn gc,ae per,ae cap,ae hold,ae lock,.bool ref,ae now,.slice da dn dc,.slice sa sn sc,.slice va vn vc,.slice ta tn tc,.slice wa wn wc]
structure MnD(w:ak)(R C:Nat)(cf:Cf)(nj ng:Nat)(gs:List Ax)(i:Nat)(l:List Dx)(A:az)(cp:Nat)(wr:ak):Prop where
 cl:dE wr w.heap.size ⟨cf,false,0,l,A,cp,[],none,0,[],none,0,[],none,0,[],none,0⟩
 len:l.length=i
 keys:l.map Dx.key=(gs.mapIdx wL).take i
 kF:ah wr R 28 (gJ cf.ja nj cf.jc cf.ga ng cf.gc cf.per cf.cap cf.hold cf.lock)
 kZ:ah wr (R+1) 45 uA
 kC:ah wr C 45 (ed cf.ja nj cf.jc cf.ga ng cf.gc cf.per cf.cap cf.hold cf.lock false 0 A i cp none 0 0 none 0 0 none 0 0 none 0 0)
 be:Below w.heap.size w wr
structure MnJ(w:ak)(R C:Nat)(cf:Cf)(nj ng:Nat)(js:List Jx)(l:List Dx)(A:az)(cp:Nat)(i:Nat)(ss:List Sx)(sa:az)(sc:Nat)(vs:List Vc)(va:az)(vc:Nat)(ta:az)(tc:Nat)(ws:List Vx)(wa:az)(wc:Nat)(wr:ak):Prop where
 cl:dE wr w.heap.size ⟨cf,false,0,l,A,cp,ss,sa,sc,vs,va,vc,List.replicate i (-1),ta,tc,ws,wa,wc⟩
 l1:ss.length=i
 l2:vs.length=i
 l3:ws.length=i
 k1:ss.map Sx.key=(js.map jV).take i
 k2:vs.map Vc.key=(js.map IM).take i
 k3:ws.map Vx.key=(js.map fun j=>EW j (jV j) (IM j)).take i
 kF:ah wr R 28 (gJ cf.ja nj cf.jc cf.ga ng cf.gc cf.per cf.cap cf.hold cf.lock)
 kZ:ah wr (R+1) 45 uA
 kC:ah wr C 45 (ed cf.ja nj cf.jc cf.ga ng cf.gc cf.per cf.cap cf.hold cf.lock false 0 A ng cp sa i sc va i vc ta i tc wa i wc)
 be:Below w.heap.size w wr
theorem Zx{α β:Type}(f:α→β)(l:List α)(i:Nat)(h:i<l.length):(l.map f).take (i+1)=(l.map f).take i++ [f l[i]]:=by
 rw[List.take_succ_eq_append_getElem oq];simp
theorem dE.empty(w:ak)(B:Nat)(cf:Cf):dE w B ⟨cf,false,0,[],none,0,[],none,0,[],none,0,[],none,0,[],none,0⟩:=
 ⟨Own.nil _ _ _ _,by simp,Own.nil _ _ _ _,by simp,Own.nil _ _ _ _,by simp,Own.nil _ _ _ _,Own.nil _ _ _ _,by simp,by simp,by simp,by simp,by simp⟩
theorem ap6{α β:Type}(f:Nat→α→β)(l:List α)(i:Nat)(h:i<l.length):(l.mapIdx f).take (i+1)=(l.mapIdx f).take i++ [f i l[i]]:=by
 rw[List.take_succ_eq_append_getElem oq];simp
theorem aih(dB:Bool)(ls:List (Int × Int)):(zy dB ls).length=ls.length:=by unfold zy;split<;>simp[Dp]
theorem aii(dB:Bool)(ps:List Ph)(ls:List (Int × Int))(h:ls.length=ps.length):(Fe dB ps ls).length=ls.length:=by unfold Fe;split<;>simp[wJ,h]
@[reducible] def Vx.val(x:Vx):Value:= .agg #[.bool x.fl,.bool x.ov,.slice x.ca x.cs.length x.cc,.slice x.na x.ns.length x.nc]
theorem agL(j:Jx)(ls:List (Int × Int))(la:az)(lc:Nat)(g wt:Int)(na:az)(nn nc:Nat)(dB:Bool)(ph gr:Int)(ea:az)(en ec B:Nat)(w:ak)(hj:BI w j)(hl:Own w B 194 2 la j.ps.length lc (gC gG ls))(hll:ls.length=j.ps.length)(hok: ∀i (h:i<j.ps.length) (h':i<ls.length),xZ j.ps[i] ls[i].1 ls[i].2):
  aH 67 #[qO j.pb j.ps.length j.pc j.cb j.ps.length j.cc j.s,BD la j.ps.length lc g na nn nc wt dB,BG ph gr ea en ec] w fun e w'=> ∃x:Vx,e= .returned x.val∧Hid (x.key=(dB,!dB && (ph != -1),zy dB ls,Fe dB j.ps ls))∧jH w' w.heap.size x∧Below w.heap.size w w':=by
 refine(avd w.heap.size j.pb j.pc j.cb j.cc j.ps j.cs j.s B ls la lc g wt na nn nc dB ph gr ea en ec w hj.at_.j ⟨hl,hll,hok⟩).mono ?_;rintro e w' ⟨ca,cc,na',Jk,rfl,o1,o2,hb⟩;have e1:=aih dB ls;have e2:=aii dB j.ps ls hll;refine⟨{fl:=dB,ov:=!dB && (ph != -1),cs:=zy dB ls,ca:=ca,cc:=cc,ns:=Fe dB j.ps ls,na:=na',nc:=Jk},?_,ax rfl,⟨?_,?_⟩,hb⟩
 ·simp only[Vx.val,e1,e2,hll]
 ·simpa only[e1,hll]using o1
 ·simpa only[e2,hll]using o2
theorem auF(ps:List Ph): ∀i (h:i<ps.length) (h':i<(dK ps).ls.length),xZ ps[i] (dK ps).ls[i].1 (dK ps).ls[i].2:=fun i h h'=>by
 simp only[dK,List.getElem_replicate];exact .inl ⟨rfl,rfl⟩
def jU(cf:Cf)(js:List Jx)(gs:List Ax):dJ:=⟨cf,false,0,gs.mapIdx wL,js.map jV,js.map IM,List.replicate js.length (-1),js.map fun j=>EW j (jV j) (IM j)⟩
theorem arQ(cf:Cf)(js:List Jx)(gs:List Ax)(w:ak)(h:rM w cf js gs):aH 32 #[cf.val] w (QB (jU cf js gs) w):=by
 have hY:=fun w h=>apc cf js gs w h;obtain⟨ja,jn,jc,ga,gn,gc,per,cap,hold,lock⟩:=cf;have HC:=ax h;obtain⟨hjn,hgn,hjs,aa8,has,aa9,n1,n2,h1,h2,h3,h4⟩:=h;simp only at hjn hgn hjs has h1 h2 h3 h4;subst hjn hgn;obtain⟨jb,jo,rfl,Ha⟩:=hjs.open_ aj;obtain⟨gb,go,rfl,yD⟩:=has.open_ aj
 go_enter func32,ntmps32
 go_upto_region 2 with fail
 obtain⟨R,hR⟩:=aI w.heap.size;refine aW (fun W=>ah W R 28 (gJ (some ⟨jb,jo,none⟩) js.length jc (some ⟨gb,go,none⟩) gs.length gc per cap hold lock)∧ah W (R+1) 45 uA∧ah W (R+1+1) 45 (ed (some ⟨jb,jo,none⟩) js.length jc (some ⟨gb,go,none⟩) gs.length gc per cap hold lock false 0 none 0 0 none 0 0 none 0 0 none 0 0 none 0 0)∧Below w.heap.size w W) ⟨by rw[←hR];exact((ah.new _ _ _).alloc _).alloc _,by rw[←hR];exact(ah.dG _ _ _ _).alloc _,by rw[←hR];exact mr (ah.new _ _ _) aF,bel⟩ ?_;have fQ:w.heap.size≤R:=by omega
 rw[hR];clear hR;rintro W ⟨kF,kZ,kC,be⟩;replace be:=be.mono fQ;(obtain⟨x0,x1,x2,x3,x4,x5,xf,xl⟩:=kF.n6);have hCW:=HC.out.below be aA
 go_upto_region 10 with((go_at_call 62;(with_reducible refine(hY W hCW).mono ?_);rintro e w1 ⟨rfl,hb1⟩))
 (clear x0 x1 x2 x3 x4 x5 xf xl);replace kF:=kF.below hb1 kF.lt;replace kZ:=kZ.below hb1 kZ.lt;replace kC:=kC.below hb1 kC.lt;replace be:=be.trans (hb1.mono be.size);clear hb1 hCW;(obtain⟨x0,x1,x2,x3,x4,x5,xf,xl⟩:=kF.n6)
 go_wp2_with fail
 (clear x0 x1 x2 x3 x4 x5 xf xl)
 go_loopw [37] (fun s37 wr=> ∃(i:Nat) (l:List Dx) (A:az) (cp:Nat),s37=ae i∧i≤gs.length∧Hid (MnD w R (R+1+1) ⟨some ⟨jb,jo,none⟩,js.length,jc,some ⟨gb,go,none⟩,gs.length,gc,per,cap,hold,lock⟩ js.length gs.length gs i l A cp wr)) (fun s _=>gs.length -(intOf s).toNat)
 case atStart=>exact⟨0,[],none,0,rfl,by omega,ax ⟨dE.empty _ _ _,rfl,rfl,kF,kZ,kC,be⟩⟩
 case round=>
  clear kF kZ kC be;obtain⟨i,l,A,cp,rfl,hi,HD⟩:=hrel;obtain⟨hcl,hlen,hkeys,kF,kZ,kC,be⟩:=HD.out;clear HD;have HL:=ax hlen;have HK:=ax hkeys;clear hlen hkeys;simp only at kF kC;by_cases hlt:i<gs.length
  ·have ix:(i:Int)<(gs.length:Int):=by omega
   have hjr:=has.below be aA;have hji:=(aa9 _ (bF hlt)).below be aA;have HS:=ax (ap6 wL gs i hlt);obtain⟨j,hj⟩:=aI (gs[i]);have yy: ∀m (hm:m<8) v,(Ax.cells j)[m]?=some v→wr.cell? ⟨gb,go+i*8+m,none⟩=some v:=fun m hm v hv=>hjr.row.fV IE i hlt m hm (by rw[hj];exact hv);rw[hj]at hji HS;clear hj;obtain⟨sec,sa,sc,rt,cl,lim,la,lc,rq,se,ra,bu⟩:=j;obtain⟨hse,D5,hs8,hfi⟩:=hji;have LY:=hfi.ll;have hsn:=hfi.se;simp only[Ax.num]at LY hsn hse D5 hs8;have y0:=yy 0 ay _ rfl;have y1:=yy 1 ay _ rfl;have y2:=yy 2 ay _ rfl;have y3:=yy 3 ay _ rfl;have y4:=yy 4 ay _ rfl;have y5:=yy 5 ay _ rfl;have y6:=yy 6 ay _ rfl;have y7:=yy 7 ay _ rfl;simp only[iV]at y0;have H8:=ax hs8;have H4:=ax LY;clear yy hs8 LY;have yl:gb<wr.heap.size:=jL yD be.size
   go_upto_region 13 with fail
   obtain⟨T,hT⟩:=aI wr.heap.size;have hws:=be.size;refine aW (fun U=>ah U T 32 #[.slice sa sec.length sc,ae rt,ae cl,.slice la lim.length lc,ae rq,ae se,ae ra,ae bu]∧Below wr.heap.size wr U) ⟨by rw[←hT];exact ah.new _ _ _,bel⟩ ?_;rw[hT];rintro U ⟨kT,bU⟩;have hU:Below wr.heap.size wr U:=by rw[hT];exact bU
   clear bU y0 y1 y2 y3 y4 y5 y6 y7 yl hjr;replace hcl:=hcl.below hU aA;replace kF:=kF.below hU kF.lt;replace kZ:=kZ.below hU kZ.lt;have Xw:R+1+1<T:=by have:=kC.lt;omega
   replace kC:=kC.below hU kC.lt;replace be:=be.trans (hU.mono hws);replace hse:=hse.below hU aA;replace D5:=D5.below hU aA;clear hU hT hws;(obtain⟨m0,m1,m2,m3,m4,m5,m6,m7,m8,m9,m10,m11,m12,mf,ml⟩:=kC.n13);(obtain⟨a0,a1,a2,a3,a4,a5,a6,a7,af,al⟩:=kT.n8);have rC:=fun d os o=>dC U d os (R+1+1) o ml;have rT:=fun d os o=>dC U d os T o al;have uy:=be.size;have hD:=ax (atd (num:=i) (rt:=rt) (cl:=cl) (rq:=rq) (se:=se) (ra:=ra) (bu:=bu) (n:=se.toNat) (w:=U.drew) hse.drew D5.drew rfl (by rw[H8.out];omega) rfl (by rw[H4.out];omega) aj aj);obtain⟨KD,hKD⟩: ∃KD,(⟨⟨i,sec,rt,cl,lim,rq,se,ra,bu,iZ sec rt cl,[],bu⟩,[],[],List.replicate se.toNat false⟩:dY)=KD:=⟨_,rfl⟩;rw[hKD]at hD;have HKD:Hid (wL i ⟨sec,sa,sc,rt,cl,lim,la,lc,rq,se,ra,bu⟩=KD):=ax hKD;clear hKD hse D5;(refine nI 6 [([0,1,2,3],4),([],5)] [] bP bP ?_;refine lu ?_);(refine pF ?_;intro K hK)
   go_wp2_with (go_at_call 64;(with_reducible refine(hD.out).mono ?_);rintro e w2 ⟨d,rfl,hkd,oD,hb2⟩)
   replace hb2:=jA hb2;refine dS hb2 (hK _ _ ?_);clear hK K hD;(refine pF ?_;intro K hK)
   go_wp2_with fail
   have iT:=hb2.size;refine dS (hb2.alloc iT _) (hK _ _ ?_);clear hK K;(refine lC ?_);(clear m0 m1 m2 m3 m4 m5 m6 m7 m8 m9 m10 m11 m12 mf ml);(clear a0 a1 a2 a3 a4 a5 a6 a7 af al);clear rC rT;obtain⟨G,hG⟩:=aI w2.heap.size;refine aht (fun V=>ah V G 89 (Dx.cells d).toArray∧dE V w.heap.size ⟨⟨some ⟨jb,jo,none⟩,js.length,jc,some ⟨gb,go,none⟩,gs.length,gc,per,cap,hold,lock⟩,false,0,l,A,cp,[],none,0,[],none,0,[],none,0,[],none,0⟩∧dZ V w.heap.size d∧ah V R 28 (gJ (some ⟨jb,jo,none⟩) js.length jc (some ⟨gb,go,none⟩) gs.length gc per cap hold lock)∧ah V (R+1) 45 uA∧ah V (R+1+1) 45 (ed (some ⟨jb,jo,none⟩) js.length jc (some ⟨gb,go,none⟩) gs.length gc per cap hold lock false 0 A i cp none 0 0 none 0 0 none 0 0 none 0 0)∧Below w.heap.size w V) ⟨by rw[←hG];exact ah.new _ _ _,(hcl.below hb2 aA).below ((Below.refl _ _).alloc aA _) aA,(oD.mono uy).below ((Below.refl _ _).alloc aA _) aA,(kF.below hb2 kF.lt).alloc _,(kZ.below hb2 kZ.lt).alloc _,(kC.below hb2 kC.lt).alloc _,(be.trans (hb2.mono uy)).alloc aj _⟩ ?_;rw[hG];clear hG kT hcl oD hb2 kF kZ kC be iT uy Xw;rintro V ⟨kG,hcl,oD,kF,kZ,kC,be⟩;have oA:=hcl.ds;simp only at oA;rw[HL.out]at oA;have BX:=oA.iw kC ay;(obtain⟨m0,m1,m2,m3,m4,m5,m6,m7,m8,m9,m10,m11,m12,mf,ml⟩:=kC.n13)
   go_wp2_with ((at_builtin;refine zV rfl (.tmp 43) (.tmp 47) 40 89 17 248 rfl underlying40 ap0 ay ay w.heap.size A i cp _ rfl oA G (Dx.cells d) rfl kG (Bo d) (aia d) aj be.size ?_;intro A2 c2 V2 kH di;((clear m0 m1 m2 m3 m4 m5 m6 m7 m8 m9 m10 m11 m12 mf ml);have eF:=kC.jT di BX;(obtain⟨m0,m1,m2,m3,m4,m5,m6,m7,m8,m9,m10,m11,m12,mf,ml⟩:=eF.n13))))
   (clear m0 m1 m2 m3 m4 m5 m6 m7 m8 m9 m10 m11 m12 mf ml);have hset:=grownBy_set V2 (R+1+1) 8 (.slice A2 (i+1) c2);have eu:Own V2 w.heap.size 89 17 A2 (l++ [d]).length c2 (gC Dx.cells (l++ [d])):=by rw[yS,mP,Dj,iK,dP,HL.out];exact kH
   have rH:=(hcl.ajN di.1 eu (fun x hx=>by
    rcases lW.1 hx with hx|hx
    ·exact(hcl.qV x hx).aC di.1 hcl.ds ay
    ·rw[dU.1 hx];exact oD.aC di.1 hcl.ds ay) (fun x hx k hk=>by cases hk)).aG hset eF ay
   have kF2:=(kF.aC di.1 hcl.ds ay).aB hset cu;have oU:=(kZ.aC di.1 hcl.ds ay).aB hset aF;have be2:=(be.aC di.1 hcl.ds be.size aA).aB hset PU PS;have uu:=eF.upd 8 (.slice A2 (i+1) c2);go_roundw
   case rel=>exact⟨i+1,l++ [d],A2,c2,by go_num,by omega,ax ⟨rH,by simp[HL.out],by rw[jg,HK.out,HS.out,HKD.out];simp[hkd.out],kF2,oU,uu,be2⟩⟩
   case measure=>simp[intOf];omega
  ·obtain rfl:i=gs.length:=by omega
   (obtain⟨x0,x1,x2,x3,x4,x5,xf,xl⟩:=kF.n6)
   go_wp2_with fail
   (clear x0 x1 x2 x3 x4 x5 xf xl);clear hi hlt
   go_loopw [54] (fun s54 wr=> ∃(i:Nat) (ss:List Sx) (sa:az) (sc:Nat) (vs:List Vc) (va:az) (vc:Nat) (ta:az) (tc:Nat) (ws:List Vx) (wa:az) (wc:Nat),s54=ae i∧i≤js.length∧Hid (MnJ w R (R+1+1) ⟨some ⟨jb,jo,none⟩,js.length,jc,some ⟨gb,go,none⟩,gs.length,gc,per,cap,hold,lock⟩ js.length gs.length js l A cp i ss sa sc vs va vc ta tc ws wa wc wr)) (fun s _=>js.length -(intOf s).toNat)
   case atStart=>exact⟨0,[],none,0,[],none,0,none,0,[],none,0,rfl,by omega,ax ⟨hcl,rfl,rfl,rfl,rfl,rfl,rfl,kF,kZ,kC,be⟩⟩
   case round=>
    clear kF kZ kC be hcl;obtain⟨i,ss,sa,sc,vs,va,vc,ta,tc,ws,wa,wc,rfl,hi,HD⟩:=hrel;obtain⟨hcl,hl1,hl2,hl3,hk1,hk2,hk3,kF,kZ,kC,be⟩:=HD.out;clear HD;have Fa:=ax hl1;have HL2:=ax hl2;have mJ:=ax hl3;have zH:=ax hk1;have Sv:=ax hk2;have D9:=ax hk3;clear hl1 hl2 hl3 hk1 hk2 hk3;simp only at kF kC;by_cases hlt:i<js.length
    ·have ix:(i:Int)<(js.length:Int):=by omega
     have hjr:=hjs.below be aA;have hji:=(aa8 _ (bF hlt)).below be aA;have tq:=ax (Zx jV js i hlt);have HS2:=ax (Zx IM js i hlt);have FI:=ax (Zx (fun j=>EW j (jV j) (IM j)) js i hlt);have y0:=hjr.row.fV yV i hlt 0 ay (v:= .slice (some ⟨js[i].pb,0,none⟩) js[i].ps.length js[i].pc) rfl;have y1:=hjr.row.fV yV i hlt 1 ay (v:= .slice (some ⟨js[i].cb,0,none⟩) js[i].ps.length js[i].cc) rfl;have y2:=hjr.row.fV yV i hlt 2 ay (v:=ae js[i].s) rfl;simp only[iV]at y0;obtain⟨j,hj⟩:=aI (js[i]);rw[hj]at hji y0 y1 y2 tq HS2 FI;clear hj;have yl:jb<wr.heap.size:=jL Ha be.size
     go_upto_region 18 with fail
     obtain⟨T,hT⟩:=aI wr.heap.size;have hws:=be.size;refine aW (fun U=>ah U T 69 #[.slice (some ⟨j.pb,0,none⟩) j.ps.length j.pc,.slice (some ⟨j.cb,0,none⟩) j.ps.length j.cc,ae j.s]∧Below wr.heap.size wr U) ⟨by rw[←hT];exact ah.new _ _ _,bel⟩ ?_;rw[hT];rintro U ⟨kT,bU⟩;have hU:Below wr.heap.size wr U:=by rw[hT];exact bU
     clear bU y0 y1 y2 yl hjr;replace hcl:=hcl.below hU aA;have hta:=hcl.st.lt';simp only at hta;replace kF:=kF.below hU kF.lt;replace kZ:=kZ.below hU kZ.lt;have Xw:R+1+1<T:=by have:=kC.lt;omega
     replace kC:=kC.below hU kC.lt;replace be:=be.trans (hU.mono hws);replace hji:=hji.below hU aA;clear hU hT hws;have uo:=hji.at_.j.n1;(obtain⟨a0,a1,a2,af,al⟩:=kT.n3)
     go_upto_region 19 with((go_at_call 65;(with_reducible refine(aeL j.pb j.pc j.cb j.ps.length j.cc j.ps j.s U hji.at_.j.ph uo.2 hji.at_.j.lb).mono ?_);rintro e w2 ⟨la,lc,na,nc,rfl,oL,oN,hb2⟩))
     (clear a0 a1 a2 af al);have uy:=be.size;have iT:=hb2.size;obtain⟨S,hS⟩:=aI w2.heap.size;refine aW (fun V=>ah V S 120 #[.slice la j.ps.length lc,ae (dK j.ps).g,.slice na 2 nc,ae j.s,.bool false]∧ah V T 69 #[.slice (some ⟨j.pb,0,none⟩) j.ps.length j.pc,.slice (some ⟨j.cb,0,none⟩) j.ps.length j.cc,ae j.s]∧Own V U.heap.size 194 2 la j.ps.length lc (gC gG (dK j.ps).ls)∧Own V U.heap.size 3 1 na 2 nc ((dK j.ps).nx.map encI)∧Below U.heap.size U V) ⟨by rw[←hS];exact ah.new _ _ _,(kT.below hb2 kT.lt).alloc _,oL.alloc _,oN.alloc _,hb2.alloc iT _⟩ ?_;rw[hS];have hTS:T<S:=by have:=kT.lt;omega
     clear kT oL oN hb2 iT hS;rintro V ⟨kS,kT,oL,oN,bV⟩;(obtain⟨a0,a1,a2,af,al⟩:=kT.n3)
     go_upto_region 20 with((go_at_call 66;(with_reducible refine(apU j.ps.length V aj aj).mono ?_);rintro e w2 ⟨ea,ec,rfl,oV,hb2⟩))
     (clear a0 a1 a2 af al);have uz:=bV.size;have iT:=hb2.size;obtain⟨Q,hQ⟩:=aI w2.heap.size;refine aW (fun Z=>ah Z Q 123 #[ae (-1),ae 0,.slice ea j.ps.length ec]∧ah Z S 120 #[.slice la j.ps.length lc,ae (dK j.ps).g,.slice na 2 nc,ae j.s,.bool false]∧ah Z T 69 #[.slice (some ⟨j.pb,0,none⟩) j.ps.length j.pc,.slice (some ⟨j.cb,0,none⟩) j.ps.length j.cc,ae j.s]∧Own Z U.heap.size 194 2 la j.ps.length lc (gC gG (dK j.ps).ls)∧Own Z U.heap.size 3 1 na 2 nc ((dK j.ps).nx.map encI)∧fZ Z U.heap.size ⟨-1,0,List.replicate j.ps.length (-1),ea,ec⟩∧Below U.heap.size U Z) ⟨by rw[←hQ];simpa using ah.new w2 123 #[ae (-1),ae 0,.slice ea j.ps.length ec],(kS.below hb2 kS.lt).alloc _,(kT.below hb2 kT.lt).alloc _,(oL.below hb2 aA).alloc _,(oN.below hb2 aA).alloc _,(oV.below ((Below.refl _ _).alloc aA _) aA).mono uz,(bV.trans (hb2.mono uz)).alloc aj _⟩ ?_;rw[hQ];have hSQ:S<Q:=by have:=kS.lt;omega
     clear kS kT oL oN oV hb2 iT uz hQ bV;rintro Z ⟨kQ,kS,kT,oL,oN,oV,bZ⟩;replace hcl:=hcl.below bZ aA;replace kF:=kF.below bZ kF.lt;replace kZ:=kZ.below bZ kZ.lt;replace kC:=kC.below bZ kC.lt;replace be:=be.trans (bZ.mono uy);replace hji:=hji.below bZ aA;have hZU:=bZ.size;have Oh:w.heap.size≤U.heap.size:=uy;have apN:Apart ta na:=fun k hk hb=>by have:=hta k hk;have:=oN.dW k hb;omega
     have apE:Apart ta ea:=fun k hk hb=>by have:=hta k hk;have:=oV.en.dW k hb;omega
     clear bZ;(obtain⟨m0,m1,m2,m3,m4,m5,m6,m7,m8,m9,m10,m11,m12,mf,ml⟩:=kC.n13);(obtain⟨a0,a1,a2,af,al⟩:=kT.n3);(obtain⟨b0,b1,b2,b3,b4,bf,bl⟩:=kS.n5);(obtain⟨c0,c1,c2,cf,cl⟩:=kQ.n3);have rC:=fun d os o=>dC Z d os (R+1+1) o ml;have rT:=fun d os o=>dC Z d os T o al;have rS:=fun d os o=>dC Z d os S o bl;have rQ:=fun d os o=>dC Z d os Q o cl;have hZs:=be.size;have bd:Below Z.heap.size Z Z.drew:=bel;have SA:=ax (agL j (dK j.ps).ls la lc (dK j.ps).g j.s na 2 nc false (-1) 0 ea j.ps.length ec U.heap.size Z.drew (hji.below bd aA) (oL.drewN 1) (by simp[dK]) (auF j.ps));(refine nI 7 [([0,1,2,3,4],5),([],6)] [] bP bP ?_;refine lu ?_);(refine pF ?_;intro K hK)
     go_wp2_with (go_at_call 67;(with_reducible refine(SA.out).mono ?_);rintro e w2 ⟨x,rfl,hkx,oX,hb2⟩)
     replace hb2:=jA hb2;refine dS hb2 (hK _ _ ?_);clear hK K SA;(refine pF ?_;intro K hK)
     go_wp2_with fail
     have iT:=hb2.size;refine dS (hb2.alloc iT _) (hK _ _ ?_);clear hK K;(refine lC ?_);(clear m0 m1 m2 m3 m4 m5 m6 m7 m8 m9 m10 m11 m12 mf ml);(clear a0 a1 a2 af al);(clear b0 b1 b2 b3 b4 bf bl);(clear c0 c1 c2 cf cl);clear rC rT rS rQ bd;obtain⟨G,hG⟩:=aI w2.heap.size;have hGB:w.heap.size≤G:=by omega
     have apX: ∀{a:az} {sz n c:Nat} {xs:aP},Own w2 Z.heap.size 3 sz a n c xs→Apart ta a:=fun o k hk hb=>by have:=hta k hk;have:=o.dW k hb;omega
     have ap1:=apX oX.cs;have ap2:=apX oX.ns;refine aht (fun V=>ah V G 73 (Vx.cells x).toArray∧dE V w.heap.size ⟨⟨some ⟨jb,jo,none⟩,js.length,jc,some ⟨gb,go,none⟩,gs.length,gc,per,cap,hold,lock⟩,false,0,l,A,cp,ss,sa,sc,vs,va,vc,(List.replicate i (-1)),ta,tc,ws,wa,wc⟩∧jH V w.heap.size x∧ah V S 120 #[.slice la j.ps.length lc,ae (dK j.ps).g,.slice na 2 nc,ae j.s,.bool false]∧ah V Q 123 #[ae (-1),ae 0,.slice ea j.ps.length ec]∧(Own V w.heap.size 194 2 la j.ps.length lc (gC gG (dK j.ps).ls)∧Own V w.heap.size 3 1 na 2 nc ((dK j.ps).nx.map encI)∧fZ V w.heap.size ⟨-1,0,List.replicate j.ps.length (-1),ea,ec⟩)∧ah V R 28 (gJ (some ⟨jb,jo,none⟩) js.length jc (some ⟨gb,go,none⟩) gs.length gc per cap hold lock)∧ah V (R+1) 45 uA∧ah V (R+1+1) 45 (ed (some ⟨jb,jo,none⟩) js.length jc (some ⟨gb,go,none⟩) gs.length gc per cap hold lock false 0 A gs.length cp sa i sc va i vc ta i tc wa i wc)∧Below w.heap.size w V) ⟨by rw[←hG];exact ah.new _ _ _,(hcl.below hb2 aA).below ((Below.refl _ _).alloc aA _) aA,(oX.mono hZs).below ((Below.refl _ _).alloc aA _) aA,(kS.below hb2 kS.lt).alloc _,(kQ.below hb2 kQ.lt).alloc _,⟨((oL.mono Oh).below hb2 aA).alloc _,((oN.mono Oh).below hb2 aA).alloc _,((oV.mono Oh).below hb2 aA).below ((Below.refl _ _).alloc aA _) aA⟩,(kF.below hb2 kF.lt).alloc _,(kZ.below hb2 kZ.lt).alloc _,(kC.below hb2 kC.lt).alloc _,(be.trans (hb2.mono hZs)).alloc aj _⟩ ?_;rw[hG];clear hG kT kS kQ oL oN oV hcl oX hb2 kF kZ kC be iT hZs Xw hTS hSQ apX hji hZU Oh uy hta hGB;rintro V ⟨kG,hcl,oX,kS,kQ,⟨oL,oN,oV⟩,kF,kZ,kC,be⟩;have oA:=hcl.ws;simp only at oA;rw[mJ.out]at oA;have BX:=oA.iw kC ay;have hnS:S≠R+1+1:=fun e=>by subst e;have:=kS.symm.trans kC;injection this with this;injection this with _ h2;exact absurd h2 ay
     have hnQ:Q≠R+1+1:=fun e=>by subst e;have:=kQ.symm.trans kC;injection this with this;injection this with _ h2;exact absurd h2 ay
     (obtain⟨m0,m1,m2,m3,m4,m5,m6,m7,m8,m9,m10,m11,m12,mf,ml⟩:=kC.n13)
     go_upto_region 21 with((at_builtin;refine zV rfl (.tmp 65) (.tmp 70) 43 73 4 56 rfl underlying43 ap5 ay ay w.heap.size wa i wc _ rfl oA G (Vx.cells x) rfl kG (IB x) (aid x) aj be.size ?_;intro A2 c2 V2 kH di;((clear m0 m1 m2 m3 m4 m5 m6 m7 m8 m9 m10 m11 m12 mf ml);have eF:=kC.jT di BX;(obtain⟨m0,m1,m2,m3,m4,m5,m6,m7,m8,m9,m10,m11,m12,mf,ml⟩:=eF.n13))))
     (clear m0 m1 m2 m3 m4 m5 m6 m7 m8 m9 m10 m11 m12 mf ml);have hset:=grownBy_set V2 (R+1+1) 12 (.slice A2 (i+1) c2);have eu:Own V2 w.heap.size 73 4 A2 (ws++ [x]).length c2 (gC Vx.cells (ws++ [x])):=by rw[yS,mP,Dj,iK,dP,mJ.out];exact kH
     refine aW (fun V=>dE V w.heap.size ⟨⟨some ⟨jb,jo,none⟩,js.length,jc,some ⟨gb,go,none⟩,gs.length,gc,per,cap,hold,lock⟩,false,0,l,A,cp,ss,sa,sc,vs,va,vc,(List.replicate i (-1)),ta,tc,(ws++ [x]),A2,c2⟩∧ah V S 120 #[.slice la j.ps.length lc,ae (dK j.ps).g,.slice na 2 nc,ae j.s,.bool false]∧ah V Q 123 #[ae (-1),ae 0,.slice ea j.ps.length ec]∧(Own V w.heap.size 194 2 la j.ps.length lc (gC gG (dK j.ps).ls)∧Own V w.heap.size 3 1 na 2 nc ((dK j.ps).nx.map encI)∧fZ V w.heap.size ⟨-1,0,List.replicate j.ps.length (-1),ea,ec⟩)∧ah V R 28 (gJ (some ⟨jb,jo,none⟩) js.length jc (some ⟨gb,go,none⟩) gs.length gc per cap hold lock)∧ah V (R+1) 45 uA∧ah V (R+1+1) 45 (ed (some ⟨jb,jo,none⟩) js.length jc (some ⟨gb,go,none⟩) gs.length gc per cap hold lock false 0 A gs.length cp sa i sc va i vc ta i tc A2 (i+1) c2)∧Below w.heap.size w V) ⟨(hcl.ajQ di.1 eu (fun y hy=>by
      rcases lW.1 hy with hy|hy
      ·exact(hcl.r_ y hy).aC di.1 hcl.ws ay
      ·rw[dU.1 hy];exact oX.aC di.1 hcl.ws ay) (fun y hy=>by
      rcases lW.1 hy with hy|hy
      ·exact hcl.yC y hy
      ·rw[dU.1 hy];exact⟨ap1,ap2⟩)).aG hset eF ay,(kS.aC di.1 hcl.ws ay).aB hset (by simpa using Ne.symm hnS),(kQ.aC di.1 hcl.ws ay).aB hset (by simpa using Ne.symm hnQ),⟨(oL.aC di.1 hcl.ws ay).aG hset eF ay,(oN.aC di.1 hcl.ws ay).aG hset eF ay,(oV.aC di.1 hcl.ws ay).aG hset eF ay⟩,(kF.aC di.1 hcl.ws ay).aB hset cu,(kZ.aC di.1 hcl.ws ay).aB hset aF,eF.upd 12 (.slice A2 (i+1) c2),(be.aC di.1 hcl.ws be.size aA).aB hset PU PS⟩ ?_
     clear hcl oX kS kQ oL oN oV kF kZ kC be kG oA kH di BX eF hset eu ap1 ap2;obtain⟨SB,ajS⟩: ∃a,A2=a:=⟨_,rfl⟩;obtain⟨SC,ajT⟩: ∃a,c2=a:=⟨_,rfl⟩;rw[ajS,ajT];clear ajS ajT;rintro V ⟨hcl,kS,kQ,⟨oL,oN,oV⟩,kF,kZ,kC,be⟩;have HSX:Sx.cells ⟨(dK j.ps).ls,la,lc,(dK j.ps).g,(dK j.ps).nx,na,nc,j.s,false⟩= [.slice la j.ps.length lc,ae (dK j.ps).g,.slice na 2 nc,ae j.s,.bool false]:=by simp[Sx.cells,dK,vS]
     have V6:=ax HSX;clear HSX;obtain⟨sx,hsx⟩: ∃sx:Sx,⟨(dK j.ps).ls,la,lc,(dK j.ps).g,(dK j.ps).nx,na,nc,j.s,false⟩=sx:=⟨_,rfl⟩;have ajU:iR V w.heap.size sx:=by rw[←hsx];exact⟨by simpa [dK]using oL,by simpa [dK,vS]using oN⟩
     have axd:Hid (sx.key=jV j):=ax (by rw[←hsx];rfl);have ajV:Apart ta sx.na:=by rw[←hsx];exact apN
     rw[hsx]at V6;clear hsx oL oN;have oA:=(hcl.ss).alloc (.cells #[.slice la j.ps.length lc,ae (dK j.ps).g,.slice na 2 nc,ae j.s,.bool false] 120);simp only at oA;rw[Fa.out]at oA;have BX:=oA.iw (kC.alloc _) ay;(obtain⟨m0,m1,m2,m3,m4,m5,m6,m7,m8,m9,m10,m11,m12,mf,ml⟩:=kC.n13);(obtain⟨b0,b1,b2,b3,b4,bf,bl⟩:=kS.n5)
     go_upto_region 22 with((at_builtin;refine zV rfl (.tmp 74) (.tmp 76) 41 120 5 72 rfl underlying41 ap3 ay ay w.heap.size sa i sc _ rfl oA V.heap.size [.slice la j.ps.length lc,ae (dK j.ps).g,.slice na 2 nc,ae j.s,.bool false] rfl (ah.new _ _ _) rfl (by rw[←V6.out];exact aib sx) aj Na ?_;intro A2 c2 V2 kH di;((clear m0 m1 m2 m3 m4 m5 m6 m7 m8 m9 m10 m11 m12 mf ml);have eF:=(kC.alloc _).jT di BX;(obtain⟨m0,m1,m2,m3,m4,m5,m6,m7,m8,m9,m10,m11,m12,mf,ml⟩:=eF.n13))))
     (clear m0 m1 m2 m3 m4 m5 m6 m7 m8 m9 m10 m11 m12 mf ml);(clear b0 b1 b2 b3 b4 bf bl);have hset:=grownBy_set V2 (R+1+1) 9 (.slice A2 (i+1) c2);have pG:=hcl.below (show Below V.heap.size V (V.alloc (.cells #[.slice la j.ps.length lc,ae (dK j.ps).g,.slice na 2 nc,ae j.s,.bool false] 120)) from bel) aA;have ai_:=ajU.below (show Below V.heap.size V (V.alloc (.cells #[.slice la j.ps.length lc,ae (dK j.ps).g,.slice na 2 nc,ae j.s,.bool false] 120)) from bel) aA;have SE:=oV.below (show Below V.heap.size V (V.alloc (.cells #[.slice la j.ps.length lc,ae (dK j.ps).g,.slice na 2 nc,ae j.s,.bool false] 120)) from bel) aA;replace be:=be.alloc be.size (.cells #[.slice la j.ps.length lc,ae (dK j.ps).g,.slice na 2 nc,ae j.s,.bool false] 120);replace kZ:=kZ.alloc (.cells #[.slice la j.ps.length lc,ae (dK j.ps).g,.slice na 2 nc,ae j.s,.bool false] 120);replace kF:=kF.alloc (.cells #[.slice la j.ps.length lc,ae (dK j.ps).g,.slice na 2 nc,ae j.s,.bool false] 120);replace kQ:=kQ.alloc (.cells #[.slice la j.ps.length lc,ae (dK j.ps).g,.slice na 2 nc,ae j.s,.bool false] 120);have eu:Own V2 w.heap.size 120 5 A2 (ss++ [sx]).length c2 (gC Sx.cells (ss++ [sx])):=by rw[yS,mP,Dj,iK,dP,Fa.out,V6.out];exact kH
     refine aW (fun V=>dE V w.heap.size ⟨⟨some ⟨jb,jo,none⟩,js.length,jc,some ⟨gb,go,none⟩,gs.length,gc,per,cap,hold,lock⟩,false,0,l,A,cp,(ss++ [sx]),A2,c2,vs,va,vc,(List.replicate i (-1)),ta,tc,(ws++ [x]),SB,SC⟩∧ah V Q 123 #[ae (-1),ae 0,.slice ea j.ps.length ec]∧fZ V w.heap.size ⟨-1,0,List.replicate j.ps.length (-1),ea,ec⟩∧ah V R 28 (gJ (some ⟨jb,jo,none⟩) js.length jc (some ⟨gb,go,none⟩) gs.length gc per cap hold lock)∧ah V (R+1) 45 uA∧ah V (R+1+1) 45 (ed (some ⟨jb,jo,none⟩) js.length jc (some ⟨gb,go,none⟩) gs.length gc per cap hold lock false 0 A gs.length cp A2 (i+1) c2 va i vc ta i tc SB (i+1) SC)∧Below w.heap.size w V) ⟨(pG.ajO di.1 eu (fun y hy=>by
      rcases lW.1 hy with hy|hy
      ·exact(pG.sV y hy).aC di.1 pG.ss ay ay
      ·rw[dU.1 hy];exact ai_.aC di.1 pG.ss ay ay) (fun y hy=>by
      rcases lW.1 hy with hy|hy
      ·exact hcl.yz y hy
      ·rw[dU.1 hy];exact ajV)).aG hset eF ay,(kQ.aC di.1 pG.ss ay).aB hset (by simpa using Ne.symm hnQ),(SE.aC di.1 pG.ss ay).aG hset eF ay,(kF.aC di.1 pG.ss ay).aB hset cu,(kZ.aC di.1 pG.ss ay).aB hset aF,eF.upd 9 (.slice A2 (i+1) c2),(be.aC di.1 pG.ss be.size aA).aB hset PU PS⟩ ?_
     clear hcl pG ajU ai_ ajV kS kQ oV SE kF kZ kC be oA kH di BX eF hset eu V6;obtain⟨n_,ajW⟩: ∃a,A2=a:=⟨_,rfl⟩;obtain⟨iJ,hsc2⟩: ∃a,c2=a:=⟨_,rfl⟩;rw[ajW,hsc2];clear ajW hsc2;rintro V ⟨hcl,kQ,oV,kF,kZ,kC,be⟩;have HVX:Vc.cells ⟨-1,0,List.replicate j.ps.length (-1),ea,ec⟩= [ae (-1),ae 0,.slice ea j.ps.length ec]:=by simp[Vc.cells]
     have V7:=ax HVX;clear HVX;obtain⟨vx,Xx⟩: ∃vx:Vc,⟨-1,0,List.replicate j.ps.length (-1),ea,ec⟩=vx:=⟨_,rfl⟩;have axe:Hid (vx.key=IM j):=ax (by rw[←Xx];rfl);have ajX:Apart ta vx.ea:=by rw[←Xx];exact apE
     rw[Xx]at V7 oV;clear Xx;have oA:=(hcl.vs).alloc (.cells #[ae (-1),ae 0,.slice ea j.ps.length ec] 123);simp only at oA;rw[HL2.out]at oA;have BX:=oA.iw (kC.alloc _) ay;(obtain⟨m0,m1,m2,m3,m4,m5,m6,m7,m8,m9,m10,m11,m12,mf,ml⟩:=kC.n13);(obtain⟨b0,b1,b2,bf,bl⟩:=kQ.n3)
     go_upto_region 23 with((at_builtin;refine zV rfl (.tmp 80) (.tmp 82) 42 123 3 40 rfl underlying42 ap4 ay ay w.heap.size va i vc _ rfl oA V.heap.size [ae (-1),ae 0,.slice ea j.ps.length ec] rfl (ah.new _ _ _) rfl (by rw[←V7.out];exact aic vx) aj Na ?_;intro A2 c2 V2 kH di;((clear m0 m1 m2 m3 m4 m5 m6 m7 m8 m9 m10 m11 m12 mf ml);have eF:=(kC.alloc _).jT di BX;(obtain⟨m0,m1,m2,m3,m4,m5,m6,m7,m8,m9,m10,m11,m12,mf,ml⟩:=eF.n13))))
     (clear m0 m1 m2 m3 m4 m5 m6 m7 m8 m9 m10 m11 m12 mf ml);(clear b0 b1 b2 bf bl);have hset:=grownBy_set V2 (R+1+1) 10 (.slice A2 (i+1) c2);have pG:=hcl.below (show Below V.heap.size V (V.alloc (.cells #[ae (-1),ae 0,.slice ea j.ps.length ec] 123)) from bel) aA;have SE:=oV.below (show Below V.heap.size V (V.alloc (.cells #[ae (-1),ae 0,.slice ea j.ps.length ec] 123)) from bel) aA;replace be:=be.alloc be.size (.cells #[ae (-1),ae 0,.slice ea j.ps.length ec] 123);replace kZ:=kZ.alloc (.cells #[ae (-1),ae 0,.slice ea j.ps.length ec] 123);replace kF:=kF.alloc (.cells #[ae (-1),ae 0,.slice ea j.ps.length ec] 123);have eu:Own V2 w.heap.size 123 3 A2 (vs++ [vx]).length c2 (gC Vc.cells (vs++ [vx])):=by rw[yS,mP,Dj,iK,dP,HL2.out,V7.out];exact kH
     refine aW (fun V=>dE V w.heap.size ⟨⟨some ⟨jb,jo,none⟩,js.length,jc,some ⟨gb,go,none⟩,gs.length,gc,per,cap,hold,lock⟩,false,0,l,A,cp,(ss++ [sx]),n_,iJ,(vs++ [vx]),A2,c2,(List.replicate i (-1)),ta,tc,(ws++ [x]),SB,SC⟩∧ah V R 28 (gJ (some ⟨jb,jo,none⟩) js.length jc (some ⟨gb,go,none⟩) gs.length gc per cap hold lock)∧ah V (R+1) 45 uA∧ah V (R+1+1) 45 (ed (some ⟨jb,jo,none⟩) js.length jc (some ⟨gb,go,none⟩) gs.length gc per cap hold lock false 0 A gs.length cp n_ (i+1) iJ A2 (i+1) c2 ta i tc SB (i+1) SC)∧Below w.heap.size w V) ⟨(pG.ajP di.1 eu (fun y hy=>by
      rcases lW.1 hy with hy|hy
      ·exact(pG.uk y hy).aC di.1 pG.vs ay
      ·rw[dU.1 hy];exact SE.aC di.1 pG.vs ay) (fun y hy=>by
      rcases lW.1 hy with hy|hy
      ·exact hcl.yA y hy
      ·rw[dU.1 hy];exact ajX)).aG hset eF ay,(kF.aC di.1 pG.vs ay).aB hset cu,(kZ.aC di.1 pG.vs ay).aB hset aF,eF.upd 10 (.slice A2 (i+1) c2),(be.aC di.1 pG.vs be.size aA).aB hset PU PS⟩ ?_
     clear hcl pG kQ oV SE ajX kF kZ kC be oA kH di BX eF hset eu V7 hnQ hnS apN apE;obtain⟨va2,ajY⟩: ∃a,A2=a:=⟨_,rfl⟩;obtain⟨vc2,ajZ⟩: ∃a,c2=a:=⟨_,rfl⟩;rw[ajY,ajZ];clear ajY ajZ;rintro V ⟨hcl,kF,kZ,kC,be⟩;have oA:=(hcl.st).alloc (.cells #[ae (-1)] 3);simp only[uK]at oA;have BX:=oA.iw (kC.alloc _) ay;(obtain⟨m0,m1,m2,m3,m4,m5,m6,m7,m8,m9,m10,m11,m12,mf,ml⟩:=kC.n13)
     go_wp2_with ((at_builtin;refine zV rfl (.tmp 86) (.tmp 87) 22 3 1 8 rfl underlying22 YP ay ay w.heap.size ta i tc _ rfl oA V.heap.size [ae (-1)] rfl (ah.new _ _ _) rfl (Bg [-1]) aj Na ?_;intro A2 c2 V2 kH di;((clear m0 m1 m2 m3 m4 m5 m6 m7 m8 m9 m10 m11 m12 mf ml);have eF:=(kC.alloc _).jT di BX;(obtain⟨m0,m1,m2,m3,m4,m5,m6,m7,m8,m9,m10,m11,m12,mf,ml⟩:=eF.n13))))
     (clear m0 m1 m2 m3 m4 m5 m6 m7 m8 m9 m10 m11 m12 mf ml);have hset:=grownBy_set V2 (R+1+1) 11 (.slice A2 (i+1) c2);have pG:=hcl.below (show Below V.heap.size V (V.alloc (.cells #[ae (-1)] 3)) from bel) aA;replace be:=be.alloc be.size (.cells #[ae (-1)] 3);replace kZ:=kZ.alloc (.cells #[ae (-1)] 3);replace kF:=kF.alloc (.cells #[ae (-1)] 3);have eu:Own V2 w.heap.size 3 1 A2 (List.replicate (i+1) (-1:Int)).length c2 ((List.replicate (i+1) (-1:Int)).map encI):=by rw[uK,List.replicate_succ',jg];exact kH
     have rH:=(pG.ajR di.1 eu di.2.1).aG hset eF ay;have kF2:=(kF.aC di.1 pG.st ay).aB hset cu;have oU:=(kZ.aC di.1 pG.st ay).aB hset aF;have uu:=eF.upd 11 (.slice A2 (i+1) c2);have be2:=(be.aC di.1 pG.st be.size aA).aB hset (Nat.le_trans be.size di.1.size) PS;go_roundw
     case rel=>exact⟨i+1,ss++ [sx],n_,iJ,vs++ [vx],va2,vc2,A2,c2,ws++ [x],SB,SC,by go_num,by omega,ax ⟨rH,by simp[Fa.out],by simp[HL2.out],by simp[mJ.out],by rw[jg,zH.out,tq.out,←axd.out];rfl,by rw[jg,Sv.out,HS2.out,←axe.out];rfl,by rw[jg,D9.out,FI.out];congr 1;simp only[mF,oH,hkx.out];rfl,kF2,oU,uu,be2⟩⟩
     case measure=>simp[intOf];omega
    ·obtain rfl:i=js.length:=by omega
     go_wp2_with (first|(refine gy kC vG nK ?_)|(refine dw (ed (some ⟨jb,jo,none⟩) js.length jc (some ⟨gb,go,none⟩) gs.length gc per cap hold lock false 0 A gs.length cp sa js.length sc va js.length vc ta js.length tc wa js.length wc) kZ nK ?_;intro W' kw gw zw))
     refine nJ 2 45 results32 rfl kw 13 rfl vG nK rfl ?_;refine⟨_,?_,ax ?_,hcl.aG gw kZ ay,be.aB gw be.size bQ⟩
     ·simp only[Cx.val,HL.out,Fa.out,HL2.out,mJ.out,uK]
     ·have e1:=HK.out;have e2:=zH.out;have e3:=Sv.out;have e4:=D9.out;rw[nM aF]at e1 e2 e3 e4;simp only[Cx.key,e1,e2,e3,e4,jU]
def eY(K:dY)(now:Int):dY:=⟨Qq K.r now,K.rs.filter (NC now),K.dr,K.au⟩
structure Xy(K:wP):Prop where
 t8:K.tk.length=8
 lv:0≤K.lv∧K.lv≤1000
 ra:0≤K.ra∧K.ra≤1000
theorem pq.Oj{d:Dx}(h:pq w d):sS w d.qa d.rs∧d.rs.length≤1000∧∀r∈d.rs,KW r∧r.dH.length≤r.c:=by
 have h1:d.rs.length≤1000:=by have:=h.sm.rs;simpa [Dx.key]using this
 refine⟨⟨h.rs.row,fun r hr=>(h.lg r hr).row⟩,h1,fun r hr=>⟨⟨?_,(h.lg r hr).nil_⟩,(h.lg r hr).cap⟩⟩;have:=h.sm.lg r.key (List.mem_map.2 ⟨r,hr,rfl⟩);simp only[Rq.key]at this;omega
theorem aqX(d:Dx)(now:Int)(w:ak)(h:pq w d)(hb:Xy d.key.r):aH 137 #[d.val,ae now] w (VI (eY d.key now) w):=by
 obtain⟨KK,FB⟩: ∃K,d.key=K:=⟨_,rfl⟩;have HKK:=ax FB;have hsm:=h.sm;rw[FB]at hb hsm⊢;clear FB;have HB:=ax hb;clear hb;have hval:d.val= .agg (Dx.cells d).toArray:=rfl
 go_enter func137,ntmps137
 go_upto_region 1 with fail
 obtain⟨R,hR⟩:=aI w.heap.size;refine aW (fun W=>ah W R 89 (Dx.cells d).toArray∧ah W (R+1) 89 qH∧Below w.heap.size w W) ⟨by rw[←hR];exact(ah.new _ _ _).alloc _,by rw[←hR];exact ah.dG _ _ _ _,bel⟩ ?_;have fQ:w.heap.size≤R:=by omega
 rw[hR];clear hR;rintro W ⟨kR,kZ,be⟩;replace be:=be.mono fQ;have hW:=h.below be aA;clear hval
 go_upto_region 2 with(first|(refine Nu rfl 89 _ rfl R _ rfl kR 17 (wI d) oh gZ ?_)|(go_at_call 96;(with_reducible refine(Ug hW).mono ?_);rintro e w1 ⟨d1,rfl,hk1,oD,hb1⟩;(replace kR:=kR.below hb1 kR.lt))|(refine xM rfl 89 _ _ rfl R _ (Dx.cells d1).toArray rfl rfl kR 17 (wI d1) (wI d) gZ (C_ d1) ?_;intro W2 kw gw zw))
 have D6:=hb1.size;have hws:=be.size;refine aW (fun U=>ah U R 89 (Dx.cells d1).toArray∧ah U (R+1) 89 qH∧dZ U w.heap.size d1∧Below w.heap.size w U) ⟨kw,(kZ.below hb1 kZ.lt).aB gw aF,(oD.aG gw kR ay).mono hws,(be.trans (hb1.mono hws)).aB gw aj bQ⟩ ?_;clear kR kZ oD hb1 kw gw zw D6 hws hW be;rintro U ⟨kR,kZ,oD,be⟩;have hk2:Hid (d1.key=KK):=ax (hk1.out.trans HKK.out);clear hk1;have hG:=oD.g (by rw[hk2.out];exact hsm);obtain⟨⟨num,sec,sa,sc,rt,cl,lim,la,lc,rq,se,ra,bu,tk,ta,tc,vh,va,vc,lv⟩,rs,qa,qc,dr,da,dc,au,aa,ac⟩:=d1;obtain⟨oR,oQ,oG,oW,oS,oA⟩:=oD;have hGr:=hG.r;simp only at hGr oR oQ oG oW oS oA;simp only[Dx.cells]at kR;have H8:Hid (tk.length=8):=ax (by have:=HB.out.t8;rw[←hk2.out]at this;simpa [Dx.key,Rx.key]using this);have Xp:Hid (0≤lv∧lv≤1000):=ax (by have:=HB.out.lv;rw[←hk2.out]at this;simpa [Dx.key,Rx.key]using this);have BZ:Hid (0≤ra∧ra≤1000):=ax (by have:=HB.out.ra;rw[←hk2.out]at this;simpa [Dx.key,Rx.key]using this);(obtain⟨x0,x1,x2,x3,x4,x5,x6,x7,x8,x9,x10,x11,x12,dh,x14,x15,x16,xf,xl⟩:=kR.n17);have tu:=ax (aoM ⟨num,sec,sa,sc,rt,cl,lim,la,lc,rq,se,ra,bu,tk,ta,tc,vh,va,vc,lv⟩ now U hGr H8.out Xp.out BZ.out)
 go_upto_region 3 with(first|(go_at_call 159;(with_reducible refine(tu.out).mono ?_);rintro e w2 ⟨r2,rfl,hkr,AL,hb2⟩;((clear x0 x1 x2 x3 x4 x5 x6 x7 x8 x9 x10 x11 x12 dh x14 x15 x16 xf xl);replace kR:=kR.below hb2 kR.lt))|(refine P8 rfl 85 _ _ rfl R 0 89 _ #[ae r2.num,.slice r2.sa r2.sec.length r2.sc,ae r2.rt,ae r2.cl,.slice r2.la r2.lim.length r2.lc,ae r2.rq,ae r2.se,ae r2.ra,ae r2.bu,.slice r2.ta r2.tk.length r2.tc,.slice r2.va r2.vh.length r2.vc,ae r2.lv,ae r2.ra,ae r2.bu] rfl rfl kR (by show 14≤17;omega) vF rfl ?_;intro W3 kw gw zw))
 have iT:=hb2.size;have hws:=be.size;refine aW (fun Z=>ah Z R 89 #[ae r2.num,.slice r2.sa r2.sec.length r2.sc,ae r2.rt,ae r2.cl,.slice r2.la r2.lim.length r2.lc,ae r2.rq,ae r2.se,ae r2.ra,ae r2.bu,.slice r2.ta r2.tk.length r2.tc,.slice r2.va r2.vh.length r2.vc,ae r2.lv,ae r2.ra,ae r2.bu,.slice qa rs.length qc,.slice da dr.length dc,.slice aa au.length ac]∧ah Z (R+1) 89 qH∧iM Z w.heap.size r2∧dZ Z w.heap.size ⟨⟨num,sec,sa,sc,rt,cl,lim,la,lc,rq,se,ra,bu,tk,ta,tc,vh,va,vc,lv⟩,rs,qa,qc,dr,da,dc,au,aa,ac⟩∧Below w.heap.size w Z) ⟨kw,(kZ.below hb2 kZ.lt).aB gw aF,(AL.aG gw kR ay).mono hws,(dZ.below ⟨oR,oQ,oG,oW,oS,oA⟩ hb2 aA).aG gw kR ay,(be.trans (hb2.mono hws)).aB gw aj bQ⟩ ?_;clear kR kZ oR oQ oG oW oS oA AL hb2 kw gw zw iT hws be tu hG hGr;rintro Z ⟨kR,kZ,AL,oD,be⟩;have hG:=oD.g (by rw[hk2.out];exact hsm);obtain⟨q1,q2,q3⟩:=hG.Oj;simp only at q1 q2 q3;(obtain⟨x0,x1,x2,x3,x4,x5,x6,x7,x8,x9,x10,x11,x12,dh,x14,x15,x16,xf,xl⟩:=kR.n17)
 go_upto_region 4 with((go_at_call 160;(with_reducible refine(aoh qa rs rs.length qc now Z q1 rfl aj (fun r hr=>(q3 r hr).1)).mono ?_);rintro e w3 ⟨n3,xa,xc,l3,rfl,hk3,hn3,L6,hb3⟩;((clear x0 x1 x2 x3 x4 x5 x6 x7 x8 x9 x10 x11 x12 dh x14 x15 x16 xf xl);replace kR:=kR.below hb3 kR.lt;(obtain⟨x0,x1,x2,x3,x4,x5,x6,x7,x8,x9,x10,x11,x12,dh,x14,x15,x16,xf,xl⟩:=kR.n17))))
 (clear x0 x1 x2 x3 x4 x5 x6 x7 x8 x9 x10 x11 x12 dh x14 x15 x16 xf xl);have gS:=grownBy_set w3 R 14 (.slice xa n3 xc);have jk:=kR.upd 14 (.slice xa n3 xc);have nD:=(kZ.below hb3 kZ.lt).aB gS aF;have hZs:=be.size;have BV:=hb3.size;have yE:=(AL.below hb3 aA).aG gS kR ay;have He:=(oD.below hb3 aA).aG gS kR ay;have LP:=L6.own.aG gS kR ay;have oG3:=fun r hr=>(L6.dH r hr).aG gS kR ay;have eH:=(be.trans (hb3.mono hZs)).aB gS aj bQ
 go_wp2_with (first|(refine gy jk oh gZ ?_)|(refine dw #[ae r2.num,.slice r2.sa r2.sec.length r2.sc,ae r2.rt,ae r2.cl,.slice r2.la r2.lim.length r2.lc,ae r2.rq,ae r2.se,ae r2.ra,ae r2.bu,.slice r2.ta r2.tk.length r2.tc,.slice r2.va r2.vh.length r2.vc,ae r2.lv,ae r2.ra,ae r2.bu,.slice xa n3 xc,.slice da dr.length dc,.slice aa au.length ac] nD gZ ?_;intro W' kw gw zw))
 refine nJ 4 89 results137 rfl kw 17 rfl oh gZ rfl ?_;have zI:=He.aG gw nD ay;have hkk:=hk2.out;refine⟨⟨r2,l3,xa,xc,dr,da,dc,au,aa,ac⟩,by simp only[Dx.val,hn3.out],ax ?_,⟨yE.aG gw nD ay,(LP.aG gw nD ay).mono hZs,fun r hr=>((oG3 r hr).aG gw nD ay).mono hZs,zI.dr,zI.ds,zI.au⟩,eH.aB gw (by have:=gS.size;omega) bQ⟩;rw[←hkk];simp only[Dx.key,hkr.out,hk3.out];rfl
theorem ar2(m:aU)(ta:az)(tc:Nat)(aa da:az)(ac dc:Nat)(w:ak)(hat:qx w m ta tc aa da)(h1:tn=m.tok.length)(h2:an=m.args.length)(h3:dn=m.dat.length):
  aH 147 #[.agg #[ae m.kind,.slice ta tn tc,.slice aa an ac,.slice da dn dc]] w fun e w'=>(m.Ok∧e= .returned (.bool true)∨¬ m.Ok∧e= .returned (.bool false))∧Below w.heap.size w w':=by
 have EX: ∀W,Below w.heap.size w W→qx W m ta tc aa da:=fun W h=>⟨hat.tok.below h aA,hat.args.below h aA,hat.dat.below h aA,hat.nil,hat.len⟩;obtain⟨kind,tok,args,dat⟩:=m;subst h1 h2 h3
 go_enter func147,ntmps147
 go_wp2_with (first|(go_at_call 149;(with_reducible refine(agF ⟨kind,tok,args,dat⟩ ta tc aa da ac dc _ (EX _ bel) rfl rfl rfl).mono ?_);rintro e w1 (⟨hok,a,n,c,rfl,hn,own,hb⟩|⟨hok,rfl,hb⟩)))
 ·go_ret;exact⟨.inl ⟨hok,rfl⟩,bel⟩
 ·go_ret;exact⟨.inr ⟨hok,rfl⟩,bel⟩
def avy(m:aU)(w:ak)(e:Ending)(w':ak):Prop:=
 (m.Ok∧∃a n c,e= .returned (.tuple #[.slice a n c,ae 0])∧n=(fG m.kind m.pay).length∧bI w' a (fG m.kind m.pay)∧Below w.heap.size w w')∨
 (¬ m.Ok∧e= .returned (.tuple #[.slice none 0 0,ae 6])∧Below w.heap.size w w')
theorem ar4(m:aU)(ta:az)(tc:Nat)(aa da:az)(ac dc:Nat)(w:ak)(hat:qx w m ta tc aa da)(h1:tn=m.tok.length)(h2:an=m.args.length)(h3:dn=m.dat.length):
  aH 112 #[.agg #[ae m.kind,.slice ta tn tc,.slice aa an ac,.slice da dn dc]] w (avy m w):=by
 have EX: ∀W,Below w.heap.size w W→qx W m ta tc aa da:=fun W h=>⟨hat.tok.below h aA,hat.args.below h aA,hat.dat.below h aA,hat.nil,hat.len⟩;obtain⟨kind,tok,args,dat⟩:=m;subst h1 h2 h3
 go_enter func112,ntmps112
 go_wp2_with (first|(go_at_call 149;(with_reducible refine(agF ⟨kind,tok,args,dat⟩ ta tc aa da ac dc _ (EX _ bel) rfl rfl rfl).mono ?_);rintro e w1 (⟨hok,a,n,c,rfl,rfl,own,hb⟩|⟨hok,rfl,hb⟩);(have bM:ah w1 w.heap.size 36 #[ae kind,.slice ta tok.length tc,.slice aa args.length ac,.slice da dat.length dc]:=(ah.new w _ _).below hb aF);obtain⟨m0,m1,m2,m3⟩:=bM.four)|(go_at_call 150;(with_reducible refine(apj kind a (aU.pay ⟨kind,tok,args,dat⟩) c _ UB UB own.dL hok.EO).mono ?_);rintro e w2 ⟨fa,fc,rfl,abe,hb2⟩))
 ·go_ret2
  exact .inl ⟨hok,fa,_,fc,rfl,(aiR _ _).symm,abe.dL,bel⟩
 ·go_ret2
  exact .inr ⟨hok,rfl,bel⟩
theorem apm(a:az)(l:List Rq)(n c:Nat)(now:Int)(w:ak)(h:sS w a l)(hn:n=l.length)(l9:n≤10000)(hl: ∀r∈l,KW r):
  aH 162 #[.slice a n c,ae now] w (av9 (l.map Rq.key) now n w):=by
 have HN:=ax hn;clear hn
 go_enter func162,ntmps162
 go_upto_region 2 with((go_at_call 183;refine(anD a l n c _ h HN.out l9 hl).mono ?_;rintro e w2 ⟨xa,xc,l2,rfl,hk,hn2,il,hb⟩))
 obtain rfl:=hn2.out;have hl2:=aub hk.out (fun r hr=>(hl r hr).n);obtain⟨B,hB⟩:=aI w.heap.size;rw[hB]at il hb;clear hn2 h HN
 go_wp2_with fail
 go_loopw [13] (fun s13 wr=> ∃i:Nat,s13=ae i∧i≤l2.length∧gq wr B (nO (Rq.mark now) l2 i) xa xc∧Below B w wr) (fun s _=>l2.length -(intOf s).toNat)
 case atStart=>exact⟨0,rfl,by omega,by rw[ahh];exact il,hb⟩
 case round=>
  clear il hb;obtain⟨i,rfl,hi,il,hb⟩:=hrel;have nT:=ax (Iq (Rq.mark now) l2 i);by_cases hlt:i<l2.length
  ·obtain⟨xb,rfl, -, -⟩:=il.own.open_ (by rw[nT.out];omega);have hq:=il.Oj;have kx:(i:Int)<(l2.length:Int):=by omega
   obtain⟨x0,x1,x2,x3,x4,xl⟩:=J5 hq.row i (by rw[nT.out];exact hlt);rw[U1 _ _ _ hlt]at x0 x1 x2 x3 x4;simp only[dX]at x0 x1 x2 x3 x4;have yG:=ax (show nO (Rq.mark now) l2 i=(nO (Rq.mark now) l2 i).set i {l2[i]with dH:=nO (Lg.mark now) l2[i].dH 0} from by
    rw[ahh (Lg.mark now)];exact asF (by rw[Iq];exact hlt) (U1 _ _ _ hlt))
   have tq:=ax (show(nO (Rq.mark now) l2 i).set i {l2[i]with dH:=nO (Lg.mark now) l2[i].dH l2[i].dH.length}=nO (Rq.mark now) l2 (i+1) from by
    rw[←ahF _ _ _ hlt,ahE];rfl)
   have GU:=hl2 _ (bF hlt);obtain⟨x,hx⟩:=aI (l2[i]);rw[hx]at x0 x1 x2 x3 x4 yG tq GU;obtain⟨lq,hlq⟩:=aI (nO (Rq.mark now) l2 i);rw[hlq]at il yG tq nT;have hwB:=hb.size;clear hx hlq hq;obtain⟨id,jG,cls,ji,lg,la,lc⟩:=x;simp only at x0 x1 x2 x3 x4 yG tq GU
   go_upto_region 5 with fail
   obtain⟨V,hV⟩:=aI wr.heap.size;refine aW (fun Y=>ah Y V 139 #[ae id,ae jG,ae cls,ae ji,.slice la lg.length lc]∧gq Y B (lq.set i ⟨id,jG,cls,ji,nO (Lg.mark now) lg 0,la,lc⟩) (some ⟨xb,0,none⟩) xc∧Below B w Y) ⟨by rw[←hV];exact ah.new _ _ _,by rw[←yG.out];exact il.alloc _,bel⟩ ?_;rw[hV];have hVB:B≤V:=by rw[←hV];omega
   clear hV il hb hwB x0 x1 x2 x3 x4 xl;rintro Y ⟨kV,il,hb⟩;obtain⟨v0,v1,v2,v3,v4,vf,vl⟩:=kV.five
   go_wp2_with fail
   go_loopw [20] (fun s20 wz=> ∃j:Nat,s20=ae j∧j≤lg.length∧ah wz V 139 #[ae id,ae jG,ae cls,ae ji,.slice la lg.length lc]∧gq wz B (lq.set i ⟨id,jG,cls,ji,nO (Lg.mark now) lg j,la,lc⟩) (some ⟨xb,0,none⟩) xc∧Below B w wz) (fun s _=>lg.length -(intOf s).toNat)
   case atStart=>exact⟨0,rfl,by omega,kV,il,hb⟩
   case round=>
    clear kV il hb v0 v1 v2 v3 v4 vf vl;obtain⟨j,rfl,hj,kV,il,hb⟩:=hrel;by_cases hjl:j<lg.length
    ·have jx:(j:Int)<(lg.length:Int):=by omega
     have hil:i<(lq.set i (⟨id,jG,cls,ji,nO (Lg.mark now) lg j,la,lc⟩:Rq)).length:=by rw[iQ,nT.out];exact hlt
     have o:=il.dH _ (bF hil);rw[List.getElem_set_self]at o;simp only[Iq]at o;obtain⟨g,rfl,gB,gl⟩:=o.open_ aj;obtain⟨y0,y1,y2,y3,y4,yl⟩:=J4 o.row j Zm;rw[U1 _ _ _ hjl]at y0 y1 y2 y3 y4;simp only[dX]at y0 y1 y2 y3 y4;have HST:=ax (ahF (Lg.mark now) lg j hjl);obtain⟨z,hz⟩:=aI (lg[j]);rw[hz]at y0 y1 y2 y3 y4 HST;have HZ:=ax hz;clear hz;obtain⟨ju,ph,fr,fB,si⟩:=z;simp only at y0 y1 y2 y3 y4;obtain⟨v0,v1,v2,v3,v4,vf,vl⟩:=kV.five
     go_upto_region 8 with fail
     have Jj:g<wr.heap.size:=yl;have hgV:=ax (show g≠V from fun e=>by
      have q:=o.past kV ay;exact q (by rw[←e];rfl))
     clear v0 v1 v2 v3 v4 vf vl y0 y1 y2 y3 y4 yl o hil gl;have vl:=kV.lt;have LZ:=ax il;have OA:=ax (NU.set il.rlt (X':=⟨id,jG,cls,ji,nO (Lg.mark now) lg (j+1),some ⟨g,0,none⟩,lc⟩) rfl);apply uG [(g,(g+1))] 12 37 [some 23,some 24,some 25,some 26,some 27,some 28,some 29,some 30,some 31,some 32,some 33,none] [⟨[12],[],[],[]⟩,⟨[0,12],[0],[0],[]⟩,⟨[12],[],[],[]⟩,⟨[12],[],[],[]⟩,⟨[3,12],[3],[3],[]⟩,⟨[12],[],[],[]⟩,⟨[3,4,5,12],[4,5],[4,5],[]⟩,⟨[3,4,5,6,12],[6,12],[6,12],[]⟩,⟨[12],[],[],[]⟩,⟨[3,4,5,6,7,8,12],[7,8],[7,8],[]⟩,⟨[0,1,2,3,4,5,6,7,8,9,12],[1,2],[1,2],[]⟩,⟨[0,1,2,3,4,5,6,7,8,9,10,12],[9,10,12],[9,10,12],[12]⟩,⟨[],[],[],[]⟩] [0,1,2,3,4,5,6,7,8,9,10,11] [11] [bC,bC,bC,bC,bC,bC,bC,bC,bC,bC,bC,(fun f lo hi v b0 b1 W=>gq W B (lq.set i ⟨id,jG,cls,ji,nO (Lg.mark now) lg (j+1),some ⟨g,0,none⟩,lc⟩) (some ⟨xb,0,none⟩) xc),(fun f lo hi v b0 b1 W=>(b0=g∧b1=(g+1))∧W.heap[g]?=wr.heap[g]?)] [bG _,bG _,bG _,bG _,bG _,bG _,bG _,bG _,bG _,bG _,bG _,dM]
     ·kernel_rfl
     ·kernel_rfl
     ·rfl
     ·rfl
     rotate_left 2
     refine⟨?pX,?pY,?p_,?qh,?qi,?qj,?qm,?rF,?vN,?xW,?z_,?Dl,trivial⟩
     all_goals try(intro f lo hi w hb hx hf hk hrg R hR;(try replace hb:=fH.zero hb);(try simp(decide:=true) only[go_sem]at hf hk))
     case hx=>exact⟨⟨by omega,by omega⟩,by simp,trivial⟩
     case hX=>exact⟨fun _ _ _ _=>⟨⟨rfl,rfl⟩,rfl⟩,trivial⟩
     case pX=>go_simp;exact hR _ _ (bK rfl rfl bD rfl)
     case pY=>
      have k:=hb.blk kV Zl;have e:=k.cell 4;go_simp;exact hR _ _ (bK rfl rfl bD rfl)
     case p_|qh=>go_simp;exact hR _ _ (bK rfl rfl bD rfl)
     case qi=>
      have k:=hb.blk kV Zl;have e:=k.cell 4;go_simp;exact hR _ _ (bK rfl rfl bD rfl)
     case qj|qm=>go_simp;exact hR _ _ (bK rfl rfl bD rfl)
     case rF=>
      have GZ:gq w B _ _ _:=LZ.out.keep fun b hlt=>by
       by_cases e:b=g
       ·rw[e];exact hf.2
       ·exact hb.2.2.2.2 b ⟨hlt,fun r hr=>by simp at hr;subst hr;simp only;omega⟩
      have hil:i<(lq.set i (⟨id,jG,cls,ji,nO (Lg.mark now) lg j,some ⟨g,0,none⟩,lc⟩:Rq)).length:=by rw[iQ,nT.out];exact hlt
      have o:=GZ.dH _ (bF hil);rw[List.getElem_set_self]at o;simp only[Iq]at o;obtain⟨y0,y1,y2,y3,y4,yl⟩:=J4 o.row j Zm;rw[U1 _ _ _ hjl,HZ.out]at y0 y1 y2 y3 y4;simp only[dX]at y0 y1 y2 y3 y4;go_simp;exact hR _ _ (bK rfl rfl bD rfl)
     case vN=>go_simp;exact hR _ _ (bK rfl rfl bD rfl)
     case xW=>
      go_simp;refine(apC ju ph fr fB si now w).mono ?_;rintro e w' ⟨rfl,hb5⟩;exact⟨_,rfl,hR _ _ (bK rfl rfl hb5 rfl)⟩
     case z_=>go_simp;exact hR _ _ (bK rfl rfl bD rfl)
     case Dl=>
      have GZ:gq w B _ _ _:=LZ.out.keep fun b hlt=>by
       by_cases e:b=g
       ·rw[e];exact hf.2
       ·exact hb.2.2.2.2 b ⟨hlt,fun r hr=>by simp at hr;subst hr;simp only;omega⟩
      have hil:i<(lq.set i (⟨id,jG,cls,ji,nO (Lg.mark now) lg j,some ⟨g,0,none⟩,lc⟩:Rq)).length:=by rw[iQ,nT.out];exact hlt
      have o:=GZ.dH _ (bF hil);rw[List.getElem_set_self]at o;simp only[Iq]at o;obtain⟨y0,y1,y2,y3,y4,yl⟩:=J4 o.row j Zm;simp only[dX]at y0 y1 y2 y3 y4;have yf:=o.frozen;have fin:=GZ.avg hil (g:=g) (by rw[List.getElem_set_self]) (j:=j) (by rw[List.getElem_set_self];simp only[Iq];exact hjl) (Lg.mark now ⟨ju,ph,fr,fB,si⟩);simp only[List.set_set,List.getElem_set_self,HST.out]at fin;have hX0:lo 12=g∧hi 12=g+1:=fU.get _ _ hx 0 _ rfl;go_simp;exact hR _ _ (vH rfl rfl (A_ ((((grownBy_set _ g _ _).trans (grownBy_set _ g _ _)).trans ((grownBy_set _ g _ _).trans (grownBy_set _ g _ _))).trans (grownBy_set _ g _ _)) (dU.2 rfl) hX0.1 hX0.2) fin)
     case hcl=>
      refine⟨bH,bH,bH,bH,bH,bH,bH,bH,bH,bH,bH,?VA,?VD,trivial⟩
      ·exact fun f lo hi v b0 b1 w w' h hs hB hown hU hX=>h.Gi OA.out fun b _ hb=>by
        by_cases e:b=g
        ·rw[e];exact hX 0 _ rfl aF g aA (rD _)
        ·exact hB b ⟨hb,fun r hr=>by simp at hr;subst hr;simp only;omega⟩
      ·exact fun f lo hi v b0 b1 w w' h hs hB hown hU hX=>by
        obtain⟨⟨rfl,rfl⟩,h⟩:=h;exact⟨⟨rfl,rfl⟩,(hown _ aA (rD _)).trans h⟩
     intro f lo hi W7 hbr hx hf hk hrg;(try replace hbr:=fH.zero hbr);clear hx;(try simp(decide:=true) only[go_sem]at hf hk);have kV7:=hbr.blk kV Zl;have hb7:=hbr.aqI hb hB.symm gB;go_simp;clear hk
     go_wp2_with fail
     go_roundw
     case rel=>exact⟨j+1,by go_num,by omega,kV7,hf,hb7⟩
     case measure=>simp[intOf];omega
    ·obtain rfl:j=lg.length:=by omega
     rw[tq.out]at il
     go_wp2_with fail
     go_roundw
     case rel=>exact⟨i+1,by go_num,by omega,il,hb⟩
     case measure=>simp[intOf];omega
  ·obtain rfl:i=l2.length:=by omega
   rw[ahE]at il
   go_wp2_with fail
   go_ret;exact⟨xa,xc,l2.map (Rq.mark now),rfl,ax (by rw[asE,hk.out]),ax aF,by rw[hB];exact il,by rw[hB];exact hb⟩
def QX(l:aJ):List Key:=(pJ (l.length+1) l ⟨0,false,[]⟩).keys
theorem aqk(a:az)(l:aJ)(n c:Nat)(g0:Bool)(N:Int)(w:ak)(hb:bI w a l)(hn:n=l.length)(hcap:l.length≤c)(hl:l.length≤1000000000)(hnil:a=none→l.length=0∧c=0):
  aH 103 #[.agg #[.slice a n c,.bool g0],ae N] w (VN N.toNat l g0 w):=by
 subst hn;by_cases hN:N≤0
 ·have dN:decide (N≤0)=true:=jB hN;have h0:N.toNat=0:=by omega
  have HT:=ax (show pJ N.toNat l ⟨0,g0,[]⟩=⟨0,g0,[]⟩ from F9 (fun h=>by have:=h.1;rw[h0]at this;omega));clear h0
  go_enter func103,ntmps103
  go_wp2
  refine aW (fun W=>ah W w.heap.size 105 #[.slice a l.length c,.bool g0]∧ah W (w.heap.size+1+1) 105 #[.slice none 0 0,.bool false]∧Below w.heap.size w W) ⟨((ah.new w _ _).alloc _).alloc _,by
   have:=ah.new ((w.alloc (.cells #[.slice a l.length c,.bool g0] 105)).alloc (.cells #[ae N] 3)) 105 #[.slice none 0 0,.bool false];simpa using this,bel⟩ ?_
  rintro W ⟨kS,kR,xB⟩;have bW:=hb.below xB aA;have rbb:l≠ []→∀k,a.map (·.block)=some k→k<w.heap.size:=fun hne k hk=>by
   exact YZ
  apply uG [((w.heap.size+1+1),(w.heap.size+1+1+1))] 8 19 [some 8,some 9,some 10,some 11,some 12,some 13,none,some 5] [⟨[8],[],[],[]⟩,⟨[0,8],[0],[0],[]⟩,⟨[0,1,8],[1],[1],[]⟩,⟨[8],[],[],[]⟩,⟨[3,8],[3],[3],[]⟩,⟨[0,1,2,3,4,8],[2,4],[2,4],[]⟩,⟨[0,1,2,3,4,5,8],[2,5,8],[2,5,8],[8]⟩,⟨[0,1,2,3,4,5,6,8],[],[],[]⟩,⟨[],[],[],[]⟩] [0,1,2,3,4,5,6,7] [2,6,7] [bC,bC,(fun f lo hi v b0 b1 W=> ∃a' c',v= .slice a' l.length c'∧Own W b0 5 1 a' l.length c' (l.map a_)∧∀x,a'.map (·.block)=some x→x<b1),bC,bC,(fun f lo hi v b0 b1 W=>v= .agg #[f 2,.bool g0]),(fun f lo hi v b0 b1 W=> ∃a' c',f 2= .slice a' l.length c'∧ah W (w.heap.size+1+1) 105 #[.slice a' l.length c',.bool g0]),bC,(fun f lo hi v b0 b1 W=>(b0=(w.heap.size+1+1)∧b1=(w.heap.size+1+1+1))∧ah W (w.heap.size+1+1) 105 #[.slice none 0 0,.bool false])] [bG _,bG _,dM,bG _,bG _,dM,dM,bG _]
  ·kernel_rfl
  ·kernel_rfl
  ·rfl
  ·rfl
  rotate_left 2
  refine⟨?pX,?pY,?p_,?qh,?qi,?qj,?qm,?rF,trivial⟩
  all_goals try(intro f lo hi w hb hx hf hk hrg R hR;(try replace hb:=fH.zero hb);(try simp(decide:=true) only[go_sem]at hf hk))
  case hx=>exact⟨⟨by omega,by have:=kR.lt;omega⟩,by simp,trivial⟩
  case hX=>exact⟨fun _ _ _ _=>⟨⟨rfl,rfl⟩,kR⟩,trivial⟩
  case pX=>go_simp;exact hR _ _ (bK rfl rfl bD rfl)
  case pY=>
   have e:=(hb.blk kS dm).cell 0;go_simp;exact hR _ _ (bK rfl rfl bD rfl)
  case p_=>
   go_simp;have bw:bI w a l:=by
    by_cases hne:l= []
    ·rw[hne];exact bI.nil _ _
    ·exact hb.row (show Row _ _ _ from bW) Ze
   refine(Ez a l.length c l _ bw rfl aj hnil).mono ?_;rintro e w' ⟨a',c',rfl,own',hb'⟩;exact⟨_,rfl,hR _ _ (iU rfl hb' ⟨a',c',rfl,own',own'.lt'⟩)⟩
  case qh=>go_simp;exact hR _ _ (bK rfl rfl bD rfl)
  case qi=>
   have e:=(hb.blk kS dm).cell 1;go_simp;exact hR _ _ (bK rfl rfl bD rfl)
  case qj=>
   obtain⟨a',c',h4, -⟩:=hf;go_simp;refine hR _ _ (iU rfl bD ?_)
   (try simp(decide:=true) only[go_sem])
   rw[h4]
  case qm=>
   obtain⟨⟨a',c',h4,own4,lt4⟩,h6, -,kb⟩:=hf;rw[h4]at h6;have e0:=kb.cell 0;have e1:=kb.cell 1;have fz:=kb.frozen;have p1:lo 8=_:=(fU.get _ _ hx 0 _ rfl).1;have p2:hi 8=_:=(fU.get _ _ hx 0 _ rfl).2;go_simp;refine hR _ _ (vH rfl rfl ((Touch.set w (dU.2 rfl) (tY p1) Eu 0 _).trans (Touch.set _ (dU.2 rfl) (tY p1) Eu 1 _)) ?_)
   (try simp(decide:=true) only[go_sem])
   exact⟨a',c',h4,(kb.set 0 _).set 1 _⟩
  case rF=>go_simp;exact hR _ _ (bK rfl rfl bD rfl)
  case hcl=>
   refine⟨bH,bH,?ai6,bH,bH,?ai8,?VJ,bH,?NL,trivial⟩
   all_goals first
    |exact fun f lo hi v b0 b1 w w' h hs hB hown hU hX=>by
      exact YW
    |exact fun f lo hi v b0 b1 w w' h hs hB hown hU hX=>by
      exact YV
    |exact fun f lo hi v b0 b1 w w' h hs hB hown hU hX=>by
      exact YX
    |exact fun _ _ _ _ _ _ _ _ h _ _ _ _ _=>h
  intro f lo hi W7 hbr hx hf hk hrg;(try replace hbr:=fH.zero hbr);clear hx;(try simp(decide:=true) only[go_sem]at hf hk);obtain⟨⟨a',c',h4,own4, -⟩,a2,c2,h4',k8⟩:=hf;obtain⟨rfl,rfl⟩:a'=a2∧c'=c2:=by
   exact YY
  have hr4:=hrg.out 2 aF;have hrg4:W.heap.size≤lo 2:=hr4.1;have bs:=xB.size;have La:Below w.heap.size w W7:=⟨hbr.1.trans xB.os,hbr.2.1.trans xB.tape,hbr.2.2.1.trans xB.output,dA bs hbr.2.2.2.1,fun q hq=>(hbr.2.2.2.2 q ⟨by omega,fun r hr=>by simp at hr;subst hr;simp only;omega⟩).trans (xB.block q hq)⟩;have y0:=k8.cell 0;have y1:=k8.cell 1;clear hrg hbr h4' hr4;go_simp;clear hk h4
  go_wp2
  refine bodyPost_ret (v:= .tuple #[.agg #[.slice a' l.length c',.bool g0],.slice none 0 0]) (by simp[results,results103,go_sem,y0,y1]) rfl ?_;exact⟨_,[],none,0,a',c',HT,rfl,rfl,Own.nil _ _ _ _,by simp,own4.mono aj,La⟩
 ·obtain⟨lim,rfl⟩:=Int.eq_ofNat_of_zero_le (show 0≤N by omega);have hlim:0<lim:=by omega
  have dN:decide ((lim:Int)≤0)=false:=fA hN;have hcell: ∀o:Obj,(((w.alloc (.cells #[.slice a l.length c,.bool g0] 105)).alloc (.cells #[ae (lim:Int)] 3)).alloc o).cell? ⟨w.heap.size+1,0,none⟩=some (ae (lim:Int)):=fun o=>by
   have:=((ah.new (w.alloc (.cells #[.slice a l.length c,.bool g0] 105)) 3 #[ae (lim:Int)]).alloc o).cell 0;simpa using this
  have hkR: ∀{w1:ak},Below (((w.alloc (.cells #[.slice a l.length c,.bool g0] 105)).alloc (.cells #[ae (lim:Int)] 3)).alloc (.cells #[.slice none 0 0,.bool false] 105)).heap.size (((w.alloc (.cells #[.slice a l.length c,.bool g0] 105)).alloc (.cells #[ae (lim:Int)] 3)).alloc (.cells #[.slice none 0 0,.bool false] 105)) w1→ah w1 (w.heap.size+1+1) 105 #[.slice none 0 0,.bool false]:=fun hb1=>by
   have:=(ah.new ((w.alloc (.cells #[.slice a l.length c,.bool g0] 105)).alloc (.cells #[ae (lim:Int)] 3)) 105 #[.slice none 0 0,.bool false]).below hb1 aF;simpa using this
  have HC:=ax hcell;clear hcell
  go_enter func103,ntmps103
  go_wp2_with (first|(go_at_call 79;refine(ar_ a l c g0 _ (((hb.alloc _).alloc _).alloc _) hcap hl hnil lim hlim (w.heap.size+1) aF (HC.out _)).mono ?_;rintro e w1 ⟨st,its,xa,xc,ra,rc,hst,rfl,hk,own,pays,EY,hb1⟩;(have kR:=hkR hb1);(have y0:=kR.cell 0);(have y1:=kR.cell 1);(have fz:=kR.frozen);(have yl:=kR.lt)))
  have hs1:=hb1.size;simp only[World.size_alloc]at hs1;refine bodyPost_ret (v:= .tuple #[.agg #[.slice ra (l.length -st.used) rc,.bool st.qP],.slice xa its.length xc]) (by simp[results,results103,go_sem,y0,y1]) rfl ?_;rw[Int.toNat_natCast];have two: ∀(base:Nat) (e:aK) (sz n cp:Nat) (x:az) (xs:aP) (u0 u1:Value),Own w1 base e sz x n cp xs→(w.heap.size+3≤base∨e≠105)→Own ((w1.setCell ⟨w.heap.size+1+1,0,none⟩ u0).setCell ⟨w.heap.size+1+1,1,none⟩ u1) base e sz x n cp xs:=fun base e sz n cp x xs u0 u1 h hd=>by
   have ne: ∀i,x.map (·.block)≠some (⟨w.heap.size+1+1,i,none⟩:Addr).block:=fun i e=>by
    rcases hd with hd|hd
    ·have:=h.dW _ e;simp only at this;omega
    ·exact h.pU kR hd e
   exact(h.far (ne 0) _).far (ne 1) _
  exact⟨st,its,xa,xc,ra,rc,hst,rfl,hk,(two _ _ _ _ _ _ _ _ _ own (.inl aF)).mono cu,fun x hx=>two _ _ _ _ _ _ _ _ _ (pays x hx) (.inr ay),(two _ _ _ _ _ _ _ _ _ EY (.inl aF)).mono cu,bel⟩
theorem ais{u:Nat}{g:Bool}{ks:List Key}{r:PR}{b:Bool}(h:r.code≠2)(hb:decide (r.code=7∨r.code=4)=b):t_ ⟨u,g,ks⟩ r=⟨u+r.size,b,ks++ [r.key]⟩:=by unfold t_;rw[if_neg h,hb]
section
variable{P:Program}{D:ak→Prop}{md:Region.Mode}
def Vo(md:Region.Mode)(ops:Array Oper)(s:Nat)(S:b_)(i j h:Nat)(k m n:Tr)(L:Array Bool):Bool:=
 decide (Region.ready md ops L= [i,j,h]) && !S.contains i && !S.contains j && !S.contains h && decide (k.len=m.len) && decide (k.len=n.len) && yj md ops s S k (L.setIfInBounds i true) && yj md ops s S m (L.setIfInBounds j true) && yj md ops s S n (L.setIfInBounds h true)
theorem aqo(hO: ¬ LetsOut Q)(hQ: ∀c a w,¬ Q (.panic c) a w){l:List Oper}(hsel:Region.noSelect l.toArray=true){s:Nat}{S:b_}(hS:Ew md l.toArray s S=true)(hsz:s<l.toArray.size)
  {j h:Nat} {k m n:Tr} (listed:Array Bool) (a:Act) (w:ak) (hD:D w) (inv:HeadInv md l.toArray l.toArray.size listed) (hun: ∀t∈S,listed.getD t false=false) (hB:Vo md l.toArray s S i j h k m n listed=true)
  (h1:wpList P l.toArray (mZ D (mG P l D (fun tl a' w'=>wpList P l.toArray Q (l.getD s default::dV l tl) a' w') k)) [l.getD i default] a w)
  (h2:wpList P l.toArray (mZ D (mG P l D (fun tl a' w'=>wpList P l.toArray Q (l.getD s default::dV l tl) a' w') m)) [l.getD j default] a w)
  (h3:wpList P l.toArray (mZ D (mG P l D (fun tl a' w'=>wpList P l.toArray Q (l.getD s default::dV l tl) a' w') n)) [l.getD h default] a w):Dn P md l.toArray Q S D (k.len+1) listed a w:=by
 simp only[Vo,Bool.and_eq_true,decide_eq_true_eq]at hB;obtain⟨⟨⟨⟨⟨⟨⟨⟨hr,KX⟩,abg⟩,axD⟩,e1⟩,e2⟩,g1⟩,g2⟩,g3⟩:=hB;have AO:i ∉ S:=by simpa using KX
 have hjS:j ∉ S:=by simpa using abg
 have hhS:h ∉ S:=by simpa using axD
 have step: ∀(x:Nat) (t:Tr),x∈Region.ready md l.toArray listed→x ∉ S→t.len=k.len→yj md l.toArray s S t (listed.setIfInBounds x true)=true→
   wpList P l.toArray (mZ D (mG P l D (fun tl a' w'=>wpList P l.toArray Q (l.getD s default::dV l tl) a' w') t)) [l.getD x default] a w→wpOp P l.toArray Q x (fun a' w'=>Hf S D (listed.setIfInBounds x true) w'∧Dn P md l.toArray Q S D k.len (listed.setIfInBounds x true) a' w') a w:=fun x t hx XP hlen hgo hw=>by
  have hxl:x<l.length:=by simpa using CY hx
  have h0:l.toArray[x]?=some l[x]:=by simp[hxl]
  have hg:l.getD x default=l[x]:=by simp[eG,hxl]
  have hw:wpList P l.toArray (mZ D (mG P l D (fun tl a' w'=>wpList P l.toArray Q (l.getD s default::dV l tl) a' w') t)) [l[x]] a w:=by rw[←hg];exact hw
  refine wpOp_mono (fun a2 w2 h2=>⟨fun _=>h2.1,?_⟩) (MV h0 hw);rw[←hlen];exact Nw hO hQ hsel hS hsz t _ a2 w2 h2.1 (inv.set hx (CY hx)) (fun t' ht=>by rw[getD_set_ne false (show x≠t' from fun e=>XP Nb)];exact hun t' ht) hgo h2.2
 refine⟨by rw[hr];simp,fun x hx=>?_⟩;rw[hr]at hx;have hx:x=i∨x=j∨x=h:=by simpa using hx
 rcases hx with rfl|rfl|rfl
 ·exact step x k (by rw[hr];simp) AO rfl g1 h1
 ·exact step x m (by rw[hr];simp) hjS e1.symm g2 h2
 ·exact step x n (by rw[hr];simp) hhS e2.symm g3 h3
theorem aol{id:Nat}{a:Act}{l:List Oper}(s:Nat)(S:b_)(st:List (Nat × b_))(i j h:Nat)(k m n:Tr)(hm:P.follows .mixedOrders=true)
  (hB:(Region.noSelect l.toArray && decide (s<l.toArray.size) && Ew .any l.toArray s S && decide (st.length+(k.len+1)=l.toArray.size) && II .any l.toArray s S (fun L=>Vo .any l.toArray s S i j h k m n L) st (Array.replicate l.toArray.size false))=true)
  (h0:wpQuiet P l.toArray (fun w'=> ∃p:Regrown,w'=Sort.grow (redrawn w p.d) p.os) (fun a1=> ∀F:b_→Act→ak→Prop,(∀tl a' w',F tl a' w'↔wpList P l.toArray (fun e a2 w2=>e= .normal∧Q .normal a2 w2) (l.getD s default::dV l tl) a' w')→
   wpList P l.toArray (mZ (fun w'=> ∃p:Regrown,w'=Sort.grow (redrawn w p.d) p.os) (mG P l (fun w'=> ∃p:Regrown,w'=Sort.grow (redrawn w p.d) p.os) F k)) [l.getD i default] a1 w.drew∧
   wpList P l.toArray (mZ (fun w'=> ∃p:Regrown,w'=Sort.grow (redrawn w p.d) p.os) (mG P l (fun w'=> ∃p:Regrown,w'=Sort.grow (redrawn w p.d) p.os) F m)) [l.getD j default] a1 w.drew∧
   wpList P l.toArray (mZ (fun w'=> ∃p:Regrown,w'=Sort.grow (redrawn w p.d) p.os) (mG P l (fun w'=> ∃p:Regrown,w'=Sort.grow (redrawn w p.d) p.os) F n)) [l.getD h default] a1 w.drew) (dV l (st.map Prod.fst)) a):(Code.region id l.toArray true).wp P Q a w:=by
 simp only[Bool.and_eq_true,decide_eq_true_eq]at hB;obtain⟨⟨⟨⟨hsel,hsz⟩,hS⟩,hlen⟩,hgo⟩:=hB;have inv0:HeadInv .any l.toArray l.toArray.size (Array.replicate l.toArray.size false):=
  ⟨by simp,fun j oj _ hl=>M_,fun t _ ht=>getD_in Nh (getD_replicate_false _ _)⟩
 refine Code.wp_mono (Q:=fun e a w=>e= .normal∧Q .normal a w) JR ?_;have hO: ¬ LetsOut (fun e a w=>e= .normal∧Q .normal a w):=fun⟨_,_,q⟩=>by cases q.1
 have hQ: ∀c a w,¬ (fun e a w=>e=Exit.normal∧Q .normal a w) (.panic c) a w:=fun c a w hq=>by cases hq.1
 have hD0: ∃p:Regrown,w.drew=Sort.grow (redrawn w p.d) p.os:=⟨⟨w.drawn+1,#[]⟩,by rw[Sort.grow_empty];rfl⟩;have H:=Pq (P:=P) (Q:=fun e a w=>e= .normal∧Q .normal a w) (D:=fun w'=> ∃p:Regrown,w'=Sort.grow (redrawn w p.d) p.os) (md:= .any) (f:=k.len+1) hQ hsel hS hsz hD0 (k:=fun L=>Vo .any l.toArray s S i j h k m n L)
  (K:=fun a1=> ∀F:b_→Act→ak→Prop,(∀tl a' w',F tl a' w'↔wpList P l.toArray (fun e a2 w2=>e= .normal∧Q .normal a2 w2) (l.getD s default::dV l tl) a' w')→
   wpList P l.toArray (mZ (fun w'=> ∃p:Regrown,w'=Sort.grow (redrawn w p.d) p.os) (mG P l (fun w'=> ∃p:Regrown,w'=Sort.grow (redrawn w p.d) p.os) F k)) [l.getD i default] a1 w.drew∧
   wpList P l.toArray (mZ (fun w'=> ∃p:Regrown,w'=Sort.grow (redrawn w p.d) p.os) (mG P l (fun w'=> ∃p:Regrown,w'=Sort.grow (redrawn w p.d) p.os) F m)) [l.getD j default] a1 w.drew∧
   wpList P l.toArray (mZ (fun w'=> ∃p:Regrown,w'=Sort.grow (redrawn w p.d) p.os) (mG P l (fun w'=> ∃p:Regrown,w'=Sort.grow (redrawn w p.d) p.os) F n)) [l.getD h default] a1 w.drew)
  (fun listed' a' hk Af hun' hK=>by
   obtain⟨q1,q2,q3⟩:=hK (fun tl a' w'=>wpList P l.toArray (fun e a2 w2=>e= .normal∧Q .normal a2 w2) (l.getD s default::dV l tl) a' w') (fun _ _ _=>Iff.rfl);exact aqo hO hQ hsel hS hsz listed' a' _ hD0 Af hun' hk q1 q2 q3) st _ a inv0 (fun t _=>getD_replicate_false _ _) hgo h0
 rw[hlen]at H;exact wp_region_any hm (PO _ _ _ _ H)
end
end Go.Proofs.YtiffpjamngklhaaGreat
