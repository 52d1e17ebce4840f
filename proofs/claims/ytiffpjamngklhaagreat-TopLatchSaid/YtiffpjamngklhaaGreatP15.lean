/- Lemmas, part 15. -/
import Derived.Deep.QuietTactic
import Derived.Test.YtiffpjamngklhaaGreatP14
namespace Go.Proofs.YtiffpjamngklhaaGreat
set_option linter.all false
set_option maxRecDepth 100000
set_option maxHeartbeats 16000000
open Go.RowKit Tryz
open Go.Sort hiding Below
variable{w W wr:ak}{B n i k C sc tc vc dc:Nat}{t e:aK}{Q:dR}{ops:Array Oper}{rest:List Oper}{cf:Cf}{now:Int}{ta sa da va wa:az}{st:aO}{S0 S1:List iG}{V0 V1:List sK}{W1:List Vk}{ws:List Vx}{ref:Bool}
theorem aqa:(prog.info? 297).map (fun i=>(i.zero.isSome,i.zero.map (fun z=>z.cells.size),i.size,i.bytes))=some (true,some 5,5,40):=by kernel_rfl
theorem Vg{o:Oper}{a:Act}(hgd:o.guard=none)(s x:Operand)(T E:aK)(k bytes:Nat)
  (ho:o.op= .call {callee:= .builtin .append,args:= #[s,x],argTypes:= #[T,T]}) (hu:prog.underlying T=some (.slice E))
  (hik:(prog.info? E).map (fun i=>(i.zero.isSome,i.zero.map (fun z=>z.cells.size),i.size,i.bytes))=some (true,some k,k,bytes)) (hk:0<k) (hby:bytes≤10000)
  (base:Nat) (A:az) (n c:Nat) (xs:aP) (hs:a.eval s= .slice A n c) (own:Own w base E k A n c xs) (B:az) (m d:Nat) (ys:aP) (hx:a.eval x= .slice B m d) (hr:Row w B ys) (hl:ys.length=m*k)
  (h1: ∀u∈ys,u.oneCell'=true) (hn:n+m≤1000000) (hbase:base≤w.heap.size)
  (h: ∀A' c' W',Own W' base E k A' (n+m) c' (xs++ys)→Grew base w W' A A'→wpList prog ops Q rest (a.put o.dst (.slice A' (n+m) c')) W'):wpList prog ops Q (o::rest) a w:=by
 cases hq:prog.info? E with
 |none=>rw[hq]at hik;cases hik
 |some i0=>
  rw[hq]at hik;simp only[Option.map_some,Option.some.injEq,Prod.mk.injEq]at hik;obtain⟨k1,k2,k3,k4⟩:=hik;cases hz:i0.zero with
  |none=>rw[hz]at k1;cases k1
  |some z=>
   rw[hz]at k2;simp at k2;refine zL _ hgd s x T ho base E i0 z k bytes hu hq hz k3 k4 k2 hk A n c xs hs B m d hx own ys hl hr h1 Ii ?_ hbase h;have:(n+m)*bytes≤1000000*10000:=Nat.mul_le_mul hn hby;omega
def wF(ds:List dY)(j:Int):List Lg:=ds.flatMap fun d=>FK d.r.num j d.rs
theorem apf(l:List Lg): ∀u∈eQ l,u.oneCell'=true:=wH ah_ l
theorem aqb(ds:List Dx)(j:Int)(i:Nat)(h:i<ds.length):wF ((ds.take (i+1)).map Dx.key) j=wF ((ds.take i).map Dx.key) j++FK ds[i].r.num j (ds[i].rs.map Rq.key):=by
 rw[List.take_succ_eq_append_getElem h,jg];simp[wF,Dx.key,Rx.key]
theorem aqc(l m:List Lg):eQ (l++m)=eQ l++eQ m:=by simp[eQ]
theorem apg(c:Cx)(j:Int)(w:ak)(h:Sl w 89 17 c.da c.ds.length c.dc (gC Dx.cells c.ds))(hd: ∀d∈c.ds,pq w d)(h9:c.ds.length≤1000)(hf: ∀i,i≤c.ds.length→(wF ((c.ds.take i).map Dx.key) j).length≤1000):
  aH 141 #[c.val,ae j] w (ClR (wF (c.ds.map Dx.key) j) w):=by
 obtain⟨⟨ja,jn,jc,ga,gn,gc,per,cap,hold,lock⟩,ref,now,ds,da,dc,ss,sa,sc,vs,va,vc,st,ta,tc,ws,wa,wc⟩:=c;simp only at h hd h9 hf⊢;have HF:=ax hf;clear hf
 go_enter func141,ntmps141
 go_upto_region 1 with fail
 obtain⟨R,hR⟩:=aI w.heap.size;refine aW (fun W=>ah W R 45 (ed ja jn jc ga gn gc per cap hold lock ref now da ds.length dc sa ss.length sc va vs.length vc ta st.length tc wa ws.length wc)∧Below w.heap.size w W) ⟨by rw[←hR];exact ah.new _ _ _,bel⟩ ?_;have fQ:w.heap.size≤R:=by omega
 rw[hR];clear hR;rintro W ⟨kR,be⟩;replace be:=be.mono fQ;(obtain⟨x0,x1,x2,x3,x4,x5,x6,x7,x8,x9,x10,x11,x12,xf,xl⟩:=kR.n13)
 go_wp2_with fail
 (clear x0 x1 x2 x3 x4 x5 x6 x7 x8 x9 x10 x11 x12 xf xl);have hWs:=be.size
 go_loopw [11,5] (fun s11 s5 wr=> ∃(i n xc:Nat) (xa:az),s11=ae i∧i≤ds.length∧s5= .slice xa n xc∧Hid (n=(wF ((ds.take i).map Dx.key) j).length)∧Own wr w.heap.size 297 5 xa n xc (eQ (wF ((ds.take i).map Dx.key) j))∧Below w.heap.size w wr) (fun s _ _=>ds.length -(intOf s).toNat)
 case atStart=>exact⟨0,0,0,none,rfl,by omega,rfl,ax rfl,Own.nil _ _ _ _,be⟩
 case round=>
  clear be kR hWs;obtain⟨i,n,xc,xa,rfl,hi,rfl,HN,own,be⟩:=hrel;by_cases hlt:i<ds.length
  ·have ix:(i:Int)<(ds.length:Int):=by omega
   have hw:=h.below be aA;have hdi:=(hd _ (bF hlt)).below be aA;have HS:=ax (aqb ds j i hlt);obtain⟨b,off,rfl,hbl⟩:=hw.open_ aj;obtain⟨d,hdd⟩:=aI (ds[i]);have HDD:=ax hdd;rw[hdd]at hdi HS;clear hdd;obtain⟨q1,q2,q3⟩:=hdi.Oj
   go_upto_region 5 with(first|(refine Ig rfl 89 _ rfl hw.row Bo i hlt HDD.out rfl oh gZ ?_)|(refine xM rfl 89 _ _ rfl wr.heap.size _ (Dx.cells d).toArray rfl rfl (ah.new _ _ _) 17 rfl rfl gZ (C_ d) ?_;intro W2 kw gw zw))
   obtain⟨T,hT⟩:=aI wr.heap.size;have hws:=be.size;refine aW (fun U=>ah U T 89 (Dx.cells d).toArray∧Below wr.heap.size wr U) ⟨by rw[←hT];exact kw,((Below.refl _ _).alloc aA _).aB gw aF bQ⟩ ?_;rw[hT];rintro U ⟨kT,bU⟩;have hU:Below wr.heap.size wr U:=by rw[hT];exact bU
   clear bU kw gw zw hw;obtain⟨⟨num,sec,sb,sd,rt,cl,lim,la,lc,rq,se,ra,bu,tk,tb,td,vh,vb,vd,lv⟩,rs,qa,qc,dr,db,dd,au,aa,ac⟩:=d;simp only at q1 q2 q3 HS;replace own:=own.below hU aA;replace be:=be.trans (hU.mono hws);replace q1:=q1.below hU aA;clear hU hT hws;simp only[Dx.cells]at kT;(obtain⟨t0,t1,t2,t3,t4,t5,t6,t7,t8,t9,t10,t11,t12,t13,t14,t15,t16,tf,tl⟩:=kT.n17);have uy:=be.size;have HN9:n≤1000:=by have:=HF.out i hi;have:=HN.out;omega
   obtain⟨C1,hC1⟩: ∃C,FK num j (rs.map Rq.key)=C:=⟨_,rfl⟩;have hQ:=ax (aoi qa rs rs.length qc num j U q1 rfl q2 (fun r hr=>(q3 r hr).1.n));rw[hC1]at hQ HS;clear hC1;have HM:Hid (C1.length≤1000):=ax (by have:=HF.out (i+1) hlt;rw[HS.out,dP]at this;omega)
   go_wp2_with (first|(go_at_call 167;(with_reducible refine(hQ.out).mono ?_);rintro e w2 ⟨ya,m,yc,rfl,hm,oY,hb2⟩;((clear t0 t1 t2 t3 t4 t5 t6 t7 t8 t9 t10 t11 t12 t13 t14 t15 t16 tf tl);have HM9:m≤1000:=(by have:=HM.out;have:=hm.out;omega);have eu:=own.below hb2 aA;have be2:=be.trans (hb2.mono uy);have aa_:=be2.size;have awp:=oY.sl.len))|(at_builtin;refine Vg rfl (.tmp 15) (.tmp 22) 250 297 5 40 rfl underlying250 aqa ay ay w.heap.size xa n xc _ rfl eu ya m yc (eQ C1) rfl oY.row awp (apf C1) aj aa_ ?_;intro A2 c2 V2 kH di))
   go_roundw
   case rel=>exact⟨i+1,n+m,c2,A2,by go_num,by omega,rfl,ax (by rw[HS.out,dP,←HN.out,←hm.out]),by rw[HS.out,aqc];exact kH,be2.aC di.1 eu aa_ aA⟩
   case measure=>simp[intOf];omega
  ·obtain rfl:i=ds.length:=by omega
   rw[List.take_length]at own HN
   go_wp2_with fail
   go_ret;exact⟨xa,n,xc,rfl,HN,own,be⟩
theorem afK(sa:az)(sn sc:Nat)(rt cl:Int)(la:az)(ln lc:Nat)(rq se ra bu:Int)(w:ak)(h:1≤se∧se≤2):aH 143 #[KH sa sn sc rt cl la ln lc rq se ra bu] w fun e w'=>e= .returned (ae se)∧Below w.heap.size w w':=by
 go_enter func143,ntmps143
 go_wp2
 go_ret;exact⟨rfl,bel⟩
theorem ahR{α:Type}{cells:α→aP}(hk: ∀x,(cells x).length=k)(hk0:0<k)(y:α)(zc:aZ)(hz:zc.toList=cells y)(n:Nat):madeCells zc (n*k)=(gC cells (List.replicate n y)).toArray:=by
 apply Array.ext';simp only[List.toList_toArray];refine List.ext_getElem? fun i=>?_;have hl:=oZ hk (List.replicate n y);rw[uK]at hl;have hs:zc.size=k:=by rw[←Array.length_toList,hz,hk]
 by_cases hi:i<n*k
 ·have hd:i/k<n:=Nat.div_lt_of_lt_mul (by rw[Nat.mul_comm];exact hi);have h1:=Vw hk (List.replicate n y) (i/k) (by rw[uK];exact hd) (i % k) (Nat.mod_lt _ hk0);rw[Nat.mul_comm,Nat.div_add_mod]at h1;rw[h1];simp only[List.getElem_replicate];have hm:i % k<(cells y).length:=by rw[hk];exact Nat.mod_lt _ hk0
  have e:zc[i % k]?=(cells y)[i % k]?:=by rw[←hz,Array.getElem?_toList]
  rw[d_ hm]at e⊢;have Ju:i % k<zc.size:=by rw[hs];exact Nat.mod_lt _ hk0
  rw[Array.getElem?_eq_getElem Ju]at e;simp only[madeCells,Array.toList_map,List.getElem?_map,Array.toList_range,List.getElem?_range hi,Option.map_some,hs,getElem!_pos zc (i % k) Ju];exact e
 ·have e1:(gC cells (List.replicate n y))[i]?=none:=List.getElem?_eq_none (by rw[hl];omega);rw[e1];exact List.getElem?_eq_none (by simp[madeCells];omega)
theorem afN{P:Prop}(h:P:=by
 rw[k3];have h1:bytes*n≤10000*100000:=Nat.mul_le_mul hby hn;have h2:((bytes*n:Nat):Int)≤281474976710656:=by omega
 rwa [Int.natCast_mul]at h2):P:=h
theorem U5{dst:Option Tmp}{a:Act}{ty:aK}{pos:String}{after:Array Edge}{x y:Operand}
  {α:Type} {cells:α→aP}  (bytes n:Nat) (z:α) (zc:aZ) (hk: ∀x,(cells x).length=k) (hk0:0<k) (hz:zc.toList=cells z) (ht:prog.underlying t=some (.slice e))
  (hik:(prog.info? e).map (fun i=>(i.zero,i.size,i.bytes))=some (some (.agg zc),k,bytes)) (hby:bytes≤10000) (hx:a.eval x=ae n) (hy:a.eval y=ae n) (hn:n≤100000)
  (h: ∀W,ah W w.heap.size e (gC cells (List.replicate n z)).toArray→Below w.heap.size w W→W.heap.size=w.heap.size+1→wpList prog ops Q rest (a.put dst (.slice (some ⟨w.heap.size,0,none⟩) n n)) W):
  wpList prog ops Q ({dst:=dst,op:= .makeSlice t x y,type:=ty,pos:=pos,after:=after,guard:=none}::rest) a w:=by
 cases hq:prog.info? e with
 |none=>rw[hq]at hik;cases hik
 |some i0=>
  rw[hq]at hik;simp only[Option.map_some,Option.some.injEq,Prod.mk.injEq]at hik;obtain⟨k1,k2,k3⟩:=hik;refine wpList_plain rfl fun K hK=>?_;have hb:(i0.bytes:Int)*(n:Int)≤281474976710656:=by
   exact afN
  have hrun:=run_make (P:=prog) w t e i0 (.agg zc) ht hq k1 .i64 .i64 n n aj aj hb aj;have hc:(Value.agg zc).cells=zc:=rfl;simp only[Int.toNat_natCast,k2,hc,ahR hk hk0 z zc hz n]at hrun;unfold Oper.wp;simp only[execOp,hx,hy,Sem.run_bind,Result.andThen_ok,hrun];simp[go_sem];exact hK _ _ (h _ (ah.new _ _ _) ((Below.refl _ _).alloc aA _) aF)
theorem ah.Am{α:Type}{cells:α→aP}{B':Nat}{l:List α}(kk:ah W B' e (gC cells l).toArray)(hk: ∀x,(cells x).length=k)(hB:B≤B')(n:Nat)(hn:l.length=n)(h9:n≤1000000):Own W B e k (some ⟨B',0,none⟩) n n (gC cells l):=by
 have hl:=oZ hk l;refine Own.ofRaw kk hB aA Ii (by rw[hl,hn]) ?_;rw[nM (by rw[hl,hn];exact Nat.le_refl _)]
theorem api:(prog.info? 73).map (·.size)=some 4:=by kernel_rfl
def SH(S:iG)(V:sK)(w:ak)(e:Ending)(w':ak):Prop:= ∃(s:Sx) (v:Vc),e= .returned (.tuple #[s.val,v.val])∧Hid (s.key=S)∧Hid (v.key=V)∧iR w' w.heap.size s∧fZ w' w.heap.size v∧Below w.heap.size w w'
def Jx.val(j:Jx):Value:=qO j.pb j.ps.length j.pc j.cb j.ps.length j.cc j.s
def vwZ:Vk:=(false,false,[],[])
structure SgV(j:Jx)(k:iG):Prop where
 ll:k.ls.length=j.ps.length
 nl:k.nx.length=2
 ok: ∀i (h:i<j.ps.length) (h':i<k.ls.length),xZ j.ps[i] k.ls[i].1 k.ls[i].2
def QF(C:Nat)(ta:az)(w w':ak):Prop:= ∀b t cs,ah w b t cs→b≠C→(120≠t∧123≠t∧(3≠t∨ta.map (·.block)≠some b)∧73≠t)→ah w' b t cs
theorem QF.below{w1 w':ak}(h:QF C ta w w1)(hb:Below w1.heap.size w1 w'):QF C ta w w':=fun b t cs k hC ht=>by
 have:=h b t cs k hC ht;exact this.below hb this.lt
structure sD(w:ak)(B C:Nat)(cf:Cf)(ref:Bool)(now:Int)(ds:List Dx)(da:az)(dc:Nat)(sa:az)(sc:Nat)(va:az)(vc:Nat)(ta:az)(tc:Nat)(wa:az)(n:Nat)(st:aO)(S0 S1:List iG)(V0 V1:List sK)(W1:List Vk)(k i m:Nat)(ss:List Sx)(vs:List Vc)(ws:List Vx)(wr:ak):Prop where
 cl:dE wr B ⟨cf,ref,now,ds,da,dc,ss,sa,sc,vs,va,vc,List.replicate k (-1)++st.drop k,ta,tc,ws,wa,n⟩
 l1:ss.length=n
 l2:vs.length=n
 l3:ws.length=n
 k1:ss.map Sx.key=S1.take i++S0.drop i
 k2:vs.map Vc.key=V1.take i++V0.drop i
 k3:ws.map Vx.key=W1.take m++(List.replicate n vwZ).drop m
 kC:ah wr C 45 (ed cf.ja n cf.jc cf.ga cf.gn cf.gc cf.per cf.cap cf.hold cf.lock ref now da ds.length dc sa n sc va n vc ta n tc wa n n)
 be:Below B w wr
 kept:QF C ta w wr
theorem sD.below{ds:List Dx}{m:Nat}{ss:List Sx}{vs:List Vc}
  (h:sD w B C cf ref now ds da dc sa sc va vc ta tc wa n st S0 S1 V0 V1 W1 k i m ss vs ws wr) (hb:Below wr.heap.size wr W) (hB:B≤w.heap.size):sD w B C cf ref now ds da dc sa sc va vc ta tc wa n st S0 S1 V0 V1 W1 k i m ss vs ws W:=
 ⟨h.cl.below hb aA,h.l1,h.l2,h.l3,h.k1,h.k2,h.k3,h.kC.below hb h.kC.lt,h.be.trans (hb.mono (dA hB h.be.size)),h.kept.below hb⟩
theorem Qg{α β:Type}(f:α→β)(l:List α)(S1 S0:List β)(i:Nat)(h:l.map f=S1.take i++S0.drop i)(hl:i<l.length)(h1:i≤S1.length)(h0:i<S0.length):f l[i]=S0[i]:=by
 have e:=congrArg (fun l=>l[i]?) h;simp only[List.getElem?_map,d_ hl,Option.map_some]at e;rw[List.getElem?_append_right cu,pV,Nat.min_eq_left h1,Nat.sub_self,List.getElem?_drop,iV,d_ h0]at e;exact Option.some.inj e
theorem ah.IQ{b:Nat}{cs:aZ}(k:ah w b t cs)(T:aK)(hu:(prog.underlying T).map TypeDesc.isRow=some true)(hs:(prog.info? T).map (·.size)=some cs.size)(d:Nat)(os:Array Obj):
  (Instr.loadAt T (.pointer (some ⟨b,0,none⟩))).run prog (Sort.grow (redrawn w d) os)= .ok (.agg cs) (Sort.grow (redrawn w d) os):=by
 cases hd:prog.underlying T with
 |none=>rw[hd]at hu;cases hu
 |some de=>
  rw[hd]at hu;have:=run_loadAt_mid (P:=prog) (Sort.grow (redrawn w d) os) b 0 T cs.toList de (fun j v hv=>?_) hd Il (by rw[Array.length_toList];exact hs)
  ·exact this
  ·rw[(below_regrown w d os).cell (p:=⟨b,0+j,none⟩) k.lt,dX,k.cell];simpa using hv
theorem sD.stuck{ds:List Dx}{tg:Nat}{m:Nat}{ss:List Sx}{vs:List Vc}
  (h:sD w B C cf ref now ds da dc sa sc va vc (some ⟨tg,0,none⟩) tc wa n st S0 S1 V0 V1 W1 i i m ss vs ws wr) (hB:B≤w.heap.size) (hi:i<n) (hl:st.length=n) (hBg:B≤tg):sD w B C cf ref now ds da dc sa sc va vc (some ⟨tg,0,none⟩) tc wa n st S0 S1 V0 V1 W1 (i+1) i m ss vs ws (wr.setCell ⟨tg,i,none⟩ (ae (-1))):=by
 have hg:=grownBy_set wr tg i (ae (-1));have e:(List.replicate i (-1:Int)++st.drop i).set i (-1)=List.replicate (i+1) (-1)++st.drop (i+1):=by
  rw[List.set_append_right _ _ aF,uK,Nat.sub_self,List.drop_eq_getElem_cons aj,jX,List.replicate_succ',uM];rfl
 have hc:=h.cl.setSt rfl (i:=i) (-1);simp only[e]at hc;have hsz:=h.be.size;have own:=h.cl.st;exact⟨hc,h.l1,h.l2,h.l3,h.k1,h.k2,h.k3,h.kC.aC (xa:=some ⟨tg,0,none⟩) hg own ay,h.be.aC (xa:=some ⟨tg,0,none⟩) hg own aj aA,fun b t cs q hC ht=>(h.kept b t cs q hC ht).aB hg (ht.2.2.1.elim (fun e=>own.iw (h.kept b t cs q hC ht) e) id)⟩
theorem sD.put{ds:List Dx}{sg vg:Nat}{m:Nat}{ss:List Sx}{vs:List Vc}
  (h:sD w B C cf ref now ds da dc (some ⟨sg,0,none⟩) sc (some ⟨vg,0,none⟩) vc ta tc wa n st S0 S1 V0 V1 W1 k i m ss vs ws wr) (hB:B≤w.heap.size) (hi:i<n) (s1:S1.length=n) (s0:S0.length=n) (v1:V1.length=n) (v0:V0.length=n) {s:Sx} {v:Vc} (oS:iR wr B s) (oV:fZ wr B v) (aS:Apart ta s.na) (aV:Apart ta v.ea) (hks:s.key=S1[i]) (hkv:v.key=V1[i])
  {W4 W5:ak} (h4:W4=jy wr sg (i*5) (Sx.cells s)) (h5:W5=jy W4 vg (i*3) (Vc.cells v)):sD w B C cf ref now ds da dc (some ⟨sg,0,none⟩) sc (some ⟨vg,0,none⟩) vc ta tc wa n st S0 S1 V0 V1 W1 k (i+1) m (ss.set i s) (vs.set i v) ws W5:=by
 have l1:=h.l1;have l2:=h.l2;have hsz:=h.be.size;have c4:=h.cl.ai9 rfl (i:=i) dD h4 oS aS;have xh:wr.grownBy W4 (some sg):=h4▸gm sg (Sx.cells s) wr (i*5);have oV4:=oV.aC (xa:=some ⟨sg,0,none⟩) xh h.cl.ss ay;have c5:=c4.awn rfl (i:=i) dD h5 oV4 aV;have gr5:W4.grownBy W5 (some vg):=h5▸gm vg (Vc.cells v) W4 (i*3);have z4:=xh.size;refine⟨c5,by rw[iQ];exact l1,by rw[iQ];exact l2,h.l3,?_,?_,h.k3,(h.kC.aC (xa:=some ⟨sg,0,none⟩) xh h.cl.ss ay).aC (xa:=some ⟨vg,0,none⟩) gr5 c4.vs ay,(h.be.aC (xa:=some ⟨sg,0,none⟩) xh h.cl.ss aj aA).aC (xa:=some ⟨vg,0,none⟩) gr5 c4.vs aj aA,
  fun b t cs q hC ht=>((h.kept b t cs q hC ht).aC (xa:=some ⟨sg,0,none⟩) xh h.cl.ss ht.1).aC (xa:=some ⟨vg,0,none⟩) gr5 c4.vs ht.2.1⟩
 ·rw[List.map_set,h.k1,hks];exact IG S1 S0 i aj aj
 ·rw[List.map_set,h.k2,hkv];exact IG V1 V0 i aj aj
theorem sD.view{ds:List Dx}{wg:Nat}{m:Nat}{ss:List Sx}{vs:List Vc}
  (h:sD w B C cf ref now ds da dc sa sc va vc ta tc (some ⟨wg,0,none⟩) n st S0 S1 V0 V1 W1 k i m ss vs ws wr) (hB:B≤w.heap.size) (hm:m<n) (w1:W1.length=n) {x:Vx} (oX:jH wr B x) (aX:Apart ta x.ca∧Apart ta x.na) (hk:x.key=W1[m])
  {W4:ak} (h4:W4=jy wr wg (m*4) (Vx.cells x)):sD w B C cf ref now ds da dc sa sc va vc ta tc (some ⟨wg,0,none⟩) n st S0 S1 V0 V1 W1 k i (m+1) ss vs (ws.set m x) W4:=by
 have l3:=h.l3;have hsz:=h.be.size;have c4:=h.cl.setWs rfl (i:=m) dD h4 oX aX;have xh:wr.grownBy W4 (some wg):=h4▸gm wg (Vx.cells x) wr (m*4);refine⟨c4,h.l1,h.l2,by rw[iQ];exact l3,h.k1,h.k2,?_,h.kC.aC (xa:=some ⟨wg,0,none⟩) xh h.cl.ws ay,h.be.aC (xa:=some ⟨wg,0,none⟩) xh h.cl.ws aj aA,
  fun b t cs q hC ht=>(h.kept b t cs q hC ht).aC (xa:=some ⟨wg,0,none⟩) xh h.cl.ws ht.2.2.2⟩
 rw[List.map_set,h.k3,hk];exact IG W1 _ m aj (by rw[uK];omega)
def axg(c:Cx)(B C:Nat)(S1:List iG)(V1:List sK)(W1:List Vk)(w:ak)(e:Ending)(w':ak):Prop:=
 ∃(ss:List Sx) (vs:List Vc) (ws:List Vx) (wa:az),e= .returned (.tuple #[])∧Hid (sD w B C c.cf c.ref c.now c.ds c.da c.dc c.sa c.sc c.va c.vc c.ta c.tc wa c.ws.length c.st (c.ss.map Sx.key) S1 (c.vs.map Vc.key) V1 W1 c.ws.length c.ws.length c.ws.length ss vs ws w')
theorem aqd(c:Cx)(C B:Nat)(js:List Jx)(gs:List Ax)(S1:List iG)(V1:List sK)(W1:List Vk)(w:ak)(hcl:dE w B c)(hsm:c.key.Small)(WG:B≤C)(hBw:B≤w.heap.size)
  (kC:ah w C 45 (ed c.cf.ja c.cf.jn c.cf.jc c.cf.ga c.cf.gn c.cf.gc c.cf.per c.cf.cap c.cf.hold c.cf.lock c.ref c.now c.da c.ds.length c.dc c.sa c.ss.length c.sc c.va c.vs.length c.vc c.ta c.st.length c.tc c.wa c.ws.length c.wc))
  (hcf: ∀W,Below B w W→rM W c.cf js gs) (l1:c.ss.length=js.length) (l2:c.vs.length=js.length) (l3:c.st.length=js.length) (l4:S1.length=js.length) (l5:V1.length=js.length) (l6:W1.length=js.length) (l7:c.ws.length=js.length)
  (hW1: ∀i (h:i<js.length) (h4:i<S1.length) (h5:i<V1.length) (h6:i<W1.length),W1[i]=EW js[i] S1[i] V1[i])
  (hok: ∀i (h:i<js.length) (h':i<S1.length),SgV js[i] S1[i]) (hfew: ∀(i:Nat) k,k≤c.ds.length→(wF ((c.ds.take k).map Dx.key) i).length≤1000)
  (hD: ∀i (h:i<js.length) (h1:i<c.ss.length) (h2:i<c.vs.length) (h3:i<c.st.length) (h4:i<S1.length) (h5:i<V1.length) (W:ak) (s:Sx) (v:Vc) (ca:az) (cn cc B':Nat),BI W js[i]→BF W s→vP W v→Hid (s.key=c.ss[i].key)→Hid (v.key=c.vs[i].key)→Own W B' 297 5 ca cn cc (eQ (wF (c.ds.map Dx.key) i))→Hid (cn=(wF (c.ds.map Dx.key) i).length)→
   aH 140 #[c.cf.val,js[i].val,s.val,v.val,.slice ca cn cc,ae c.st[i],ae c.now] W (SH S1[i] V1[i] W)):
  aH 107 #[.pointer (some ⟨C,0,none⟩)] w (axg c B C S1 V1 W1 w):=by
 obtain⟨⟨ja,jn,jc,ga,gn,gc,per,cap,hold,lock⟩,ref,now,ds,da,dc,ss,sa,sc,vs,va,vc,st,ta,tc,ws,wa,wc⟩:=c;simp only at kC hcf l1 l2 l3 l7 hfew hD;have Ja:=hcf w bD;have hjn:=Ja.hj;have hn4:=Ja.n1;simp only at hjn;obtain⟨n,hn⟩:=aI js.length;obtain rfl:jn=n:=hjn.trans hn;rw[hn]at hn4;obtain⟨jb,jo,rfl,Ha⟩:=Ja.EU.open_ aj;clear hjn Ja;have l1':=l1.trans hn;have l2':=l2.trans hn;have l3':=l3.trans hn;have l7':=l7.trans hn;rw[l1',l2',l3',l7']at kC;obtain⟨sg,rfl,hsB,_⟩:=hcl.ss.open_ dD;obtain⟨vg,rfl,hvB,_⟩:=hcl.vs.open_ dD;obtain⟨tg,rfl,htB,_⟩:=hcl.st.open_ dD;have HN:=ax hn;have Fa:=ax l1';have HL2:=ax l2';have mJ:=ax l3';have HL4:=ax (l4.trans hn);have HL5:=ax (l5.trans hn);have HL6:=ax (l6.trans hn);have HL7:=ax l7';have HD:=ax hD;have HF:=ax hfew;have jQ:=ax hok;have B_:=ax hcf;have HW1:=ax hW1;have zJ:=ax hsm;clear hn l1 l2 l3 l4 l5 l6 l7 l1' l2' l3' l7' hD hfew hok hcf hW1 hsm;refine Calls.mono (R:=fun e w'=> ∃(ss':List Sx) (vs':List Vc) (ws':List Vx) (Jv:az),e= .returned (.tuple #[])∧Hid (sD w B C ⟨some ⟨jb,jo,none⟩,jn,jc,ga,gn,gc,per,cap,hold,lock⟩ ref now ds da dc (some ⟨sg,0,none⟩) sc (some ⟨vg,0,none⟩) vc (some ⟨tg,0,none⟩) tc Jv jn st (ss.map Sx.key) S1 (vs.map Vc.key) V1 W1 jn jn jn ss' vs' ws' w')) ?_ (fun e w' ⟨ss',vs',ws',Jv,h1,h2⟩=>⟨ss',vs',ws',Jv,h1,by rw[HL7.out];exact h2⟩)
 go_enter func107,ntmps107
 (obtain⟨x0,x1,x2,x3,x4,x5,x6,x7,x8,x9,x10,x11,x12,xf,xl⟩:=kC.n13);have rC:=fun d os o=>dC w d os C o xl;have hmn:(if(jn:Int)<(jn:Int)then(jn:Int)else(jn:Int))=(jn:Int):=by simp
 go_wp2_with fail
 (refine nI 16 [] [0,1,2,3,4,5,6,7,8,9,10,11,12,13,14,15] bP bP ?_;refine lu ?_);(refine lC ?_);clear rC
 go_upto_region 2 with(first|(refine U5 (cells:=Vx.cells) 56 jn ⟨false,false,[],[],none,0,none,0⟩ #[.bool false,.bool false,.slice none 0 0,.slice none 0 0] IB ay rfl underlying43 art ay ?_ ?_ aj ?_;(focus rfl);(focus rfl);intro W2 kW bW zW;((clear x0 x1 x2 x3 x4 x5 x6 x7 x8 x9 x10 x11 x12 xf xl);replace bW:=jA bW;have eF:=kC.below bW kC.lt;(obtain⟨x0,x1,x2,x3,x4,x5,x6,x7,x8,x9,x10,x11,x12,xf,xl⟩:=eF.n13))))
 (clear x0 x1 x2 x3 x4 x5 x6 x7 x8 x9 x10 x11 x12 xf xl);have hzw:w.drew.heap.size=w.heap.size:=rfl
 try rw[hzw]at kW
 clear hzw;obtain⟨R,hR⟩:=aI w.heap.size;have hset:=grownBy_set W2 C 12 (.slice (some ⟨R,0,none⟩) jn jn);have rH:=hcl.below bW aA;refine aW (sD w B C ⟨some ⟨jb,jo,none⟩,jn,jc,ga,gn,gc,per,cap,hold,lock⟩ ref now ds da dc (some ⟨sg,0,none⟩) sc (some ⟨vg,0,none⟩) vc (some ⟨tg,0,none⟩) tc (some ⟨R,0,none⟩) jn st (ss.map Sx.key) S1 (vs.map Vc.key) V1 W1 0 0 0 ss vs (List.replicate jn ⟨false,false,[],[],none,0,none,0⟩)) ?_ ?_
 ·have z0:jH W2 B ⟨false,false,[],[],none,0,none,0⟩:=⟨Own.nil _ _ _ _,Own.nil _ _ _ _⟩;rw[hR]at kW;have own:=kW.Am IB (by omega:B≤R) jn aF aj;have axh:dE W2 B ⟨⟨some ⟨jb,jo,none⟩,jn,jc,ga,gn,gc,per,cap,hold,lock⟩,ref,now,ds,da,dc,ss,some ⟨sg,0,none⟩,sc,vs,some ⟨vg,0,none⟩,vc,st,some ⟨tg,0,none⟩,tc,List.replicate jn ⟨false,false,[],[],none,0,none,0⟩,some ⟨R,0,none⟩,jn⟩:=
   ⟨rH.ds,rH.qV,rH.ss,rH.sV,rH.vs,rH.uk,rH.st,by rw[uK];exact own,fun d hd=>by rw[List.eq_of_mem_replicate hd];exact z0,rH.zF,rH.yz,rH.yA,fun d hd=>by rw[List.eq_of_mem_replicate hd];refine⟨?_,?_⟩<;>(intro k _ hb;cases hb)⟩
  rw[hR];exact⟨axh.aG hset eF ay,Fa.out,HL2.out,by simp,by simp,by simp,by simp[Vx.key,vwZ],eF.upd 12 (.slice (some ⟨R,0,none⟩) jn jn),(bW.mono hBw).aB hset (dA hBw bW.size) bQ,fun b t cs q hC _=>(q.below bW q.lt).aB hset (by simpa using Ne.symm hC)⟩
 clear hcl rH hset kC eF kW bW zW hR;intro wr hI;have kC:=hI.kC;(obtain⟨x0,x1,x2,x3,x4,x5,x6,x7,x8,x9,x10,x11,x12,xf,xl⟩:=kC.n13)
 go_wp2_with fail
 (clear x0 x1 x2 x3 x4 x5 x6 x7 x8 x9 x10 x11 x12 xf xl);clear kC
 go_loopw [29] (fun s29 wr=> ∃(i:Nat) (ss':List Sx) (vs':List Vc) (ws':List Vx),s29=ae i∧i≤jn∧Hid (sD w B C ⟨some ⟨jb,jo,none⟩,jn,jc,ga,gn,gc,per,cap,hold,lock⟩ ref now ds da dc (some ⟨sg,0,none⟩) sc (some ⟨vg,0,none⟩) vc (some ⟨tg,0,none⟩) tc (some ⟨R,0,none⟩) jn st (ss.map Sx.key) S1 (vs.map Vc.key) V1 W1 i i i ss' vs' ws' wr)) (fun s _=>jn -(intOf s).toNat)
 case atStart=>exact⟨0,ss,vs,_,rfl,by omega,ax hI⟩
 case round=>
  clear hI;obtain⟨i,ss',vs',ws',rfl,hi,HI⟩:=hrel;have hI:=HI.out;clear HI;by_cases hlt:i<jn
  ·have ix:(i:Int)<(jn:Int):=by omega
   have hij:i<js.length:=by rw[HN.out];exact hlt
   have hc0:=B_.out wr hI.be;have hji:=hc0.Jt _ (bF hij);have y0:=hc0.EU.row.fV yV i hij 0 ay (v:= .slice (some ⟨js[i].pb,0,none⟩) js[i].ps.length js[i].pc) rfl;have y1:=hc0.EU.row.fV yV i hij 1 ay (v:= .slice (some ⟨js[i].cb,0,none⟩) js[i].ps.length js[i].cc) rfl;have y2:=hc0.EU.row.fV yV i hij 2 ay (v:=ae js[i].s) rfl;simp only[iV]at y0;obtain⟨j,hj⟩:=aI (js[i]);have HJ:=ax hj;rw[hj]at hji y0 y1 y2;clear hj hc0;have hwB:B≤wr.heap.size:=dA hBw hI.be.size;have kC:=hI.kC;have yl:jb<wr.heap.size:=jL Ha hI.be.size;(obtain⟨x0,x1,x2,x3,x4,x5,x6,x7,x8,x9,x10,x11,x12,xf,xl⟩:=kC.n13)
   go_upto_region 6 with fail
   (clear x0 x1 x2 x3 x4 x5 x6 x7 x8 x9 x10 x11 x12 xf xl);obtain⟨T,hT⟩:=aI wr.heap.size;have Xw:C<T:=by have:=kC.lt;omega
   refine aW (fun U=>sD w B C ⟨some ⟨jb,jo,none⟩,jn,jc,ga,gn,gc,per,cap,hold,lock⟩ ref now ds da dc (some ⟨sg,0,none⟩) sc (some ⟨vg,0,none⟩) vc (some ⟨tg,0,none⟩) tc (some ⟨R,0,none⟩) jn st (ss.map Sx.key) S1 (vs.map Vc.key) V1 W1 i i i ss' vs' ws' U∧ah U T 69 #[.slice (some ⟨j.pb,0,none⟩) j.ps.length j.pc,.slice (some ⟨j.cb,0,none⟩) j.ps.length j.cc,ae j.s]∧BI U j) ⟨hI.below bel hBw,by rw[←hT];exact ah.new _ _ _,hji.below (show Below wr.heap.size wr _ from bel) aA⟩ ?_;rw[hT];clear hI y0 y1 y2 yl hwB hT kC hji;rintro U ⟨hI,kT,hji⟩;have kC:=hI.kC;have hst:=hI.cl.st.cell i (by simp[mJ.out];omega);have hsi:(List.map encI (List.replicate i (-1)++st.drop i))[i]?=some (ae (st[i]'(by rw[mJ.out];exact hlt))):=by simp[List.getElem?_append,mJ.out,hlt,encI]
   obtain⟨sti,abb⟩: ∃x,st[i]'(by rw[mJ.out];exact hlt)=x:=⟨_,rfl⟩;have HST:=ax abb;rw[abb]at hsi;have hst2:U.cell? ⟨tg,i,none⟩=some (ae sti):=by rw[hst,←hsi,d_]
   clear hst hsi abb;have fz:=hI.cl.st.frozen i;(obtain⟨x0,x1,x2,x3,x4,x5,x6,x7,x8,x9,x10,x11,x12,xf,xl⟩:=kC.n13)
   go_upto_region 10 with fail
   (clear x0 x1 x2 x3 x4 x5 x6 x7 x8 x9 x10 x11 x12 xf xl);clear hst2 kC;refine aW (fun V=>sD w B C ⟨some ⟨jb,jo,none⟩,jn,jc,ga,gn,gc,per,cap,hold,lock⟩ ref now ds da dc (some ⟨sg,0,none⟩) sc (some ⟨vg,0,none⟩) vc (some ⟨tg,0,none⟩) tc (some ⟨R,0,none⟩) jn st (ss.map Sx.key) S1 (vs.map Vc.key) V1 W1 (i+1) i i ss' vs' ws' V∧ah V T 69 #[.slice (some ⟨j.pb,0,none⟩) j.ps.length j.pc,.slice (some ⟨j.cb,0,none⟩) j.ps.length j.cc,ae j.s]) ⟨hI.stuck hBw hlt mJ.out htB,kT.aC (xa:=some ⟨tg,0,none⟩) (grownBy_set U tg i _) hI.cl.st ay⟩ ?_;clear hI kT hji;rintro V ⟨hI,kT⟩;have kC:=hI.kC;have uz:=hI.be.size;have bd:Below V.heap.size V V.drew:=bel;have hc0:=B_.out V.drew (hI.be.trans (bd.mono (dA hBw uz)));have hji:=hc0.Jt _ (bF hij);rw[HJ.out]at hji;have q1:i<ss'.length:=by rw[hI.l1];exact hlt
   have q2:i<vs'.length:=by rw[hI.l2];exact hlt
   obtain⟨s,hs⟩:=aI (ss'[i]);obtain⟨v,hv⟩:=aI (vs'[i]);have HS:=ax hs;have HV:=ax hv;have p1:i<ss.length:=by rw[Fa.out];exact hlt
   have p2:i<vs.length:=by rw[HL2.out];exact hlt
   have p3:i<st.length:=by rw[mJ.out];exact hlt
   have p4:i<S1.length:=by rw[HL4.out];exact hlt
   have p5:i<V1.length:=by rw[HL5.out];exact hlt
   have hks:=ax (Qg Sx.key ss' S1 (ss.map Sx.key) i hI.k1 q1 aj (by rw[g_];exact p1));have hkv:=ax (Qg Vc.key vs' V1 (vs.map Vc.key) i hI.k2 q2 aj (by rw[g_];exact p2));rw[List.getElem_map,hs]at hks;rw[List.getElem_map,hv]at hkv;have hsl:=hI.cl.sV s (by rw[←hs];exact bF q1);have hvl:=hI.cl.uk v (by rw[←hv];exact bF q2);have hsg:BF V.drew s:=(hsl.below bd aA).g (by rw[hks.out];exact zJ.out.ssm _ (List.mem_map.2 ⟨_,bF p1,rfl⟩));have aBS:s.ls.length=s.ls.length:=rfl;have OM:vP V.drew v:=⟨(hvl.below bd aA).en.sl,by have:=zJ.out.WU _ (List.mem_map.2 ⟨_,bF p2,rfl⟩);rw[←hkv.out]at this;exact this⟩;have Jw:=kC.IQ 45 vG nK;have SI:=CW hI.cl.ss.sl.row ED i q1 hs (by have:=hI.cl.ss.lt' sg rfl;exact this) 120 CP xJ;have SK:=CW hI.cl.vs.sl.row IA i q2 hv (by have:=hI.cl.vs.lt' vg rfl;exact this) 123 yP ry;have DZ:Hid (aH 141 #[.agg (ed (some ⟨jb,jo,none⟩) jn jc ga gn gc per cap hold lock ref now da ds.length dc (some ⟨sg,0,none⟩) jn sc (some ⟨vg,0,none⟩) jn vc (some ⟨tg,0,none⟩) jn tc (some ⟨R,0,none⟩) jn jn),ae i] V.drew (ClR (wF (ds.map Dx.key) i) V.drew)):=ax (by
    have h:=apg ⟨⟨some ⟨jb,jo,none⟩,jn,jc,ga,gn,gc,per,cap,hold,lock⟩,ref,now,ds,da,dc,ss',some ⟨sg,0,none⟩,sc,vs',some ⟨vg,0,none⟩,vc,List.replicate (i+1) (-1)++st.drop (i+1),some ⟨tg,0,none⟩,tc,ws',some ⟨R,0,none⟩,jn⟩ (i:Int) V.drew (hI.cl.ds.below bd aA).sl (fun d hd=>((hI.cl.qV d hd).below bd aA).g (zJ.out.WT _ (List.mem_map.2 ⟨_,hd,rfl⟩))) (by have:=zJ.out.ds;simpa [Cx.key]using this) (fun k hk=>HF.out i k hk);have axi:(List.replicate (i+1) (-1:Int)++st.drop (i+1)).length=jn:=by rw[dP,uK,pW,mJ.out];omega
    simp only[Cx.val,hI.l1,hI.l2,hI.l3,axi]at h;exact h)
   (obtain⟨x0,x1,x2,x3,x4,x5,x6,x7,x8,x9,x10,x11,x12,xf,xl⟩:=kC.n13);(obtain⟨a0,a1,a2,af,al⟩:=kT.n3);have rC:=fun d os o=>dC V d os C o xl;have rT:=fun d os o=>dC V d os T o al;clear hs hv;(refine Yg 44 [44,46] [45,46] [(40,[]),(41,[]),(42,[]),(43,[])] [([(0,[]),(1,[]),(2,[]),(3,[]),(4,[]),(5,[6,7,8]),(6,[7,8]),(7,[8]),(8,[]),(9,[]),(10,[]),(11,[]),(12,[]),(13,[]),(14,[]),(15,[]),(16,[]),(17,[]),(18,[]),(19,[]),(20,[]),(21,[]),(22,[]),(23,[]),(24,[]),(25,[]),(26,[]),(27,[]),(28,[]),(29,[]),(30,[]),(31,[]),(32,[]),(34,[]),(35,[]),(36,[]),(37,[]),(38,[])],33),([],39)] bP bP ?_;refine m_ ?_);(refine lS fun K hK=>?_;(repeat(first|(refine gI rfl 45 _ rfl _ _ rfl (fun|_,⟨p,rfl⟩=>Jw p.d p.os) ?_;refine dF ?_)|(refine gI rfl 120 _ rfl _ _ rfl (fun|_,⟨p,rfl⟩=>SI p.d p.os) ?_;refine dF ?_)|(refine gI rfl 123 _ rfl _ _ rfl (fun|_,⟨p,rfl⟩=>SK p.d p.os) ?_;refine dF ?_)|go_big_quiet_step (fail)));refine wpQuiet_nil ?_)
   go_wp2_with (go_at_call 141;(with_reducible refine(DZ.out).mono ?_);rintro e w2 ⟨ca,cn,cc,rfl,hcn,oC,hb2⟩)
   have V_:=hb2;replace hb2:=jA hb2;refine dS hb2 (hK _ _ ?_);clear hK K DZ;have hDS:Hid (aH 140 #[Dz (some ⟨jb,jo,none⟩) jn jc ga gn gc per cap hold lock,qO j.pb j.ps.length j.pc j.cb j.ps.length j.cc j.s,.agg (Sx.cells s).toArray,.agg (Vc.cells v).toArray,.slice ca cn cc,ae sti,ae now] w2 (SH S1[i] V1[i] w2)):=ax (by
    have h:=HD.out i hij p1 p2 p3 p4 p5 w2 s v ca cn cc V.drew.heap.size;rw[HJ.out,HST.out]at h;exact h (hji.below V_ aA) (hsg.below V_ aA) (OM.below V_ aA) hks hkv oC hcn)
   (refine pF ?_;intro K hK)
   go_wp2_with (go_at_call 140;(with_reducible refine(hDS.out).mono ?_);rintro e w3 ⟨s',v',rfl,N7,aj0,oS,oV,hb3⟩)
   refine dS (hb2.trans (hb3.mono hb2.size)) (hK _ _ ?_);clear hK K hDS;(refine lC ?_);(clear x0 x1 x2 x3 x4 x5 x6 x7 x8 x9 x10 x11 x12 xf xl);(clear a0 a1 a2 af al);clear rC rT Jw SI SK hsg OM hsl hvl hks hkv oC hcn hji bd kC;have hb:=hb2.trans (hb3.mono hb2.size);have aS:=hI.cl.apart oS.nx hb2.size;have aV:=hI.cl.apart oV.en hb2.size;replace hI:=hI.below hb hBw;replace kT:=kT.below hb kT.lt;have iT:=hb2.size;replace oS:=oS.mono (show B≤w2.heap.size by omega);replace oV:=oV.mono (show B≤w2.heap.size by omega);clear hb hb2 hb3 iT V_;have aja:i*5+(Sx.cells s').toArray.size≤(gC Sx.cells ss').length:=by rw[oZ ED];show i*5+5≤_;omega
   have ajb:i*3+(Vc.cells v').toArray.size≤(gC Vc.cells vs').length:=by rw[oZ IA];show i*3+3≤_;omega
   have pI:=hI.cl.ss;have aj1:=hI.cl.vs
   go_upto_region 11 with(first|(refine yO rfl 120 _ _ rfl (off:=i*5) (Sx.cells s').toArray rfl rfl pI aja 5 rfl xJ rfl ?_;intro W4 h4 z4;(have H4:=ax h4;have xh:=gm sg (Sx.cells s') w3 (i*5);rw[←h4]at xh;have aaM:=aj1.aC (xa:=some ⟨sg,0,none⟩) xh pI ay;clear h4 z4))|(refine yO rfl 123 _ _ rfl (off:=i*3) (Vc.cells v').toArray rfl rfl aaM ajb 3 rfl ry rfl ?_;intro W5 h5 z5;(have H5:=ax h5;clear h5 z5)))
   have Jz:=hI.put hBw hlt HL4.out (by rw[g_];exact Fa.out) HL5.out (by rw[g_];exact HL2.out) oS oV aS aV N7.out aj0.out H4.out H5.out;have Cb:=(kT.aC (xa:=some ⟨sg,0,none⟩) xh pI ay).aC (xa:=some ⟨vg,0,none⟩) (H5.out▸gm vg (Vc.cells v') W4 (i*3)) aaM ay;refine aW (fun V=>sD w B C ⟨some ⟨jb,jo,none⟩,jn,jc,ga,gn,gc,per,cap,hold,lock⟩ ref now ds da dc (some ⟨sg,0,none⟩) sc (some ⟨vg,0,none⟩) vc (some ⟨tg,0,none⟩) tc (some ⟨R,0,none⟩) jn st (ss.map Sx.key) S1 (vs.map Vc.key) V1 W1 (i+1) (i+1) i (ss'.set i s') (vs'.set i v') ws' V∧ah V T 69 #[.slice (some ⟨j.pb,0,none⟩) j.ps.length j.pc,.slice (some ⟨j.cb,0,none⟩) j.ps.length j.cc,ae j.s]) ⟨Jz,Cb⟩ ?_;clear Jz Cb hI kT oS oV aS aV pI aj1 aja ajb xh aaM H4 H5 uz hc0;rintro V ⟨hI,kT⟩;have kC:=hI.kC;have uz:=hI.be.size;have bd:Below V.heap.size V V.drew:=bel;have hc0:=B_.out V.drew (hI.be.trans (bd.mono (dA hBw uz)));have hji:=hc0.Jt _ (bF hij);rw[HJ.out]at hji;clear hc0;have q1':i<(ss'.set i s').length:=by rw[iQ];exact q1
   have q2':i<(vs'.set i v').length:=by rw[iQ];exact q2
   have q3:i<ws'.length:=by rw[hI.l3];exact hlt
   have hs':(ss'.set i s')[i]=s':=by simp
   have hv':(vs'.set i v')[i]=v':=by simp
   have hsl:iR V B s':=by have h:=hI.cl.sV _ (bF q1');rwa [hs']at h
   have hok':=jQ.out i hij p4;rw[HJ.out,←N7.out]at hok';have SI:=CW hI.cl.ss.sl.row ED i q1' hs' (by have:=hI.cl.ss.lt' sg rfl;exact this) 120 CP xJ;have SK:=CW hI.cl.vs.sl.row IA i q2' hv' (by have:=hI.cl.vs.lt' vg rfl;exact this) 123 yP ry;have hll:s'.ls.length=j.ps.length:=hok'.ll;have SA:Hid (aH 67 #[qO j.pb j.ps.length j.pc j.cb j.ps.length j.cc j.s,.agg (Sx.cells s').toArray,.agg (Vc.cells v').toArray] V.drew fun e w'=> ∃x:Vx,e= .returned x.val∧Hid (x.key=(s'.dB,!s'.dB && (v'.ph != -1),zy s'.dB s'.ls,Fe s'.dB j.ps s'.ls))∧jH w' V.drew.heap.size x∧Below V.drew.heap.size V.drew w'):=ax (by
    have h:=agL j s'.ls s'.la s'.lc s'.g s'.wt s'.na s'.nx.length s'.nc s'.dB v'.ph v'.gr v'.ea v'.en.length v'.ec B V.drew hji (by rw[←hll];exact(hsl.ls.drewN 1)) hll hok'.ok;rw[←hll]at h;rw[←hll];exact h)
   (obtain⟨x0,x1,x2,x3,x4,x5,x6,x7,x8,x9,x10,x11,x12,xf,xl⟩:=kC.n13);(obtain⟨a0,a1,a2,af,al⟩:=kT.n3);have rC:=fun d os o=>dC V d os C o xl;have rT:=fun d os o=>dC V d os T o al;(refine Yg 22 [22] [] [(21,[])] [([(0,[]),(1,[]),(2,[]),(3,[]),(4,[]),(5,[]),(6,[]),(7,[]),(8,[]),(9,[]),(10,[]),(11,[]),(12,[]),(13,[]),(14,[]),(15,[]),(16,[]),(17,[]),(18,[]),(19,[])],20)] bP bP ?_;refine m_ ?_);(refine lS fun K hK=>?_;(repeat(first|(refine gI rfl 120 _ rfl _ _ rfl (fun|_,⟨p,rfl⟩=>SI p.d p.os) ?_;refine dF ?_)|(refine gI rfl 123 _ rfl _ _ rfl (fun|_,⟨p,rfl⟩=>SK p.d p.os) ?_;refine dF ?_)|go_big_quiet_step (fail)));refine wpQuiet_nil ?_)
   go_wp2_with (go_at_call 67;(with_reducible refine(SA.out).mono ?_);rintro e w2 ⟨x,rfl,hkx,oX,hb2⟩)
   replace hb2:=jA hb2;refine dS hb2 (hK _ _ ?_);clear hK K SA;(refine lC ?_);(clear x0 x1 x2 x3 x4 x5 x6 x7 x8 x9 x10 x11 x12 xf xl);(clear a0 a1 a2 af al);clear rC rT SI SK kC hsl hji bd;have aX:=(⟨hI.cl.apart oX.cs aA,hI.cl.apart oX.ns aA⟩:Apart (some ⟨tg,0,none⟩) x.ca∧Apart (some ⟨tg,0,none⟩) x.na);replace hI:=hI.below hb2 hBw;replace oX:=oX.mono (show B≤V.drew.heap.size from dA hBw uz);clear hb2;have room:i*4+(Vx.cells x).toArray.size≤(gC Vx.cells ws').length:=by rw[oZ IB];show i*4+4≤_;omega
   have N8:=hI.cl.ws
   go_wp2_with (refine yO rfl 73 _ _ rfl (off:=i*4) (Vx.cells x).toArray rfl rfl N8 room 4 rfl api rfl ?_;intro W4 h4 z4;(have H4:=ax h4;clear h4 z4))
   have hk1:x.key=W1[i]'(by rw[HL6.out];exact hlt):=by
    rw[HW1.out i hij p4 p5 (by rw[HL6.out];exact hlt),HJ.out,←N7.out,←aj0.out,hkx.out];rfl
   have HI2:=ax (hI.view hBw hlt HL6.out oX aX hk1 H4.out);go_roundw
   case rel=>exact⟨i+1,_,_,_,by go_num,by omega,HI2⟩
   case measure=>simp[intOf];omega
  ·obtain rfl:i=jn:=by omega
   go_wp2_with fail
   go_end0
   exact⟨ss',vs',ws',_,rfl,ax hI⟩
def iE(gs:List Ax):Int:=(gs.map Ax.se).sum
theorem agM(gs:List Ax)(i:Nat)(h:i<gs.length):iE (gs.take (i+1))=iE (gs.take i)+gs[i].se:=by
 rw[iE,iE,List.take_succ_eq_append_getElem h,jg,List.sum_append];simp
theorem F_(gs:List Ax)(h: ∀a∈gs,1≤a.se∧a.se≤2):0≤iE gs∧iE gs≤2*gs.length:=by
 induction gs with
 |nil=>simp[iE]
 |cons a l ih=>
  have h1:=h a List.mem_cons_self;have h2:=ih fun b hb=>h b (List.mem_cons_of_mem _ hb);simp only[iE,mF,List.sum_cons,jJ]at*;omega
theorem aev(ja:az)(jn jc:Nat)(ga:az)(gn gc:Nat)(per cap hold lock:Int)(ag:Int)(w:ak):
  aH 108 #[Dz ja jn jc ga gn gc per cap hold lock,ae ag] w fun e w'=>e= .returned (.func (.func 142) #[] #[.pointer (some ⟨w.heap.size,0,none⟩),.pointer (some ⟨w.heap.size+1,0,none⟩)])∧w'=(w.alloc (.cells (gJ ja jn jc ga gn gc per cap hold lock) 28)).alloc (.cells #[ae ag] 3):=by
 go_enter func108,ntmps108
 go_wp2
 go_ret;exact⟨rfl,rfl⟩
theorem ahu(k i:Nat)(h:i<k): ∃t,List.range k=List.range i++i::t:=by
 refine⟨List.range' (i+1) (k -i -1),?_⟩;obtain⟨m,rfl⟩: ∃m,k=i+(m+1):=⟨k -i -1,by omega⟩;rw[List.range_eq_range',List.range_eq_range',←List.range'_append_1,dX,show i+(m+1) -i -1=m by omega,List.range'_succ]
theorem arV(k i:Nat)(h:i≤k): ∃t,List.range k=List.range i++t:=by
 rcases Nat.lt_or_ge i k with h1|h1
 ·obtain⟨t,e⟩:=ahu k i h1;exact⟨_,e⟩
 ·obtain rfl:i=k:=by omega
  exact⟨[],by simp⟩
def jW(a b c:Nat)(w w':ak):Prop:=w.heap.size≤w'.heap.size∧∀k,k=a∨k=b∨k=c→k<w.heap.size→w'.heap[k]?=w.heap[k]?
section
variable{a b c:Nat}
theorem jW.trans{A B C:ak}(h:jW a b c A B)(k:jW a b c B C):jW a b c A C:=⟨dA h.1 k.1,fun q hq hl=>(k.2 q hq (jL hl h.1)).trans (h.2 q hq hl)⟩
theorem jW.below{A B:ak}(h:Below A.heap.size A B):jW a b c A B:=⟨h.size,fun q _ hl=>h.block q hl⟩
theorem jW.put{S:Nat}(ha:a<S)(hb:b<S)(hc:c<S)(W:ak)(l:Nat)(o o':Obj)(hl:S≤l):jW a b c W (W.putObj l o'):=
 ⟨by simp[World.putObj],fun q hq _=>World.putObj_heap_other (by rcases hq with rfl|rfl|rfl<;>omega)⟩
theorem jW.grown{A B:ak}{g:Option Nat}(hg:A.grownBy B g)(h: ∀k,g=some k→k≠a∧k≠b∧k≠c):jW a b c A B:=
 ⟨hg.size,fun q hq hl=>hg.block q hl fun e=>by have:=h q e.symm;rcases hq with rfl|rfl|rfl<;>simp at this⟩
end
theorem afO{P:Prop}(h:P:=by
 obtain⟨b,off,e,hl⟩:=hgr.open_ aj;injection e with e;injection e with e _ _;omega):P:=h
theorem aeM(n:Nat)(hn:1≤n)(ja:az)(jn jc gb go gc:Nat)(per cap hold lock:Int)(gs:List Ax)(ag k:Nat)(hag:ag<gs.length)(hk:gs[ag].se=k)(Bc Ba:Nat)(w:ak)(hc:ah w Bc 28 (gJ ja jn jc (some ⟨gb,go,none⟩) gs.length gc per cap hold lock))(ha:ah w Ba 3 #[ae ag])(hg:Sl w 32 8 (some ⟨gb,go,none⟩) gs.length gc (gC Ax.cells gs))(h4:gs.length≤4)(hse: ∀a∈gs,1≤a.se∧a.se≤2):
  QP Fence.wide n prog 142 #[.pointer (some ⟨Bc,0,none⟩),.pointer (some ⟨Ba,0,none⟩)] (fun x:Nat=> #[.agg #[ae ag,ae x,ae (iE (gs.take ag)+x)]]) (fun pre x _=> ∃t,List.range k=pre++x::t) (jW Bc Ba gb) (fun xs=>xs=List.range k) (fun pre=> ∃t,List.range k=pre++t) w:=fun L J Jx W hW hJ hJx hY h0=>by
 refine callsIn_of_wp func142 rfl trivial ?_ rfl;simp only[ntmps142,List.size_toArray,jJ,List.length_nil,Nat.reduceAdd,Nat.reduceSub,Array.replicate_succ,Array.replicate_zero,List.push_toArray,List.append_toArray,List.nil_append,List.cons_append];have kJ:=hc.below hW hc.lt;have kA:=ha.below hW ha.lt;obtain⟨c0,c1,c2,c3,c4,c5,cf,cl⟩:=kJ.n6;have a0:=kA.cell 0;have al:=kA.lt;have agc:ag≤gc:=by have:=hg.2.1;omega
 have agn:(if gc=0 then(some ⟨gb,go,none⟩:az)else some ⟨gb,go+0*8,none⟩)=some ⟨gb,go,none⟩:=by split<;>simp
 have HK:=ax hk
 gi_wp2
 have hg4:=F_ gs hse;clear hk
 gi_loopw [13,4] (fun s13 s4 wr=> ∃(i:Nat),s13=ae i∧i≤ag∧s4=ae (iE (gs.take i))∧J [] wr∧jW Bc Ba gb w wr) (fun s13 _ _=>ag -(intOf s13).toNat)
 case atStart=>exact⟨0,rfl,by omega,rfl,h0,jW.below hW⟩
 case round=>
  clear c0 c1 c2 c3 c4 c5 cf cl a0 al kJ kA;obtain⟨i,rfl,hi,rfl,hJ0,hb⟩:=hrel;by_cases hlt:i<ag
  ·have ix:(i:Int)<(ag:Int):=by omega
   have hgl:i<gs.length:=by omega
   have hgr:=hg.keep fun b off e hl=>hb.2 b (.inr (.inr ag3)) hl;have Xz:=F_ (gs.take i) (fun a ha=>hse a (List.mem_of_mem_take ha));have slen:(gs.take i).length≤4:=by simp;omega
   have HS:=ax (agM gs i hgl);have Gy:=hse _ (bF hgl);have y:=fun j (hj:j<8) v (hv:(Ax.cells gs[i])[j]?=some v)=>hgr.row.fV IE i hgl j hj hv;obtain⟨x,hx⟩:=aI (gs[i]);rw[hx]at y HS Gy;have y0:=y 0 ay _ rfl;have y1:=y 1 ay _ rfl;have y2:=y 2 ay _ rfl;have y3:=y 3 ay _ rfl;have y4:=y 4 ay _ rfl;have y5:=y 5 ay _ rfl;have y6:=y 6 ay _ rfl;have y7:=y 7 ay _ rfl;simp only[iV]at y0;have yl:gb<wr.heap.size:=by
    exact afO
   have HJ:=ax hJ0;clear hJ0 y hx hgr
   gi_wp2_with (refine⟨trivial,?_⟩;gi_at_call 143;refine(callsIn_wide.2 (afK x.sa x.sec.length x.sc x.rt x.cl x.la x.lim.length x.lc x.rq x.se x.ra x.bu _ Gy)).mono ?_;rintro e w2 ⟨rfl,hb2⟩)
   have hb3:Below wr.heap.size wr w2:=bel;have hJ2:J [] w2:=hJ _ _ _ none HJ.out (hb3.Io none) PZ;have hb4:jW Bc Ba gb w w2:=hb.trans (jW.below hb3);go_roundw
   case rel=>exact⟨i+1,by go_num,by omega,by rw[HS.out],hJ2,hb4⟩
   case measure=>simp[intOf];omega
  ·obtain rfl:i=ag:=by omega
   have hgr:=hg.keep fun b off e hl=>hb.2 b (.inr (.inr ag3)) hl;have Xz:=F_ (gs.take i) (fun a ha=>hse a (List.mem_of_mem_take ha));have slen:(gs.take i).length≤4:=by simp;omega
   have Gy:=hse _ (bF hag);have y:=fun j (hj:j<8) v (hv:(Ax.cells gs[i])[j]?=some v)=>hgr.row.fV IE i hag j hj hv;obtain⟨x,hx⟩:=aI (gs[i]);rw[hx]at y Gy HK;have y0:=y 0 ay _ rfl;have y1:=y 1 ay _ rfl;have y2:=y 2 ay _ rfl;have y3:=y 3 ay _ rfl;have y4:=y 4 ay _ rfl;have y5:=y 5 ay _ rfl;have y6:=y 6 ay _ rfl;have y7:=y 7 ay _ rfl;simp only[iV]at y0;have yl:gb<wr.heap.size:=by
    exact afO
   have HJ:=ax hJ0;have kJ:ah _ _ _ _:=(hb.2 Bc (.inl rfl) hc.lt).trans hc;have kA:ah _ _ _ _:=(hb.2 Ba (.inr (.inl rfl)) ha.lt).trans ha;obtain⟨c0,c1,c2,c3,c4,c5,cf,cl⟩:=kJ.n6;have a0:=kA.cell 0;have al:=kA.lt;have in2:(i:Int)<(gs.length:Int):=by omega
   obtain⟨S,hS⟩:=aI (iE (gs.take i));rw[hS]at Xz hY⊢;clear hJ0 y hx hgr hS
   gi_wp2_with (refine⟨trivial,?_⟩;gi_at_call 143;refine(callsIn_wide.2 (afK x.sa x.sec.length x.sc x.rt x.cl x.la x.lim.length x.lc x.rq x.se x.ra x.bu _ Gy)).mono ?_;rintro e w2 ⟨rfl,hb2⟩)
   have hb3:Below wr.heap.size wr w2:=hb2;have hJ2:J [] w2:=hJ _ _ _ none HJ.out (hb3.Io none) PZ;have hb4:jW Bc Ba gb w w2:=hb.trans (jW.below hb3);have hk2:k≤2:=by have:=HK.out;omega
   rw[HK.out];clear hb2 hb3 HJ a0 al c0 c1 c2 c3 c4 c5 cf cl kJ kA y0 y1 y2 y3 y4 y5 y6 y7 yl hb
   gi_loopw [28] (fun s28 wr=> ∃(q:Nat),s28=ae q∧q≤k∧J (List.range q) wr∧jW Bc Ba gb w wr) (fun s28 _=>k -(intOf s28).toNat)
   case atStart=>exact⟨0,rfl,by omega,hJ2,hb4⟩
   case round=>
    clear hJ2 hb4;obtain⟨q,rfl,hq,hJ0,hb⟩:=hrel;by_cases hlt:q<k
    ·have ix:(q:Int)<(k:Int):=by omega
     have kA:ah _ _ _ _:=(hb.2 Ba (.inr (.inl rfl)) ha.lt).trans ha;have a0:=kA.cell 0;have al:=kA.lt;obtain⟨fn,tmps,assign,body,hy,hR⟩:=hY (List.range q) q _ hJ0 (ahu k q hlt)
     gi_wp2
     refine hR.mono ?_;rintro e W3 (⟨rfl,hJ3,hk3⟩|⟨rfl,hJx3⟩)
     ·have hb3:jW Bc Ba gb w W3:=hb.trans hk3
      gi_wp2
      go_roundw
      case rel=>exact⟨q+1,by go_num,by omega,by rw[List.range_succ];exact hJ3,hb3⟩
      case measure=>simp[intOf];omega
     ·gi_wp2
      refine bodyPost_ret (results_none rfl _ _ _) rfl ?_;exact⟨⟨_,rfl⟩,.inr ⟨List.range q++ [q],by rw[←List.range_succ];exact arV k (q+1) aj,hJx3⟩⟩
    ·obtain rfl:q=k:=by omega
     gi_wp2
     go_end0
     exact⟨⟨_,rfl⟩,.inl ⟨List.range q,rfl,hJ0⟩⟩
@[reducible] def Hg(w:ak)(x:Mx):Prop:=qx w x.m x.ta x.tc x.aa x.da
theorem att(x:Mx)(w:ak)(h:Hg w x)(hok:x.m.Ok):aH 146 #[x.val] w fun e w'=>e= .returned (.bool false)∧Below w.heap.size w w':=by
 go_enter func146,ntmps146
 have h2:=h.below (show Below w.heap.size w (w.alloc (.cells #[ae x.m.kind,.slice x.ta x.m.tok.length x.tc,.slice x.aa x.m.args.length x.ac,.slice x.da x.m.dat.length x.dc] 36)) from bel) aA;have hO:=ax hok;clear hok
 go_wp2_with (go_at_call 147;(with_reducible refine(ar2 x.m x.ta x.tc x.aa x.da x.ac x.dc _ h2 rfl rfl rfl).mono ?_);rintro e w2 ⟨he,hb2⟩;(obtain⟨_,rfl⟩|⟨h0,_⟩:=he;rotate_left;(exact absurd hO.out h0)))
 go_ret;exact⟨rfl,bel⟩
theorem apl(a:az)(n c:Nat)(ms:List Mx)(w:ak)(h:Sl w 36 4 a n c (gC Mx.cells ms))(hn:n=ms.length)(h9:n≤1000)(hm: ∀m∈ms,Hg w m)(hok: ∀m∈ms,m.m.Ok):
  aH 170 #[.slice a n c,.func (.func 146) #[] #[]] w fun e w'=>e= .returned (ae (-1))∧Below w.heap.size w w':=by
 have HN:=ax hn;clear hn
 go_enter func170,ntmps170
 go_wp2
 go_loopw [8] (fun s8 wr=> ∃i:Nat,s8=ae i∧i≤n∧Below w.heap.size w wr) (fun s _=>n -(intOf s).toNat)
 case atStart=>exact⟨0,rfl,by omega,bel⟩
 case round=>
  obtain⟨i,rfl,hi,be⟩:=hrel;by_cases hlt:i<n
  ·have kx:(i:Int)<(n:Int):=by omega
   have hil:i<ms.length:=by rw[←HN.out];exact hlt
   have hr:=h.below be aA;obtain⟨b,off,rfl,bl⟩:=hr.open_ aj;have y:=fun j (hj:j<4) v (hv:(Mx.cells ms[i])[j]?=some v)=>hr.row.fV Gg i hil j hj hv;have hx1:=(hm _ (bF hil)).below be aA;have ho1:=hok _ (bF hil);obtain⟨x,hx⟩:=aI (ms[i]);rw[hx]at y hx1 ho1;have x0:=y 0 ay _ rfl;have x1:=y 1 ay _ rfl;have x2:=y 2 ay _ rfl;have x3:=y 3 ay _ rfl;simp only[iV]at x0;clear hx hr y;have hF:=fun w' (hb:Below wr.heap.size wr w')=>att x w' (hx1.below hb aA) ho1
   go_wp2_with (go_at_call 146;(with_reducible refine(hF _ bel).mono ?_);rintro e w2 ⟨rfl,hb2⟩)
   exact afD
  ·obtain rfl:i=n:=by omega
   go_wp2_with fail
   go_ret;exact⟨rfl,bel⟩
theorem aoP(a:az)(n c:Nat)(ms:List Mx)(w:ak)(h:Sl w 36 4 a n c (gC Mx.cells ms))(hn:n=ms.length)(h9:n≤1000)(hm: ∀m∈ms,Hg w m)(hok: ∀m∈ms,m.m.Ok):
  aH 145 #[.slice a n c,.func (.func 146) #[] #[]] w fun e w'=>e= .returned (.slice a n c)∧Below w.heap.size w w':=by
 have hF:=ax (apl a n c ms w h hn h9 hm hok);clear hn
 go_enter func145,ntmps145
 go_wp2_with (go_at_call 170;(with_reducible refine(hF.out).mono ?_);rintro e w2 ⟨rfl,hb2⟩)
 go_ret;exact⟨rfl,bel⟩
theorem afR(a:az)(n c:Nat)(ms:List Mx)(w:ak)(h:Sl w 36 4 a n c (gC Mx.cells ms))(hn:n=ms.length)(h9:n≤1000)(hm: ∀m∈ms,Hg w m)(hok: ∀m∈ms,m.m.Ok):
  aH 110 #[.slice a n c] w fun e w'=>e= .returned (.slice a n c)∧Below w.heap.size w w':=by
 have hF:=ax (aoP a n c ms w h hn h9 hm hok);clear hn
 go_enter func110,ntmps110
 go_wp2_with (go_at_call 145;(with_reducible refine(hF.out).mono ?_);rintro e w2 ⟨rfl,hb2⟩)
 go_ret;exact⟨rfl,bel⟩
theorem lZ:(prog.info? 36).map (·.size)=some 4:=by kernel_rfl
theorem xK:(prog.underlying 36).map TypeDesc.isRow=some true:=by kernel_rfl
def EL(rs:List Rk)(q:Nat)(vs:List Vk)(now:Int):aU:=⟨17,[],[now],bytesOf vs++EH rs q vs now⟩
theorem aqg(d:Dx)(q:Nat)(va:az)(its:List Vx)(vn vc:Nat)(now:Int)(w:ak)(h:pq w d)(hq:d.r.rq=q)(hq9:q≤1000)(hv:vV w va its)(hvn:vn=its.length)(hc: ∀v∈its,DV v.key)(hl:its.length≤1000):
  aH 144 #[d.val,.slice va vn vc,ae now] w (OL (EL (d.rs.map Rq.key) q (its.map Vx.key) now) w):=by
 subst hvn;have hcl:(EH (d.rs.map Rq.key) q (its.map Vx.key) now).length≤11000:=by rw[MS];omega
 obtain⟨bs,hbs⟩:=aI (EH (d.rs.map Rq.key) q (its.map Vx.key) now);have OO:=ax hbs;unfold EL;rw[hbs]at hcl⊢;have LK:=ax hcl;have HQ:=ax hq;clear hbs hcl hq;have hval:d.val= .agg (Dx.cells d).toArray:=rfl
 go_enter func144,ntmps144
 go_upto_region 1 with fail
 obtain⟨R,hR⟩:=aI w.heap.size;refine aW (fun W=>ah W R 89 (Dx.cells d).toArray∧ah W (R+1) 36 #[ae 0,.slice none 0 0,.slice none 0 0,.slice none 0 0]∧Below w.heap.size w W) ⟨by rw[←hR];exact(ah.new _ _ _).alloc _,by rw[←hR];exact ah.dG _ _ _ _,bel⟩ ?_;have fQ:w.heap.size≤R:=by omega
 rw[hR];clear hR;rintro W ⟨kR,kZ,be⟩;replace be:=be.mono fQ;have hW:=h.below be aA;have hVW:=hv.below be aA;obtain⟨q1,q2,q3⟩:=hW.Oj;obtain⟨⟨num,sec,sb,sd,rt,cl,lim,la,lc,rq,se,ra,bu,tk,tb,td,vh,vb,vd,lv⟩,rs,qa,qc,dr,db,dd,au,aa,ac⟩:=d;simp only at q1 q2 q3 OO HQ;simp only[Dx.cells]at kR;clear hval;obtain rfl:rq=q:=HQ.out;(obtain⟨x0,x1,x2,x3,x4,x5,x6,x7,x8,x9,x10,x11,x12,dh,x14,x15,x16,xf,xl⟩:=kR.n17);have hCo:=ax (ao2 qa rs rs.length qc q va its its.length vc now W q1 rfl hVW rfl hq9 (fun r hr=>hW.sm.lg _ (List.mem_map.2 ⟨r,hr,rfl⟩)) aj);rw[OO.out]at hCo
 go_upto_region 2 with((go_at_call 168;(with_reducible refine(hCo.out).mono ?_);rintro e w2 ⟨ba,bc,bn,rfl,hbn,oB,hb2⟩))
 (clear x0 x1 x2 x3 x4 x5 x6 x7 x8 x9 x10 x11 x12 dh x14 x15 x16 xf xl);have hV2:=hVW.below hb2 aA;have hWs:=be.size;have HM:=ax (anU va its its.length vc now ba bs bn bc w2 hV2 rfl hc hl oB.dL hbn.out (by rw[hbn.out];exact LK.out));replace kZ:=kZ.below hb2 kZ.lt
 go_wp2_with (first|(go_at_call 169;(with_reducible refine(HM.out).mono ?_);rintro e w3 ⟨x,rfl,hx,oX,hb3⟩;(replace kZ:=kZ.below hb3 kZ.lt))|(refine dw (Mx.cells x).toArray kZ lZ ?_;intro W' kw gw zw))
 refine nJ 6 36 results144 rfl kw 4 rfl xK lZ rfl ?_;have iT:=hb2.size;have BV:=hb3.size;exact⟨x,rfl,hx,(oX.aG gw kZ ay ay).mono aj,((be.trans (hb2.mono hWs)).trans (hb3.mono aj)).aB gw aj bQ⟩
structure Rw where
 ms:List Mx
 a:az
 c:Nat
def Rw.cells(r:Rw):aP:= [.slice r.a r.ms.length r.c]
theorem Vj(x:Rw):(Rw.cells x).length=1:=rfl
theorem aal(x:Rw): ∀u∈Rw.cells x,u.oneCell'=true:=by intro u hu;simp only[Rw.cells,List.mem_cons,o_,or_false]at hu;rcases hu with rfl;rfl
structure jm(w:ak)(B:Nat)(r:Rw):Prop where
 row:Own w B 36 4 r.a r.ms.length r.c (gC Mx.cells r.ms)
 it: ∀m∈r.ms,iI w B m
def Rw.key(r:Rw):List aU:=r.ms.map Mx.m
section
variable{w w':ak}{B B':Nat}{r:Rw}
theorem jm.below(h:jm w C r)(hb:Below B w w')(hB:w.heap.size≤B):jm w' C r:=⟨h.row.below hb hB,fun m hm=>(h.it m hm).below hb hB⟩
theorem jm.mono(h:jm w B r)(hB:B'≤B):jm w B' r:=⟨h.row.mono hB,fun m hm=>(h.it m hm).mono hB⟩
theorem jm.aG{g:Nat}{cs:aZ}(h:jm w B r)(hg:w.grownBy w' (some g))(k:ah w g t cs)(h0:t≠36)(h1:t≠5)(h2:t≠3):jm w' B r:=⟨h.row.aG hg k h0.symm,fun m hm=>(h.it m hm).aG hg k h1 h2⟩
theorem jm.aC{sz' n' c':Nat}{xa:az}{ys:aP}(h:jm w B r)(hg:w.grownBy w' (xa.map (·.block)))(o:Own w B' t sz' xa n' c' ys)(h0:t≠36)(h1:t≠5)(h2:t≠3):jm w' B r:=⟨h.row.aC hg o h0.symm,fun m hm=>(h.it m hm).aC hg o h1 h2⟩
end
def uB(m:aU):Prop:=m.Ok∧m.tok.length≤1000000∧m.args.length≤1000000∧m.dat.length≤1000000
theorem xU.vws{c:Cx}(h:xU w c):vV w c.wa c.ws:=⟨h.ws.row,fun v hv=>(h.r_ v hv).cs.row,fun v hv=>(h.r_ v hv).ns.row⟩
def RwR(Ms:List aU)(B:Nat)(w:ak)(e:Ending)(w':ak):Prop:= ∃r:Rw,e= .returned (.slice r.a r.ms.length r.c)∧Hid (r.key=Ms)∧jm w' B r∧Below w.heap.size w w'
theorem Ut:(prog.info? 36).map (fun i=>(i.zero.isSome,i.zero.map (fun z=>z.cells.size),i.size,i.bytes))=some (true,some 4,4,80):=by kernel_rfl
theorem afS{P:Prop}(h:P:=by
 go_wp2_with (go_at_call 110;(with_reducible refine(XA _ bel).mono ?_);rintro e w4 ⟨rfl,hb4⟩)
 go_ret;have h4:Below Z.heap.size Z w4:=hb4;exact⟨⟨r.ms++ [x],A3,c3⟩,by simp,HKEY,⟨((oN.mono hB).below h4 aA),fun m hm=>(hit m hm).below h4 aA⟩,be.trans (h4.mono hZs)⟩):P:=h
theorem aq3(c:Cx)(B ag num:Nat)(qX:Int)(q:Nat)(pa:az)(pc:Nat)(ps:List Rw)(ea:az)(en ec:Nat)(w:ak)(h:xU w c)(hag:ag<c.ds.length)(hq:c.ds[ag].r.rq=q)(hq9:q≤1000)(hk: ∀v∈c.ws,DV v.key)(hp:Sl w 58 1 pa ps.length pc (gC Rw.cells ps))(hnum:num<ps.length)(hr:jm w B ps[num])(hB:B≤w.heap.size)
  (hms: ∀m∈ps[num].key,uB m) (XB:ps[num].ms.length≤900) (hst:uB (EL (c.ds[ag].rs.map Rq.key) q (c.ws.map Vx.key) c.now)) (wY: ∀b∈c.ds[ag].au,b=false):
  aH 109 #[c.val,.agg #[ae ag,ae num,ae qX],.slice pa ps.length pc,.slice ea en ec] w (RwR (ps[num].key++ [EL (c.ds[ag].rs.map Rq.key) q (c.ws.map Vx.key) c.now]) B w):=by
 have hsm:=h.sm;have aj3:c.ws.length≤1000:=by have:=hsm.ws;simpa [Cx.key]using this
 have axm:c.ds.length≤1000:=by have:=hsm.ds;simpa [Cx.key]using this
 obtain⟨d,hd⟩:=aI (c.ds[ag]);obtain⟨r,hrr⟩:=aI (ps[num]);have hdg:pq w d:=by rw[←hd];exact h.qV _ (bF hag)
 have HD:=ax hd;have HR:=ax hrr;rw[hd]at hq hst wY⊢;rw[hrr]at hr hms XB⊢;clear hd hrr hsm;have HQ:=ax hq;have XC:=ax wY;have HK:=ax hk;have XD:=ax hms;have HST:=ax hst;clear hq wY hk hms hst;obtain⟨⟨ja,jn,jc,ga,gn,gc,per,cap,hold,lock⟩,ref,now,ds,da,dc,ss,sa,sc,vs,va,vc,st,ta,tc,ws,wa,wc⟩:=c;simp only at h hag HD HK HST aj3 axm⊢
 go_enter func109,ntmps109
 go_upto_region 1 with fail
 obtain⟨R,hR⟩:=aI w.heap.size;refine aW (fun W=>ah W R 45 (ed ja jn jc ga gn gc per cap hold lock ref now da ds.length dc sa ss.length sc va vs.length vc ta st.length tc wa ws.length wc)∧ah W (R+1) 218 #[ae ag,ae num,ae qX]∧Below w.heap.size w W) ⟨by rw[←hR];exact(ah.new _ _ _).alloc _,by rw[←hR];exact ah.dG _ _ _ _,bel⟩ ?_;have fQ:w.heap.size≤R:=by omega
 rw[hR];clear hR;rintro W ⟨kR,kP,be⟩;replace be:=be.mono fQ;have hds:=h.ds.below be aA;simp only at hds;obtain⟨db,aj6,rfl,dlt⟩:=hds.open_ aj;have ix:(ag:Int)<(ds.length:Int):=by omega
 (obtain⟨x0,x1,x2,x3,x4,x5,x6,x7,x8,x9,x10,x11,x12,xf,xl⟩:=kR.n13);(obtain⟨y0,y1,y2,yf,yl⟩:=kP.n3)
 go_upto_region 2 with(first|(refine Ig rfl 89 _ rfl hds.row Bo ag hag HD.out rfl oh gZ ?_)|(refine xM rfl 89 _ _ rfl W.heap.size _ (Dx.cells d).toArray rfl rfl (ah.new _ _ _) 17 rfl rfl gZ (C_ d) ?_;intro W2 kw gw zw))
 (clear x0 x1 x2 x3 x4 x5 x6 x7 x8 x9 x10 x11 x12 xf xl);(clear y0 y1 y2 yf yl);obtain⟨S,hS⟩:=aI W.heap.size;have hWs:=be.size;refine aW (fun U=>ah U R 45 (ed ja jn jc ga gn gc per cap hold lock ref now (some ⟨db,aj6,none⟩) ds.length dc sa ss.length sc va vs.length vc ta st.length tc wa ws.length wc)∧ah U (R+1) 218 #[ae ag,ae num,ae qX]∧ah U S 89 (Dx.cells d).toArray∧Below w.heap.size w U) ⟨(kR.alloc _).aB gw PX,(kP.alloc _).aB gw (by have:=kP.lt;simp;omega),by rw[←hS];exact kw,(be.alloc hWs _).aB gw cu bQ⟩ ?_;rw[hS];clear kR kP kw gw zw hds dlt be hWs hS;rintro U ⟨kR,kP,kS,be⟩;have hpU:=hp.below be aA;obtain⟨pb,aB0,rfl,plt⟩:=hpU.open_ aj;have p0:=hpU.row.fV Vj num hnum 0 ay (v:= .slice r.a r.ms.length r.c) (by rw[HR.out];rfl);simp only[iV,Nat.mul_one]at p0;have in_:(num:Int)<(ps.length:Int):=by omega
 have hrU:=hr.below be aA;have uy:=be.size;(obtain⟨y0,y1,y2,yf,yl⟩:=kP.n3)
 go_upto_region 5 with((at_builtin;refine Vg rfl (.tmp 25) (.tmp 30) 58 36 4 80 rfl underlying58 Ut ay ay w.heap.size none 0 0 [] rfl (Own.nil _ _ _ _) r.a r.ms.length r.c (gC Mx.cells r.ms) rfl hrU.row.row hrU.row.sl.len (wH Ve _) aj uy ?_;intro A2 c2 V2 kH di))
 (clear y0 y1 y2 yf yl);refine aW (fun V=>ah V R 45 (ed ja jn jc ga gn gc per cap hold lock ref now (some ⟨db,aj6,none⟩) ds.length dc sa ss.length sc va vs.length vc ta st.length tc wa ws.length wc)∧ah V (R+1) 218 #[ae ag,ae num,ae qX]∧ah V S 89 (Dx.cells d).toArray∧Own V w.heap.size 36 4 A2 (0+r.ms.length) c2 ([]++gC Mx.cells r.ms)∧Below w.heap.size w V) ⟨kR.jT di aF,kP.jT di aF,kS.jT di aF,kH,be.aB di.1 uy (fun k hk=>by cases hk)⟩ ?_;clear kR kP kS be hpU plt p0 hrU uy kH di;rintro V ⟨kR,kP,kS,oA,be⟩;rw[dX,List.nil_append]at oA;have hsV:=hdg.below be aA;have hvV:=h.vws.below be aA;simp only at hvV;have hSt:Hid (aH 144 #[.agg (Dx.cells d).toArray,.slice wa ws.length wc,ae now] V (OL (EL (d.rs.map Rq.key) q (ws.map Vx.key) now) V)):=ax (aqg d q wa ws ws.length wc now V hsV HQ.out hq9 hvV rfl HK.out aj3);have uz:=be.size;(obtain⟨x0,x1,x2,x3,x4,x5,x6,x7,x8,x9,x10,x11,x12,xf,xl⟩:=kR.n13)
 go_upto_region 6 with(first|(refine gy kS oh gZ ?_)|(go_at_call 144;(with_reducible refine(hSt.out).mono ?_);rintro e w3 ⟨x,rfl,hx,oX,hb3⟩;((clear x0 x1 x2 x3 x4 x5 x6 x7 x8 x9 x10 x11 x12 xf xl);have yF:=(oA.below hb3 aA).alloc (.cells (Mx.cells x).toArray 36);have BV:=hb3.size))|(at_builtin;refine zV rfl (.tmp 32) (.tmp 39) 58 36 4 80 rfl underlying58 Ut ay ay w.heap.size A2 r.ms.length c2 _ (by simp[go_sem]) yF w3.heap.size (Mx.cells x) rfl (ah.new _ _ _) (Gg x) (Ve x) aj cu ?_;intro A3 c3 V3 L8 vw))
 have bel3:Below w3.heap.size w3 (w3.alloc (.cells (Mx.cells x).toArray 36)):=bel;have OQ:=((kS.below hb3 kS.lt).alloc (.cells (Mx.cells x).toArray 36)).aC vw.1 yF ay;have kP3:=((kP.below hb3 kP.lt).alloc (.cells (Mx.cells x).toArray 36)).aC vw.1 yF ay;have xq:=((oX.mono uz).below bel3 aA).aC vw.1 yF ay ay;have eH:=((be.trans (hb3.mono uz)).trans (bel3.mono aj)).aC vw.1 yF cu aA;refine aW (fun Z=>ah Z (R+1) 218 #[ae ag,ae num,ae qX]∧ah Z S 89 (Dx.cells d).toArray∧Own Z w.heap.size 36 4 A3 (r.ms.length+1) c3 (gC Mx.cells r.ms++Mx.cells x)∧iI Z w.heap.size x∧Below w.heap.size w Z) ⟨kP3,OQ,L8,xq,eH⟩ ?_;clear kR kP kS oA be hsV hvV hSt uz oX hb3 BV yF L8 vw bel3 OQ kP3 xq eH;rintro Z ⟨kP,kS,oA,oX,be⟩;have hZ:=hdg.below be aA;have hR2:=(hr.below be aA).it;have oN:Own Z w.heap.size 36 4 A3 (r.ms++ [x]).length c3 (gC Mx.cells (r.ms++ [x])):=by rw[yS,mP,Dj,iK,dP];exact oA
 have hkey:(⟨r.ms++ [x],A3,c3⟩:Rw).key=r.key++ [EL (d.rs.map Rq.key) q (ws.map Vx.key) now]:=by simp[Rw.key,hx.out]
 have HKEY:=ax hkey;clear hkey;have hit: ∀m∈r.ms++ [x],iI Z B m:=fun m hm=>by
  rcases lW.1 hm with hm|hm
  ·exact hR2 m hm
  ·rw[dU.1 hm];exact oX.mono hB
 have hmo: ∀m∈r.ms++ [x],uB m.m:=fun m hm=>by
  rcases lW.1 hm with hm|hm
  ·exact XD.out _ (List.mem_map.2 ⟨m,hm,rfl⟩)
  ·rw[dU.1 hm,hx.out];exact HST.out
 have XA:=fun Z' (hb:Below Z.heap.size Z Z')=>afR A3 (r.ms.length+1) c3 (r.ms++ [x]) Z' (by have:=(oN.below hb aA).sl;rwa [dP]at this) aF aj (fun m hm=>((hit m hm).below hb aA).QD (hmo m hm).2) (fun m hm=>(hmo m hm).1);have hZs:=be.size;obtain⟨auv,aj7⟩: ∃l,d.au=l:=⟨_,rfl⟩;have N9:=hZ.au;have HA2:=XC.out;rw[aj7]at N9 HA2;clear hmo XC;(obtain⟨y0,y1,y2,yf,yl⟩:=kP.n3);simp only[Dx.cells]at kS;rw[aj7]at kS;(obtain⟨x0,x1,x2,x3,x4,x5,x6,x7,x8,x9,x10,x11,x12,dh,x14,x15,x16,xf,xl⟩:=kS.n17);by_cases hlt:num<auv.length
 ·have iu:(num:Int)<(auv.length:Int):=by omega
  obtain⟨ub,axn,hue,ult⟩:=N9.open_ aj;rw[hue]at x16 N9;have u0:Z.cell? ⟨ub,axn+num,none⟩=some (.bool false):=by
   rcases N9.row with h0|⟨b,off,e,_,hc⟩
   ·have:=congrArg List.length h0;simp at this;rw[this]at hlt;simp at hlt
   ·injection e with e;injection e with e1 e2 _;subst e1 e2
    rw[hc num (by simpa using hlt)];simp[uO,HA2 _ (bF hlt)]
  clear N9 hue HA2;exact afS
 ·have iu: ¬ (num:Int)<(auv.length:Int):=by omega
  clear N9 HA2;exact afS
end Go.Proofs.YtiffpjamngklhaaGreat
