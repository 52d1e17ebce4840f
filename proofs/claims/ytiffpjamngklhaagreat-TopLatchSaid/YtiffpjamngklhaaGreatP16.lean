/- Lemmas, part 16. -/
import Derived.Test.YtiffpjamngklhaaGreatP15
namespace Go.Proofs.YtiffpjamngklhaaGreat
set_option linter.all false
set_option maxRecDepth 100000
set_option maxHeartbeats 16000000
open Go.RowKit Tryz
open Go.Sort hiding Below
variable{w w' W wr w1:ak}{B n i k B' n' c c' C sz' off N R U ec c2 q rc qd qr qe:Nat}{t e:aK}{Q:dR}{o:Oper}{ops:Array Oper}{rest:List Oper}{P:Program}{ys:aP}{xa ea A2 ra:az}{es:List (Int × Int × Int)}{rs:aO}{cfg:aZ}{D:Nat→dY}{E:Nat→Int × Int × Int}{rw:Rw}{gV:List Deferred}
structure Ix where
 op:Bool
 its:List It
 a:az
 c:Nat
def Ix.cells(x:Ix):aP:= [.bool x.op,.slice x.a x.its.length x.c]
theorem EG(x:Ix):(Ix.cells x).length=2:=rfl
theorem ail(x:It):(It.cells x).length=3:=rfl
structure AP(w:ak)(x:Ix):Prop where
 its:Sl w 128 3 x.a x.its.length x.c (gC It.cells x.its)
 pay: ∀t∈x.its,Sl w 5 1 t.a t.pay.length t.c (t.pay.map a_)
theorem AP.below{x:Ix}(h:AP w x)(hb:Below B w w')(hB:w.heap.size≤B):AP w' x:=⟨h.its.below hb hB,fun t ht=>(h.pay t ht).below hb hB⟩
def kY(e:Int × Int × Int):aP:= [ae e.1,ae e.2.1,ae e.2.2]
theorem aim(x:Int × Int × Int):(kY x).length=3:=rfl
theorem ain(x:Int × Int × Int): ∀u∈kY x,u.oneCell'=true:=by intro u hu;simp only[kY,List.mem_cons,o_,or_false]at hu;rcases hu with rfl|rfl|rfl<;>rfl
def KY(K:dY)(M:aU)(E:Int × Int × Int)(r:Int)(w:ak)(e:Ending)(w':ak):Prop:=
 ∃(d:Dx) (x:Mx),e= .returned (.tuple #[.agg (Dx.cells d).toArray,.agg (Mx.cells x).toArray,.agg (kY E).toArray,ae r])∧Hid (d.key=K)∧Hid (x.m=M)∧dZ w' w.heap.size d∧iI w' w.heap.size x∧Below w.heap.size w w'
theorem atu{α:Type}{cells:α→aP}(hk: ∀x,(cells x).length=1)(y:α)(v:Value)(hz:cells y= [v])(n:Nat):madeCells #[v] (n*1)=(gC cells (List.replicate n y)).toArray:=ahR hk ay y #[v] (by rw[hz]) n
theorem JX{dst:Option Tmp}{a:Act}{ty:aK}{pos:String}{after:Array Edge}{x y:Operand}
  {α:Type} {cells:α→aP} (bytes n:Nat) (z:α) (v:Value) (hk: ∀x,(cells x).length=1) (hz:cells z= [v]) (hv:v.cells= #[v]) (ht:prog.underlying t=some (.slice e))
  (hik:(prog.info? e).map (fun i=>(i.zero,i.size,i.bytes))=some (some v,1,bytes)) (hby:bytes≤10000) (hx:a.eval x=ae n) (hy:a.eval y=ae n) (hn:n≤100000)
  (h: ∀W,ah W w.heap.size e (gC cells (List.replicate n z)).toArray→Below w.heap.size w W→W.heap.size=w.heap.size+1→wpList prog ops Q rest (a.put dst (.slice (some ⟨w.heap.size,0,none⟩) n n)) W):
  wpList prog ops Q ({dst:=dst,op:= .makeSlice t x y,type:=ty,pos:=pos,after:=after,guard:=none}::rest) a w:=by
 cases hq:prog.info? e with
 |none=>rw[hq]at hik;cases hik
 |some i0=>
  rw[hq]at hik;simp only[Option.map_some,Option.some.injEq,Prod.mk.injEq]at hik;obtain⟨k1,k2,k3⟩:=hik;refine wpList_plain rfl fun K hK=>?_;have hb:(i0.bytes:Int)*(n:Int)≤281474976710656:=by
   exact afN
  have hrun:=run_make (P:=prog) w t e i0 v ht hq k1 .i64 .i64 n n aj aj hb aj;simp only[Int.toNat_natCast,k2,hv,atu hk z v hz n]at hrun;unfold Oper.wp;simp only[execOp,hx,hy,Sem.run_bind,Result.andThen_ok,hrun];simp[go_sem];exact hK _ _ (h _ (ah.new _ _ _) ((Below.refl _ _).alloc aA _) aF)
theorem atv:(prog.info? 58).map (fun i=>(i.zero,i.size,i.bytes))=some (some (.slice none 0 0),1,24):=by kernel_rfl
def uC:Rw:=⟨[],none,0⟩
structure nG(w:ak)(R:Nat)(cfg:aZ)(k:Nat)(D:Nat→dY)(M:Nat→aU)(E:Nat→Int × Int × Int)(qd qr qe N:Nat)(d:Dx)(rw:Rw)(es:List (Int × Int × Int))(ea:az)(ec:Nat)(ra:az)(rs:aO)(rc:Nat)(wr:ak):Prop where
 kF:ah wr R 28 cfg
 kD:ah wr (R+1) 89 (Dx.cells d).toArray
 kZ:ah wr (R+1+1) 89 qH
 oD:dZ wr w.heap.size d
 key:d.key=D qd
 oN:Own wr w.heap.size 58 1 (some ⟨N,0,none⟩) k k (gC Rw.cells (rw::List.replicate (k -1) uC))
 oW:jm wr w.heap.size rw
 rk:rw.key=(List.range qr).map M
 oE:Own wr w.heap.size 256 3 ea es.length ec (gC kY es)
 ek:es=(List.range qe).map E
 oR:Own wr w.heap.size 3 1 ra rs.length rc (rs.map encI)
 be:Below w.heap.size w wr
theorem nG.below{M:Nat→aU}{d:Dx}
  (h:nG w R cfg k D M E qd qr qe N d rw es ea ec ra rs rc wr) (hb:Below wr.heap.size wr W):nG w R cfg k D M E qd qr qe N d rw es ea ec ra rs rc W:=
 ⟨h.kF.below hb h.kF.lt,h.kD.below hb h.kD.lt,h.kZ.below hb h.kZ.lt,h.oD.below hb aA,h.key,h.oN.below hb aA,h.oW.below hb aA,h.rk,h.oE.below hb aA,h.ek,h.oR.below hb aA,h.be.trans (hb.mono h.be.size)⟩
theorem nG.awr{M:Nat→aU}{d:Dx}{g:Nat}
  (h:nG w R cfg k D M E qd qr qe N d rw es ea ec ra rs rc wr) (hg:d.aa=some ⟨g,0,none⟩) (wY:d.au=List.replicate k false) (hi:i<k):nG w R cfg k D M E qd qr qe N d rw es ea ec ra rs rc (wr.setCell ⟨g,i,none⟩ (.bool false)):=by
 have gr:=grownBy_set wr g i (.bool false);have own:Own wr w.heap.size 4 1 (some ⟨g,0,none⟩) d.au.length d.ac (d.au.map uO):=by rw[←hg];exact h.oD.au
 have e:(d.au.map uO).set i (.bool false)=d.au.map uO:=by
  rw[wY,List.map_replicate];refine List.ext_getElem? fun j=>?_;rw[List.getElem?_set]
  split
  ·next hj=>subst hj;simp[hi,uO]
  ·rfl
 have eu:Own (wr.setCell ⟨g,i,none⟩ (.bool false)) w.heap.size 4 1 d.aa d.au.length d.ac (d.au.map uO):=by
  rw[hg];have:=own.set i (.bool false)
  rwa [e]at this
 have hsz:=h.be.size;exact⟨h.kF.aC (xa:=some ⟨g,0,none⟩) gr own ay,h.kD.aC (xa:=some ⟨g,0,none⟩) gr own ay,h.kZ.aC (xa:=some ⟨g,0,none⟩) gr own ay,
  ⟨h.oD.r.aC (xa:=some ⟨g,0,none⟩) gr own ay,h.oD.rs.aC (xa:=some ⟨g,0,none⟩) gr own ay,fun x hx=>(h.oD.lg x hx).aC (xa:=some ⟨g,0,none⟩) gr own ay,h.oD.dr.aC (xa:=some ⟨g,0,none⟩) gr own ay,fun x hx=>(h.oD.ds x hx).aC (xa:=some ⟨g,0,none⟩) gr own ay,eu⟩,
  h.key,h.oN.aC (xa:=some ⟨g,0,none⟩) gr own ay,h.oW.aC (xa:=some ⟨g,0,none⟩) gr own ay ay ay,h.rk,h.oE.aC (xa:=some ⟨g,0,none⟩) gr own ay,h.ek,h.oR.aC (xa:=some ⟨g,0,none⟩) gr own ay,h.be.aC (xa:=some ⟨g,0,none⟩) gr own hsz aA⟩
theorem nG.abf{M:Nat→aU}{d:Dx}
  (h:nG w R cfg k D M E qd qr qe N d rw es ea ec ra rs rc wr) (hR:w.heap.size≤R) {d':Dx} {q':Nat} (kw:ah W (R+1) 89 (Dx.cells d').toArray) (gw:wr.grownBy W (some (R+1))) (hf:ah wr R 28 cfg) (oD:dZ wr w.heap.size d') (hk:d'.key=D q'):nG w R cfg k D M E q' qr qe N d' rw es ea ec ra rs rc W:=
 ⟨h.kF.aB gw aF,kw,h.kZ.aB gw aF,oD.aG gw h.kD ay,hk,h.oN.aG gw h.kD ay,h.oW.aG gw h.kD ay ay ay,h.rk,h.oE.aG gw h.kD ay,h.ek,h.oR.aG gw h.kD ay,h.be.aB gw h.be.size bQ⟩
theorem nG.aaO{M:Nat→aU}{d:Dx}
  (h:nG w R cfg k D M E qd qr qe N d rw es ea ec ra rs rc wr) (hk:1≤k) {x:Mx}   (gr:Grew w.heap.size wr W rw.a A2) (oA:Own W w.heap.size 36 4 A2 (rw.ms++ [x]).length c2 (gC Mx.cells (rw.ms++ [x]))) (oX:iI wr w.heap.size x) (hx:x.m=M qr):
  nG w R cfg k D M E qd (qr+1) qe N d ⟨rw.ms++ [x],A2,c2⟩ es ea ec ra rs rc (W.setCell ⟨N,0,none⟩ (.slice A2 (rw.ms++ [x]).length c2)):=by
 have g2:=grownBy_set W N 0 (.slice A2 (rw.ms++ [x]).length c2);have o1:=h.oW.row;have oN:=h.oN.aC gr.1 o1 ay;have hsz:=h.be.size;have z1:=gr.1.size;have Fh:Own (W.setCell ⟨N,0,none⟩ (.slice A2 (rw.ms++ [x]).length c2)) w.heap.size 58 1 (some ⟨N,0,none⟩) k k (gC Rw.cells (⟨rw.ms++ [x],A2,c2⟩::List.replicate (k -1) uC)):=by
  have:=oN.set 0 (.slice A2 (rw.ms++ [x]).length c2);rw[mP]at this⊢;exact this
 refine⟨(h.kF.aC gr.1 o1 ay).aC (xa:=some ⟨N,0,none⟩) g2 oN ay,(h.kD.aC gr.1 o1 ay).aC (xa:=some ⟨N,0,none⟩) g2 oN ay,(h.kZ.aC gr.1 o1 ay).aC (xa:=some ⟨N,0,none⟩) g2 oN ay,(h.oD.aC gr.1 o1 ay).aC (xa:=some ⟨N,0,none⟩) g2 oN ay,h.key,Fh,⟨oA.aC (xa:=some ⟨N,0,none⟩) g2 oN ay,fun m hm=>?_⟩,?_,(h.oE.aC gr.1 o1 ay).aC (xa:=some ⟨N,0,none⟩) g2 oN ay,h.ek,(h.oR.aC gr.1 o1 ay).aC (xa:=some ⟨N,0,none⟩) g2 oN ay,(h.be.aC gr.1 o1 hsz aA).aC (xa:=some ⟨N,0,none⟩) g2 oN aj aA⟩
 ·rcases lW.1 hm with hm|hm
  ·exact((h.oW.it m hm).aC gr.1 o1 ay ay).aC (xa:=some ⟨N,0,none⟩) g2 oN ay ay
  ·rw[dU.1 hm];exact(oX.aC gr.1 o1 ay ay).aC (xa:=some ⟨N,0,none⟩) g2 oN ay ay
 ·have:=h.rk;simp only[Rw.key,jg,mF,oH,List.range_succ]at this⊢;rw[this,hx]
theorem nG.entry{M:Nat→aU}{d:Dx}
  (h:nG w R cfg k D M E qd qr qe N d rw es ea ec ra rs rc wr)   (gr:Grew w.heap.size wr W ea A2) (oA:Own W w.heap.size 256 3 A2 (es++ [E qe]).length c2 (gC kY (es++ [E qe]))):
  nG w R cfg k D M E qd qr (qe+1) N d rw (es++ [E qe]) A2 c2 ra rs rc W:=by
 have o1:=h.oE;exact⟨h.kF.aC gr.1 o1 ay,h.kD.aC gr.1 o1 ay,h.kZ.aC gr.1 o1 ay,h.oD.aC gr.1 o1 ay,h.key,h.oN.aC gr.1 o1 ay,h.oW.aC gr.1 o1 ay ay ay,h.rk,oA,by rw[List.range_succ,jg,←h.ek];rfl,h.oR.aC gr.1 o1 ay,h.be.aC gr.1 o1 h.be.size aA⟩
theorem nG.reset{M:Nat→aU}{d:Dx}{r:Int}
  (h:nG w R cfg k D M E qd qr qe N d rw es ea ec none rs rc wr)   (gr:Grew w.heap.size wr W none A2) (oA:Own W w.heap.size 3 1 A2 [r].length c2 ([r].map encI)):
  nG w R cfg k D M E qd qr qe N d rw es ea ec A2 [r] c2 W:=by
 have o1:Own wr w.heap.size 218 1 none 0 0 []:=Own.nil _ _ _ _;exact⟨h.kF.aC gr.1 o1 ay,h.kD.aC gr.1 o1 ay,h.kZ.aC gr.1 o1 ay,h.oD.aC gr.1 o1 ay,h.key,h.oN.aC gr.1 o1 ay,h.oW.aC gr.1 o1 ay ay ay,h.rk,h.oE.aC gr.1 o1 ay,h.ek,oA,h.be.aC gr.1 o1 h.be.size aA⟩
theorem Ep:(prog.info? 256).map (·.size)=some 3:=by kernel_rfl
theorem PH:(prog.underlying 256).map TypeDesc.isRow=some true:=by kernel_rfl
theorem wC{b:Nat}{cs:aZ}(k:ah w b t cs)(T:aK)(hu:(prog.underlying T).map TypeDesc.isRow=some true)(hs:(prog.info? T).map (·.size)=some cs.size):(Instr.loadAt T (.pointer (some ⟨b,0,none⟩))).run prog w= .ok (.agg cs) w:=by
 cases hd:prog.underlying T with
 |none=>rw[hd]at hu;cases hu
 |some de=>
  rw[hd]at hu;have:=run_loadAt_mid (P:=prog) w b 0 T cs.toList de (fun j v hv=>?_) hd Il (by rw[Array.length_toList];exact hs)
  ·exact this
  ·rw[dX,k.cell];simpa using hv
theorem ar5{b:Nat}{v:Value}(h:w.cell? ⟨b,off,none⟩=some v)(T:aK)(hu:prog.underlying T=some (.slice e)):(Instr.loadAt T (.pointer (some ⟨b,off,none⟩))).run prog w= .ok v w:=by
 simp[go_sem,Instr.loadAt,isAgg,underlying,hu,h]
structure Jb(D:ak→Prop) where
 w:ak
 h:D w
def RpD(N:Nat)(v:Value)(S:Nat)(cs:aZ)(w':ak):Prop:=w'.cell? ⟨N,0,none⟩=some v∧ah w' (S+1) 36 cs
def zo(Rs:Nat→Int)(q:Nat):aO:=((List.range q).map Rs).filter fun r=>decide (0≤r)
theorem ahv(Rs:Nat→Int)(q:Nat):zo Rs (q+1)=zo Rs q++(if 0≤Rs q then [Rs q]else []):=by
 unfold zo;rw[List.range_succ,jg,List.filter_append];congr 1;by_cases h:0≤Rs q<;>simp[h]
theorem atw{Rs:Nat→Int}(h: ∀j,j<q→Rs j<0):zo Rs q= []:=by
 unfold zo;rw[List.filter_eq_nil_iff];intro r hr;obtain⟨j,hj,rfl⟩:=List.mem_map.1 hr;have:=h j (List.mem_range.1 hj);simp;omega
theorem afU:(prog.info? 256).map (fun i=>(i.zero.isSome,i.zero.map (fun z=>z.cells.size),i.size,i.bytes))=some (true,some 3,3,24):=by kernel_rfl
theorem anV{fn:Func}{R:EN}{a:Act}{g:Nat}{cs:aZ}(i:Nat)(T:aK)(j1 j2 j3:Nat){v1 v2 v3:Value}(hres:fn.results= #[.cell i T,.tmp j1,.tmp j2,.tmp j3])(hp:a.tmps.getD i undef= .pointer (some ⟨g,0,none⟩))(h1:a.tmps.getD j1 undef=v1)(h2:a.tmps.getD j2 undef=v2)(h3:a.tmps.getD j3 undef=v3)(k:ah w g T cs)
  (N:Nat) (hn:cs.size=N) (hu:(P.underlying T).map TypeDesc.isRow=some true) (hi:(P.info? T).map (·.size)=some N) (hd:a.defers= []) (hR:R (.returned (.tuple #[.agg cs,v1,v2,v3])) w):bodyPost P fn R .ret a w:=by
 refine bodyPost_ret (v:= .tuple #[.agg cs,v1,v2,v3]) ?_ hd hR;have hl:=tJ k T N hn hu hi;simp only[Array.getD_eq_getD_getElem?]at hp h1 h2 h3;simp[results,hres,hp,h1,h2,h3,hl,asAddr,Sem.run_bind,Result.andThen]
def aiS(K:dY)(now:Int):dY:=⟨K.r,VF K.rs now,K.dr,K.au⟩
def KZ(K:dY)(k:Nat)(Ms:List aU)(Es:List (Int × Int × Int))(Rl:aO)(w:ak)(e:Ending)(w':ak):Prop:=
 ∃(d:Dx) (N:Nat) (rw:Rw) (ea:az) (en ec:Nat) (ra:az) (rn rc:Nat),e= .returned (.tuple #[.agg (Dx.cells d).toArray,.slice (some ⟨N,0,none⟩) k k,.slice ea en ec,.slice ra rn rc])∧Hid (en=Es.length)∧Hid (rn=Rl.length)∧Hid (d.key=K)∧dZ w' w.heap.size d∧Own w' w.heap.size 58 1 (some ⟨N,0,none⟩) k k (gC Rw.cells (rw::List.replicate (k -1) uC))∧jm w' w.heap.size rw∧Hid (rw.key=Ms)∧
  Own w' w.heap.size 256 3 ea en ec (gC kY Es)∧Own w' w.heap.size 3 1 ra rn rc (Rl.map encI)∧Below w.heap.size w w'
theorem ahw(cf:Cf)(d:Dx)(now:Int)(ins:List Ix)(ia:az)(ic k:Nat)(D:Nat→dY)(M:Nat→aU)(E:Nat→Int × Int × Int)(Rs:Nat→Int)(its:List It)(w:ak)(h:pq w d)
  (hin:Sl w 160 2 ia ins.length ic (gC Ix.cells ins)) (hii: ∀x∈ins,AP w x) (hk:ins.length=k) (hk1:1≤k∧k≤2) (wY:d.au=List.replicate k false)
  (hits: ∀h0:0<ins.length,(if ins[0].op then ins[0].its else [])=its) (hcl: ∀s (hs:s<ins.length),1≤s→ins[s].op=false) (D0:d.key=D 0) (hsm: ∀q,q≤its.length→(D q).Small) (h9:its.length≤900)
  (hH: ∀q (hq:q<its.length) (W:ak) (d':Dx),pq W d'→Hid (d'.key=D q)→Sl W 5 1 its[q].a its[q].pay.length its[q].c (its[q].pay.map a_)→Below w.heap.size w W→aH 161 #[cf.val,.agg (Dx.cells d').toArray,ae 0,.agg (It.cells its[q]).toArray,ae now] W (KY (D (q+1)) (M q) (E q) (Rs q) W))
  (hR: ∀q,q+1<its.length→Rs q<0):
  aH 138 #[cf.val,d.val,.slice ia ins.length ic,ae now] w (KZ (aiS (D its.length) now) k ((List.range its.length).map M) ((List.range its.length).map E) (zo Rs its.length) w):=by
 have JA:=ax hk;have XC:=ax wY;have HITS:=ax hits;have LK:=ax hcl;have HD0:=ax D0;have zJ:=ax hsm;have HH:=ax hH;have HR:=ax hR;rw[hk]at hin⊢;clear hk wY hits hcl D0 hsm hH hR;have hval:d.val= .agg (Dx.cells d).toArray:=rfl
 go_enter func138,ntmps138
 go_upto_region 1 with fail
 obtain⟨R,hR⟩:=aI w.heap.size;refine aW (fun W=>ah W R 28 (gJ cf.ja cf.jn cf.jc cf.ga cf.gn cf.gc cf.per cf.cap cf.hold cf.lock)∧ah W (R+1) 89 (Dx.cells d).toArray∧ah W (R+1+1) 89 qH∧Below w.heap.size w W) ⟨by rw[←hR];exact((ah.new _ _ _).alloc _).alloc _,by rw[←hR];exact(ah.dG _ _ _ _).alloc _,by rw[←hR];exact mr (ah.new _ _ _) aF,bel⟩ ?_;have fQ:w.heap.size≤R:=by omega
 rw[hR];rintro W ⟨kF,kD,kZ,be⟩;replace be:=be.mono fQ;have hW:=h.below be aj;clear hval hR
 go_upto_region 2 with(first|(refine Nu rfl 89 _ rfl (R+1) _ rfl kD 17 (wI d) oh gZ ?_)|(go_at_call 96;(with_reducible refine(Ug hW).mono ?_);rintro e w1 ⟨d1,rfl,hk1,oD,hb1⟩;(replace kD:=kD.below hb1 kD.lt))|(refine xM rfl 89 _ _ rfl (R+1) _ (Dx.cells d1).toArray rfl rfl kD 17 (wI d1) (wI d) gZ (C_ d1) ?_;intro W2 kw gw zw))
 have D6:=hb1.size;have hws:=be.size;refine aW (fun U=>ah U R 28 (gJ cf.ja cf.jn cf.jc cf.ga cf.gn cf.gc cf.per cf.cap cf.hold cf.lock)∧ah U (R+1) 89 (Dx.cells d1).toArray∧ah U (R+1+1) 89 qH∧dZ U w.heap.size d1∧Below w.heap.size w U) ⟨(kF.below hb1 kF.lt).aB gw aF,kw,(kZ.below hb1 kZ.lt).aB gw aF,(oD.aG gw kD ay).mono hws,(be.trans (hb1.mono hws)).aB gw aj bQ⟩ ?_;clear kF kD kZ oD hb1 kw gw zw D6 hws hW be;rintro U ⟨kF,kD,kZ,oD,be⟩;have hk2:=ax (hk1.out.trans HD0.out);have hd1:d1.au=List.replicate k false:=by
  have e:=congrArg dY.au (hk2.out.trans HD0.out.symm);simp only[Dx.key]at e;rw[e];exact XC.out
 have hal:d1.au.length=k:=by rw[hd1];simp
 have SL:=ax hal;clear hk1 hal;have lY:=kD;simp only[Dx.cells]at lY;rw[SL.out]at lY;(obtain⟨x0,x1,x2,x3,x4,x5,x6,x7,x8,x9,x10,x11,x12,dh,x14,x15,x16,xf,xl⟩:=lY.n17)
 go_upto_region 5 with(first|(refine JX (cells:=Rw.cells) 24 k uC (.slice none 0 0) Vj rfl rfl underlying163 atv ay ?_ ?_ aj ?_;(focus rfl);(focus rfl);intro W3 kN bN zN))
 (clear x0 x1 x2 x3 x4 x5 x6 x7 x8 x9 x10 x11 x12 dh x14 x15 x16 xf xl);clear lY;obtain⟨N,hN⟩:=aI U.heap.size;have uy:=be.size;have hI:nG w R (gJ cf.ja cf.jn cf.jc cf.ga cf.gn cf.gc cf.per cf.cap cf.hold cf.lock) k D M E 0 0 0 N d1 uC [] none 0 none [] 0 W3:=
  ⟨kF.below bN kF.lt,kD.below bN kD.lt,kZ.below bN kZ.lt,oD.below bN aA,hk2.out,by
   have:=kN.Am Vj uy k aF aj;rw[hN]at this;obtain⟨j,rfl⟩: ∃j,k=j+1:=⟨k -1,by omega⟩;exact this,⟨Own.nil _ _ _ _,fun m hm=>by cases hm⟩,rfl,Own.nil _ _ _ _,rfl,Own.nil _ _ _ _,be.trans (bN.mono uy)⟩
 rw[hN];clear kN bN zN uy hN kF kD kZ oD be;obtain⟨ib,io,rfl,ilt⟩:=hin.open_ aj;have kic:k≤ic:=hin.2.1;have hmn:(if(k:Int)<(k:Int)then(k:Int)else(k:Int))=(k:Int):=by simp
 have ign:(if ic=0 then(some ⟨ib,io,none⟩:az)else some ⟨ib,io+0*2,none⟩)=some ⟨ib,io,none⟩:=by split<;>simp
 have lY:=hI.kD;simp only[Dx.cells]at lY;rw[SL.out]at lY;(obtain⟨x0,x1,x2,x3,x4,x5,x6,x7,x8,x9,x10,x11,x12,dh,x14,x15,x16,xf,xl⟩:=lY.n17)
 go_wp2_with fail
 (clear x0 x1 x2 x3 x4 x5 x6 x7 x8 x9 x10 x11 x12 dh x14 x15 x16 xf xl);clear lY;obtain⟨g,haa,_,_⟩:=hI.oD.au.open_ (by rw[SL.out];omega);have HAA:=ax haa;have HD1:=ax hd1;clear haa hd1
 go_loopw [40] (fun s40 wr=> ∃i:Nat,s40=ae i∧i≤k∧nG w R (gJ cf.ja cf.jn cf.jc cf.ga cf.gn cf.gc cf.per cf.cap cf.hold cf.lock) k D M E 0 0 0 N d1 uC [] none 0 none [] 0 wr) (fun s40 _=>k -(intOf s40).toNat)
 case atStart=>exact⟨0,rfl,by omega,hI⟩
 case round=>
  clear hI;obtain⟨i,rfl,hi,hI⟩:=hrel;by_cases hlt:i<k
  ·have ix:(i:Int)<(k:Int):=by omega
   have hil:i<ins.length:=by rw[JA.out];exact hlt
   have hinr:=hin.below hI.be aA;have y0:=hinr.row.fV EG i hil 0 ay (v:= .bool ins[i].op) rfl;simp only[iV]at y0;obtain⟨op,hop⟩:=aI (ins[i].op);rw[hop]at y0;clear hop hinr;have lY:=hI.kD;simp only[Dx.cells]at lY;rw[SL.out,HAA.out]at lY;(obtain⟨x0,x1,x2,x3,x4,x5,x6,x7,x8,x9,x10,x11,x12,dh,x14,x15,x16,xf,xl⟩:=lY.n17);have own:Own wr w.heap.size 4 1 (some ⟨g,0,none⟩) d1.au.length d1.ac (d1.au.map uO):=by rw[←HAA.out];exact hI.oD.au
   have fz:=own.frozen i;have z0:wr.cell? ⟨g,i,none⟩=some (.bool false):=by
    rw[own.cell i (by simp[SL.out,hlt])];simp[HD1.out,uO]
   clear own;cases op
   ·go_wp2_with fail
    (clear x0 x1 x2 x3 x4 x5 x6 x7 x8 x9 x10 x11 x12 dh x14 x15 x16 xf xl);clear lY;go_roundw
    case rel=>exact⟨i+1,by go_num,by omega,hI.awr HAA.out HD1.out hlt⟩
    case measure=>simp[intOf];omega
   ·go_wp2_with fail
    (clear x0 x1 x2 x3 x4 x5 x6 x7 x8 x9 x10 x11 x12 dh x14 x15 x16 xf xl);clear lY;go_roundw
    case rel=>exact⟨i+1,by go_num,by omega,hI⟩
    case measure=>simp[intOf];omega
  ·obtain rfl:k=i:=by omega
   go_wp2_with fail
   go_loopw [62,13,14] (fun s62 s13 s14 wr=> ∃(i q:Nat) (d:Dx) (rw:Rw) (es:List (Int × Int × Int)) (ea:az) (ec:Nat) (ra:az) (rs:aO) (rc:Nat),s62=ae i∧i≤k∧s13= .slice ea es.length ec∧s14= .slice ra rs.length rc∧Hid ((i=0→q=0)∧(1≤i→q=its.length))∧Hid (rs=zo Rs q)∧Hid (rs= []→ra=none∧rc=0)∧nG w R (gJ cf.ja cf.jn cf.jc cf.ga cf.gn cf.gc cf.per cf.cap cf.hold cf.lock) k D M E q q q N d rw es ea ec ra rs rc wr) (fun s62 _ _ _=>k -(intOf s62).toNat)
   case atStart=>exact⟨0,0,_,_,[],none,0,none,[],0,rfl,by omega,rfl,rfl,ax ⟨fun _=>rfl,fun h=>by omega⟩,ax rfl,ax (fun _=>⟨rfl,rfl⟩),hI⟩
   case round=>
    clear hI hi hlt;obtain⟨i,q,d2,yH,es,ea,ec,ra,rs,rc,rfl,hi,rfl,rfl,HQ,vY,BZ,hI⟩:=hrel;by_cases hlt:i<k
    ·have ix:(i:Int)<(k:Int):=by omega
     have hil:i<ins.length:=by rw[JA.out];exact hlt
     have hinr:=hin.below hI.be aA;have y0:=hinr.row.fV EG i hil 0 ay (v:= .bool ins[i].op) rfl;have y1:=hinr.row.fV EG i hil 1 ay (v:= .slice ins[i].a ins[i].its.length ins[i].c) rfl;simp only[iV]at y0;clear hinr;by_cases hi0:i=0
     ·have hq0:=HQ.out.1 hi0;subst hi0 hq0;have hit:=HITS.out aj;have hxg:=hii _ (bF hil);obtain⟨x,hx⟩:=aI (ins[0]);rw[hx]at y0 y1 hit hxg;clear hx;simp only[Nat.zero_mul,iV]at y0 y1;obtain⟨op,xs,xa,xc⟩:=x;simp only at y0 y1 hit hxg;cases op
      ·have hit0:its= []:=by rw[←hit];simp
       go_wp2_with fail
       go_roundw
       case rel=>exact⟨1,0,d2,yH,es,ea,ec,ra,rs,rc,by go_num,by omega,rfl,rfl,ax ⟨fun h=>by omega,fun _=>by rw[hit0];rfl⟩,vY,BZ,hI⟩
       case measure=>simp[intOf];omega
      ·have hit0:xs=its:=by rw[←hit];simp
       subst hit0;clear hit
       go_wp2_with fail
       clear y0 y1
       go_loopw [77,13,14] (fun s77 s13 s14 wr=> ∃(q:Nat) (d:Dx) (rw:Rw) (es:List (Int × Int × Int)) (ea:az) (ec:Nat) (ra:az) (rs:aO) (rc:Nat),s77=ae q∧q≤xs.length∧s13= .slice ea es.length ec∧s14= .slice ra rs.length rc∧Hid (rs=zo Rs q)∧Hid (rs= []→ra=none∧rc=0)∧nG w R (gJ cf.ja cf.jn cf.jc cf.ga cf.gn cf.gc cf.per cf.cap cf.hold cf.lock) k D M E q q q N d rw es ea ec ra rs rc wr) (fun s77 _ _ _=>xs.length -(intOf s77).toNat)
       case atStart=>exact⟨0,d2,yH,es,ea,ec,ra,rs,rc,rfl,by omega,rfl,rfl,vY,BZ,hI⟩
       case round=>
        clear hI vY BZ;obtain⟨q,d3,lN,es,ea,ec,ra,rs,rc,rfl,hq,rfl,rfl,vY,BZ,hI⟩:=hrel;by_cases hlt:q<xs.length
        ·have iq:(q:Int)<(xs.length:Int):=by omega
         have hxr:=hxg.below hI.be aA;obtain⟨xb,xo,rfl,xl⟩:=hxr.its.open_ dD;have y:=fun j (hj:j<3) v (hv:(It.cells xs[q])[j]?=some v)=>hxr.its.row.fV ail q hlt j hj hv;have hpay:=hxr.pay _ (bF hlt);obtain⟨x,hx⟩:=aI (xs[q]);have HX:=ax hx;rw[hx]at y hpay;have y0:=y 0 ay _ rfl;have y1:=y 1 ay _ rfl;have y2:=y 2 ay _ rfl;simp only[iV]at y0;clear y hx hxr
         go_upto_region 19 with fail
         obtain⟨T,hT⟩:=aI wr.heap.size;refine aW (fun V=>nG w R (gJ cf.ja cf.jn cf.jc cf.ga cf.gn cf.gc cf.per cf.cap cf.hold cf.lock) k D M E q q q N d3 lN es ea ec ra rs rc V∧ah V T 128 #[ae x.code,ae x.kind,.slice x.a x.pay.length x.c]∧Sl V 5 1 x.a x.pay.length x.c (x.pay.map a_)) ⟨hI.below bel,by rw[←hT];exact ah.new _ _ _,hpay.below (show Below wr.heap.size wr _ from bel) aA⟩ ?_;rw[hT];clear hI y0 y1 y2 xl hpay hT;rintro V ⟨hI,kT,hpay⟩;have hG:=hI.oD.g (by rw[hI.key];exact zJ.out q aj);have hHq:Hid (aH 161 #[cf.val,.agg (Dx.cells d3).toArray,ae 0,.agg #[ae x.code,ae x.kind,.slice x.a x.pay.length x.c],ae now] V (KY (D (q+1)) (M q) (E q) (Rs q) V)):=ax (by
          have h:=HH.out q hlt V d3 hG (ax hI.key);rw[HX.out]at h;exact h hpay hI.be)
         have kF:=hI.kF;have kD:=hI.kD;(obtain⟨c0,c1,c2,c3,c4,c5,cf,cl⟩:=kF.n6);(obtain⟨t0,t1,t2,tf,tl⟩:=kT.n3);obtain⟨rv,OT⟩: ∃r,Rs q=r:=⟨_,rfl⟩;rw[OT]at hHq;have HRV:=ax OT;clear OT
         go_upto_region 20 with(first|(refine Nu rfl 89 _ rfl (R+1) _ rfl kD 17 (wI d3) oh gZ ?_)|(go_at_call 161;(with_reducible refine(hHq.out).mono ?_);rintro e w2 ⟨d4,x4,rfl,hk4,hx4,zI,yI,hb2⟩;((clear c0 c1 c2 c3 c4 c5 cf cl);(clear t0 t1 t2 tf tl);have k19:=((ah.new w2 89 qH).alloc (.cells #[ae 0,.slice none 0 0,.slice none 0 0,.slice none 0 0] 36)).alloc (.cells #[ae 0,ae 0,ae 0] 256)))|(refine xM rfl 89 _ _ rfl w2.heap.size _ (Dx.cells d4).toArray rfl rfl k19 17 (wI d4) rfl gZ (C_ d4) ?_;intro W3 kw gw zw;(have k20:=((mr (ah.new (w2.alloc (.cells qH 89)) 36 #[ae 0,.slice none 0 0,.slice none 0 0,.slice none 0 0]) aF:ah _ (w2.heap.size+1) _ _).alloc (.cells #[ae 0,ae 0,ae 0] 256)).aB gw aF))|(refine dw (Mx.cells x4).toArray k20 lZ ?_;intro W4 kw4 XE zw4;(have k21:=((mr (ah.new ((w2.alloc (.cells qH 89)).alloc (.cells #[ae 0,.slice none 0 0,.slice none 0 0,.slice none 0 0] 36)) 256 #[ae 0,ae 0,ae 0]) aF:ah _ (w2.heap.size+1+1) _ _).aB gw cu).aB XE aF))|(refine dw (kY (E q)).toArray k21 Ep ?_;intro W5 kw5 XF zw5))
         have iT:=hb2.size;have uz:=hI.be.size;have bW:Below w2.heap.size w2 W5:=((((((Below.refl _ w2).alloc aA (.cells qH 89)).alloc aF (.cells #[ae 0,.slice none 0 0,.slice none 0 0,.slice none 0 0] 36)).alloc cu (.cells #[ae 0,ae 0,ae 0] 256)).aB gw cu bQ).aB XE (by rw[zw];simp;omega) bQ).aB XF (by rw[zw4,zw];simp;omega) bQ;obtain⟨S,hS⟩:=aI w2.heap.size;refine aW (fun Z=>nG w R (gJ cf.ja cf.jn cf.jc cf.ga cf.gn cf.gc cf.per cf.cap cf.hold cf.lock) k D M E q q q N d3 lN es ea ec ra rs rc Z∧ah Z S 89 (Dx.cells d4).toArray∧ah Z (S+1) 36 (Mx.cells x4).toArray∧ah Z (S+1+1) 256 (kY (E q)).toArray∧dZ Z w.heap.size d4∧iI Z w.heap.size x4) ⟨hI.below (hb2.trans (bW.mono iT)),by rw[←hS];exact(kw.aB XE aF).aB XF cu,by rw[←hS];exact kw4.aB XF aF,by rw[←hS];exact kw5,(zI.below bW aA).mono uz,(yI.below bW aA).mono uz⟩ ?_;have hRS:R+1+1<S:=by have:=hI.kZ.lt;omega
         have axo: ∀b,lN.a.map (·.block)=some b→b<S:=fun b hb=>by have:=hI.oW.row.lt' b hb;omega
         rw[hS];clear hI kT hpay hG hHq kF kD zI yI hb2 k19 kw gw zw k20 kw4 XE zw4 k21 kw5 XF zw5 iT uz bW hS;rintro Z ⟨hI,kS,kM,kE,zI,yI⟩;have kD:=hI.kD
         go_upto_region 21 with(first|(refine Nu rfl 89 _ rfl S _ rfl kS 17 (wI d4) oh gZ ?_)|(refine xM rfl 89 _ _ rfl (R+1) _ (Dx.cells d4).toArray rfl rfl kD 17 (wI d4) (wI d3) gZ (C_ d4) ?_;intro W6 kw gw zw))
         refine aW (fun Z=>nG w R (gJ cf.ja cf.jn cf.jc cf.ga cf.gn cf.gc cf.per cf.cap cf.hold cf.lock) k D M E (q+1) q q N d4 lN es ea ec ra rs rc Z∧ah Z (S+1) 36 (Mx.cells x4).toArray∧ah Z (S+1+1) 256 (kY (E q)).toArray∧iI Z w.heap.size x4) ⟨hI.abf fQ kw gw hI.kF zI hk4.out,kM.aB gw cu,kE.aB gw cu,yI.aG gw kD ay ay⟩ ?_;clear hI kS kM kE zI yI kD kw gw zw;rintro Z ⟨hI,kM,kE,yI⟩;have ix0:(0:Int)<(k:Int):=by omega
         have hNr:Z.cell? ⟨N,0,none⟩=some (.slice lN.a lN.ms.length lN.c):=hI.oN.cell 0 Zn;have hZs:=hI.be.size;have hNS:N≠S+1:=fun e=>by subst e;exact hI.oN.iw kM ay rfl
         haveI:Nonempty (Jb (RpD N (.slice lN.a lN.ms.length lN.c) S (Mx.cells x4).toArray)):=⟨⟨Z,hNr,kM⟩⟩
         refine A7 9 [([0,1,2,3,4,5,6],7),([],8)] [] bP bP (fun w'=> ∃p:Jb (RpD N (.slice lN.a lN.ms.length lN.c) S (Mx.cells x4).toArray),w'=p.w) ⟨⟨Z.drew,hNr,kM⟩,rfl⟩ ?_;simp only[dV,mF,oH,jM,jO,EI,EJ];refine lS fun K hK=>?_;simp only[Act.put,pz,lh,jX]
         repeat(first|(refine gI rfl 58 _ rfl _ _ rfl (fun|_,⟨p,rfl⟩=>ar5 p.h.1 _ underlying58) ?_;refine dF ?_)|(refine gI rfl 36 _ rfl _ _ rfl (fun|_,⟨p,rfl⟩=>wC p.h.2 36 xK lZ) ?_;refine dF ?_)|go_big_quiet_step (fail))
         refine wpQuiet_nil ?_;have m4:=Gg x4
         go_wp2_with fail
         have bA:Below Z.heap.size Z (Z.drew.alloc (.cells (Mx.cells x4).toArray 36)):=bel;have hI2:=hI.below bA;have yJ:=kM.below bA kM.lt;have SN:(Z.drew.alloc (.cells (Mx.cells x4).toArray 36)).cell? ⟨N,0,none⟩=some (.slice lN.a lN.ms.length lN.c):=hI2.oN.cell 0 Zn;refine qJ ?_ (hK _ _ ?_)
         ·exact⟨⟨_,SN,yJ⟩,rfl⟩
         clear hK K;refine lS fun K hK=>?_;refine wpQuiet_nil ?_;have hrl:lN.ms.length=q:=by have:=congrArg List.length hI.rk;simpa [Rw.key]using this
         have wU:=ax hrl;clear hrl;have RQ:lN.ms.length≤900:=by rw[wU.out];omega
         have N8:=hI2.oW.row
         go_wp2_with ((at_builtin;refine zV rfl (.tmp 98) (.tmp 100) 58 36 4 80 rfl underlying58 Ut ay ay w.heap.size lN.a lN.ms.length lN.c _ rfl N8 Z.heap.size (Mx.cells x4) rfl (ah.new _ _ _) (Gg x4) (Ve x4) aj cu ?_;intro A2 c2 V2 kH di))
         have QV:=hI2.oN.aC di.1 N8 ay;have hN3:V2.cell? ⟨N,0,none⟩=some (.slice lN.a lN.ms.length lN.c):=QV.cell 0 Zn;have kM3:=yJ.aB di.1 (fun e=>by have:=axo _ e;omega);have kE3:=(kE.below bA kE.lt).aC di.1 N8 ay;refine qJ ?_ (hK _ _ ?_)
         ·exact⟨⟨_,hN3,kM3⟩,rfl⟩
         clear hK K;(refine lC ?_);have fz:=QV.frozen 0;have nl:N<V2.heap.size:=QV.lt' N rfl
         go_upto_region 22 with fail
         have yF:Own V2 w.heap.size 36 4 A2 (lN.ms++ [x4]).length c2 (gC Mx.cells (lN.ms++ [x4])):=by rw[yS,mP,Dj,iK,dP];exact kH
         have sF:=hI2.aaO hk1.1 di yF (yI.below bA aA) hx4.out;simp only[dP,jJ,List.length_nil,dX]at sF;refine aW (fun Z=>nG w R (gJ cf.ja cf.jn cf.jc cf.ga cf.gn cf.gc cf.per cf.cap cf.hold cf.lock) k D M E (q+1) (q+1) q N d4 ⟨lN.ms++ [x4],A2,c2⟩ es ea ec ra rs rc Z∧ah Z (S+1+1) 256 (kY (E q)).toArray) ⟨sF,kE3.aB (grownBy_set V2 N 0 _) (fun e=>by injection e with e;subst e;exact QV.iw kE3 ay rfl)⟩ ?_;clear hI hI2 sF kM yJ kM3 kE kE3 yI SN hN3 hNr QV kH yF di fz nl N8 bA hZs hNS;rintro Z ⟨hI,kE⟩;have e3:=aim (E q);have hel:es.length=q:=by have:=congrArg List.length hI.ek;simpa using this
         have HEL:=ax hel;clear hel;have he9:es.length≤900:=by rw[HEL.out];omega
         have aj8:=hI.oE.alloc (.cells (kY (E q)).toArray 256);have hZs:=hI.be.size
         go_upto_region 23 with(first|(refine gy kE PH Ep ?_)|(at_builtin;refine zV rfl (.tmp 103) (.tmp 105) 207 256 3 24 rfl underlying207 afU ay ay w.heap.size ea es.length ec _ rfl aj8 Z.heap.size (kY (E q)) rfl (ah.new _ _ _) (aim _) (ain _) aj cu ?_;intro A3 c3 V3 yF vw))
         have bA:Below Z.heap.size Z (Z.alloc (.cells (kY (E q)).toArray 256)):=bel;have L8:Own V3 w.heap.size 256 3 A3 (es++ [E q]).length c3 (gC kY (es++ [E q])):=by rw[yS,mP,Dj,iK,dP];exact yF
         have sF:=(hI.below bA).entry vw L8;refine aW (fun Z=>nG w R (gJ cf.ja cf.jn cf.jc cf.ga cf.gn cf.gc cf.per cf.cap cf.hold cf.lock) k D M E (q+1) (q+1) (q+1) N d4 ⟨lN.ms++ [x4],A2,c2⟩ (es++ [E q]) A3 c3 ra rs rc Z) sF ?_;clear hI kE aj8 hZs yF vw bA L8 sF;intro Z hI;by_cases OT:0≤rv
         ·have hqn:q+1=xs.length:=by
           rcases Nat.lt_or_ge (q+1) xs.length with h|h
           ·have:=HR.out q h;rw[HRV.out]at this;omega
           ·omega
          have hnil:zo Rs q= []:=atw fun j hj=>HR.out j aj;have hrs:=vY.out.trans hnil;obtain⟨rfl,rfl⟩:=BZ.out hrs;subst hrs;have axp:=hI.oR.alloc (.cells #[ae rv] 3);have hZs:=hI.be.size
          go_wp2_with ((at_builtin;refine zV rfl (.tmp 109) (.tmp 111) 22 3 1 8 rfl underlying22 YP ay ay w.heap.size none 0 0 _ rfl axp Z.heap.size [ae rv] rfl (ah.new _ _ _) rfl (Bg [rv]) aj cu ?_;intro A4 c4 V4 L8 xh))
          have bA:Below Z.heap.size Z (Z.alloc (.cells #[ae rv] 3)):=bel;have w_:=(hI.below bA).reset xh (show Own V4 w.heap.size 3 1 A4 [rv].length c4 ([rv].map encI) from L8);go_roundw
          case rel=>exact⟨q+1,d4,⟨lN.ms++ [x4],A2,c2⟩,es++ [E q],A3,c3,A4,[rv],c4,by go_num,by omega,by simp,rfl,ax (by rw[ahv,hnil,HRV.out,if_pos OT];rfl),ax (fun h=>by cases h),w_⟩
          case measure=>simp[intOf];omega
         ·have aj9:zo Rs (q+1)=zo Rs q:=by rw[ahv,HRV.out,if_neg OT,iK]
          have axq:=ax (vY.out.trans aj9.symm);clear aj9
          go_wp2_with fail
          go_roundw
          case rel=>exact⟨q+1,d4,⟨lN.ms++ [x4],A2,c2⟩,es++ [E q],A3,c3,ra,rs,rc,by go_num,by omega,by simp,rfl,axq,BZ,hI⟩
          case measure=>simp[intOf];omega
        ·obtain rfl:xs.length=q:=by omega
         go_wp2_with fail
         go_roundw
         case rel=>exact⟨1,xs.length,d3,lN,es,ea,ec,ra,rs,rc,by go_num,by omega,rfl,rfl,ax ⟨fun h=>by omega,fun _=>rfl⟩,vY,BZ,hI⟩
         case measure=>simp[intOf];omega
     ·have hop:=LK.out i hil aj;rw[hop]at y0;have Rt:=HQ.out.2 aj
      go_wp2_with fail
      go_roundw
      case rel=>exact⟨i+1,q,d2,yH,es,ea,ec,ra,rs,rc,by go_num,by omega,rfl,rfl,ax ⟨fun h=>by omega,fun _=>Rt⟩,vY,BZ,hI⟩
      case measure=>simp[intOf];omega
    ·obtain rfl:k=i:=by omega
     have hq:=HQ.out.2 hk1.1;subst hq;have hG:=hI.oD.g (by rw[hI.key];exact zJ.out _ aA);obtain⟨q1,q2,q3⟩:=hG.Oj;obtain⟨kF,kD,kZ,oD,key,oN,oW,rk,oE,ek,oR,be⟩:=hI;obtain⟨⟨num,sec,sb,sd,rt,cl,lim,la,lc,rq,se,RG,bu,tk,tb,td,vh,vb,vd,lv⟩,qs,qa,qc,dr,db,dd,au,aa,ac⟩:=d2;simp only at q1 q2 q3;have lY:=kD;simp only[Dx.cells]at lY;have HKEY:=ax key;have HRK:=ax rk;have HEK:=ax ek;clear key rk ek hi hlt;(obtain⟨x0,x1,x2,x3,x4,x5,x6,x7,x8,x9,x10,x11,x12,dh,x14,x15,x16,xf,xl⟩:=lY.n17)
     go_upto_region 28 with((go_at_call 162;(with_reducible refine(apm qa qs qs.length qc now wr q1 rfl aj (fun r hr=>(q3 r hr).1)).mono ?_);rintro e w3 ⟨xa,xc,l3,rfl,hk3,hn3,L6,hb3⟩;((clear x0 x1 x2 x3 x4 x5 x6 x7 x8 x9 x10 x11 x12 dh x14 x15 x16 xf xl);replace lY:=lY.below hb3 lY.lt;(obtain⟨x0,x1,x2,x3,x4,x5,x6,x7,x8,x9,x10,x11,x12,dh,x14,x15,x16,xf,xl⟩:=lY.n17))))
     (clear x0 x1 x2 x3 x4 x5 x6 x7 x8 x9 x10 x11 x12 dh x14 x15 x16 xf xl);have gS:=grownBy_set w3 (R+1) 14 (.slice xa qs.length xc);have jk:=lY.upd 14 (.slice xa qs.length xc);have nD:=(kZ.below hb3 kZ.lt).aB gS aF;have hZs:=be.size;have BV:=hb3.size;have He:=(oD.below hb3 aA).aG gS lY ay;have LP:=L6.own.aG gS lY ay;have oG3:=fun r hr=>(L6.dH r hr).aG gS lY ay;have oN3:=(oN.below hb3 aA).aG gS lY ay;have oW3:=(oW.below hb3 aA).aG gS lY ay ay ay;have XG:=(oE.below hb3 aA).aG gS lY ay;have yE:=(oR.below hb3 aA).aG gS lY ay;have eH:=(be.trans (hb3.mono hZs)).aB gS aj bQ
     go_wp2_with (first|(refine gy jk oh gZ ?_)|(refine dw #[ae num,.slice sb sec.length sd,ae rt,ae cl,.slice la lim.length lc,ae rq,ae se,ae RG,ae bu,.slice tb tk.length td,.slice vb vh.length vd,ae lv,ae RG,ae bu,.slice xa qs.length xc,.slice db dr.length dd,.slice aa au.length ac] nD gZ ?_;intro W' kw gw zw))
     refine anV 8 89 9 10 11 (v1:= .slice (some ⟨N,0,none⟩) k k) (v2:= .slice ea es.length ec) (v3:= .slice ra rs.length rc) results138 rfl rfl rfl rfl kw 17 rfl oh gZ rfl ?_;have zI:=He.aG gw nD ay;have hkk:=HKEY.out;refine⟨⟨⟨num,sec,sb,sd,rt,cl,lim,la,lc,rq,se,RG,bu,tk,tb,td,vh,vb,vd,lv⟩,l3,xa,xc,dr,db,dd,au,aa,ac⟩,N,yH,ea,es.length,ec,ra,rs.length,rc,by simp only[Dx.cells,hn3.out],ax (by rw[HEK.out]),ax (by rw[vY.out]),ax ?_,⟨zI.r,(LP.aG gw nD ay).mono hZs,fun r hr=>((oG3 r hr).aG gw nD ay).mono hZs,zI.dr,zI.ds,zI.au⟩,oN3.aG gw nD ay,oW3.aG gw nD ay ay ay,HRK,by rw[←HEK.out];exact XG.aG gw nD ay,by rw[←vY.out];exact yE.aG gw nD ay,eH.aB gw (by have:=gS.size;omega) bQ⟩;rw[←hkk];simp only[Dx.key,hk3.out];rfl
section
variable{w w':ak}{B:Nat}{row:Option Nat}
theorem iM.turn{r:Rx}(h:iM w B r)(hg:w.grownBy w' row)(hr: ∀k,row=some k→∃o:Obj,w.heap[k]?=some o∧o.isCells=false):iM w' B r:=⟨h.sec.turn hg hr,h.lim.turn hg hr,h.tk.turn hg hr,fun t ht=>(h.qG t ht).turn hg hr,h.vh.turn hg hr⟩
theorem dZ.turn{d:Dx}(h:dZ w B d)(hg:w.grownBy w' row)(hr: ∀k,row=some k→∃o:Obj,w.heap[k]?=some o∧o.isCells=false):dZ w' B d:=⟨h.r.turn hg hr,h.rs.turn hg hr,fun t ht=>(h.lg t ht).turn hg hr,h.dr.turn hg hr,fun t ht=>(h.ds t ht).turn hg hr,h.au.turn hg hr⟩
theorem iR.turn{s:Sx}(h:iR w B s)(hg:w.grownBy w' row)(hr: ∀k,row=some k→∃o:Obj,w.heap[k]?=some o∧o.isCells=false):iR w' B s:=⟨h.ls.turn hg hr,h.nx.turn hg hr⟩
theorem fZ.turn{s:Vc}(h:fZ w B s)(hg:w.grownBy w' row)(hr: ∀k,row=some k→∃o:Obj,w.heap[k]?=some o∧o.isCells=false):fZ w' B s:=⟨h.en.turn hg hr⟩
theorem jH.turn{s:Vx}(h:jH w B s)(hg:w.grownBy w' row)(hr: ∀k,row=some k→∃o:Obj,w.heap[k]?=some o∧o.isCells=false):jH w' B s:=⟨h.cs.turn hg hr,h.ns.turn hg hr⟩
theorem dE.turn{c:Cx}(h:dE w B c)(hg:w.grownBy w' row)(hr: ∀k,row=some k→∃o:Obj,w.heap[k]?=some o∧o.isCells=false):dE w' B c:=
 ⟨h.ds.turn hg hr,fun d hd=>(h.qV d hd).turn hg hr,h.ss.turn hg hr,fun d hd=>(h.sV d hd).turn hg hr,h.vs.turn hg hr,fun d hd=>(h.uk d hd).turn hg hr,h.st.turn hg hr,h.ws.turn hg hr,fun d hd=>(h.r_ d hd).turn hg hr,h.zF,h.yz,h.yA,h.yC⟩
theorem iI.turn{m:Mx}(h:iI w B m)(hg:w.grownBy w' row)(hr: ∀k,row=some k→∃o:Obj,w.heap[k]?=some o∧o.isCells=false):iI w' B m:=⟨h.tok.turn hg hr,h.args.turn hg hr,h.dat.turn hg hr⟩
theorem jm.turn{r:Rw}(h:jm w B r)(hg:w.grownBy w' row)(hr: ∀k,row=some k→∃o:Obj,w.heap[k]?=some o∧o.isCells=false):jm w' B r:=⟨h.row.turn hg hr,fun m hm=>(h.it m hm).turn hg hr⟩
end
theorem auS{a:Act}(hgd:o.guard=none)(s x:Operand)(T E:aK)(k:Nat)
  (ho:o.op= .call {callee:= .builtin .append,args:= #[s,x],argTypes:= #[T,T]}) (hu:prog.underlying T=some (.slice E)) (hik:(prog.info? E).map (fun i=>i.size)=some k)
  (A:az) (n c:Nat) (hs:a.eval s= .slice A n c) (hle:n≤c) (B:az) (d:Nat) (hx:a.eval x= .slice B 0 d)
  (h:wpList prog ops Q rest (a.put o.dst (.slice A n c)) w):wpList prog ops Q (o::rest) a w:=by
 refine wpList_plain hgd fun K hK=>?_;have hsz: ∀w,(sizeOf E).run prog w= .ok k w:=fun w=>by
  cases hq:prog.info? E with
  |none=>rw[hq]at hik;cases hik
  |some i0=>
   rw[hq]at hik;simp only[Option.map_some,Option.some.injEq]at hik;simp[go_sem,sizeOf,typeInfo,hq,hik]
 have hrun:(Builtin.append_ #[T,T] o.type #[.slice A n c,.slice B 0 d]).run prog w= .ok (.slice A n c) w:=by
  unfold Builtin.append_;simp[go_sem,underlying,hu,hsz,Builtin.lenOf,Builtin.firstCells,hle];cases B<;>cases A<;>simp[go_sem,storeCells]
 unfold Oper.wp execOp;simp only[ho,resolve,invoke,builtin,Sem.run_bind,Sem.run_pure,Result.andThen_ok,List.map_toArray,mF,oH,hs,hx,hrun];exact hK _ _ h
def EM(w w':ak):Prop:= ∀b t cs,ah w b t cs→89≠t→ah w' b t cs
theorem EM.below(h:EM w w1)(hb:Below w1.heap.size w1 w'):EM w w':=fun b t cs k ht=>by
 have:=h b t cs k ht;exact this.below hb this.lt
structure vZ(w:ak)(B:Nat)(c:Cx)(K:List dY)(l:List Dx)(wr:ak):Prop where
 cl:dE wr B {c with ds:=l}
 len:l.length=c.ds.length
 keys:l.map Dx.key=K
 be:Below B w wr
 kept:EM w wr
theorem vZ.below{c:Cx}{K:List dY}{l:List Dx}(h:vZ w B c K l wr)(hb:Below wr.heap.size wr W)(hB:B≤w.heap.size):vZ w B c K l W:=
 ⟨h.cl.below hb aA,h.len,h.keys,h.be.trans (hb.mono (dA hB h.be.size)),h.kept.below hb⟩
theorem vZ.set{c:Cx}{K:List dY}{l:List Dx}(h:vZ w B c K l wr)(hB:B≤w.heap.size){g:Nat}(hg:c.da=some ⟨g,0,none⟩)(hi:i<l.length){y:Dx}(hW:W=jy wr g (i*17) (Dx.cells y))(hy:dZ wr B y)(ap:Apart c.ta y.r.la):vZ w B c (K.set i y.key) (l.set i y) W:=by
 have gr:=gm g (Dx.cells y) wr (i*17);rw[←hW]at gr;have own:=h.cl.ds;simp only at own;rw[hg]at own;have hsz:=h.be.size;exact⟨h.cl.awm hg hi hW hy ap,by rw[iQ];exact h.len,by rw[List.map_set,h.keys],h.be.aC (xa:=some ⟨g,0,none⟩) gr own aj aA,fun b t cs q ht=>(h.kept b t cs q ht).aC (xa:=some ⟨g,0,none⟩) gr own ht⟩
structure Rr where
 rs:List Rw
 a:az
 c:Nat
def Rr.cells(r:Rr):aP:= [.slice r.a r.rs.length r.c]
theorem Qh(x:Rr):(Rr.cells x).length=1:=rfl
def rrZ:Rr:=⟨[],none,0⟩
theorem asa:(prog.info? 163).map (fun i=>(i.zero,i.size,i.bytes))=some (some (.slice none 0 0),1,24):=by kernel_rfl
structure sG(w:ak)(B k:Nat)(Ms:List aU)(r:Rr):Prop where
 len:r.rs.length=k
 row:Own w B 58 1 r.a k r.c (gC Rw.cells r.rs)
 it: ∀x∈r.rs,jm w B x
 keys:r.rs.map Rw.key=Ms::List.replicate (k -1) []
section
variable{w w':ak}{B k:Nat}{Ms:List aU}{r:Rr}
theorem sG.below(h:sG w C k Ms r)(hb:Below B w w')(hB:w.heap.size≤B):sG w' C k Ms r:=⟨h.len,h.row.below hb hB,fun x hx=>(h.it x hx).below hb hB,h.keys⟩
theorem sG.turn{row:Option Nat}(h:sG w B k Ms r)(hg:w.grownBy w' row)(hr: ∀k,row=some k→∃o:Obj,w.heap[k]?=some o∧o.isCells=false):sG w' B k Ms r:=⟨h.len,h.row.turn hg hr,fun x hx=>(h.it x hx).turn hg hr,h.keys⟩
theorem sG.aC(h:sG w B k Ms r)(hg:w.grownBy w' (xa.map (·.block)))(o:Own w B t sz' xa n' c' ys)(h9:t≠58)(h0:t≠36)(h1:t≠5)(h2:t≠3):sG w' B k Ms r:=⟨h.len,h.row.aC hg o h9.symm,fun x hx=>(h.it x hx).aC hg o h0 h1 h2,h.keys⟩
end
theorem EM.turn{row:Option Nat}(h:EM w w1)(hg:w1.grownBy w' row)(hr: ∀k,row=some k→∃o:Obj,w1.heap[k]?=some o∧o.isCells=false):EM w w':=fun b t cs k ht=>(h b t cs k ht).turn hg hr
theorem vZ.turn{c:Cx}{K:List dY}{l:List Dx}{row:Option Nat}(h:vZ w B c K l wr)(hB:B≤w.heap.size)(hg:wr.grownBy W row)(hr: ∀k,row=some k→B≤k∧∃o:Obj,wr.heap[k]?=some o∧o.isCells=false):vZ w B c K l W:=
 ⟨h.cl.turn hg fun k e=>(hr k e).2,h.len,h.keys,h.be.grown hg (dA hB h.be.size) fun k e=>(hr k e).1,h.kept.turn hg fun k e=>(hr k e).2⟩
structure lQ(w:ak)(R B:Nat)(rP:aZ)(inp:Value)(c:Cx)(K:List dY)(nd N q:Nat)(Ms:Nat→List aU)(kk:Nat→Nat)(l:List Dx)(rr:List Rr)(es:List (Int × Int × Int))(ea:az)(ec:Nat)(rs:aO)(ra:az)(rc U:Nat)(gV:List Deferred)(wr:ak):Prop where
 ai:vZ w B c K l wr
 kR:ah wr R 45 rP
 kN:ah wr (R+1) 158 #[inp]
 rl:rr.length=nd
 oM:Own wr w.heap.size 163 1 (some ⟨N,0,none⟩) nd nd (gC Rr.cells rr)
 rk: ∀i (h:i<rr.length),i<q→sG wr w.heap.size (kk i) (Ms i) rr[i]
 oE:Own wr w.heap.size 256 3 ea es.length ec (gC kY es)
 oR:Own wr w.heap.size 3 1 ra rs.length rc (rs.map encI)
 ms:Marks w.heap.size U wr gV
section
variable{w:ak}{R B:Nat}{rP:aZ}{inp:Value}{c:Cx}{K:List dY}{nd N q:Nat}{Ms:Nat→List aU}{kk:Nat→Nat}{l:List Dx}{rr:List Rr}{es:List (Int × Int × Int)}{ea:az}{ec:Nat}{rs:aO}{ra:az}{rc U:Nat}{gV:List Deferred}{wr W:ak}
theorem lQ.below(h:lQ w R B rP inp c K nd N q Ms kk l rr es ea ec rs ra rc U gV wr)(hB:B≤w.heap.size)(hb:Below wr.heap.size wr W):lQ w R B rP inp c K nd N q Ms kk l rr es ea ec rs ra rc U gV W:=
 ⟨h.ai.below hb hB,h.kR.below hb h.kR.lt,h.kN.below hb h.kN.lt,h.rl,h.oM.below hb aA,fun i hi hq=>(h.rk i hi hq).below hb aA,h.oE.below hb aA,h.oR.below hb aA,h.ms.keep aA fun D _ hd=>hb.block D (lX.1 hd).1⟩
theorem lQ.turn{row:Option Nat}(h:lQ w R B rP inp c K nd N q Ms kk l rr es ea ec rs ra rc U gV wr)(hB:B≤w.heap.size)(hC:B≤C)(hU:U≤C)(hg:wr.grownBy W row)(hr: ∀r,row=some r→C≤r∧∃o:Obj,wr.heap[r]?=some o∧o.isCells=false):lQ w R B rP inp c K nd N q Ms kk l rr es ea ec rs ra rc U gV W:=
 ⟨h.ai.turn hB hg fun k e=>⟨dA hC (hr k e).1,(hr k e).2⟩,h.kR.turn hg fun r e=>(hr r e).2,h.kN.turn hg fun r e=>(hr r e).2,h.rl,h.oM.turn hg fun r e=>(hr r e).2,fun i hi hq=>(h.rk i hi hq).turn hg fun r e=>(hr r e).2,h.oE.turn hg fun r e=>(hr r e).2,h.oR.turn hg fun r e=>(hr r e).2,
  h.ms.keep aA fun D hD hd=>hg.block D (lX.1 hd).1 fun e=>Zi⟩
end
section
variable{w:ak}{R B:Nat}{rP:aZ}{inp:Value}{c:Cx}{K:List dY}{nd N q:Nat}{Ms:Nat→List aU}{kk:Nat→Nat}{l:List Dx}{rr:List Rr}{es:List (Int × Int × Int)}{ea:az}{ec:Nat}{rs:aO}{ra:az}{rc U U':Nat}{gV:List Deferred}{wr W:ak}
theorem lQ.up(h:lQ w R B rP inp c K nd N q Ms kk l rr es ea ec rs ra rc U gV wr)(hU:U≤U'):lQ w R B rP inp c K nd N q Ms kk l rr es ea ec rs ra rc U' gV wr:=⟨h.ai,h.kR,h.kN,h.rl,h.oM,h.rk,h.oE,h.oR,h.ms.keep hU fun _ _ _=>rfl⟩
end
def xx:Ix:=⟨false,[],none,0⟩
def BJ(ins:List Ix)(b:Nat)(xs:b_):List Ix:=xs.map fun x=>ins.getD (b+x) xx
def axv(c:Cx)(B:Nat)(T1:List dY)(kk:Nat→Nat)(Ms:Nat→List aU)(Es:List (Int × Int × Int))(Rl:aO)(w:ak)(e:Ending)(w':ak):Prop:=
 ∃(l:List Dx) (rr:List Rr) (N:Nat) (ea:az) (en ec:Nat) (ra:az) (rn rc:Nat),e= .returned (.tuple #[.slice (some ⟨N,0,none⟩) c.ds.length c.ds.length,.slice ea en ec,.slice ra rn rc])∧Hid (en=Es.length)∧Hid (rn=Rl.length)∧vZ w B c T1 l w'∧Hid (rr.length=c.ds.length)∧
  Own w' w.heap.size 163 1 (some ⟨N,0,none⟩) c.ds.length c.ds.length (gC Rr.cells rr)∧(∀i (h:i<rr.length),sG w' w.heap.size (kk i) (Ms i) rr[i])∧Own w' w.heap.size 256 3 ea en ec (gC kY Es)∧Own w' w.heap.size 3 1 ra rn rc (Rl.map encI)
theorem dE.aC{c:Cx}(h:dE w B c)(hg:w.grownBy w' (xa.map (·.block)))(x:Own w B' t sz' xa n' c' ys)(hne:t ∉ KG):dE w' B c:=by
 have ne: ∀e∈KG,e≠t:=fun e he q=>hne (q▸he);have hd:t ∉ Gq:=fun q=>hne (List.mem_append_left _ q);have hi:t≠3:=(ne 3 ay).symm;exact⟨h.ds.aC hg x (ne _ ay),fun d hd'=>(h.qV d hd').aC hg x hd,h.ss.aC hg x (ne _ ay),fun d hd'=>(h.sV d hd').aC hg x (ne 194 ay).symm hi,h.vs.aC hg x (ne _ ay),fun d hd'=>(h.uk d hd').aC hg x hi,
  h.st.aC hg x (ne _ ay),h.ws.aC hg x (ne _ ay),fun d hd'=>(h.r_ d hd').aC hg x hi,h.zF,h.yz,h.yA,h.yC⟩
theorem EM.aC(h:EM w w1)(hg:w1.grownBy w' (xa.map (·.block)))(x:Own w1 B' t sz' xa n' c' ys)(hB:w.heap.size≤B'):EM w w':=fun b e cs k he=>
 (h b e cs k he).aB hg fun q=>by have:=x.dW b q;have:=k.lt;omega
theorem vZ.aC{c:Cx}{K:List dY}{l:List Dx}(h:vZ w B c K l wr)(hg:wr.grownBy W (xa.map (·.block)))(x:Own wr B' t sz' xa n' c' ys)(hne:t ∉ KG)(hB:B≤w.heap.size)(hB':w.heap.size≤B'):vZ w B c K l W:=
 ⟨h.cl.aC hg x hne,h.len,h.keys,h.be.aC hg x (dA hB h.be.size) (dA hB hB'),h.kept.aC hg x hB'⟩
theorem Marks.aC(h:Marks w.heap.size U wr gV)(hg:wr.grownBy W (xa.map (·.block)))(x:Own wr B' t sz' xa n' c' ys):Marks w.heap.size U W gV:=
 h.keep aA fun D hD hd=>hg.block D (lX.1 hd).1 fun e=>by
  rcases x.2 with⟨hv,_⟩|⟨g,cp,cur,hv,_,hg',_⟩
  ·injection hv with h1;rw[h1]at e;cases e
  ·injection hv with h1 _ _
   rw[h1]at e;have e:D=g:=by simpa using e
   rw[e,hg']at hd;cases hd
section
variable{w:ak}{R B:Nat}{rP:aZ}{inp:Value}{c:Cx}{K:List dY}{nd N q:Nat}{Ms:Nat→List aU}{kk:Nat→Nat}{l:List Dx}{rr:List Rr}{es:List (Int × Int × Int)}{ea:az}{ec:Nat}{rs:aO}{ra:az}{rc U U':Nat}{gV:List Deferred}{wr W:ak}
theorem iI.Gu{w:ak}{B:Nat}{m:Mx}(h:iI w B m)(hg:w.grownBy w' (xa.map (·.block)))(o:Own w B' t sz' xa n' c' ys)(h1:t≠5)(h2:t≠3):iI w' B m:=⟨h.tok.aC hg o h1.symm,h.args.aC hg o h2.symm,h.dat.aC hg o h1.symm⟩
theorem jm.Gu{w:ak}{B:Nat}{r:Rw}(h:jm w B r)(hg:w.grownBy w' (xa.map (·.block)))(o:Own w B' t sz' xa n' c' ys)(h0:t≠36)(h1:t≠5)(h2:t≠3):jm w' B r:=⟨h.row.aC hg o h0.symm,fun m hm=>(h.it m hm).Gu hg o h1 h2⟩
theorem sG.Gu{w:ak}{B:Nat}{Ms:List aU}{r:Rr}(h:sG w B k Ms r)(hg:w.grownBy w' (xa.map (·.block)))(o:Own w B' t sz' xa n' c' ys)(h9:t≠58)(h0:t≠36)(h1:t≠5)(h2:t≠3):sG w' B k Ms r:=⟨h.len,h.row.aC hg o h9.symm,fun x hx=>(h.it x hx).Gu hg o h0 h1 h2,h.keys⟩
theorem lQ.abf(h:lQ w R B rP inp c K nd N q Ms kk l rr es ea ec rs ra rc U gV wr)(hB:B≤w.heap.size){g:Nat}(hg:c.da=some ⟨g,0,none⟩)(hi:i<l.length){y:Dx}(hW:W=jy wr g (i*17) (Dx.cells y))(hy:dZ wr B y)(ap:Apart c.ta y.r.la):lQ w R B rP inp c (K.set i y.key) nd N q Ms kk (l.set i y) rr es ea ec rs ra rc U gV W:=by
 have gr:=gm g (Dx.cells y) wr (i*17);rw[←hW]at gr;have own:=h.ai.cl.ds;simp only at own;rw[hg]at own;exact⟨h.ai.set hB hg hi hW hy ap,h.kR.aC (xa:=some ⟨g,0,none⟩) gr own ay,h.kN.aC (xa:=some ⟨g,0,none⟩) gr own ay,h.rl,h.oM.aC (xa:=some ⟨g,0,none⟩) gr own ay,fun j hj hq=>(h.rk j hj hq).Gu (xa:=some ⟨g,0,none⟩) gr own ay ay ay ay,
  h.oE.aC (xa:=some ⟨g,0,none⟩) gr own ay,h.oR.aC (xa:=some ⟨g,0,none⟩) gr own ay,h.ms.aC (xa:=some ⟨g,0,none⟩) gr own⟩
theorem lQ.aaO(h:lQ w R B rP inp c K nd N q Ms kk l rr es ea ec rs ra rc U gV wr)(hB:B≤w.heap.size)(hq:q<rr.length){y:Rr}(hy:sG wr w.heap.size (kk q) (Ms q) y):lQ w R B rP inp c K nd N (q+1) Ms kk l (rr.set q y) es ea ec rs ra rc U gV (wr.setCell ⟨N,q,none⟩ (.slice y.a y.rs.length y.c)):=by
 have gr:=grownBy_set wr N q (.slice y.a y.rs.length y.c);have own:=h.oM;refine⟨h.ai.aC (xa:=some ⟨N,0,none⟩) gr own ay hB aA,h.kR.aC (xa:=some ⟨N,0,none⟩) gr own ay,h.kN.aC (xa:=some ⟨N,0,none⟩) gr own ay,by rw[iQ];exact h.rl,?_,fun j hj hq'=>?_,
  h.oE.aC (xa:=some ⟨N,0,none⟩) gr own ay,h.oR.aC (xa:=some ⟨N,0,none⟩) gr own ay,h.ms.aC (xa:=some ⟨N,0,none⟩) gr own⟩
 ·have e:=Nz Qh rr q hq y 0 (.slice y.a y.rs.length y.c) ay (by rfl);rw[Nat.mul_one,iV]at e;rw[e];exact own.set q _
 ·rw[List.getElem_set]
  split
  ·next e=>subst e;exact hy.aC (xa:=some ⟨N,0,none⟩) gr own ay ay ay ay
  ·exact(h.rk j (by simpa using hj) aj).aC (xa:=some ⟨N,0,none⟩) gr own ay ay ay ay
theorem lQ.entry(h:lQ w R B rP inp c K nd N q Ms kk l rr es ea ec rs ra rc U gV wr)(hB:B≤w.heap.size){es2:List (Int × Int × Int)}(gr:Grew w.heap.size wr W ea A2)(oA:Own W w.heap.size 256 3 A2 es2.length c2 (gC kY es2)):lQ w R B rP inp c K nd N q Ms kk l rr es2 A2 c2 rs ra rc U gV W:=by
 have own:=h.oE;exact⟨h.ai.aC gr.1 own ay hB aA,h.kR.aC gr.1 own ay,h.kN.aC gr.1 own ay,h.rl,h.oM.aC gr.1 own ay,fun j hj hq'=>(h.rk j hj hq').aC gr.1 own ay ay ay ay,oA,h.oR.aC gr.1 own ay,h.ms.aC gr.1 own⟩
theorem lQ.reset(h:lQ w R B rP inp c K nd N q Ms kk l rr es ea ec rs none rc U gV wr)(hB:B≤w.heap.size){JC:aO}(gr:Grew w.heap.size wr W none A2)(oA:Own W w.heap.size 3 1 A2 JC.length c2 (JC.map encI)):lQ w R B rP inp c K nd N q Ms kk l rr es ea ec JC A2 c2 U gV W:=by
 have hb:Below wr.heap.size wr W:=⟨gr.1.os,gr.1.tape,gr.1.output,gr.1.size,fun k hk=>gr.1.block k hk aF⟩;have:=h.below hB hb;exact⟨this.ai,this.kR,this.kN,this.rl,this.oM,this.rk,this.oE,oA,this.ms⟩
end
theorem P_{F:Fence}{Nn:Nat}{a:Act}(hgd:o.guard=none)(s x:Operand)(T E:aK)(k bytes:Nat)
  (ho:o.op= .call {callee:= .builtin .append,args:= #[s,x],argTypes:= #[T,T]}) (hu:prog.underlying T=some (.slice E))
  (hik:(prog.info? E).map (fun i=>(i.zero.isSome,i.zero.map (fun z=>z.cells.size),i.size,i.bytes))=some (true,some k,k,bytes)) (hk:0<k) (hby:bytes≤10000)
  (base:Nat) (A:az) (n c:Nat) (xs:aP) (hs:a.eval s= .slice A n c) (own:Own w base E k A n c xs) (g:Nat) (cells:aP) (hx:a.eval x= .slice (some ⟨g,0,none⟩) 1 1) (hg:ah w g E cells.toArray) (hl:cells.length=k)
  (h1: ∀u∈cells,u.oneCell'=true) (hn:n≤100000) (hbase:base≤w.heap.size)
  (h: ∀A' c' W',Own W' base E k A' (n+1) c' (xs++cells)→Grew base w W' A A'→wpListIn F Nn prog ops Q rest (a.put o.dst (.slice A' (n+1) c')) W'):wpListIn F Nn prog ops Q (o::rest) a w:=by
 cases hq:prog.info? E with
 |none=>rw[hq]at hik;cases hik
 |some i0=>
  rw[hq]at hik;simp only[Option.map_some,Option.some.injEq,Prod.mk.injEq]at hik;obtain⟨k1,k2,k3,k4⟩:=hik;cases hz:i0.zero with
  |none=>rw[hz]at k1;cases k1
  |some z=>
   rw[hz]at k2;simp at k2;refine Pm hgd s x T ho base E i0 z k bytes hu hq hz k3 k4 k2 hk A n c xs hs (some ⟨g,0,none⟩) 1 1 hx own cells aj ?_ h1 Ii ?_ hbase h
   ·refine .inr ⟨g,0,rfl,hg.lt,fun i hi=>?_⟩;rw[hg.cell];simp[hi]
   ·have:(n+1)*bytes≤100001*10000:=Nat.mul_le_mul aj hby;omega
theorem agb:(prog.info? 160).map (fun i=>(i.zero.isSome,i.zero.map (fun z=>z.cells.size),i.size,i.bytes))=some (true,some 2,2,32):=by kernel_rfl
theorem aiq(x:Ix): ∀u∈Ix.cells x,u.oneCell'=true:=by intro u hu;simp only[Ix.cells,List.mem_cons,o_,or_false]at hu;rcases hu with rfl|rfl<;>rfl
theorem asb(ins:List Ix)(b:Nat)(xs:b_)(x:Nat):BJ ins b (xs++ [x])=BJ ins b xs++ [ins.getD (b+x) xx]:=by simp[BJ]
structure FP(T:dY)(k:Nat)(Ms:List aU)(Es:List (Int × Int × Int))(Rl:aO)(S X:Nat)(d:Dx)(N:Nat)(rw:Rw)(ea:az)(en ec:Nat)(ra:az)(rn rc:Nat)(wx:ak):Prop where
 kX:ah wx X 89 (Dx.cells d).toArray
 en_:en=Es.length
 rn_:rn=Rl.length
 key:d.key=T
 oD:dZ wx S d
 oN:Own wx S 58 1 (some ⟨N,0,none⟩) k k (gC Rw.cells (rw::List.replicate (k -1) uC))
 oW:jm wx S rw
 rk:rw.key=Ms
 oE:Own wx S 256 3 ea en ec (gC kY Es)
 oR:Own wx S 3 1 ra rn rc (Rl.map encI)
section
variable{T:dY}{k:Nat}{Ms:List aU}{Es:List (Int × Int × Int)}{Rl:aO}{S S' X:Nat}{d:Dx}{N:Nat}{rw:Rw}{ea:az}{en ec:Nat}{ra:az}{rn rc:Nat}{wx W:ak}
theorem FP.mono(h:FP T k Ms Es Rl S X d N rw ea en ec ra rn rc wx)(hS:S'≤S):FP T k Ms Es Rl S' X d N rw ea en ec ra rn rc wx:=⟨h.kX,h.en_,h.rn_,h.key,h.oD.mono hS,h.oN.mono hS,h.oW.mono hS,h.rk,h.oE.mono hS,h.oR.mono hS⟩
theorem FP.rr(h:FP T k Ms Es Rl S X d N rw ea en ec ra rn rc wx)(hk:1≤k):sG wx S k Ms ⟨rw::List.replicate (k -1) uC,some ⟨N,0,none⟩,k⟩:=by
 have hl:(rw::List.replicate (k -1) uC).length=k:=by simp;omega
 refine⟨hl,h.oN,fun x hx=>?_,?_⟩
 ·rcases List.mem_cons.1 hx with rfl|hx
  ·exact h.oW
  ·rw[(List.mem_replicate.1 hx).2];exact⟨Own.nil _ _ _ _,fun m hm=>by cases hm⟩
 ·simp only[mF,h.rk,List.map_replicate];rfl
theorem FP.awt{g:Nat}(h:FP T k Ms Es Rl S X d N rw ea en ec ra rn rc wx)(hg:wx.grownBy W (some g))(x:Own wx B' 89 17 (some ⟨g,0,none⟩) n c ys):
  sG wx S k Ms ⟨rw::List.replicate (k -1) uC,some ⟨N,0,none⟩,k⟩→sG W S k Ms ⟨rw::List.replicate (k -1) uC,some ⟨N,0,none⟩,k⟩∧Own W S 256 3 ea en ec (gC kY Es)∧Own W S 3 1 ra rn rc (Rl.map encI):=fun hr=>
 ⟨hr.Gu (xa:=some ⟨g,0,none⟩) hg x ay ay ay ay,h.oE.aC (xa:=some ⟨g,0,none⟩) hg x ay,h.oR.aC (xa:=some ⟨g,0,none⟩) hg x ay⟩
end
theorem KZ.tkA{K:dY}{Ms:List aU}{Es:List (Int × Int × Int)}{Rl:aO}{e:Ending}(h:KZ K k Ms Es Rl w e w'): ∃(d:Dx) (N:Nat) (rw:Rw) (ea:az) (en ec:Nat) (ra:az) (rn rc:Nat),e= .returned (.tuple #[.agg (Dx.cells d).toArray,.slice (some ⟨N,0,none⟩) k k,.slice ea en ec,.slice ra rn rc])∧
  Below w.heap.size w w'∧(∀W X S,Below w'.heap.size w' W→ah W X 89 (Dx.cells d).toArray→S≤w.heap.size→FP K k Ms Es Rl S X d N rw ea en ec ra rn rc W)∧
  ∀W X,w'.grownBy W (some X)→ah w' X 89 qH→ah W X 89 (Dx.cells d).toArray→FP K k Ms Es Rl w.heap.size X d N rw ea en ec ra rn rc W:=by
 obtain⟨d,N,rw,ea,en,ec,ra,rn,rc,rfl,h1,h2,h3,h4,h5,h6,h7,h8,h9,hb⟩:=h;refine⟨d,N,rw,ea,en,ec,ra,rn,rc,rfl,hb,fun W X S hW kX hS=>?_,fun W X hg k0 kX=>⟨kX,h1.out,h2.out,h3.out,h4.aG hg k0 ay,h5.aG hg k0 ay,h6.aG hg k0 ay ay ay,h7.out,h8.aG hg k0 ay,h9.aG hg k0 ay⟩⟩;exact⟨kX,h1.out,h2.out,h3.out,(h4.below hW aA).mono hS,(h5.below hW aA).mono hS,(h6.below hW aA).mono hS,h7.out,(h8.below hW aA).mono hS,(h9.below hW aA).mono hS⟩
theorem Qa{α:Type}(f:Nat→List α)(n:Nat):(List.range (n+1)).flatMap f=(List.range n).flatMap f++f n:=by rw[List.range_succ,List.flatMap_append];simp
theorem air{α:Type}(f:Nat→List α)(h: ∀i,(f i).length≤900): ∀n,((List.range n).flatMap f).length≤900*n
 |0=>by simp
 |n+1=>by
  have h1:=air f h n;have h2:=h n;rw[Qa,dP];omega
structure U60 where
 (a0 a1 a2 a3 a4 a5 a6 a7 a8 a9 a10 a11 a12 a13 a14 a15 a16 a17 a18 a19 a20 a21 a22 a23 a24 a25 a26 a27 a28 a29 a30 a31 a32 a33 a34 a35 a36 a37 a38 a39 a40 a41 a42 a43 a44 a45 a46 a47 a48 a49 a50 a51 a52 a53 a54 a55 a56 a57 a58 a59:Value)
theorem asc:(prog.info? 3).map (fun i=>i.size)=some 1:=by kernel_rfl
theorem lQ.avE{rP:aZ}{inp:Value}{c:Cx}{K:List dY}{nd:Nat}{Ms:Nat→List aU}{kk:Nat→Nat}{l:List Dx}{rr:List Rr}(h:lQ w R B rP inp c K nd N q Ms kk l rr es ea ec rs ra rc U gV wr)(hB:B≤w.heap.size)(h0:ra=none∧rc=0){JC:aO}(gr:Grew w.heap.size wr W ra A2)(oA:Own W w.heap.size 3 1 A2 JC.length c2 (JC.map encI))(hU:U≤wr.heap.size):lQ w R B rP inp c K nd N q Ms kk l rr es ea ec JC A2 c2 W.heap.size gV W:=by
 obtain⟨rfl,rfl⟩:=h0;exact(h.reset hB gr oA).up (dA hU gr.1.size)
section
open Go.RowKit Go.Sort Go.Shelf
attribute [local go_sem] Oper.semAt_some
theorem agd{P:Prop}(h:P:=by
 have gO:=grownBy_set V2 O 0 (.slice A2 (pre.length+1) c2);have hz2:=di.1.size;have hzv:=bV.size;refine⟨(((CO bV).trans (MW Hl di)).trans (KeepsOthers.setCell _ _ _)).from _,(jW.below bV).trans ((jW.grown di.1 fun q hq=>by have:=Hl.dW q hq;have:=yD;omega).trans (jW.grown gO fun q hq=>by injection hq with hq;have:=yD;omega)),by simp[World.setCell];omega,?_,?_,A2,c2,?_,?_⟩
 ·exact((hb1.trans (bV.mono aj)).aB di.1 aj (fun q hq=>by have:=Hl.dW q hq;omega)).aB gO aj (fun q hq=>by injection hq with hq;omega)
 ·exact((hb2.trans (bV.mono aj)).aB di.1 aj (fun q hq=>by have:=Hl.dW q hq;omega)).aB gO aj (fun q hq=>by injection hq with hq;omega)
 ·rw[dP];exact Hm.upd 0 _
 ·rw[dP,asb,yS,mP,Dj,iK,HV.out];have o9:=kH.aG gO Hm ay
  first|exact o9|(rw[zc]at o9;exact o9)):P:=h
theorem apn(c:Cx)(B:Nat)(js:List Jx)(gs:List Ax)(ins:List Ix)(ia:az)(ic:Nat)(w:ak)(hcl:dE w B c)(hsm:c.key.Small)(hB:B≤w.heap.size)(hn1:1≤c.ds.length)(hn4:c.ds.length≤4)
  (hin: ∀W,Below B w W→Sl W 160 2 ia ins.length ic (gC Ix.cells ins)∧∀x∈ins,AP W x) (hrg: ∀d∈c.ds,Xy d.key.r) (hcf: ∀W,Below B w W→rM W c.cf js gs) (hgd:gs.length=c.ds.length) (T1:List dY) (Ms:Nat→List aU) (Es:Nat→List (Int × Int × Int)) (Rl:Nat→aO) (hT1:T1.length=c.ds.length) (hRl: ∀i,1≤i→Rl i= []) (hEs: ∀i,(Es i).length≤900) (hR0:(Rl 0).length≤900)
  (hbs: ∀d∈c.ds,(eY d.key c.now).Small)
  (hT: ∀i (hi:i<c.ds.length) (hi1:i<T1.length) (hi2:i<gs.length) (W:ak) (d':Dx) (oa:az) (oc:Nat) (own:List Ix),Below B w W→pq W d'→Hid (d'.key=eY c.ds[i].key c.now)→Hid (own=BJ ins (iE (gs.take i)).toNat (List.range gs[i].se.toNat))→Sl W 160 2 oa own.length oc (gC Ix.cells own)→(∀x∈own,AP W x)→
   aH 138 #[c.cf.val,d'.val,.slice oa own.length oc,ae c.now] W (KZ T1[i] own.length (Ms i) (Es i) (Rl i) W)):
  aH 105 #[c.val,.slice ia ins.length ic] w (axv c B T1 (fun i=>((gs.map Ax.se).getD i 0).toNat) Ms ((List.range c.ds.length).flatMap Es) ((List.range c.ds.length).flatMap Rl) w):=by
 obtain⟨⟨ja,jn,jc,ga,gn,gc,per,cap,hold,lock⟩,ref,now,ds,da,dc,ss,sa,sc,vs,va,vc,st,ta,tc,ws,wa,wz⟩:=c;simp only at hn1 hn4 hrg hcf hgd hbs hT⊢;have Ja:=hcf w bD;have hgn:=Ja.hg;simp only at hgn;obtain⟨gb,go,rfl,yD⟩:=Ja.grow.open_ aj;clear Ja;obtain⟨dg,rfl,hdB,_⟩:=hcl.ds.open_ dD;have zJ:=ax hsm;have HRG:=ax hrg;have OY:=ax hgd;have B_:=ax hcf;have HT1:=ax hT1;have wU:=ax hRl;have XH:=ax hEs;have HR0:=ax hR0;have OO:=ax hbs;have HT:=ax hT;have JA:=ax hin;clear hT1 hRl hEs hR0 hbs hT hin;obtain rfl:gn=ds.length:=hgn.trans hgd;clear hsm hrg hgn hgd hcf;refine callsIn_wide.1 (callsIn_of_wp_marks (n:=6) func105 rfl trivial (wpIn_wide.2 ?_) rfl);simp only[ntmps105,List.size_toArray,jJ,List.length_nil,Nat.reduceAdd,Nat.reduceSub,Array.replicate_succ,Array.replicate_zero,List.push_toArray,List.append_toArray,List.nil_append,List.cons_append]
 go_upto_region 1 with fail
 obtain⟨R,hR⟩:=aI w.heap.size;obtain⟨nd,hnd⟩: ∃n,ds.length=n:=⟨_,rfl⟩;have zK:=ax hnd;have aB1:nd≤4:=by omega
 have hnd1:1≤nd:=by omega
 have fQ:w.heap.size≤R:=by omega
 have aB2:dg<R:=by omega
 refine aW (fun W=>ah W R 45 (ed ja jn jc (some ⟨gb,go,none⟩) nd gc per cap hold lock ref now (some ⟨dg,0,none⟩) nd dc sa ss.length sc va vs.length vc ta st.length tc wa ws.length wz)∧ah W (R+1) 158 #[.slice ia ins.length ic]∧Below w.heap.size w W) ⟨by rw[←hR,←hnd];exact(ah.new _ _ _).alloc _,by rw[←hR];exact ah.dG _ _ _ _,bel⟩ ?_;rw[hR];rintro W ⟨kR,kN,be⟩;have hI:vZ w B ⟨⟨ja,jn,jc,some ⟨gb,go,none⟩,ds.length,gc,per,cap,hold,lock⟩,ref,now,ds,some ⟨dg,0,none⟩,dc,ss,sa,sc,vs,va,vc,st,ta,tc,ws,wa,wz⟩ (((ds.map Dx.key).map fun K=>eY K now).take 0++(ds.map Dx.key).drop 0) ds W:=⟨hcl.below be aj,rfl,by simp,be.mono aj,fun b t cs k _=>k.below be (by have:=k.lt;omega)⟩;clear hcl hR hnd be;(obtain⟨x0,x1,x2,x3,x4,x5,x6,x7,x8,x9,x10,x11,x12,xf,xl⟩:=kR.n13)
 go_wp2_with fail
 (clear x0 x1 x2 x3 x4 x5 x6 x7 x8 x9 x10 x11 x12 xf xl)
 go_loopw [22] (fun LJ wr=> ∃(i:Nat) (l:List Dx),LJ=ae i∧i≤nd∧Hid (vZ w B ⟨⟨ja,jn,jc,some ⟨gb,go,none⟩,ds.length,gc,per,cap,hold,lock⟩,ref,now,ds,some ⟨dg,0,none⟩,dc,ss,sa,sc,vs,va,vc,st,ta,tc,ws,wa,wz⟩ (((ds.map Dx.key).map fun K=>eY K now).take i++(ds.map Dx.key).drop i) l wr)∧ah wr R 45 (ed ja jn jc (some ⟨gb,go,none⟩) nd gc per cap hold lock ref now (some ⟨dg,0,none⟩) nd dc sa ss.length sc va vs.length vc ta st.length tc wa ws.length wz)∧ah wr (R+1) 158 #[.slice ia ins.length ic]) (fun LJ _=>nd -(intOf LJ).toNat)
 case atStart=>exact⟨0,ds,rfl,by omega,ax hI,kR,kN⟩
 case round=>
  clear hI kR kN;obtain⟨i,l,rfl,hi,HI,kR,kN⟩:=hrel;have hI:=HI.out;clear HI;by_cases hlt:i<nd
  ·
   have ix:(i:Int)<(nd:Int):=by omega
   have hid:i<ds.length:=by rw[zK.out];exact hlt
   have hil:i<l.length:=by rw[hI.len];exact hid
   have hws:=hI.be.size;obtain⟨d,hd⟩:=aI (l[i]);have hkd:d.key=ds[i].key:=by
    have h:=Qg Dx.key l ((ds.map Dx.key).map fun K=>eY K now) (ds.map Dx.key) i hI.keys hil cu cu;rw[hd,List.getElem_map]at h;exact h
   have hdl:dZ wr B d:=hI.cl.qV d (by rw[←hd];exact bF hil);have bd:Below wr.heap.size wr wr.drew:=bel;have hdg:=(hdl.below bd aA).g (by rw[hkd];exact zJ.out.WT _ (List.mem_map.2 ⟨_,bF hid,rfl⟩));have hBe:Hid (aH 137 #[.agg (Dx.cells d).toArray,ae now] wr.drew (VI (eY ds[i].key now) wr.drew)):=ax (by
    have h:=aqX d now wr.drew hdg (by rw[hkd];exact HRG.out _ (bF hid));rw[hkd]at h;exact h)
   have ld:=CW hI.cl.ds.sl.row Bo i hil hd (by have:=hI.cl.ds.lt' dg rfl;exact this) 89 oh gZ;(obtain⟨x0,x1,x2,x3,x4,x5,x6,x7,x8,x9,x10,x11,x12,xf,xl⟩:=kR.n13);have rC:=fun d os o=>dC wr d os R o xl;clear hd hdl hdg
   go_upto_region 4 with fail
   (refine nI 11 [([0,1,2,3,4,5,6,7,8,9],10)] [] bP bP ?_;refine lu ?_);(refine lS fun K hK=>?_;(repeat(first|(refine gI rfl 89 _ rfl _ _ rfl (fun|_,⟨p,rfl⟩=>ld p.d p.os) ?_;refine dF ?_)|go_big_quiet_step (fail)));refine wpQuiet_nil ?_)
   go_wp2_with (go_at_call 137;(with_reducible refine(hBe.out).mono ?_);rintro e w2 ⟨d2,rfl,hk2,Ho,hb2⟩)
   replace hb2:=jA hb2;refine dS hb2 (hK _ _ ?_);clear hK K hBe;(refine lC ?_);(clear x0 x1 x2 x3 x4 x5 x6 x7 x8 x9 x10 x11 x12 xf xl);clear rC ld bd;have ap:=hI.cl.apart Ho.r.lim aA;replace hI:=hI.below hb2 hB;replace kR:=kR.below hb2 kR.lt;replace kN:=kN.below hb2 kN.lt;replace Ho:=Ho.mono (show B≤wr.drew.heap.size from dA hB hws);have room:i*17+(Dx.cells d2).toArray.size≤(gC Dx.cells l).length:=by rw[oZ Bo];show i*17+17≤_;omega
   have row:=hI.cl.ds;clear hb2 hws
   go_wp2_with (refine yO rfl 89 _ _ rfl (off:=i*17) (Dx.cells d2).toArray rfl rfl row room 17 rfl gZ (C_ d2) ?_;intro W4 h4 z4;(have H4:=ax h4;clear h4 z4))
   have gr:=gm dg (Dx.cells d2) w2 (i*17);rw[←H4.out]at gr;have hI2:=hI.set hB rfl hil H4.out Ho ap;rw[hk2.out]at hI2;have hset:=IG ((ds.map Dx.key).map fun K=>eY K now) (ds.map Dx.key) i cu aF;simp only[List.getElem_map]at hset;rw[hset]at hI2;go_roundw
   case rel=>exact⟨i+1,_,by go_num,by omega,ax hI2,kR.aC (xa:=some ⟨dg,0,none⟩) gr row ay,kN.aC (xa:=some ⟨dg,0,none⟩) gr row ay⟩
   case measure=>simp[intOf];omega
  ·obtain rfl:nd=i:=by omega
   have hk:l.map Dx.key=(ds.map Dx.key).map fun K=>eY K now:=by
    have h:=hI.keys;rw[nM (by simp[zK.out]),List.drop_of_length_le (by simp[zK.out]),iK]at h;exact h
   have HK:=ax hk;clear hk hi hlt;have hws:=hI.be.size;have hmn:(if(nd:Int)<(nd:Int)then(nd:Int)else(nd:Int))=(nd:Int):=by simp
   (obtain⟨x0,x1,x2,x3,x4,x5,x6,x7,x8,x9,x10,x11,x12,xf,xl⟩:=kR.n13)
   go_upto_region 10 with(first|(refine JX (cells:=Rr.cells) 24 nd rrZ (.slice none 0 0) Qh rfl rfl underlying206 asa ay ?_ ?_ aj ?_;(focus rfl);(focus rfl);intro W3 kM bM zM;((clear x0 x1 x2 x3 x4 x5 x6 x7 x8 x9 x10 x11 x12 xf xl);have jk:=kR.below bM kR.lt;(obtain⟨x0,x1,x2,x3,x4,x5,x6,x7,x8,x9,x10,x11,x12,xf,xl⟩:=jk.n13))))
   (clear x0 x1 x2 x3 x4 x5 x6 x7 x8 x9 x10 x11 x12 xf xl);obtain⟨N,hN⟩:=aI wr.heap.size;have sF:=hI.below bM hB;have LD:=kN.below bM kN.lt;have hS0:lQ w R B (ed ja jn jc (some ⟨gb,go,none⟩) nd gc per cap hold lock ref now (some ⟨dg,0,none⟩) nd dc sa ss.length sc va vs.length vc ta st.length tc wa ws.length wz) (.slice ia ins.length ic) ⟨⟨ja,jn,jc,some ⟨gb,go,none⟩,ds.length,gc,per,cap,hold,lock⟩,ref,now,ds,some ⟨dg,0,none⟩,dc,ss,sa,sc,vs,va,vc,st,ta,tc,ws,wa,wz⟩ (T1.take 0++((ds.map Dx.key).map fun K=>eY K now).drop 0) nd N 0 Ms (fun i=>((gs.map Ax.se).getD i 0).toNat) l (List.replicate nd rrZ) [] none 0 [] none 0 W3.heap.size [] W3:=
    ⟨⟨sF.cl,sF.len,by rw[HK.out];simp,sF.be,sF.kept⟩,jk,LD,by simp,by rw[←hN];exact kM.Am Qh hws nd aF aj,fun i hi hq=>by omega,Own.nil _ _ _ _,Own.nil _ _ _ _,trivial⟩
   rw[hN];clear hI sF kR kN jk LD kM bM zM hN hws HK;refine wp_loop (fun a' wr=> ∃(i:Nat) (l:List Dx) (rr:List Rr) (es:List (Int × Int × Int)) (ea:az) (ec:Nat) (rs:aO) (ra:az) (rc:Nat) (gV:List Deferred) (u:U60),(i≤nd∧Hid (es=(List.range i).flatMap Es)∧Hid (rs=(List.range i).flatMap Rl)∧Hid (i=0→ra=none∧rc=0)∧lQ w R B (ed ja jn jc (some ⟨gb,go,none⟩) nd gc per cap hold lock ref now (some ⟨dg,0,none⟩) nd dc sa ss.length sc va vs.length vc ta st.length tc wa ws.length wz) (.slice ia ins.length ic) ⟨⟨ja,jn,jc,some ⟨gb,go,none⟩,ds.length,gc,per,cap,hold,lock⟩,ref,now,ds,some ⟨dg,0,none⟩,dc,ss,sa,sc,vs,va,vc,st,ta,tc,ws,wa,wz⟩ (T1.take i++((ds.map Dx.key).map fun K=>eY K now).drop i) nd N i Ms (fun i=>((gs.map Ax.se).getD i 0).toNat) l rr es ea ec rs ra rc wr.heap.size gV wr)∧a'={tmps:=List.toArray ((Cx.val ⟨⟨ja,jn,jc,some ⟨gb,go,none⟩,ds.length,gc,per,cap,hold,lock⟩,ref,now,ds,some ⟨dg,0,none⟩,dc,ss,sa,sc,vs,va,vc,st,ta,tc,ws,wa,wz⟩)::(.slice ia ins.length ic)::(.pointer (some ⟨R,0,none⟩))::(.pointer (some ⟨R+1,0,none⟩))::(.slice none 0 0)::(.slice none 0 0)::(.slice none 0 0)::u7::(.slice (some ⟨N,0,none⟩) nd nd)::(.slice ea es.length ec)::(.slice ra rs.length rc)::u.a0::u.a1::u.a2::u.a3::u.a4::u.a5::u.a6::u.a7::(.pointer (some ⟨R,8,none⟩))::(.slice (some ⟨dg,0,none⟩) nd dc)::(ae nd)::(ae nd)::(.bool false)::u24::u25::u26::u27::u28::u29::u30::u31::u32::u33::u34::u35::u36::u37::(.pointer (some ⟨R,8,none⟩))::(.slice (some ⟨dg,0,none⟩) nd dc)::(ae nd)::(.slice (some ⟨N,0,none⟩) nd nd)::(.pointer (some ⟨R,8,none⟩))::(.slice (some ⟨dg,0,none⟩) nd dc)::(ae nd)::(.pointer (some ⟨R,0,none⟩))::(.pointer (some ⟨R,1,none⟩))::(.slice (some ⟨gb,go,none⟩) nd gc)::(ae nd)::(ae nd)::(ae i)::u.a8::u.a9::u.a10::u.a11::u.a12::u.a13::undef::u.a14::u.a15::u.a16::u.a17::u.a18::u.a19::u.a20::u.a21::u.a22::u.a23::u.a24::u.a25::u.a26::u.a27::u.a28::u.a29::u.a30::u.a31::u.a32::u.a33::u.a34::u.a35::u.a36::u.a37::u.a38::u.a39::u.a40::u.a41::u.a42::u.a43::u.a44::u.a45::u.a46::u.a47::u.a48::u.a49::u.a50::u.a51::u.a52::u.a53::u.a54::u.a55::u.a56::u.a57::u.a58::u.a59::undef::undef::undef:: []),defers:=gV}) (fun a' _=>nd -(intOf (a'.tmps.getD 50 undef)).toNat) ?_ ?_
   ·exact⟨0,l,_,[],none,0,[],none,0,[],⟨_,_,_,_,_,_,_,_,_,_,_,_,_,_,_,_,_,_,_,_,_,_,_,_,_,_,_,_,_,_,_,_,_,_,_,_,_,_,_,_,_,_,_,_,_,_,_,_,_,_,_,_,_,_,_,_,_,_,_,_⟩,⟨by omega,ax rfl,ax rfl,ax (fun _=>⟨rfl,rfl⟩),hS0⟩,rfl⟩
   ·clear hS0;rintro a' wr ⟨i,l,rr,es,ea,ec,rs,ra,rc,gV,u,⟨hi,Wj,vY,BZ,hS⟩,ha'⟩;subst ha';by_cases hlt:i<nd
    ·have ix:(i:Int)<(nd:Int):=by omega
     obtain⟨O,hO⟩:=aI wr.heap.size
     go_upto_region 13 with fail
     refine aW (fun W=>lQ w R B (ed ja jn jc (some ⟨gb,go,none⟩) nd gc per cap hold lock ref now (some ⟨dg,0,none⟩) nd dc sa ss.length sc va vs.length vc ta st.length tc wa ws.length wz) (.slice ia ins.length ic) ⟨⟨ja,jn,jc,some ⟨gb,go,none⟩,ds.length,gc,per,cap,hold,lock⟩,ref,now,ds,some ⟨dg,0,none⟩,dc,ss,sa,sc,vs,va,vc,st,ta,tc,ws,wa,wz⟩ (T1.take i++((ds.map Dx.key).map fun K=>eY K now).drop i) nd N i Ms (fun i=>((gs.map Ax.se).getD i 0).toNat) l rr es ea ec rs ra rc O gV W∧ah W O 158 #[.slice none 0 0]∧W.heap.size=O+1∧Below O wr W) ⟨by rw[←hO];exact hS.below hB bel,by rw[←hO];exact ah.new _ _ _,by simp[hO],by rw[←hO];exact bel⟩ ?_;have HO:=ax hO;have HS:=ax hS;clear hO hS;rintro W4 ⟨hS,kO,z4,b4⟩;have hw4:=hS.ai.be.size;have aj_:B≤W4.heap.size:=by have:=hS.kR.lt;have:=hS.ai.cl.ds.lt' dg rfl;omega
     have kR:=hS.kR;(obtain⟨x0,x1,x2,x3,x4,x5,x6,x7,x8,x9,x10,x11,x12,xf,xl⟩:=kR.n13)
     go_upto_region 14 with((go_at_call 108;(with_reducible refine(aev ja jn jc (some ⟨gb,go,none⟩) nd gc per cap hold lock i _).mono ?_);rintro e w' ⟨rfl,rfl⟩))
     (clear x0 x1 x2 x3 x4 x5 x6 x7 x8 x9 x10 x11 x12 xf xl);refine aW (fun W=>ah W O 158 #[.slice none 0 0]∧ah W (O+1) 28 (gJ ja jn jc (some ⟨gb,go,none⟩) nd gc per cap hold lock)∧ah W (O+1+1) 3 #[ae i]∧W.heap.size=O+3∧Below O wr W∧Below B w W) ⟨(kO.alloc _).alloc _,by rw[←z4];exact(ah.new _ _ _).alloc _,by rw[←z4];exact ah.dG _ _ _ _,by simp[z4],(b4.alloc aj _).alloc cu _,(hS.ai.be.alloc aj_ _).alloc cu _⟩ ?_
     try rw[z4]
     clear hS kR kO z4 b4 hw4 aj_;rintro OZ ⟨kO,kC,kA,zc,bc,bB⟩;have hC:=B_.out OZ bB;have hig:i<gs.length:=by rw[OY.out,zK.out];exact hlt
     have hse:=fun a ha=>(hC.LX a ha).fine.se;obtain⟨k,hk⟩: ∃k:Nat,gs[i].se=k:=⟨gs[i].se.toNat,by have:=hse _ (bF hig);simp only[Ax.num]at this;omega⟩;have hk12:1≤k∧k≤2:=by have:=hse _ (bF hig);simp only[Ax.num]at this;omega
     have hs4:=F_ (gs.take i) (fun a ha=>hse a (List.mem_of_mem_take ha));obtain⟨sb,hsb⟩: ∃sb:Nat,iE (gs.take i)=sb:=⟨(iE (gs.take i)).toNat,by omega⟩;have GU:=hC.n2.2;have h4:(gs.take i).length≤4:=by
      rw[pV];omega
     have axw:sb≤8:=by omega
     have seq:=aeM 5 aj ja jn jc gb go gc per cap hold lock gs i k hig hk (O+1) (O+1+1) OZ (by rw[OY.out,zK.out];exact kC) kA hC.grow hC.n2.2 hse;have henc:(fun x:Nat=> #[Value.agg #[ae (i:Int),ae (x:Int),ae (iE (gs.take i)+x)]])=fun x:Nat=> #[Value.agg #[ae (i:Int),ae (x:Int),ae ((sb+x:Nat):Int)]]:=by funext x;rw[hsb];simp
     rw[henc]at seq;have HK:=ax hk;have XI:=ax hsb;clear henc hk hsb hC hse hs4 GU h4;have hBO:B≤O:=by have:=(HS.out.ai.cl.ds.lt' dg rfl);rw[HO.out]at this;omega
     have hwO:w.heap.size≤O:=by have:=HS.out.ai.be.size;rw[HO.out]at this;exact this
     have aB3:wr.heap.size≤O:=tY HO.out;refine(wpIn_wide (n:=6)).1 ?_;refine JV (F:=Fence.wide) rfl aj (gf:=142) (lb:= #[.pointer (some ⟨O+1,0,none⟩),.pointer (some ⟨O+1+1,0,none⟩)]) rfl trivial (enters_of func142 bP rfl)
      seq (fun h k=>jW.trans h k) (fun W l o o' hl h1 h2 h3=>jW.put (S:=OZ.heap.size) aj aj (by have:=yD;have:=bB.size;omega) W l o o' hl) bD (fun _=>rfl)
      (fun pre W=>O+3≤W.heap.size∧Below O wr W∧Below B w W∧∃(oa:az) (oc:Nat),ah W O 158 #[.slice oa pre.length oc]∧Own W OZ.heap.size 160 2 oa pre.length oc (gC Ix.cells (BJ ins sb pre)))
      (fun _ _ _=>False)
      (fun pre W W' row h hg hr=>⟨dA h.1 hg.size,h.2.1.grown hg yQ fun k e=>(by have:=(hr k e).1;omega),h.2.2.1.grown hg yQ fun k e=>(by have:=(hr k e).1;omega),by
       obtain⟨oa,oc,kO,oI⟩:=h.2.2.2;exact⟨oa,oc,kO.turn hg fun r e=>(hr r e).2,oI.turn hg fun r e=>(hr r e).2⟩⟩)
      (fun cd pre W W' row h hg hr=>h.elim)
      ⟨by omega,bc,bB,none,0,kO,Own.nil _ _ _ _⟩
      (fun pre x a' W=>(∃P:Nat,O+3≤P∧ah W P 218 #[ae i,ae x,ae ((sb+x:Nat):Int)]∧a'={tmps:=List.toArray ((Cx.val ⟨⟨ja,jn,jc,some ⟨gb,go,none⟩,ds.length,gc,per,cap,hold,lock⟩,ref,now,ds,some ⟨dg,0,none⟩,dc,ss,sa,sc,vs,va,vc,st,ta,tc,ws,wa,wz⟩)::(.slice ia ins.length ic)::(.pointer (some ⟨R,0,none⟩))::(.pointer (some ⟨R+1,0,none⟩))::(.slice none 0 0)::(.slice none 0 0)::(.slice none 0 0)::u7::(.slice (some ⟨N,0,none⟩) nd nd)::(.slice ea es.length ec)::(.slice ra rs.length rc)::(ae i)::(.pointer (some ⟨O,0,none⟩))::(.pointer (some ⟨P,0,none⟩))::u.a3::u.a4::u.a5::u.a6::u.a7::(.pointer (some ⟨R,8,none⟩))::(.slice (some ⟨dg,0,none⟩) nd dc)::(ae nd)::(ae nd)::(.bool false)::u24::u25::u26::u27::u28::u29::u30::u31::u32::u33::u34::u35::u36::u37::(.pointer (some ⟨R,8,none⟩))::(.slice (some ⟨dg,0,none⟩) nd dc)::(ae nd)::(.slice (some ⟨N,0,none⟩) nd nd)::(.pointer (some ⟨R,8,none⟩))::(.slice (some ⟨dg,0,none⟩) nd dc)::(ae nd)::(.pointer (some ⟨R,0,none⟩))::(.pointer (some ⟨R,1,none⟩))::(.slice (some ⟨gb,go,none⟩) nd gc)::(ae nd)::(ae nd)::(ae i)::(.bool true)::(ae i)::(.pointer (some ⟨R,0,none⟩))::(Dz ja jn jc (some ⟨gb,go,none⟩) nd gc per cap hold lock)::(ae i)::(.func (.func 142) #[] #[.pointer (some ⟨O+1,0,none⟩),.pointer (some ⟨O+1+1,0,none⟩)])::(.agg #[ae i,ae x,ae ((sb+x:Nat):Int)])::u.a14::u.a15::u.a16::u.a17::u.a18::u.a19::u.a20::u.a21::u.a22::u.a23::u.a24::u.a25::u.a26::u.a27::u.a28::u.a29::u.a30::u.a31::u.a32::u.a33::u.a34::u.a35::u.a36::u.a37::u.a38::u.a39::u.a40::u.a41::u.a42::u.a43::u.a44::u.a45::u.a46::u.a47::u.a48::u.a49::u.a50::u.a51::u.a52::u.a53::u.a54::u.a55::u.a56::u.a57::u.a58::u.a59::undef::undef::undef:: []),defers:= []})∧pre.length+1≤k)
      (fun pre x a' s W W' row h hg hr=>⟨by
       obtain⟨P,hP,kP,e⟩:=h.1;exact⟨P,hP,kP.turn hg fun r e=>(hr r e).2,e⟩,h.2⟩) ?assign ?body ?done ?stop
     case assign=>
      rintro L pre x W K hI ⟨t,hv⟩ hK;have hpl:pre.length+1≤k:=by have:=congrArg List.length hv;simp at this;omega
      clear hv t;obtain⟨hz,hb1,hb2,oa,oc,kO,oI⟩:=hI;obtain⟨z,hzx⟩:=aI (sb+x);simp only[hzx]at hK⊢;clear hzx
      gi_wp2
      have bA:Below W.heap.size W (W.alloc (.cells #[ae i,ae x,ae z] 218)):=bel;exact hK _ _ ((CO bA).from _) (jW.below bA) ⟨dA hz bA.size,hb1.trans (bA.mono aj),hb2.trans (bA.mono aj),oa,oc,kO.below bA kO.lt,oI.below bA aA⟩ ⟨⟨W.heap.size,hz,ah.new _ _ _,rfl⟩,hpl⟩
     case body=>
      rintro L pre x a' W hL hrec ⟨hz,hb1,hb2,oa,oc,kO,oI⟩ ⟨⟨P,hP,kP,rfl⟩,hpl⟩;obtain⟨z,hzx⟩:=aI (sb+x);have HZ:=ax hzx;rw[hzx]at kP⊢;clear hzx;have hii:=JA.out W hb2;have kN:=HS.out.kN.below hb1 (by have:=HS.out.kN.lt;rw[HO.out]at this;exact this);have hoc:=oI.IJ;(obtain⟨p0,p1,p2,pf,pl⟩:=kP.n3);have n0:=kN.cell 0;have nl:=kN.lt;have o0:=kO.cell 0;have o1:=kO.frozen 0;have ol:=kO.lt;by_cases hzl:z<ins.length
      ·have iz:(z:Int)<(ins.length:Int):=by omega
       obtain⟨ib,io,rfl,ilt⟩:=hii.1.open_ aj;obtain⟨v,hv⟩:=aI (ins[z]);have y0:=hii.1.row.fV EG z hzl 0 ay (v:= .bool v.op) (by rw[hv];rfl);have y1:=hii.1.row.fV EG z hzl 1 ay (v:= .slice v.a v.its.length v.c) (by rw[hv];rfl);simp only[iV]at y0;have HV:Hid (ins.getD (sb+x) xx=v):=ax (by rw[HZ.out,eG,d_ hzl,hv];rfl);clear hv hii hzl;have bV:Below W.heap.size W ((W.alloc (.cells #[.bool v.op,.slice v.a v.its.length v.c] 160)).alloc (.cells #[.bool v.op,.slice v.a v.its.length v.c] 160)):=bel;have Hl:=oI.below bV aA;have kO1:=kO.below bV kO.lt
       gi_wp2_with ((gi_at_builtin;refine P_ rfl (.tmp 68) (.tmp 70) 158 160 2 32 rfl underlying158 agb ay ay OZ.heap.size oa pre.length oc _ rfl Hl (W.heap.size+1) (Ix.cells v) rfl (mr (ah.new _ _ _) aF) rfl (aiq v) aj cu ?_;intro A2 c2 V2 kH di;(have Hm:=kO1.aC di.1 Hl ay);(have o2:=Hm.frozen 0);(have o3:=Hm.cell 0);(have ol2:=Hm.lt)))
       exact agd
      ·have iz: ¬ (z:Int)<(ins.length:Int):=by omega
       have HV:Hid (ins.getD (sb+x) xx=xx):=ax (by rw[HZ.out,eG,List.getElem?_eq_none aj];rfl);clear hii hzl;have bV:Below W.heap.size W ((W.alloc (.cells #[.bool false,.slice none 0 0] 160)).alloc (.cells #[.bool false,.slice none 0 0] 160)):=bel;have Hl:=oI.below bV aA;have kO1:=kO.below bV kO.lt
       gi_wp2_with ((gi_at_builtin;refine P_ rfl (.tmp 68) (.tmp 70) 158 160 2 32 rfl underlying158 agb ay ay OZ.heap.size oa pre.length oc _ rfl Hl (W.heap.size+1) (Ix.cells xx) rfl (mr (ah.new _ _ _) aF) rfl (aiq xx) aj cu ?_;intro A2 c2 V2 kH di;(have Hm:=kO1.aC di.1 Hl ay);(have o2:=Hm.frozen 0);(have o3:=Hm.cell 0);(have ol2:=Hm.lt)))
       exact agd
     case done=>
      rintro D xs W hD rfl ⟨hz,hb1,hb2,oa,oc,kO,oI⟩ hK2;rw[List.length_range]at kO oI;have hSW:=HS.out.below hB (by rw[HO.out];exact hb1);have hDs:D<W.heap.size:=(lX.1 hK2).1;have HM:Hid (Marks w.heap.size W.heap.size W ({target:= .collected D,args:= #[]}::gV)):=ax ⟨⟨D,rfl,by omega,hDs,hK2,fun d' hd' e=>by
       obtain⟨D2,e2,h2⟩:=hSW.ms.lt d' hd';rw[e2]at e;injection e with e
       have:=HO.out;omega⟩,hSW.ms.keep (by have:=HO.out;omega) fun _ _ _=>rfl⟩
      have hS:lQ w R B (ed ja jn jc (some ⟨gb,go,none⟩) nd gc per cap hold lock ref now (some ⟨dg,0,none⟩) nd dc sa ss.length sc va vs.length vc ta st.length tc wa ws.length wz) (.slice ia ins.length ic) ⟨⟨ja,jn,jc,some ⟨gb,go,none⟩,ds.length,gc,per,cap,hold,lock⟩,ref,now,ds,some ⟨dg,0,none⟩,dc,ss,sa,sc,vs,va,vc,st,ta,tc,ws,wa,wz⟩ (T1.take i++((ds.map Dx.key).map fun K=>eY K now).drop i) nd N i Ms (fun i=>((gs.map Ax.se).getD i 0).toNat) l rr es ea ec rs ra rc W.heap.size ({target:= .collected D,args:= #[]}::gV) W:=⟨hSW.ai,hSW.kR,hSW.kN,hSW.rl,hSW.oM,hSW.rk,hSW.oE,hSW.oR,HM.out⟩;clear hSW HM hK2 hDs hb1 bc bB kC kA zc HS;have hid:i<ds.length:=by rw[zK.out];exact hlt
      have hil:i<l.length:=by rw[hS.ai.len];exact hid
      have hi1:i<T1.length:=by rw[HT1.out];exact hid
      obtain⟨d,hd⟩:=aI (l[i]);have hkd:d.key=eY ds[i].key now:=by
       have h:=Qg Dx.key l T1 ((ds.map Dx.key).map fun K=>eY K now) i hS.ai.keys hil aj cu;rw[hd,List.getElem_map,List.getElem_map]at h;exact h
      have hdl:dZ W B d:=hS.ai.cl.qV d (by rw[←hd];exact bF hil);have hds:d.key.Small:=by rw[hkd];exact OO.out _ (bF hid)
      obtain⟨own,hown⟩:=aI (BJ ins sb (List.range k));have hol:own.length=k:=by rw[←hown];simp[BJ]
      rw[hown]at oI;have aka: ∀V,Below B w V→∀x∈own,AP V x:=fun V hV x hx=>by
       rw[←hown]at hx;obtain⟨y,_,rfl⟩:=List.mem_map.1 hx;rw[eG];rcases Nat.lt_or_ge (sb+y) ins.length with h|h
       ·rw[d_ h];exact(JA.out V hV).2 _ (bF h)
       ·rw[List.getElem?_eq_none h];exact⟨Sl.nil _ _ _,fun t ht=>by cases ht⟩
      have tu: ∀V,Below W.heap.size W V→aH 138 #[Dz ja jn jc (some ⟨gb,go,none⟩) nd gc per cap hold lock,.agg (Dx.cells d).toArray,.slice oa k oc,ae now] V (KZ T1[i] k (Ms i) (Es i) (Rl i) V):=fun V hV=>by
       have Rn:Below B w V:=hb2.trans (hV.mono aj);have h:=HT.out i hid hi1 hig V d oa oc own Rn ((hdl.below hV aA).g hds) (ax hkd) (ax (by rw[XI.out,HK.out,←hown];rfl)) (by rw[hol];exact(oI.below hV aA).sl) (aka V Rn);rw[hol,zK.out]at h;exact h
      have Ff:=ax tu;have ld:=CW hS.ai.cl.ds.sl.row Bo i hil hd (by have:=hS.ai.cl.ds.lt' dg rfl;exact this) 89 oh gZ;clear tu aka hdl hds hkd hd hown hol
      go_upto_region 19 with fail
      have kR:=hS.kR;(obtain⟨x0,x1,x2,x3,x4,x5,x6,x7,x8,x9,x10,x11,x12,xf,xl⟩:=kR.n13);have rC:=fun d os o=>dC W d os R o xl;have o0:=kO.cell 0;have ol:=kO.lt;have rO:=fun d os o=>dC W d os O o ol;have hWk:=hS.ai.be.size
      go_cut [15,16,17,18] from 72 to 87 (fun s15 s16 s17 G8 wx=> ∃(X N2 Cc ve AQ Ea:Nat) (d2:Dx) (yH:Rw) (u_ Eb:az),s15= .pointer (some ⟨X,0,none⟩)∧s16= .slice (some ⟨N2,0,none⟩) k k∧s17= .slice u_ Cc ve∧G8= .slice Eb AQ Ea∧FP T1[i] k (Ms i) (Es i) (Rl i) W.heap.size X d2 N2 yH u_ Cc ve Eb AQ Ea wx∧Below W.heap.size W wx)
      case first=>
       (refine JM 17 [17] (.mM [(0,[]),(1,[]),(2,[]),(3,[]),(4,[]),(5,[]),(6,[]),(7,[]),(8,[]),(9,[])] (.fork 10 16 (.mM [(11,[]),(12,[]),(13,[]),(14,[]),(15,[])] (.op 16 (.fin [18,19,20]))) (.op 10 (.mM [(11,[]),(12,[]),(13,[]),(14,[]),(15,[])] (.fin [18,19,20]))))) bP bP ?_);(refine JP fun K hK=>?_;refine m_ ?_;(repeat(first|(refine gI rfl 89 _ rfl _ _ rfl (fun|_,⟨p,rfl⟩=>ld p.d p.os) ?_;refine dF ?_)|go_big_quiet_step (fail)));refine wpQuiet_nil ?_;refine hK _ _ ?_;clear hK K);(refine Np (fun K hK=>?_) (fun K hK=>?_)<;>simp only[jM,jO])
       ·go_wp2_with (go_at_call 138;(with_reducible refine(Ff.out _ bel).mono ?_);rintro e w2 hq;(obtain⟨d2,N2,yH,u_,Cc,ve,Eb,AQ,Ea,rfl,hb3,hTA⟩:=hq.tkA))
        have hb4:=jA hb3;refine dS hb4 (hK _ _ ?_);clear hK K;(refine vO ?_);(refine vK fun K hK=>?_;simp only[jM,jO])
        go_wp2_with fail
        refine dS (hb4.alloc hb4.size _) (hK _ _ ?_);clear hK K;(refine wE ?_;refine m_ ?_)
        go_wp2_with (refine xM rfl 89 _ _ rfl w2.heap.size _ (Dx.cells d2).toArray rfl rfl (ah.new _ _ _) 17 (wI d2) rfl gZ (C_ d2) ?_;intro W5 kw gw zw)
        go_meet
        have b5:Below w2.heap.size w2 W5:=((Below.refl _ w2).alloc aA (.cells qH 89)).aB gw aF bQ;exact⟨w2.heap.size,N2,Cc,ve,AQ,Ea,d2,yH,u_,Eb,rfl,rfl,rfl,rfl,hTA.1 W5 _ _ b5 kw aF,hb4.trans (b5.mono hb4.size)⟩
       ·go_wp2_with fail
        have b0:Below W.heap.size W (W.drew.alloc (.cells qH 89)):=bel;have kX:ah (W.drew.alloc (.cells qH 89)) W.heap.size 89 qH:=ah.new _ _ _;refine dS b0 (hK _ _ ?_);clear hK K;(refine vK fun K hK=>?_;simp only[jM,jO])
        go_wp2_with (go_at_call 138;(with_reducible refine(Ff.out _ bel).mono ?_);rintro e w2 hq;(obtain⟨d2,N2,yH,u_,Cc,ve,Eb,AQ,Ea,rfl,hb3,hTA⟩:=hq.tkA))
        have hb4:=b0.trans (hb3.mono b0.size);refine dS hb4 (hK _ _ ?_);clear hK K;(refine vO ?_);(refine wE ?_;refine m_ ?_);have um:=kX.below hb3 kX.lt
        go_wp2_with (refine xM rfl 89 _ _ rfl W.heap.size _ (Dx.cells d2).toArray rfl rfl um 17 (wI d2) rfl gZ (C_ d2) ?_;intro W5 kw gw zw)
        go_meet
        have b6:Below W.heap.size W W5:=hb4.aB gw hb4.size bQ;have hq:=hTA.2 W5 W.heap.size gw um kw;exact⟨W.heap.size,N2,Cc,ve,AQ,Ea,d2,yH,u_,Eb,rfl,rfl,rfl,rfl,hq.mono aF,b6⟩
      case rest=>
       obtain⟨X,N2,Cc,ve,AQ,Ea,d2,yH,u_,Eb,rfl,rfl,rfl,rfl,hTA,bx⟩:=hcut;have ap:=hS.ai.cl.apart hTA.oD.r.lim aA;(clear x0 x1 x2 x3 x4 x5 x6 x7 x8 x9 x10 x11 x12 xf xl);replace hS:=hS.below hB bx;have TA:=hTA.mono hWk;have Fb:=TA.rr hk12.1;have hxs:=bx.size;clear hTA rC rO o0 kO oI kR ld Ff hb2
       go_upto_region 20 with fail
       have kR:=hS.kR;(obtain⟨x0,x1,x2,x3,x4,x5,x6,x7,x8,x9,x10,x11,x12,xf,xl⟩:=kR.n13);have row:=hS.ai.cl.ds;have kX:=TA.kX;have room:i*17+(Dx.cells d2).toArray.size≤(gC Dx.cells l).length:=by rw[oZ Bo];show i*17+17≤_;omega
       go_upto_region 21 with(first|(refine Nu rfl 89 _ rfl X _ rfl kX 17 (wI d2) oh gZ ?_)|(refine yO rfl 89 _ _ rfl (off:=i*17) (Dx.cells d2).toArray rfl rfl row room 17 rfl gZ (C_ d2) ?_;intro W6 h6 z6;(have H6:=ax h6;clear h6 z6)))
       (clear x0 x1 x2 x3 x4 x5 x6 x7 x8 x9 x10 x11 x12 xf xl);have gr:=gm dg (Dx.cells d2) wc (i*17);rw[←H6.out]at gr;obtain⟨rr3,XG,yE⟩:=TA.awt gr row Fb;have hS3:=hS.abf hB rfl hil H6.out (TA.oD.mono hB) ap;rw[TA.key,IG T1 ((ds.map Dx.key).map fun K=>eY K now) i hi1 (by simp[HT1.out])]at hS3;have HEN:=ax TA.en_;have FC:=ax TA.rn_;have hsz:=gr.size;refine aW (fun Z=>lQ w R B (ed ja jn jc (some ⟨gb,go,none⟩) nd gc per cap hold lock ref now (some ⟨dg,0,none⟩) nd dc sa ss.length sc va vs.length vc ta st.length tc wa ws.length wz) (.slice ia ins.length ic) ⟨⟨ja,jn,jc,some ⟨gb,go,none⟩,ds.length,gc,per,cap,hold,lock⟩,ref,now,ds,some ⟨dg,0,none⟩,dc,ss,sa,sc,vs,va,vc,st,ta,tc,ws,wa,wz⟩ (T1.take (i+1)++((ds.map Dx.key).map fun K=>eY K now).drop (i+1)) nd N i Ms (fun i=>((gs.map Ax.se).getD i 0).toNat) (l.set i d2) rr es ea ec rs ra rc W.heap.size ({target:= .collected D,args:= #[]}::gV) Z∧sG Z w.heap.size k (Ms i) ⟨yH::List.replicate (k -1) uC,some ⟨N2,0,none⟩,k⟩∧Own Z w.heap.size 256 3 u_ Cc ve (gC kY (Es i))∧Own Z w.heap.size 3 1 Eb AQ Ea ((Rl i).map encI)∧W.heap.size≤Z.heap.size) ⟨hS3,rr3,XG,yE,by omega⟩ ?_;clear hS TA Fb row kX room gr rr3 XG yE hS3 H6 ap bx hxs kR hsz;rintro Z ⟨hS,Fb,O0,AL,hZ⟩;have oM:=hS.oM;have hrl:=hS.rl;have fz:=oM.frozen i;have nl:=oM.lt' N rfl;have n0:=oM.cell i (by rw[oZ Qh];omega)
       go_upto_region 22 with fail
       have hl:(yH::List.replicate (k -1) uC).length=k:=by simp;omega
       have hkk:((gs.map Ax.se).getD i 0).toNat=k:=by
        rw[eG,d_ (by simpa using hig),List.getElem_map,Option.getD_some,HK.out];rfl
       have hS4:=hS.aaO hB aj (y:=⟨yH::List.replicate (k -1) uC,some ⟨N2,0,none⟩,k⟩) (by rw[hkk];exact Fb);simp only[hl]at hS4;have gN:=grownBy_set Z N i (.slice (some ⟨N2,0,none⟩) k k);refine aW (fun Y=>lQ w R B (ed ja jn jc (some ⟨gb,go,none⟩) nd gc per cap hold lock ref now (some ⟨dg,0,none⟩) nd dc sa ss.length sc va vs.length vc ta st.length tc wa ws.length wz) (.slice ia ins.length ic) ⟨⟨ja,jn,jc,some ⟨gb,go,none⟩,ds.length,gc,per,cap,hold,lock⟩,ref,now,ds,some ⟨dg,0,none⟩,dc,ss,sa,sc,vs,va,vc,st,ta,tc,ws,wa,wz⟩ (T1.take (i+1)++((ds.map Dx.key).map fun K=>eY K now).drop (i+1)) nd N (i+1) Ms (fun i=>((gs.map Ax.se).getD i 0).toNat) (l.set i d2) (rr.set i ⟨yH::List.replicate (k -1) uC,some ⟨N2,0,none⟩,k⟩) es ea ec rs ra rc W.heap.size ({target:= .collected D,args:= #[]}::gV) Y∧Own Y w.heap.size 256 3 u_ Cc ve (gC kY (Es i))∧Own Y w.heap.size 3 1 Eb AQ Ea ((Rl i).map encI)∧W.heap.size≤Y.heap.size) ⟨hS4,O0.aC (xa:=some ⟨N,0,none⟩) gN oM ay,AL.aC (xa:=some ⟨N,0,none⟩) gN oM ay,by simp[World.setCell];omega⟩ ?_;clear hS Fb O0 AL hZ oM fz nl n0 hS4 gN hkk hl hrl;rintro Y ⟨hS,O0,AL,hY⟩;have hen:Cc≤900:=by rw[HEN.out];exact XH.out i
       have hes:es.length≤900*i:=by rw[Wj.out];exact air Es XH.out i
       have hYs:=hS.ai.be.size;have hYw:w.heap.size≤Y.heap.size:=by omega
       go_upto_region 23 with((at_builtin;refine Vg rfl (.tmp 97) (.tmp 98) 207 256 3 24 rfl underlying207 afU ay ay w.heap.size ea es.length ec (gC kY es) rfl hS.oE u_ Cc ve (gC kY (Es i)) rfl O0.row O0.sl.len (wH ain _) aj hYw ?_;intro A2 c2 V2 kH di))
       have yE:=AL.aC di.1 hS.oE ay;have hl2:(es++Es i).length=es.length+Cc:=by rw[dP,HEN.out]
       have hS5:=hS.entry hB (es2:=es++Es i) di (by rw[hl2,yS];exact kH);have hz2:W.heap.size≤V2.heap.size:=dA hY di.1.size;have HE2:Hid (es++Es i=(List.range (i+1)).flatMap Es):=ax (by rw[Qa,Wj.out]);have HR2:Hid (rs++Rl i=(List.range (i+1)).flatMap Rl):=ax (by rw[Qa,vY.out]);have JD:=ax hS5;have HL2:=ax hl2;clear hS O0 AL hY hes hen hYs kH di hS5 hl2;by_cases hi0:i=0
       ·have RQ:rs.length≤5:=by rw[vY.out,hi0];exact Nat.zero_le _
        have hrn:AQ≤900:=by rw[FC.out,hi0];exact HR0.out
        have HI0:=ax hi0;clear hi0;have hVw:w.heap.size≤V2.heap.size:=by omega
        go_upto_region 24 with((at_builtin;refine Vg rfl (.tmp 100) (.tmp 101) 22 3 1 8 rfl underlying22 YP ay ay w.heap.size ra rs.length rc (rs.map encI) rfl JD.out.oR Eb AQ Ea ((Rl i).map encI) rfl yE.row yE.sl.len (Bg _) aj hVw ?_;intro A3 c3 V3 yF vw))
        have hl3:(rs++Rl i).length=rs.length+AQ:=by rw[dP,FC.out]
        have HS6:=ax (JD.out.avE hB (BZ.out HI0.out) (JC:=rs++Rl i) vw (by rw[hl3,jg];exact yF) hz2);rw[←HL2.out,←hl3];clear vw yF yE hrn hVw hl3 RQ
        go_wp2_with fail
        exact⟨⟨i+1,l.set i d2,_,es++Es i,A2,c2,rs++Rl i,A3,c3,_,⟨_,_,_,_,_,_,_,_,_,_,_,_,_,_,_,_,_,_,_,_,_,_,_,_,_,_,_,_,_,_,_,_,_,_,_,_,_,_,_,_,_,_,_,_,_,_,_,_,_,_,_,_,_,_,_,_,_,_,_,_⟩,⟨by omega,HE2,HR2,ax (fun h=>absurd h (Nat.succ_ne_zero _)),HS6.out⟩,by go_num⟩,by simp[intOf];omega⟩
       ·have hr0:=wU.out i aj;have axx:AQ=0:=by rw[FC.out,hr0];rfl
        subst axx;have hcap:=JD.out.oR.IJ
        go_upto_region 24 with((at_builtin;refine auS rfl (.tmp 100) (.tmp 101) 22 3 1 rfl underlying22 asc ra rs.length rc rfl hcap Eb Ea rfl ?_))
        have HS6:=ax (JD.out.up hz2);rw[←HL2.out];clear hcap yE
        go_wp2_with fail
        exact⟨⟨i+1,l.set i d2,_,es++Es i,A2,c2,rs,ra,rc,_,⟨_,_,_,_,_,_,_,_,_,_,_,_,_,_,_,_,_,_,_,_,_,_,_,_,_,_,_,_,_,_,_,_,_,_,_,_,_,_,_,_,_,_,_,_,_,_,_,_,_,_,_,_,_,_,_,_,_,_,_,_⟩,⟨by omega,HE2,ax (by rw[←HR2.out,hr0,iK]),ax (fun h=>by omega),HS6.out⟩,by go_num⟩,by simp[intOf];omega⟩
     case stop=>
      rintro D cd pre W hD h1 h2 hK;exact h2.elim
    ·obtain rfl:nd=i:=by omega
     have HS:=ax hS;have HKE:Hid ((T1.take nd++((ds.map Dx.key).map fun K=>eY K now).drop nd)=T1):=ax (by rw[nM (by rw[HT1.out,zK.out];exact Nat.le_refl _),List.drop_of_length_le (by simp[zK.out]),iK]);clear hS
     go_wp2_with fail
     refine Uh (B:=w.heap.size) (U:=wr.heap.size) (I:=fun _ W=>lQ w R B (ed ja jn jc (some ⟨gb,go,none⟩) nd gc per cap hold lock ref now (some ⟨dg,0,none⟩) nd dc sa ss.length sc va vs.length vc ta st.length tc wa ws.length wz) (.slice ia ins.length ic) ⟨⟨ja,jn,jc,some ⟨gb,go,none⟩,ds.length,gc,per,cap,hold,lock⟩,ref,now,ds,some ⟨dg,0,none⟩,dc,ss,sa,sc,vs,va,vc,st,ta,tc,ws,wa,wz⟩ (T1.take nd++((ds.map Dx.key).map fun K=>eY K now).drop nd) nd N nd Ms (fun i=>((gs.map Ax.se).getD i 0).toNat) l rr es ea ec rs ra rc 0 [] W) (fun s W W' row h hg hr=>h.turn hB (C:=w.heap.size) hB (Nat.zero_le _) hg hr) (fun W h=>?_) gV wr HS.out.ms ⟨HS.out.ai,HS.out.kR,HS.out.kN,HS.out.rl,HS.out.oM,HS.out.rk,HS.out.oE,HS.out.oR,trivial⟩;refine⟨.tuple #[.slice (some ⟨N,0,none⟩) nd nd,.slice ea es.length ec,.slice ra rs.length rc],by simp[results,results105,go_sem],?_⟩;have hA:=h.ai;rw[HKE.out]at hA;have MB:=zK.out;refine⟨l,rr,N,ea,es.length,ec,ra,rs.length,rc,?_,ax ?_,ax ?_,hA,ax ?_,?_,fun j hj=>h.rk j hj (by have:=h.rl;omega),?_,?_⟩
     ·simp only[MB]
     ·simp only[MB];rw[Wj.out]
     ·simp only[MB];rw[vY.out]
     ·simp only[MB];exact h.rl
     ·simp only[MB];exact h.oM
     ·simp only[MB];rw[←Wj.out];exact h.oE
     ·simp only[MB];rw[←vY.out];exact h.oR
end
theorem Own.awu{ta:az}{sz:Nat}{a:az}{xs:aP}(h:Own w B e sz a n c xs)(hk:QF C ta w w')(hC:C<B)(ht:120≠e∧123≠e∧73≠e)(hta:3≠e∨∀k,ta.map (·.block)=some k→k<B):Own w' B e sz a n c xs:=by
 refine h.keep fun b ha hB hl=>?_;rcases h.2 with⟨hv,_⟩|⟨g,cp,cur,hv,hg0,hg,_⟩
 ·injection hv with h1;rw[ha]at h1;cases h1
 ·injection hv with h1 _ _
  rw[ha]at h1;injection h1 with h1
  injection h1 with h1 _ _
  subst h1;have k:ah w b e cur:=hg;have:=hk b e cur k aj ⟨ht.1,ht.2.1,hta.imp id fun h e=>(by have:=h b e;omega),ht.2.2⟩;exact Eq.trans this hg.symm
structure Ce(w:ak)(R:Nat)(inp:Value)(c:Cx)(nd n N S6 S7:Nat)(kk:Nat→Nat)(Ms:Nat→List aU)(rr:List Rr)(ea:az)(en ec Bm:Nat)(wr:ak):Prop where
 cl:dE wr w.heap.size c
 ld:c.ds.length=nd
 l1:c.ss.length=n
 l2:c.vs.length=n
 l3:c.st.length=n
 l4:c.ws.length=n
 kR:ah wr R 45 (ed c.cf.ja n c.cf.jc c.cf.ga nd c.cf.gc c.cf.per c.cf.cap c.cf.hold c.cf.lock c.ref c.now c.da nd c.dc c.sa n c.sc c.va n c.vc c.ta n c.tc c.wa n c.wc)
 kI:ah wr (R+1) 158 #[inp]
 kO:ah wr (R+1+1) 45 uA
 kS:ah wr (R+1+1+1) 165 #[.slice none 0 0,.slice none 0 0]
 k6:ah wr S6 206 #[.slice (some ⟨N,0,none⟩) nd nd]
 k7:ah wr S7 207 #[.slice ea en ec]
 rl:rr.length=nd
 oM:Own wr Bm 163 1 (some ⟨N,0,none⟩) nd nd (gC Rr.cells rr)
 rk: ∀i (h:i<rr.length),sG wr Bm (kk i) (Ms i) rr[i]
 hta: ∀k,c.ta.map (·.block)=some k→k<Bm
 hR:w.heap.size≤R
 hB:R+1+1+1<Bm
 h6:R<S6
 h7:R<S7
 be:Below w.heap.size w wr
section
variable{w:ak}{R:Nat}{inp:Value}{c:Cx}{nd n N S6 S7:Nat}{kk:Nat→Nat}{Ms:Nat→List aU}{rr:List Rr}{ea:az}{en ec Bm:Nat}{wr W:ak}
theorem Ce.below(h:Ce w R inp c nd n N S6 S7 kk Ms rr ea en ec Bm wr)(hb:Below wr.heap.size wr W):Ce w R inp c nd n N S6 S7 kk Ms rr ea en ec Bm W:=
 ⟨h.cl.below hb aA,h.ld,h.l1,h.l2,h.l3,h.l4,h.kR.below hb h.kR.lt,h.kI.below hb h.kI.lt,h.kO.below hb h.kO.lt,h.kS.below hb h.kS.lt,h.k6.below hb h.k6.lt,h.k7.below hb h.k7.lt,h.rl,h.oM.below hb aA,fun i hi=>(h.rk i hi).below hb aA,h.hta,h.hR,h.hB,h.h6,h.h7,h.be.trans (hb.mono h.be.size)⟩
theorem Ce.signal(h:Ce w R inp c nd n N S6 S7 kk Ms rr ea en ec Bm wr){g j:Nat}(hg:c.sa=some ⟨g,0,none⟩)(hj:j<n){y:Sx}(hW:W=jy wr g (j*5) (Sx.cells y))(hy:iR wr w.heap.size y)(ap:Apart c.ta y.na):Ce w R inp {c with ss:=c.ss.set j y} nd n N S6 S7 kk Ms rr ea en ec Bm W:=by
 have gr:=gm g (Sx.cells y) wr (j*5);rw[←hW]at gr;have own:=h.cl.ss;rw[hg]at own;have e1:(some (⟨g,0,none⟩:Addr)).map (·.block)=some g:=rfl;exact⟨h.cl.ai9 hg (by rw[h.l1];exact hj) hW hy ap,h.ld,by simp only[iQ];exact h.l1,h.l2,h.l3,h.l4,h.kR.aC (xa:=some ⟨g,0,none⟩) gr own ay,h.kI.aC (xa:=some ⟨g,0,none⟩) gr own ay,h.kO.aC (xa:=some ⟨g,0,none⟩) gr own ay,h.kS.aC (xa:=some ⟨g,0,none⟩) gr own ay,
  h.k6.aC (xa:=some ⟨g,0,none⟩) gr own ay,h.k7.aC (xa:=some ⟨g,0,none⟩) gr own ay,h.rl,h.oM.aC (xa:=some ⟨g,0,none⟩) gr own ay,fun i hi=>(h.rk i hi).Gu (xa:=some ⟨g,0,none⟩) gr own ay ay ay ay,h.hta,h.hR,h.hB,h.h6,h.h7,h.be.aC (xa:=some ⟨g,0,none⟩) gr own h.be.size aA⟩
theorem Ce.awv(h:Ce w R inp c nd n N S6 S7 kk Ms rr ea en ec Bm wr){wa:az}{S0 S1:List iG}{V0 V1:List sK}{W1:List Vk}{ss:List Sx}{vs:List Vc}{ws:List Vx}
  (hI:sD wr w.heap.size R c.cf c.ref c.now c.ds c.da c.dc c.sa c.sc c.va c.vc c.ta c.tc wa n c.st S0 S1 V0 V1 W1 n n n ss vs ws W) (hg:c.cf.gn=nd):
  Ce w R inp ⟨c.cf,c.ref,c.now,c.ds,c.da,c.dc,ss,c.sa,c.sc,vs,c.va,c.vc,List.replicate n (-1),c.ta,c.tc,ws,wa,n⟩ nd n N S6 S7 kk Ms rr ea en ec Bm W:=by
 have e:List.replicate n (-1:Int)++c.st.drop n=List.replicate n (-1):=by rw[List.drop_of_length_le (by rw[h.l3];exact Nat.le_refl _),iK]
 have cl:=hI.cl;rw[e]at cl;have hB:=h.hB;have K:=hI.kept;have kC:=hI.kC;rw[hg,h.ld]at kC;have kp: ∀{b:Nat} {t:aK} {cs:aZ},ah wr b t cs→R<b→120≠t→123≠t→3≠t→73≠t→ah W b t cs:=fun k hb h1 h2 h3 h4=>K _ _ _ k aj ⟨h1,h2,.inl h3,h4⟩;have N_: ∀{e:aK} {sz n c':Nat} {a:az} {xs:aP},Own wr Bm e sz a n c' xs→(120≠e∧123≠e∧73≠e)→Own W Bm e sz a n c' xs:=fun o ht=>o.awu K aj ht (.inr h.hta);refine⟨cl,h.ld,hI.l1,hI.l2,by simp,hI.l3,kC,kp h.kI aj ay ay ay ay,kp h.kO aj ay ay ay ay,kp h.kS aj ay ay ay ay,kp h.k6 h.h6 ay ay ay ay,kp h.k7 h.h7 ay ay ay ay,h.rl,N_ h.oM ay,fun i hi=>?_,h.hta,h.hR,h.hB,h.h6,h.h7,h.be.trans hI.be⟩;have q:=h.rk i hi;refine⟨q.len,N_ q.row ay,fun x hx=>⟨N_ (q.it x hx).row ay,fun m hm=>?_⟩,q.keys⟩;have m0:=(q.it x hx).it m hm;exact⟨N_ m0.tok ay,N_ m0.args ay,N_ m0.dat ay⟩
end
theorem aeO(cf:Cf)(ref:Bool)(now:Int)(ds:List Dx)(da:az)(dc:Nat)(ss:List Sx)(sa:az)(sc:Nat)(vs:List Vc)(va:az)(vc:Nat)(st:aO)(ta:az)(tc:Nat)(ws:List Vx)(wa:az)(wc nd n:Nat)(w:ak)(h:xU w ⟨cf,ref,now,ds,da,dc,ss,sa,sc,vs,va,vc,st,ta,tc,ws,wa,wc⟩)
  (ld:ds.length=nd) (l1:ss.length=n) (l2:vs.length=n) (l3:st.length=n) (l4:ws.length=n):
  aH 69 #[.agg (ed cf.ja cf.jn cf.jc cf.ga cf.gn cf.gc cf.per cf.cap cf.hold cf.lock ref now da nd dc sa n sc va n vc ta n tc wa n wc)] w fun e w'=> ∃(ds':List Dx) (XJ:az) (dc':Nat) (ss':List Sx) (sa':az) (sc':Nat) (vs':List Vc) (oK:az) (oO:Nat) (ta':az) (qU:Nat) (ws':List Vx) (Jv:az) (wc':Nat),
   e= .returned (.agg (ed cf.ja cf.jn cf.jc cf.ga cf.gn cf.gc cf.per cf.cap cf.hold cf.lock ref now XJ nd dc' sa' n sc' oK n oO ta' n qU Jv n wc'))∧Hid (ds'.map Dx.key=ds.map Dx.key∧ss'.map Sx.key=ss.map Sx.key∧vs'.map Vc.key=vs.map Vc.key∧ws'.map Vx.key=ws.map Vx.key)∧Hid (ds'.length=nd∧ss'.length=n∧vs'.length=n∧ws'.length=n)∧
   dE w' w.heap.size ⟨cf,ref,now,ds',XJ,dc',ss',sa',sc',vs',oK,oO,st,ta',qU,ws',Jv,wc'⟩∧Below w.heap.size w w':=by
 subst ld;subst l1;have h0:=afq _ w h;simp only[Cx.val,l2,l3,l4]at h0;refine h0.mono ?_;rintro e w' ⟨⟨cf',aB4,now',ds',XJ,dc',ss',sa',sc',vs',oK,oO,st',ta',qU,ws',Jv,wc'⟩,rfl,hk,hL,hb⟩;have hk:=hk.out;simp only[Cx.key,dJ.mk.injEq]at hk;obtain⟨rfl,rfl,rfl,hd,hs,hv,rfl,hw⟩:=hk;have e1:ds'.length=ds.length:=by have:=congrArg List.length hd;simpa using this
 have e2:ss'.length=ss.length:=by have:=congrArg List.length hs;simpa using this
 have e3:vs'.length=ss.length:=by have:=congrArg List.length hv;simp at this;omega
 have e4:ws'.length=ss.length:=by have:=congrArg List.length hw;simp at this;omega
 exact⟨ds',XJ,dc',ss',sa',sc',vs',oK,oO,ta',qU,ws',Jv,wc',by simp only[Cx.val,IZ,e1,e2,e3,e4,l3],ax ⟨hd,hs,hv,hw⟩,ax ⟨e1,e2,e3,e4⟩,hL,hb⟩
theorem Yl:(prog.info? 69).map (·.size)=some 3:=by kernel_rfl
theorem age:(prog.underlying 69).map TypeDesc.isRow=some true:=by kernel_rfl
theorem aq4{α:Type}{cells:α→aP}{b:Nat}{l:List α}(h:Row w (some ⟨b,off,none⟩) (gC cells l))(hk: ∀x,(cells x).length=k)(i:Nat)(hi:i<l.length){x:α}(hx:l[i]=x)(hb:b<w.heap.size)(T:aK)
  (hu:(P.underlying T).map TypeDesc.isRow=some true) (hs:(P.info? T).map (·.size)=some k) (d:Nat) (os:Array Obj):(Instr.loadAt T (.pointer (some ⟨b,off+i*k,none⟩))).run P (Sort.grow (redrawn w d) os)= .ok (.agg (cells x).toArray) (Sort.grow (redrawn w d) os):=by
 cases hd:P.underlying T with
 |none=>rw[hd]at hu;cases hu
 |some de=>
  rw[hd]at hu;have hr:=agH h hk i hi hx;refine run_loadAt_mid (P:=P) (Sort.grow (redrawn w d) os) b (off+i*k) T (cells x) de (fun j v hv=>?_) hd Il UN;rw[(below_regrown w d os).cell (p:=⟨b,off+i*k+j,none⟩) hb];exact hr j v hv
structure U8 where
 (a0 a1 a2 a3 a4 a5 a6 a7:Value)
structure vz(w6:ak)(U Bm:Nat)(Kt:List (List aU))(rows:List Rw)(sa:az)(sc:Nat)(wr:ak):Prop where
 be:Below U w6 wr
 kU:ah wr U 165 #[.slice sa rows.length sc,.slice none 0 0]
 row:Own wr (U+1) 58 1 sa rows.length sc (gC Rw.cells rows)
 it: ∀r∈rows,jm wr Bm r
 keys:rows.map Rw.key=Kt
 r9:rows.length≤900
section
variable{w6:ak}{U Bm:Nat}{Kt:List (List aU)}{rows:List Rw}{sa:az}{sc:Nat}{wr W:ak}
theorem vz.below(h:vz w6 U Bm Kt rows sa sc wr)(hb:Below wr.heap.size wr W):vz w6 U Bm Kt rows sa sc W:=
 ⟨h.be.trans (hb.mono (Nat.le_of_lt h.kU.lt)),h.kU.below hb h.kU.lt,h.row.below hb aA,fun r hr=>(h.it r hr).below hb aA,h.keys,h.r9⟩
theorem vz.turn{row:Option Nat}(h:vz w6 U Bm Kt rows sa sc wr)(hC:U≤C)(hg:wr.grownBy W row)(hr: ∀r,row=some r→C≤r∧∃o:Obj,wr.heap[r]?=some o∧o.isCells=false):vz w6 U Bm Kt rows sa sc W:=
 have h2:=fun r e=>(hr r e).2
 ⟨h.be.grown hg (Nat.le_of_lt h.kU.lt) fun k e=>dA hC (hr k e).1,h.kU.turn hg h2,h.row.turn hg h2,fun r hr=>(h.it r hr).turn hg h2,h.keys,h.r9⟩
theorem vz.push(h:vz w6 U Bm Kt rows sa sc wr){r:Rw}(gr:Grew (U+1) wr W sa A2)(oA:Own W (U+1) 58 1 A2 (rows.length+1) c2 (gC Rw.cells rows++Rw.cells r))(hr:jm wr Bm r)(h9:rows.length+1≤900):vz w6 U Bm (Kt++ [r.key]) (rows++ [r]) A2 c2 (W.setCell ⟨U,0,none⟩ (.slice A2 (rows.length+1) c2)):=by
 have g2:=grownBy_set W U 0 (.slice A2 (rows.length+1) c2);have xy:=h.kU.aC gr.1 h.row ay;have z1:=gr.1.size;have hU:=h.kU.lt;have hl:(rows++ [r]).length=rows.length+1:=by simp
 refine⟨(h.be.aC gr.1 h.row aj aj).aB g2 aj bQ,by rw[hl];exact xy.upd 0 _,?_,fun x hx=>?_,by rw[jg,h.keys];rfl,by omega⟩
 ·rw[hl,yS,mP,Dj,iK];exact oA.aG g2 xy ay
 ·rcases lW.1 hx with hx|hx
  ·exact((h.it x hx).Gu gr.1 h.row ay ay ay).aG g2 xy ay ay ay
  ·rw[dU.1 hx];exact(hr.Gu gr.1 h.row ay ay ay).aG g2 xy ay ay ay
end
theorem Marks.others{W':ak}{ds:List Deferred}(h:Marks B U W ds)(hk:KeepsOthers W W'):Marks B U W' ds:=
 h.keep aA fun D hD hd=>(hk.same D _ hd rfl).trans hd.symm
theorem Y0:(prog.info? 58).map (fun i=>(i.zero.isSome,i.zero.map (fun z=>z.cells.size),i.size,i.bytes))=some (true,some 1,1,24):=by kernel_rfl
theorem apq:(prog.info? 218).map (·.size)=some 3:=by kernel_rfl
theorem aqj:(prog.underlying 218).map TypeDesc.isRow=some true:=by kernel_rfl
theorem Uj:(prog.info? 165).map (·.size)=some 2:=by kernel_rfl
theorem agf:(prog.underlying 165).map TypeDesc.isRow=some true:=by kernel_rfl
theorem ZL{w6:ak}{Bm O gb:Nat}{Kt:List (List aU)}{rows:List Rw}{sa:az}{sc:Nat}{V1 V2:ak}{ci cc ca:aZ}{r:Rw}
  (hz:O+3≤W.heap.size) (XK:U<O) (hgb:gb<U) (kO:ah W O 3 ci) (kC:ah W (O+1) 28 cc) (kA:ah W (O+1+1) 3 ca) (hmk:Marks B O W gV) (ht:vz w6 U Bm Kt rows sa sc W) (bV:Below W.heap.size W V1) (gr:Grew (U+1) V1 V2 sa A2) (oA:Own V2 (U+1) 58 1 A2 (rows.length+1) c2 (gC Rw.cells rows++Rw.cells r)) (hr:jm V1 Bm r) (h9:rows.length+1≤900):
  KeepsOthers W (V2.setCell ⟨U,0,none⟩ (.slice A2 (rows.length+1) c2))∧jW (O+1) (O+1+1) gb W (V2.setCell ⟨U,0,none⟩ (.slice A2 (rows.length+1) c2))∧O+3≤(V2.setCell ⟨U,0,none⟩ (.slice A2 (rows.length+1) c2)).heap.size∧ah (V2.setCell ⟨U,0,none⟩ (.slice A2 (rows.length+1) c2)) O 3 ci∧ah (V2.setCell ⟨U,0,none⟩ (.slice A2 (rows.length+1) c2)) (O+1) 28 cc∧ah (V2.setCell ⟨U,0,none⟩ (.slice A2 (rows.length+1) c2)) (O+1+1) 3 ca∧
   Marks B O (V2.setCell ⟨U,0,none⟩ (.slice A2 (rows.length+1) c2)) gV∧vz w6 U Bm (Kt++ [r.key]) (rows++ [r]) A2 c2 (V2.setCell ⟨U,0,none⟩ (.slice A2 (rows.length+1) c2)):=by
 have g2:=grownBy_set V2 U 0 (.slice A2 (rows.length+1) c2);have t1:=ht.below bV;have k1:=kC.below bV kC.lt;have k2:=kA.below bV kA.lt;have k0:=kO.below bV kO.lt;have ko:=((CO bV).trans (MW t1.row gr)).trans (KeepsOthers.setCell V2 ⟨U,0,none⟩ (.slice A2 (rows.length+1) c2));have z1:=bV.size;have z2:=gr.1.size;have z3:=g2.size;refine⟨ko,(jW.below bV).trans ((jW.grown gr.1 fun q hq=>?_).trans (jW.grown g2 fun q hq=>by injection hq with hq;omega)),by omega,(k0.aC gr.1 t1.row ay).aB g2 cu,(k1.aC gr.1 t1.row ay).aB g2 cu,(k2.aC gr.1 t1.row ay).aB g2 cu,hmk.others ko,t1.push gr oA hr h9⟩;have e1:=t1.row.iw k1 ay;have e2:=t1.row.iw k2 ay;have e3:=t1.row.dW q hq;rw[hq]at e1 e2;exact⟨fun e=>e1 (by rw[e]),fun e=>e2 (by rw[e]),by omega⟩
def akb(R U:Nat)(ct sd:aZ)(w':ak):Prop:=ah w' R 45 ct∧ah w' U 165 sd
end Go.Proofs.YtiffpjamngklhaaGreat
