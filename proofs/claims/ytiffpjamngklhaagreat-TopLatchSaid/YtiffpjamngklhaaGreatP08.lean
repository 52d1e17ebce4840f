/- Lemmas, part 08. -/
import Derived.StillTailTactics
import Derived.Stop.RegionWithIn
import Derived.Outline
import Derived.Test.YtiffpjamngklhaaGreatP02
import Derived.Test.YtiffpjamngklhaaGreatP04
import Derived.Test.YtiffpjamngklhaaGreatP05
namespace Go.Proofs.YtiffpjamngklhaaGreat
set_option linter.all false
set_option maxRecDepth 100000
set_option maxHeartbeats 16000000
open Go.RowKit Tryz
open Go.Sort hiding Below
variable{w w':ak}{B n i k base off:Nat}{t:aK}{a:az}{s:Int}{ls:List (Int × Int)}
def Iy(l:List (Int × Int)):aP:=l.flatMap fun x=> [ae x.1,ae x.2]
theorem aeW: ∀l:List (Int × Int),(Iy l).length=2*l.length
 |[]=>rfl
 |x::l=>by
  have:=aeW l;simp only[Iy,List.flatMap_cons,dP,jJ]at this⊢;rw[this];simp;omega
theorem UZ{Y:ak}{p:Nat}{e':aK}{C:aZ}(kR:ah Y p e' C){e:aK}{size cap:Nat}{xs:aP}(h:Own Y base e size a n cap xs)(h1:e≠e')(u0 u1 u2 u3:Value):
  Own ((((Y.setCell ⟨p,0,none⟩ u0).setCell ⟨p,1,none⟩ u1).setCell ⟨p,2,none⟩ u2).setCell ⟨p,3,none⟩ u3) base e size a n cap xs:=by
 have a1:=h.pU kR h1;refine Own.far ?_ a1 _;refine Own.far ?_ a1 _;refine Own.far ?_ a1 _;exact Own.far h a1 _
theorem Touch.QI{W:b_}{lo hi:Nat→Nat}(w:ak){b:Nat}(hk:k∈W)(h1:lo k≤b)(h2:b<hi k)(v0 v1 v2 v3:Value):Touch W lo hi w ((((w.setCell ⟨b,0,none⟩ v0).setCell ⟨b,1,none⟩ v1).setCell ⟨b,2,none⟩ v2).setCell ⟨b,3,none⟩ v3):=
 (((Touch.set w hk h1 h2 0 v0).trans (Touch.set _ hk h1 h2 1 v1)).trans (Touch.set _ hk h1 h2 2 v2)).trans (Touch.set _ hk h1 h2 3 v3)
theorem ah.QI{b:Nat}{u0 u1 u2 u3:Value}(h:ah w b t #[u0,u1,u2,u3])(v0 v1 v2 v3:Value):ah ((((w.setCell ⟨b,0,none⟩ v0).setCell ⟨b,1,none⟩ v1).setCell ⟨b,2,none⟩ v2).setCell ⟨b,3,none⟩ v3) b t #[v0,v1,v2,v3]:=
 (((h.set 0 v0).set 1 v1).set 2 v2).set 3 v3
theorem aeX: ∀(l:List (Int × Int)) (i:Nat) (h:i<l.length),(Iy l)[2*i]?=some (ae l[i].1)∧(Iy l)[2*i+1]?=some (ae l[i].2)
 |x::l,0,_=>⟨rfl,rfl⟩
 |x::l,i+1,h=>by
  have:=aeX l i oq;have e:Iy (x::l)= [ae x.1,ae x.2]++Iy l:=rfl;rw[e,show 2*(i+1)=2+2*i by omega,show 2+2*i+1=2+(2*i+1)by omega,List.getElem?_append_right aF,List.getElem?_append_right aF];simpa using this
theorem aqF{la:az}{lc:Nat}(h:Own w base 194 2 la n lc (Iy ls))(hn:ls.length=n)(i:Nat)(hi:i<ls.length):
  ∃g,la=some ⟨g,0,none⟩∧base≤g∧g<w.heap.size∧w.cell? ⟨g,i*2,none⟩=some (ae ls[i].1)∧w.cell? ⟨g,i*2+1,none⟩=some (ae ls[i].2)∧w.frozen? ⟨g,i*2,none⟩=false∧w.frozen? ⟨g,i*2+1,none⟩=false:=by
 obtain⟨g,rfl,h1,h2⟩:=h.open_ aj;have hl:=aeW ls;obtain⟨q0,q1⟩:=aeX ls i hi;refine⟨g,rfl,h1,h2,?_,?_,h.frozen _,h.frozen _⟩
 ·rw[h.cell (i*2) aj];rw[show 2*i=i*2 by omega,d_ aj]at q0;exact q0
 ·rw[h.cell (i*2+1) aj];rw[show 2*i+1=i*2+1 by omega,d_ aj]at q1;exact q1
theorem ahe{ρ:Operand→Value}{R:Value→ak→Prop}{dst:Option Tmp}{x y:Operand}{ty:aK}{pos:String}{after:Array Edge}{guard:Option (Nat × Bool)}
  (n:Nat) (hx:ρ x=ae n) (hy:ρ y=ae n) (hn:n≤100000)
  (h:ah (w.alloc (.cells ((List.replicate n (0:Int)).map encI).toArray 3)) w.heap.size 3 ((List.replicate n (0:Int)).map encI).toArray→R (.slice (some ⟨w.heap.size,0,none⟩) n n) (w.alloc (.cells ((List.replicate n (0:Int)).map encI).toArray 3))):
  CZ prog R ((execOp ρ {dst,op:= .makeSlice 22 x y,type:=ty,pos,after,guard}).run prog w):=by
 obtain⟨i0,hi,hz0,hz1,hz2⟩:=info_parts Nr;have hrun:=run_make (P:=prog) w 22 3 i0 _ underlying22 hi hz0 .i64 .i64 n n aj aj JU aj;have e:madeCells (Value.int .i64 0).cells (n*1)=((List.replicate n (0:Int)).map encI).toArray:=by
  rw[Nat.mul_one,List.map_replicate];exact Yi _ _
 simp only[Int.toNat_natCast,hz1]at hrun;rw[e]at hrun;simp only[execOp,hx,hy,Sem.run_bind,Result.andThen_ok,hrun];exact h (ah.new _ _ _)
@[reducible] def QJ(fl ov:Bool)(n:Nat)(ca:az)(cc:Nat)(na:az)(nc:Nat):Value:= .agg #[.bool fl,.bool ov,.slice ca n cc,.slice na n nc]
def avb(n:Nat)(w:ak)(e:Ending)(w':ak):Prop:=
 ∃B C:Nat,e= .returned (QJ true false n (some ⟨B,0,none⟩) n (some ⟨C,0,none⟩) n)∧w.heap.size≤B∧w.heap.size≤C∧B≠C∧ah w' B 3 ((List.replicate n (0:Int)).map encI).toArray∧ah w' C 3 ((List.replicate n (0:Int)).map encI).toArray∧Below w.heap.size w w'
theorem Uk{P:Prop}(h:P:=by
 obtain⟨⟨rfl,rfl⟩,kb⟩:=h;exact⟨⟨rfl,rfl⟩,(hown _ aA (rD _)).trans kb⟩):P:=h
theorem aoY(jb jc aQ aY n:Nat)(s:Int)(Z:ak)(hn:n≤8):
  aH 63 #[VW jb jc aQ aY n s] Z (avb n Z):=by
 go_enter func63,ntmps63
 go_upto_region 1 with fail
 refine aW (fun W=>ah W Z.heap.size 69 #[.slice (some ⟨jb,0,none⟩) n jc,.slice (some ⟨aQ,0,none⟩) n aY,ae s]∧ah W (Z.heap.size+1) 73 #[.bool false,.bool false,.slice none 0 0,.slice none 0 0]∧Below Z.heap.size Z W∧Z.heap.size+2≤W.heap.size) ⟨(ah.new _ _ _).alloc _,ah.next _ _ _ _,bel,by simp⟩ ?_;rintro W ⟨kj,kr,be,sz⟩;apply uG [((Z.heap.size+1),(Z.heap.size+1+1))] 10 12 [some 3,some 4,some 5,some 6,some 7,some 8,some 9,some 10,some 11,none] [⟨[10],[],[],[]⟩,⟨[0,10],[0],[0],[]⟩,⟨[0,1,10],[1],[1],[]⟩,⟨[0,1,2,10],[2],[2],[]⟩,⟨[10],[],[],[]⟩,⟨[4,10],[4],[4],[]⟩,⟨[4,5,10],[5],[5],[]⟩,⟨[4,5,6,10],[6],[6],[]⟩,⟨[0,1,2,3,4,5,6,7,10],[3,7],[3,7],[]⟩,⟨[0,1,2,3,4,5,6,7,8,10],[3,7,8,10],[3,7,8,10],[10]⟩,⟨[],[],[],[]⟩] [0,1,2,3,4,5,6,7,8,9] [3,7,9] [bC,bC,bC,(fun f lo hi v b0 b1 W=> ∃B:Nat,v= .slice (some ⟨B,0,none⟩) n n∧b0≤B∧B<b1∧ah W B 3 ((List.replicate n (0:Int)).map encI).toArray),bC,bC,bC,(fun f lo hi v b0 b1 W=> ∃B:Nat,v= .slice (some ⟨B,0,none⟩) n n∧b0≤B∧B<b1∧ah W B 3 ((List.replicate n (0:Int)).map encI).toArray),(fun f lo hi v b0 b1 W=>v= .agg #[.bool true,.bool false,f 3,f 7]),(fun f lo hi v b0 b1 W=> ∃B C:Nat,f 3= .slice (some ⟨B,0,none⟩) n n∧f 7= .slice (some ⟨C,0,none⟩) n n∧ah W (Z.heap.size+1) 73 #[.bool true,.bool false,.slice (some ⟨B,0,none⟩) n n,.slice (some ⟨C,0,none⟩) n n]),(fun f lo hi v b0 b1 W=>(b0=(Z.heap.size+1)∧b1=(Z.heap.size+1+1))∧ah W (Z.heap.size+1) 73 #[.bool false,.bool false,.slice none 0 0,.slice none 0 0])] [bG _,bG _,bG _,dM,bG _,bG _,bG _,dM,dM,dM]
 ·kernel_rfl
 ·kernel_rfl
 ·rfl
 ·rfl
 rotate_left 2
 refine⟨?Kq,?Kr,?Ku,?Kv,?Kw,?Ky,?Kz,?KA,?Qx,?Qy,trivial⟩
 all_goals try(intro f lo hi w hb hx hf hk hrg R hR;(try replace hb:=fH.zero hb);(try simp(decide:=true) only[go_sem]at hf hk))
 case hx=>exact⟨⟨by omega,by omega⟩,by simp,trivial⟩
 case hX=>exact⟨fun _ _ _ _=>⟨⟨rfl,rfl⟩,kr⟩,trivial⟩
 case Kq=>go_simp;exact hR _ _ (bK rfl rfl bD rfl)
 case Kr=>
  have e0:=(hb.blk kj Bd).cell 0;go_simp;exact hR _ _ (bK rfl rfl bD rfl)
 case Ku=>go_simp;exact hR _ _ (bK rfl rfl bD rfl)
 case Kv=>
  refine ahe n ?_ ?_ aj fun kk=>?_
  ·go_simp
  ·go_simp
  refine hR _ _ (iU rfl bel ?_)
  (try simp(decide:=true) only[go_sem])
  exact⟨_,rfl,Nat.le_refl _,by simp,kk⟩
 case Kw=>go_simp;exact hR _ _ (bK rfl rfl bD rfl)
 case Ky=>
  have e0:=(hb.blk kj Bd).cell 0;go_simp;exact hR _ _ (bK rfl rfl bD rfl)
 case Kz=>go_simp;exact hR _ _ (bK rfl rfl bD rfl)
 case KA=>
  refine ahe n ?_ ?_ aj fun kk=>?_
  ·go_simp
  ·go_simp
  refine hR _ _ (iU rfl bel ?_)
  (try simp(decide:=true) only[go_sem])
  exact⟨_,rfl,Nat.le_refl _,by simp,kk⟩
 case Qx=>
  obtain⟨⟨B,h6, -⟩,C,h10, -⟩:=hf;go_simp;refine hR _ _ (iU rfl bD ?_)
  (try simp(decide:=true) only[go_sem])
  rw[h6,h10]
 case Qy=>
  obtain⟨⟨B,h6, -⟩,⟨C,h10, -⟩,h11, -,kb⟩:=hf;rw[h6,h10]at h11;obtain⟨e0,e1,e2,e3⟩:=kb.four';have fz:=kb.frozen;have p1:lo 10=_:=(fU.get _ _ hx 0 _ rfl).1;have p2:hi 10=_:=(fU.get _ _ hx 0 _ rfl).2;go_simp;refine hR _ _ (vH rfl rfl (Touch.QI w (dU.2 rfl) (tY p1) Eu _ _ _ _) ?_)
  (try simp(decide:=true) only[go_sem])
  exact⟨B,C,h6,h10,kb.QI _ _ _ _⟩
 case hcl=>
  refine⟨bH,bH,bH,?aBP,bH,bH,bH,?av5,?aiZ,?av6,?avc,trivial⟩
  all_goals first
   |exact fun f lo hi v b0 b1 w w' h hs hB hown hU hX=>by
     obtain⟨B,h1,h2,h3,kk⟩:=h;exact⟨B,h1,h2,h3,(hown B h2 h3).trans kk⟩
   |exact fun f lo hi v b0 b1 w w' h hs hB hown hU hX=>by
     obtain⟨B,C,h1,h2,h3⟩:=h;exact⟨B,C,h1,h2,(hX 0 _ rfl aF _ aA (rD _)).trans h3⟩
   |exact fun f lo hi v b0 b1 w w' h hs hB hown hU hX=>by
     exact Uk
   |exact fun _ _ _ _ _ _ _ _ h _ _ _ _ _=>h
 intro f lo hi W7 hbr hx hf hk hrg;(try replace hbr:=fH.zero hbr);clear hx;(try simp(decide:=true) only[go_sem]at hf hk);obtain⟨⟨B,h6,B1,B2,kB⟩,⟨C,h10,C1,C2,kC⟩,B',C',h6',aaV,k7⟩:=hf;obtain⟨rfl,rfl⟩:B=B'∧C=C':=by
  rw[h6]at h6';rw[h10]at aaV;injection h6' with e1
  injection e1 with e1
  injection e1 with e1
  injection aaV with e2
  injection e2 with e2
  injection e2 with e2
  exact⟨e1,e2⟩
 have q3:=(hrg.out 3 aF).1;have q7:=(hrg.out 7 aF).1;have WG:B≠C:=fun e=>by
  rcases(hrg.out 3 aF).2.2.2 7 aF ay with h|h<;>omega
 have bx:Below Z.heap.size Z W7:=⟨hbr.1.trans be.os,hbr.2.1.trans be.tape,hbr.2.2.1.trans be.output,dA be.size hbr.2.2.2.1,fun k hk=>(hbr.2.2.2.2 k ⟨by omega,fun r hr=>by simp at hr;subst hr;simp only;omega⟩).trans (be.block k hk)⟩;obtain⟨d0,d1,d2,d3⟩:=k7.four';clear hrg hbr h6' aaV;go_simp;clear hk h6 h10
 go_wp2
 exact bodyPost_ret (v:=QJ true false n (some ⟨B,0,none⟩) n (some ⟨C,0,none⟩) n) (by simp[results,results63,go_sem,d0,d1,d2,d3]) rfl ⟨B,C,rfl,by omega,by omega,WG,kB,kC,bx⟩
def Dy(a:Int):Int:=if a=1∨a=2 then a else 0
def Dp(ls:List (Int × Int)):aO:=ls.map fun l=>Dy l.1
def wJ(ps:List Ph)(ls:List (Int × Int)):aO:=List.zipWith (fun p l=>Di p l.1 l.2) ps ls
theorem arp(ls:List (Int × Int)):(Dp ls).length=ls.length:=by simp[Dp]
theorem arq{ps:List Ph}(h:ls.length=ps.length):(wJ ps ls).length=ps.length:=by simp[wJ,h]
def jv(l:aO)(n i:Nat):aO:=l.take i++List.replicate (n -i) 0
theorem Pz(l:aO)(n:Nat):jv l n 0=List.replicate n 0:=by simp[jv]
theorem PN{l:aO}(h:l.length=n):jv l n n=l:=by simp[jv,←h]
theorem aqG{l:aO}(h:l.length=n)(hi:i≤n):(jv l n i).length=n:=by simp[jv];omega
theorem aeY{P:Prop}(h:P:=by
 have h1:(l.take i).length=i:=by simp;omega
 rw[List.set_append_right _ _ aj,h1,Nat.sub_self,show n -i=(n -(i+1))+1 by omega,List.replicate_succ,jX,←List.take_append_getElem aj,uM];rfl):P:=h
theorem Y8{l:aO}(h:l.length=n)(hi:i<n)(x:Int)(hx:l[i]' aj=x):(jv l n i).set i x=jv l n (i+1):=by
 subst hx;unfold jv;exact aeY
theorem JW{l:aO}(h:ah w B 3 ((jv l n i).map encI).toArray)(hl:l.length=n)(hi:i<n)(x:Int)(hx:l[i]' aj=x):ah (w.setCell ⟨B,i,none⟩ (ae x)) B 3 ((jv l n (i+1)).map encI).toArray:=by
 rw[←Y8 hl hi x hx];exact h.wM i x rfl
theorem ahD{l:aO}(h:ah w B 3 ((jv l n i).map encI).toArray)(hl:l.length=n)(hi:i<n)(x:Int)(hx:l[i]' aj=x):ah ((w.setCell ⟨B,i,none⟩ (ae 0)).setCell ⟨B,i,none⟩ (ae x)) B 3 ((jv l n (i+1)).map encI).toArray:=by
 have h2:=(h.wM i 0 (u:=ae 0) rfl).wM i x (u:=ae x) rfl;rw[List.set_set,Y8 hl hi x hx]at h2;exact h2
theorem F7{l:aO}(h:ah w B 3 ((jv l n i).map encI).toArray)(hl:l.length=n)(hi:i<n):w.cell? ⟨B,i,none⟩=some (ae 0):=by
 have hk:(jv l n i).length=n:=aqG hl aj;rw[h.cellL i aj];congr 1;show Value.int .i64 _=_;congr 1;simp only[jv];rw[List.getElem_append_right cu];simp
@[reducible] def awL(la:az)(n lc:Nat)(g:Int)(na:az)(nn nc:Nat)(wt:Int)(dB:Bool):Value:= .agg #[.slice la n lc,ae g,.slice na nn nc,ae wt,.bool dB]
def VwR(fl ov:Bool)(n:Nat)(cs ns:aO)(w:ak)(e:Ending)(w':ak):Prop:=
 ∃(ca:az) (cc:Nat) (na:az) (nc:Nat),e= .returned (QJ fl ov n ca cc na nc)∧Own w' w.heap.size 3 1 ca n cc (cs.map encI)∧Own w' w.heap.size 3 1 na n nc (ns.map encI)∧Below w.heap.size w w'
structure Lts(w:ak)(lb:Nat)(ps:List Ph)(ls:List (Int × Int))(la:az)(lc:Nat):Prop where
 own:Own w lb 194 2 la ps.length lc (Iy ls)
 ll:ls.length=ps.length
 lok: ∀i (h:i<ps.length) (h':i<ls.length),xZ ps[i] ls[i].1 ls[i].2
def zy(dB:Bool)(ls:List (Int × Int)):aO:=if dB then List.replicate ls.length 0 else Dp ls
def Fe(dB:Bool)(ps:List Ph)(ls:List (Int × Int)):aO:=if dB then List.replicate ls.length 0 else wJ ps ls
theorem xZ.tb{p:Ph}{a t:Int}(hp:mO p)(h:xZ p a t): -1000000000000≤t∧t≤1000000000000:=by
 have h1:=hp.mV;have h2:=hp.red;unfold xZ at h;omega
theorem at1(w:ak)(c1 c2 c3 c4:aZ)(t1 t2 t3 t4:aK):ah ((((w.alloc (.cells c1 t1)).alloc (.cells c2 t2)).alloc (.cells c3 t3)).alloc (.cells c4 t4)) w.heap.size t1 c1∧ah ((((w.alloc (.cells c1 t1)).alloc (.cells c2 t2)).alloc (.cells c3 t3)).alloc (.cells c4 t4)) (w.heap.size+1) t2 c2∧ah ((((w.alloc (.cells c1 t1)).alloc (.cells c2 t2)).alloc (.cells c3 t3)).alloc (.cells c4 t4)) (w.heap.size+2) t3 c3∧ah ((((w.alloc (.cells c1 t1)).alloc (.cells c2 t2)).alloc (.cells c3 t3)).alloc (.cells c4 t4)) (w.heap.size+3) t4 c4∧Below w.heap.size w ((((w.alloc (.cells c1 t1)).alloc (.cells c2 t2)).alloc (.cells c3 t3)).alloc (.cells c4 t4)):=by
 obtain⟨q1,q2,q3,q4⟩:=ZE w c1 c2 c3 t1 t2 t3;refine⟨q2.alloc _,q3.alloc _,q4.alloc _,?_,bel⟩;have:=ah.new (((w.alloc (.cells c1 t1)).alloc (.cells c2 t2)).alloc (.cells c3 t3)) t4 c4;simpa using this
theorem Yw{r g mg xg y rd wk cl a t N:Int}(h:Hid (Di ⟨r,g,mg,xg,y,rd,wk,cl⟩ a t=N))(w:ak)(hp:mO ⟨r,g,mg,xg,y,rd,wk,cl⟩)(hx: -1000000000000≤t∧t≤1000000000000):
  aH 94 #[.agg #[ae r,ae g,ae mg,ae xg,ae y,ae rd,ae wk,ae cl],.agg #[ae a,ae t]] w fun e w'=>e= .returned (ae N)∧Below w.heap.size w w':=by
 have:=aqE ⟨r,g,mg,xg,y,rd,wk,cl⟩ a t w hp hx;rw[h.out]at this;exact this
theorem Yx{P:Prop}(h:P:=by
 intro f lo hi W7 hbr hx hf hk hrg;(try replace hbr:=fH.zero hbr);clear hx;(try simp(decide:=true) only[go_sem]at hf hk);have hout: ∀q,q<Y.heap.size→q≠C→W7.heap[q]?=Y.heap[q]?:=fun q h1 h2=>hbr.2.2.2.2 q ⟨h1,fun r hr=>by simp at hr;subst hr;simp only;omega⟩;have sQ:Below w.heap.size w W7:=⟨hbr.1.trans DT.os,hbr.2.1.trans DT.tape,hbr.2.2.1.trans DT.output,dA DT.size hbr.2.2.2.1,fun q hq=>(hout q (by have:=DT.size;omega) aj).trans (DT.block q hq)⟩;have kV7:=(hout V kV.lt aj).trans kV;have Rj:=(hout B kB.lt WG).trans kB;have ks7:=(hout _ ks.lt aj).trans ks;have kr7:=(hout _ kr.lt aj).trans kr;clear hout hbr hrg;go_simp;clear hk
 go_wp2
 go_roundw
 case rel=>exact⟨i+1,by go_num,by omega,kV7,Rj,hf,ks7,kr7,sQ⟩
 case measure=>simp[intOf];omega):P:=h
theorem avd(base jb jc aQ aY:Nat)(ps:List Ph)(cs:aO)(s:Int)(lb:Nat)(ls:List (Int × Int))(la:az)(lc:Nat)(g wt:Int)(na:az)(nn nc:Nat)(dB:Bool)(ph gr:Int)(ea:az)(en ec:Nat)(w:ak)(hj:Jh w base jb jc aQ aY ps cs s)(hl:Lts w lb ps ls la lc):
  aH 67 #[VW jb jc aQ aY ps.length s,awL la ps.length lc g na nn nc wt dB,.agg #[ae ph,ae gr,.slice ea en ec]] w (VwR dB (!dB && (ph != -1)) ps.length (zy dB ls) (Fe dB ps ls) w):=by
 have hn:=hj.n1;have WH:=hj.lw;obtain⟨hl,hll,awM⟩:=hl
 go_enter func67,ntmps67
 go_upto_region 1 with fail
 refine aW (fun W=>ah W w.heap.size 69 #[.slice (some ⟨jb,0,none⟩) ps.length jc,.slice (some ⟨aQ,0,none⟩) ps.length aY,ae s]∧ah W (w.heap.size+1) 120 #[.slice la ps.length lc,ae g,.slice na nn nc,ae wt,.bool dB]∧ah W (w.heap.size+2) 123 #[ae ph,ae gr,.slice ea en ec]∧ah W (w.heap.size+3) 73 #[.bool false,.bool false,.slice none 0 0,.slice none 0 0]∧Below w.heap.size w W) (at1 w _ _ _ _ _ _ _ _) ?_;rintro W ⟨kj,ks,kv,kr,be⟩;have hWl:=kr.lt;obtain⟨j0,j1,j2⟩:W.cell? ⟨w.heap.size,0,none⟩=_∧W.cell? ⟨w.heap.size,1,none⟩=_∧W.cell? ⟨w.heap.size,2,none⟩=_:=⟨kj.cell 0,kj.cell 1,kj.cell 2⟩;have jl:=kj.lt
 go_upto_region 2 with((go_at_call 63;refine(aoY jb jc aQ aY ps.length s _ aj).mono ?_;rintro e w1 ⟨B,C,rfl,hB,hC,WG,kB,kC,hb1⟩))
 obtain⟨V,Ji⟩:=aI w1.heap.size;have HVV:=ax Ji;have hW1:=hb1.size;refine aW (fun U=>ah U V 73 #[.bool true,.bool false,.slice (some ⟨B,0,none⟩) ps.length ps.length,.slice (some ⟨C,0,none⟩) ps.length ps.length]∧ah U B 3 ((List.replicate ps.length (0:Int)).map encI).toArray∧ah U C 3 ((List.replicate ps.length (0:Int)).map encI).toArray∧Below W.heap.size W U) ⟨by rw[←Ji];exact ah.new _ _ _,kB.alloc _,kC.alloc _,hb1.alloc hW1 _⟩ ?_;have Rn:B<V:=by have:=kB.lt;omega
 have hCV:C<V:=by have:=kC.lt;omega
 have hWV:W.heap.size≤V:=by omega
 rw[Ji];clear Ji hb1 kB kC hW1 HVV j0 j1 j2 jl;rintro U ⟨kV,kB,kC,hb1⟩;have GK:=kj.below hb1 kj.lt;have ks1:=ks.below hb1 ks.lt;have kv1:=kv.below hb1 kv.lt;have Ls:=kr.below hb1 kr.lt;clear kj ks kv kr;obtain⟨j0,j1,j2⟩:U.cell? ⟨w.heap.size,0,none⟩=_∧U.cell? ⟨w.heap.size,1,none⟩=_∧U.cell? ⟨w.heap.size,2,none⟩=_:=⟨GK.cell 0,GK.cell 1,GK.cell 2⟩;obtain⟨s0,s1,s2,s3,s4,sf,sl⟩:=ks1.five;have t0:U.cell? ⟨w.heap.size+2,0,none⟩=_:=kv1.cell 0;have tl:=kv1.lt;have jl:=GK.lt;obtain⟨v0,v1,v2,v3⟩:=kV.four';have vf:=kV.frozen;have vl:=kV.lt;cases dB with
 |true=>
  obtain⟨r0,r1,r2,r3⟩:=Ls.four';have rf:=Ls.frozen;have rl:=Ls.lt
  go_wp2_with fail
  refine bodyPost_ret (v:=QJ true false ps.length (some ⟨B,0,none⟩) ps.length (some ⟨C,0,none⟩) ps.length) (by simp[results,results67,go_sem,r0,r1,r2,r3]) rfl ?_;have e1:zy true ls=List.replicate ps.length 0:=by simp[zy,hll]
  have e2:Fe true ps ls=List.replicate ps.length 0:=by simp[Fe,hll]
  rw[e1,e2];exact⟨_,_,_,_,rfl,UZ Ls (kB.IX aj aF tK) ay _ _ _ _,UZ Ls (kC.IX aj aF tK) ay _ _ _ _,bel⟩
 |false=>
  have hcl:=arp ls;have hnl:=arq hll;rw[hll]at hcl
  go_wp2_with fail
  go_loopw [24] (fun s24 wr=> ∃i:Nat,s24=ae i∧i≤ps.length∧ah wr V 73 #[.bool false,.bool (ph != -1),.slice (some ⟨B,0,none⟩) ps.length ps.length,.slice (some ⟨C,0,none⟩) ps.length ps.length]∧ah wr B 3 ((jv (Dp ls) ps.length i).map encI).toArray∧ah wr C 3 ((jv (wJ ps ls) ps.length i).map encI).toArray∧ah wr (w.heap.size+1) 120 #[.slice la ps.length lc,ae g,.slice na nn nc,ae wt,.bool false]∧ah wr (w.heap.size+3) 73 #[.bool false,.bool false,.slice none 0 0,.slice none 0 0]∧Below w.heap.size w wr) (fun s _=>ps.length -(intOf s).toNat)
  case atStart=>exact⟨0,rfl,by omega,(kV.set 0 _).set 1 _,by rw[Pz];exact(kB.far dD _).far dD _,by rw[Pz];exact(kC.far dD _).far dD _,(ks1.far dD _).far dD _,(Ls.far dD _).far dD _,bel⟩
  case round=>
   clear kV kB kC ks1 Ls GK kv1 s0 s1 s2 s3 s4 sf sl v0 v1 v2 v3 vf vl t0 tl j0 j1 j2 jl;obtain⟨i,rfl,hi,kV,kB,kC,ks,kr,WI⟩:=hrel;by_cases hlt:i<ps.length
   ·have hil:i<ls.length:=by omega
    obtain⟨G,rfl,hG,hGl,y0,y1, -, -⟩:=aqF (hl.below WI aA) hll i hil;obtain⟨x0,x1,x2,x3,x4,x5,x6,x7⟩:=zS (hj.below (WI.mono WH)).ph i hlt;have hjb:jb<wr.heap.size:=by have:=hj.lb;have:=WI.size;omega
    have QK:=hj.ok _ (bF hlt);have hlk:=(awM i hlt hil).tb QK;have hcnt:(wJ ps ls)[i]' aj=Di ps[i] ls[i].1 ls[i].2:=by simp[wJ]
    have aaW:(Dp ls)[i]' aj=Dy ls[i].1:=by simp[Dp]
    obtain⟨jY,aaX⟩: ∃a,ls[i].1=a:=⟨_,rfl⟩;obtain⟨Ro,hlt1⟩: ∃a,ls[i].2=a:=⟨_,rfl⟩;obtain⟨p,hp⟩:=aI (ps[i]);rw[aaX,hlt1,hp]at hcnt;rw[aaX]at aaW y0;rw[hlt1]at hlk y1;rw[hp]at x0 x1 x2 x3 x4 x5 x6 x7 QK;obtain⟨N,hN⟩:=aI (Di p jY Ro);rw[hN]at hcnt;have DU:=ax hcnt;have HN:=ax hN;clear hN;have Oi:=ax aaW;clear hp aaX hlt1 hcnt aaW;obtain⟨r,gg,mg,xg,yw,rd,wk,cx⟩:=p;simp only at x0 x1 x2 x3 x4 x5 x6 x7;obtain⟨s0,s1,s2,s3,s4,sf,sl⟩:=ks.five;obtain⟨v0,v1,v2,v3⟩:=kV.four';have vl:=kV.lt;have bl:=kB.lt;have bf:=kB.frozen;have b0:=F7 kB hcl hlt;have cl:=kC.lt;have cf:=kC.frozen;have c0:=F7 kC hnl hlt;have hq:jY=1∨jY=2∨(Dy jY=0∧jY≠1∧jY≠2):=by unfold Dy;split<;>omega
    go_upto_region 11 with fail
    refine aW (fun X=>ah X wr.heap.size 71 #[ae r,ae gg,ae mg,ae xg,ae yw,ae rd,ae wk,ae cx]∧ah X (wr.heap.size+1) 194 #[ae jY,ae Ro]∧X.heap.size=wr.heap.size+2∧Below wr.heap.size wr X) ⟨(ah.new _ _ _).alloc _,ah.next _ _ _ _,by simp,bel⟩ ?_;rintro X ⟨kP,kL,hXz,bX⟩;have kV:=kV.below bX kV.lt;have kB:=kB.below bX kB.lt;have kC:=kC.below bX kC.lt;have ks:=ks.below bX ks.lt;have kr:=kr.below bX kr.lt;have beX:Below w.heap.size w X:=bel;have hVr:V<wr.heap.size:=vl;have hBr:B<wr.heap.size:=bl;have hCr:C<wr.heap.size:=cl;clear x0 x1 x2 x3 x4 x5 x6 x7 y0 y1 s0 s1 s2 s3 s4 sf sl v0 v1 v2 v3 vl bl bf b0 cl cf c0 bX WI;obtain⟨x0,x1,x2,x3,x4,x5,x6,x7⟩:=kP.eight;have xl:=kP.lt;have y0:X.cell? ⟨wr.heap.size+1,0,none⟩=_:=kL.cell 0;have y1:X.cell? ⟨wr.heap.size+1,1,none⟩=_:=kL.cell 1;have yl:=kL.lt;obtain⟨v0,v1,v2,v3⟩:=kV.four';have vl:=kV.lt;have bl:=kB.lt;have bf:=kB.frozen;have b0:=F7 kB hcl hlt;have hq3:((jY==1)=true∧Dy jY=jY)∨((jY==1)=false∧(jY==2)=true∧Dy jY=jY)∨((jY==1)=false∧(jY==2)=false∧Dy jY=0):=by
     rcases hq with rfl|rfl|⟨hz,hz1,hz2⟩
     ·exact .inl ⟨rfl,rfl⟩
     ·exact .inr (.inl ⟨rfl,rfl,rfl⟩)
     ·exact .inr (.inr ⟨iL.2 hz1,iL.2 hz2,hz⟩)
    clear hq;rcases hq3 with⟨z1,hz⟩|⟨z1,z2,hz⟩|⟨z1,z2,hz⟩
    ·rw[hz]at Oi;clear hz
     go_upto_region 14 with fail
     refine aW (fun Y=>ah Y wr.heap.size 71 #[ae r,ae gg,ae mg,ae xg,ae yw,ae rd,ae wk,ae cx]∧ah Y (wr.heap.size+1) 194 #[ae jY,ae Ro]∧ah Y V 73 #[.bool false,.bool (ph != -1),.slice (some ⟨B,0,none⟩) ps.length ps.length,.slice (some ⟨C,0,none⟩) ps.length ps.length]∧ah Y B 3 ((jv (Dp ls) ps.length (i+1)).map encI).toArray∧ah Y C 3 ((jv (wJ ps ls) ps.length i).map encI).toArray∧ah Y (w.heap.size+1) 120 #[.slice (some ⟨G,0,none⟩) ps.length lc,ae g,.slice na nn nc,ae wt,.bool false]∧ah Y (w.heap.size+3) 73 #[.bool false,.bool false,.slice none 0 0,.slice none 0 0]∧Below w.heap.size w Y) ⟨((kP.far dD _).far dD _),((kL.far dD _).far dD _),((kV.far dD _).far dD _),ahD kB hcl hlt _ Oi.out,((kC.far dD _).far dD _),((ks.far dD _).far dD _),((kr.far dD _).far dD _),bel⟩ ?_;clear kP kL kV kB kC ks kr beX x0 x1 x2 x3 x4 x5 x6 x7 xl y0 y1 yl v0 v1 v2 v3 vl bl bf b0;rintro Y ⟨kP,kL,kV,kB,kC,ks,kr,DT⟩;have cl:=kC.lt;apply uG [(C,(C+1))] 8 68 [some 59,some 60,some 61,some 62,some 63,some 64,some 65,none] [⟨[8],[],[],[]⟩,⟨[0,8],[0],[0],[]⟩,⟨[8],[],[],[]⟩,⟨[8],[],[],[]⟩,⟨[8],[],[],[]⟩,⟨[3,4,8],[3,4],[3,4],[]⟩,⟨[0,1,2,3,4,5,8],[1,2],[1,2],[]⟩,⟨[0,1,2,3,4,5,6,8],[5,6,8],[5,6,8],[8]⟩,⟨[],[],[],[]⟩] [0,1,2,3,4,5,6,7] [7] [bC,bC,bC,bC,bC,bC,bC,(fun f lo hi v b0 b1 W=>ah W C 3 ((jv (wJ ps ls) ps.length (i+1)).map encI).toArray),(fun f lo hi v b0 b1 W=>(b0=C∧b1=(C+1))∧ah W C 3 ((jv (wJ ps ls) ps.length i).map encI).toArray)] [bG _,bG _,bG _,bG _,bG _,bG _,bG _,dM]
     ·kernel_rfl
     ·kernel_rfl
     ·rfl
     ·rfl
     rotate_left 2
     refine⟨?pX,?pY,?p_,?qh,?qi,?qj,?qm,?rF,trivial⟩
     all_goals try(intro f lo hi w hb hx hf hk hrg R hR;(try replace hb:=fH.zero hb);(try simp(decide:=true) only[go_sem]at hf hk))
     case hx=>exact⟨⟨by omega,by omega⟩,by simp,trivial⟩
     case hX=>exact⟨fun _ _ _ _=>⟨⟨rfl,rfl⟩,kC⟩,trivial⟩
     case pX=>go_simp;exact hR _ _ (bK rfl rfl bD rfl)
     case pY=>
      have e0:=(hb.blk kV Bd).cell 3;go_simp;exact hR _ _ (bK rfl rfl bD rfl)
     case p_=>go_simp;exact hR _ _ (bK rfl rfl bD rfl)
     case qh=>
      obtain⟨x0,x1,x2,x3,x4,x5,x6,x7⟩:=(hb.blk kP Bd).eight;go_simp;exact hR _ _ (bK rfl rfl bD rfl)
     case qi=>
      have kk:=hb.blk kL Bd;have e0:w.cell? ⟨wr.heap.size+1,0,none⟩=_:=kk.cell 0;have e1:w.cell? ⟨wr.heap.size+1,1,none⟩=_:=kk.cell 1;go_simp;exact hR _ _ (bK rfl rfl bD rfl)
     case qj=>
      go_simp;refine(Yw HN _ QK hlk).mono ?_;rintro e w' ⟨rfl,hb2⟩;exact⟨_,rfl,hR _ _ (bK rfl rfl hb2 rfl)⟩
     case qm=>go_simp;exact hR _ _ (bK rfl rfl bD rfl)
     case rF=>
      obtain⟨⟨-, -⟩,kk⟩:=hf;have e0:=F7 kk hnl hlt;have fz:=kk.frozen;have p1:lo 8=_:=(fU.get _ _ hx 0 _ rfl).1;have p2:hi 8=_:=(fU.get _ _ hx 0 _ rfl).2;go_simp;refine hR _ _ (vH rfl rfl (Touch.set w (dU.2 rfl) (tY p1) Eu _ _) ?_)
      (try simp(decide:=true) only[go_sem])
      exact JW kk hnl hlt _ DU.out
     case hcl=>
      refine⟨bH,bH,bH,bH,bH,bH,bH,?NK,?NL,trivial⟩
      all_goals first
       |exact fun f lo hi v b0 b1 w w' h hs hB hown hU hX=>(hX 0 _ rfl aF _ aA (rD _)).trans h
       |exact fun f lo hi v b0 b1 w w' h hs hB hown hU hX=>by
         exact Uk
       |exact fun _ _ _ _ _ _ _ _ h _ _ _ _ _=>h
     exact Yx
    ·rw[hz]at Oi;clear hz
     go_upto_region 14 with fail
     refine aW (fun Y=>ah Y wr.heap.size 71 #[ae r,ae gg,ae mg,ae xg,ae yw,ae rd,ae wk,ae cx]∧ah Y (wr.heap.size+1) 194 #[ae jY,ae Ro]∧ah Y V 73 #[.bool false,.bool (ph != -1),.slice (some ⟨B,0,none⟩) ps.length ps.length,.slice (some ⟨C,0,none⟩) ps.length ps.length]∧ah Y B 3 ((jv (Dp ls) ps.length (i+1)).map encI).toArray∧ah Y C 3 ((jv (wJ ps ls) ps.length i).map encI).toArray∧ah Y (w.heap.size+1) 120 #[.slice (some ⟨G,0,none⟩) ps.length lc,ae g,.slice na nn nc,ae wt,.bool false]∧ah Y (w.heap.size+3) 73 #[.bool false,.bool false,.slice none 0 0,.slice none 0 0]∧Below w.heap.size w Y) ⟨((kP.far dD _).far dD _),((kL.far dD _).far dD _),((kV.far dD _).far dD _),ahD kB hcl hlt _ Oi.out,((kC.far dD _).far dD _),((ks.far dD _).far dD _),((kr.far dD _).far dD _),bel⟩ ?_;clear kP kL kV kB kC ks kr beX x0 x1 x2 x3 x4 x5 x6 x7 xl y0 y1 yl v0 v1 v2 v3 vl bl bf b0;rintro Y ⟨kP,kL,kV,kB,kC,ks,kr,DT⟩;have cl:=kC.lt;apply uG [(C,(C+1))] 8 68 [some 59,some 60,some 61,some 62,some 63,some 64,some 65,none] [⟨[8],[],[],[]⟩,⟨[0,8],[0],[0],[]⟩,⟨[8],[],[],[]⟩,⟨[8],[],[],[]⟩,⟨[8],[],[],[]⟩,⟨[3,4,8],[3,4],[3,4],[]⟩,⟨[0,1,2,3,4,5,8],[1,2],[1,2],[]⟩,⟨[0,1,2,3,4,5,6,8],[5,6,8],[5,6,8],[8]⟩,⟨[],[],[],[]⟩] [0,1,2,3,4,5,6,7] [7] [bC,bC,bC,bC,bC,bC,bC,(fun f lo hi v b0 b1 W=>ah W C 3 ((jv (wJ ps ls) ps.length (i+1)).map encI).toArray),(fun f lo hi v b0 b1 W=>(b0=C∧b1=(C+1))∧ah W C 3 ((jv (wJ ps ls) ps.length i).map encI).toArray)] [bG _,bG _,bG _,bG _,bG _,bG _,bG _,dM]
     ·kernel_rfl
     ·kernel_rfl
     ·rfl
     ·rfl
     rotate_left 2
     refine⟨?Kq,?Kr,?Ku,?Kv,?Kw,?Ky,?Kz,?KA,trivial⟩
     all_goals try(intro f lo hi w hb hx hf hk hrg R hR;(try replace hb:=fH.zero hb);(try simp(decide:=true) only[go_sem]at hf hk))
     case hx=>exact⟨⟨by omega,by omega⟩,by simp,trivial⟩
     case hX=>exact⟨fun _ _ _ _=>⟨⟨rfl,rfl⟩,kC⟩,trivial⟩
     case Kq=>go_simp;exact hR _ _ (bK rfl rfl bD rfl)
     case Kr=>
      have e0:=(hb.blk kV Bd).cell 3;go_simp;exact hR _ _ (bK rfl rfl bD rfl)
     case Ku=>go_simp;exact hR _ _ (bK rfl rfl bD rfl)
     case Kv=>
      obtain⟨x0,x1,x2,x3,x4,x5,x6,x7⟩:=(hb.blk kP Bd).eight;go_simp;exact hR _ _ (bK rfl rfl bD rfl)
     case Kw=>
      have kk:=hb.blk kL Bd;have e0:w.cell? ⟨wr.heap.size+1,0,none⟩=_:=kk.cell 0;have e1:w.cell? ⟨wr.heap.size+1,1,none⟩=_:=kk.cell 1;go_simp;exact hR _ _ (bK rfl rfl bD rfl)
     case Ky=>
      go_simp;refine(Yw HN _ QK hlk).mono ?_;rintro e w' ⟨rfl,hb2⟩;exact⟨_,rfl,hR _ _ (bK rfl rfl hb2 rfl)⟩
     case Kz=>go_simp;exact hR _ _ (bK rfl rfl bD rfl)
     case KA=>
      obtain⟨⟨-, -⟩,kk⟩:=hf;have e0:=F7 kk hnl hlt;have fz:=kk.frozen;have p1:lo 8=_:=(fU.get _ _ hx 0 _ rfl).1;have p2:hi 8=_:=(fU.get _ _ hx 0 _ rfl).2;go_simp;refine hR _ _ (vH rfl rfl (Touch.set w (dU.2 rfl) (tY p1) Eu _ _) ?_)
      (try simp(decide:=true) only[go_sem])
      exact JW kk hnl hlt _ DU.out
     case hcl=>
      refine⟨bH,bH,bH,bH,bH,bH,bH,?av5,?aiZ,trivial⟩
      all_goals first
       |exact fun f lo hi v b0 b1 w w' h hs hB hown hU hX=>(hX 0 _ rfl aF _ aA (rD _)).trans h
       |exact fun f lo hi v b0 b1 w w' h hs hB hown hU hX=>by
         exact Uk
       |exact fun _ _ _ _ _ _ _ _ h _ _ _ _ _=>h
     exact Yx
    ·rw[hz]at Oi;clear hz
     go_upto_region 14 with fail
     refine aW (fun Y=>ah Y wr.heap.size 71 #[ae r,ae gg,ae mg,ae xg,ae yw,ae rd,ae wk,ae cx]∧ah Y (wr.heap.size+1) 194 #[ae jY,ae Ro]∧ah Y V 73 #[.bool false,.bool (ph != -1),.slice (some ⟨B,0,none⟩) ps.length ps.length,.slice (some ⟨C,0,none⟩) ps.length ps.length]∧ah Y B 3 ((jv (Dp ls) ps.length (i+1)).map encI).toArray∧ah Y C 3 ((jv (wJ ps ls) ps.length i).map encI).toArray∧ah Y (w.heap.size+1) 120 #[.slice (some ⟨G,0,none⟩) ps.length lc,ae g,.slice na nn nc,ae wt,.bool false]∧ah Y (w.heap.size+3) 73 #[.bool false,.bool false,.slice none 0 0,.slice none 0 0]∧Below w.heap.size w Y) ⟨(kP.far dD _),(kL.far dD _),(kV.far dD _),JW kB hcl hlt _ Oi.out,(kC.far dD _),(ks.far dD _),(kr.far dD _),bel⟩ ?_;clear kP kL kV kB kC ks kr beX x0 x1 x2 x3 x4 x5 x6 x7 xl y0 y1 yl v0 v1 v2 v3 vl bl bf b0;rintro Y ⟨kP,kL,kV,kB,kC,ks,kr,DT⟩;have cl:=kC.lt;apply uG [(C,(C+1))] 8 68 [some 59,some 60,some 61,some 62,some 63,some 64,some 65,none] [⟨[8],[],[],[]⟩,⟨[0,8],[0],[0],[]⟩,⟨[8],[],[],[]⟩,⟨[8],[],[],[]⟩,⟨[8],[],[],[]⟩,⟨[3,4,8],[3,4],[3,4],[]⟩,⟨[0,1,2,3,4,5,8],[1,2],[1,2],[]⟩,⟨[0,1,2,3,4,5,6,8],[5,6,8],[5,6,8],[8]⟩,⟨[],[],[],[]⟩] [0,1,2,3,4,5,6,7] [7] [bC,bC,bC,bC,bC,bC,bC,(fun f lo hi v b0 b1 W=>ah W C 3 ((jv (wJ ps ls) ps.length (i+1)).map encI).toArray),(fun f lo hi v b0 b1 W=>(b0=C∧b1=(C+1))∧ah W C 3 ((jv (wJ ps ls) ps.length i).map encI).toArray)] [bG _,bG _,bG _,bG _,bG _,bG _,bG _,dM]
     ·kernel_rfl
     ·kernel_rfl
     ·rfl
     ·rfl
     rotate_left 2
     refine⟨?aaz,?aaA,?aaB,?aaC,?aaD,?aaE,?aaF,?aaG,trivial⟩
     all_goals try(intro f lo hi w hb hx hf hk hrg R hR;(try replace hb:=fH.zero hb);(try simp(decide:=true) only[go_sem]at hf hk))
     case hx=>exact⟨⟨by omega,by omega⟩,by simp,trivial⟩
     case hX=>exact⟨fun _ _ _ _=>⟨⟨rfl,rfl⟩,kC⟩,trivial⟩
     case aaz=>go_simp;exact hR _ _ (bK rfl rfl bD rfl)
     case aaA=>
      have e0:=(hb.blk kV Bd).cell 3;go_simp;exact hR _ _ (bK rfl rfl bD rfl)
     case aaB=>go_simp;exact hR _ _ (bK rfl rfl bD rfl)
     case aaC=>
      obtain⟨x0,x1,x2,x3,x4,x5,x6,x7⟩:=(hb.blk kP Bd).eight;go_simp;exact hR _ _ (bK rfl rfl bD rfl)
     case aaD=>
      have kk:=hb.blk kL Bd;have e0:w.cell? ⟨wr.heap.size+1,0,none⟩=_:=kk.cell 0;have e1:w.cell? ⟨wr.heap.size+1,1,none⟩=_:=kk.cell 1;go_simp;exact hR _ _ (bK rfl rfl bD rfl)
     case aaE=>
      go_simp;refine(Yw HN _ QK hlk).mono ?_;rintro e w' ⟨rfl,hb2⟩;exact⟨_,rfl,hR _ _ (bK rfl rfl hb2 rfl)⟩
     case aaF=>go_simp;exact hR _ _ (bK rfl rfl bD rfl)
     case aaG=>
      obtain⟨⟨-, -⟩,kk⟩:=hf;have e0:=F7 kk hnl hlt;have fz:=kk.frozen;have p1:lo 8=_:=(fU.get _ _ hx 0 _ rfl).1;have p2:hi 8=_:=(fU.get _ _ hx 0 _ rfl).2;go_simp;refine hR _ _ (vH rfl rfl (Touch.set w (dU.2 rfl) (tY p1) Eu _ _) ?_)
      (try simp(decide:=true) only[go_sem])
      exact JW kk hnl hlt _ DU.out
     case hcl=>
      refine⟨bH,bH,bH,bH,bH,bH,bH,?aBQ,?aBR,trivial⟩
      all_goals first
       |exact fun f lo hi v b0 b1 w w' h hs hB hown hU hX=>(hX 0 _ rfl aF _ aA (rD _)).trans h
       |exact fun f lo hi v b0 b1 w w' h hs hB hown hU hX=>by
         exact Uk
       |exact fun _ _ _ _ _ _ _ _ h _ _ _ _ _=>h
     exact Yx
   ·obtain rfl:i=ps.length:=by omega
    rw[PN hcl]at kB;rw[PN hnl]at kC;obtain⟨v0,v1,v2,v3⟩:=kV.four';have vl:=kV.lt;obtain⟨r0,r1,r2,r3⟩:=kr.four';have rf:=kr.frozen;have rl:=kr.lt
    go_wp2_with fail
    refine bodyPost_ret (v:=QJ false (ph != -1) ps.length (some ⟨B,0,none⟩) ps.length (some ⟨C,0,none⟩) ps.length) (by simp[results,results67,go_sem,r0,r1,r2,r3]) rfl ?_;exact⟨_,_,_,_,rfl,UZ kr (kB.IX aj hcl.symm tK) ay _ _ _ _,UZ kr (kC.IX aj hnl.symm tK) ay _ _ _ _,bel⟩
structure Vx where
 fl:Bool
 ov:Bool
 cs:aO
 ns:aO
 ca:az
 cc:Nat
 na:az
 nc:Nat
abbrev Vk:=Bool × Bool × aO × aO
def Vx.key(v:Vx):Vk:=(v.fl,v.ov,v.cs,v.ns)
def Vx.cells(v:Vx):aP:= [.bool v.fl,.bool v.ov,.slice v.ca v.cs.length v.cc,.slice v.na v.ns.length v.nc]
def Iz(l:List Vx):aP:=l.flatMap Vx.cells
theorem Yy: ∀l:List Vx,(Iz l).length=4*l.length
 |[]=>rfl
 |v::l=>by
  have:=Yy l;simp only[Iz,List.flatMap_cons,dP,jJ]at this⊢;rw[this];simp[Vx.cells];omega
theorem aeZ: ∀(l:List Vx) (i:Nat) (h:i<l.length) (j:Nat) (_:j<4),(Iz l)[4*i+j]?=(l[i]).cells[j]?
 |p::l,0,_,j,hj=>by
  simp only[Iz,List.flatMap_cons];rw[Nat.mul_zero,dX,List.getElem?_append_left (by simp[Vx.cells];omega)];rfl
 |p::l,i+1,h,j,hj=>by
  have:=aeZ l i oq j hj;simp only[Iz,List.flatMap_cons]at this⊢;rw[List.getElem?_append_right (by simp[Vx.cells];omega)];simp only[List.getElem_cons_succ];rw[←this];congr 1;simp[Vx.cells];omega
structure vV(w:ak)(a:az)(l:List Vx):Prop where
 row:Row w a (Iz l)
 cs: ∀v∈l,Ints w v.ca v.cs
 ns: ∀v∈l,Ints w v.na v.ns
theorem vV.below{l:List Vx}(h:vV w a l)(hb:Below B w w')(hB:w.heap.size≤B):vV w' a l:=
 ⟨h.row.below hb hB,fun v hv=>(h.cs v hv).below hb hB,fun v hv=>(h.ns v hv).below hb hB⟩
theorem vV.alloc{l:List Vx}(h:vV w a l)(o:Obj):vV (w.alloc o) a l:=
 h.below bel aA
theorem vV.open{l:List Vx}(h:vV w a l)(hl:0<l.length): ∃b off,a=some ⟨b,off,none⟩:=by
 rcases h.row with h0|⟨b,off,e,_⟩
 ·have:=Yy l;rw[h0]at this;simp at this;omega
 ·exact⟨b,off,e⟩
theorem ZF{g:Nat}{l:List Vx}(h:Row w (some ⟨g,off,none⟩) (Iz l))(x:Nat)(hx:x<l.length):
  w.cell? ⟨g,off+x*4,none⟩=some (.bool l[x].fl)∧w.cell? ⟨g,off+x*4+1,none⟩=some (.bool l[x].ov)∧w.cell? ⟨g,off+x*4+2,none⟩=some (.slice l[x].ca l[x].cs.length l[x].cc)∧w.cell? ⟨g,off+x*4+3,none⟩=some (.slice l[x].na l[x].ns.length l[x].nc)∧g<w.heap.size:=by
 have hl:=Yy l;rcases h with h|⟨b,off',e,hlt,hc⟩
 ·rw[h]at hl;simp at hl;omega
 ·injection e with e
  injection e with e1 e2 _
  subst e1 e2;have key: ∀j,j<4→∀v,(l[x].cells)[j]?=some v→w.cell? ⟨g,off+x*4+j,none⟩=some v:=fun j hj v hv=>by
   have q0:4*x+j<(Iz l).length:=by omega
   have:=hc (4*x+j) q0;rw[show off+x*4+j=off+(4*x+j)by omega,this];have q:=aeZ l x hx j hj;rw[hv,d_ q0]at q;exact q
  exact⟨key 0 aj _ rfl,key 1 aj _ rfl,key 2 aj _ rfl,key 3 aj _ rfl,hlt⟩
def gS(ps:List Ph):Nat→Nat
 |0=>0
 |i+1=>gS ps i|||(match ps[i]? with
  |some p=>2 ^ p.group.toNat
  |none=>0)
structure uJ(ps:List Ph)(cs:aO):Prop where
 ok: ∀p∈ps,mO p
 ring: ∀p∈ps,p.ring≤1
 len:cs.length=ps.length
 G5:QC cs
 grp:gS ps ps.length=1∨gS ps ps.length=3∨gS ps ps.length=7
 cf: ∀i (hi:i<ps.length) j (hj:j<ps.length),i≠j→(ps[i].ring=ps[j].ring∨ps[i].group≠ps[j].group)→jR cs i j=true
theorem afr{P:Prop}(h:P:=by
 go_wp2_with (go_at_call 154;refine(MN (some ⟨aQ,0,none⟩) cs ps.length aY i j _ hcY HL.out hro).mono ?_;rintro e wy ⟨rfl,rfl⟩;(rw[hcf]))
 go_roundw
 case rel=>exact⟨j+1,rfl,by go_num,by omega,bz⟩
 case measure=>simp[intOf];omega):P:=h
theorem apO(jb jc aQ aY:Nat)(ps:List Ph)(cs:aO)(s:Int)(w:ak)(hp:Row w (some ⟨jb,0,none⟩) (jI ps))(hc:Ints w (some ⟨aQ,0,none⟩) cs)(hf:uJ ps cs):
  aH 122 #[VW jb jc aQ aY ps.length s] w fun e w'=>e= .returned (.bool true)∧Below w.heap.size w w':=by
 have HF:=ax hf;have HL:Hid (ps.length=cs.length):=ax hf.len.symm;have h8:=hf.G5.n;rw[hf.len]at h8;clear hf
 go_enter func122,ntmps122
 go_upto_region 1 with fail
 obtain⟨J,hJ⟩:=aI w.heap.size;refine aW (fun W=>ah W J 69 #[.slice (some ⟨jb,0,none⟩) ps.length jc,.slice (some ⟨aQ,0,none⟩) ps.length aY,ae s]∧Row W (some ⟨jb,0,none⟩) (jI ps)∧Ints W (some ⟨aQ,0,none⟩) cs∧Below w.heap.size w W) ⟨by rw[←hJ];exact ah.new _ _ _,hp.alloc _,Row.alloc hc _,bel⟩ ?_;rw[hJ];have HJ:=ax hJ;clear hJ hp hc;rintro W ⟨kJ,hp,hc,be⟩;have be:Below w.heap.size w W:=by rw[HJ.out];exact be
 obtain⟨q0,q1,q2,qf⟩:W.cell? ⟨J,0,none⟩=some (.slice (some ⟨jb,0,none⟩) ps.length jc)∧W.cell? ⟨J,1,none⟩=some (.slice (some ⟨aQ,0,none⟩) ps.length aY)∧W.cell? ⟨J,2,none⟩=some (ae s)∧J<W.heap.size:=⟨kJ.cell 0,kJ.cell 1,kJ.cell 2,kJ.lt⟩
 go_wp2_with fail
 go_step3
 go_wp2_with fail
 go_step3
 go_wp2_with fail
 go_loopw [3,11] (fun s3 s11 wr=> ∃i:Nat,s3= .bool true∧s11=ae i∧i≤ps.length∧Below W.heap.size W wr) (fun _ s _=>ps.length -(intOf s).toNat)
 case atStart=>exact⟨0,rfl,rfl,by omega,bel⟩
 case round=>
  clear q0 q1 q2 qf;obtain⟨i,rfl,rfl,hi,bw⟩:=hrel;by_cases hlt:i<ps.length
  ·have ix:(i:Int)<(ps.length:Int):=by omega
   have hpr:=Row.below hp bw aA;obtain⟨x0,x1,x2,x3,x4,x5,x6,x7⟩:=zS hpr i hlt;have HI:=ax (HF.out.cf i hlt);obtain⟨x,hx⟩:=aI (ps[i]);rw[hx]at x0 x1 x2 x3 x4 x5 x6 x7 HI;clear hx
   go_upto_region 5 with fail
   obtain⟨X,hX⟩:=aI wr.heap.size;refine aW (fun U=>ah U X 71 #[ae x.ring,ae x.group,ae x.qy,ae x.qA,ae x.mV,ae x.red,ae x.walk,ae x.clear_]∧Below W.heap.size W U) ⟨by rw[←hX];exact ah.new _ _ _,bel⟩ ?_;rw[hX];clear hX x0 x1 x2 x3 x4 x5 x6 x7 hpr bw;rintro U ⟨kX,bw⟩;have OB:=kJ.below bw kJ.lt;obtain⟨q0,q1,q2,qf⟩:U.cell? ⟨J,0,none⟩=some (.slice (some ⟨jb,0,none⟩) ps.length jc)∧U.cell? ⟨J,1,none⟩=some (.slice (some ⟨aQ,0,none⟩) ps.length aY)∧U.cell? ⟨J,2,none⟩=some (ae s)∧J<U.heap.size:=⟨OB.cell 0,OB.cell 1,OB.cell 2,OB.lt⟩
   go_wp2_with fail
   go_loopw [3,19] (fun s3 s19 wz=> ∃j:Nat,s3= .bool true∧s19=ae j∧j≤ps.length∧Below U.heap.size U wz) (fun _ s _=>ps.length -(intOf s).toNat)
   case atStart=>exact⟨0,rfl,rfl,by omega,bel⟩
   case round=>
    clear q0 q1 q2 qf;obtain⟨j,rfl,rfl,hj,bz⟩:=hrel;by_cases hlt2:j<ps.length
    ·have jx:(j:Int)<(ps.length:Int):=by omega
     have nz:=bw.trans (bz.mono bw.size);have hpr:=Row.below hp nz aA;obtain⟨x0,x1,x2,x3,x4,x5,x6,x7⟩:=zS hpr j hlt2;have RI:=ax (HI.out j hlt2);obtain⟨y,hy⟩:=aI (ps[j]);rw[hy]at x0 x1 x2 x3 x4 x5 x6 x7 RI;clear hy
     go_upto_region 8 with fail
     obtain⟨V,hV⟩:=aI wr.heap.size;refine aW (fun Y=>ah Y V 71 #[ae y.ring,ae y.group,ae y.qy,ae y.qA,ae y.mV,ae y.red,ae y.walk,ae y.clear_]∧ah Y X 71 #[ae x.ring,ae x.group,ae x.qy,ae x.qA,ae x.mV,ae x.red,ae x.walk,ae x.clear_]∧Below U.heap.size U Y) ⟨by rw[←hV];exact ah.new _ _ _,(kX.below bz kX.lt).alloc _,bel⟩ ?_;rw[hV];clear hV x0 x1 x2 x3 x4 x5 x6 x7 hpr bz nz;rintro Y ⟨kV,um,bz⟩;have nz:=bw.trans (bz.mono bw.size);obtain⟨v0,v1,v2,v3,v4,v5,v6,v7⟩:=kV.eight;have vl:=kV.lt;obtain⟨z0,z1,z2,z3,z4,z5,z6,z7⟩:=um.eight;have zl:=um.lt;have kJY:=OB.below bz OB.lt;have q1:Y.cell? ⟨J,1,none⟩=some (.slice (some ⟨aQ,0,none⟩) ps.length aY):=kJY.cell 1;have qf:=kJY.lt;have hcY:Ints Y (some ⟨aQ,0,none⟩) cs:=Row.below hc nz aA;have hro:=HF.out.G5.rows;by_cases hij:i=j
     ·subst hij
      go_wp2_with fail
      go_roundw
      case rel=>exact⟨i+1,rfl,by go_num,by omega,bz⟩
      case measure=>simp[intOf];omega
     ·have hij2:((i:Int)==(j:Int))=false:=by rw[iL];omega
      have aBZ:((i:Int) !=(j:Int))=true:=by rw[bne,hij2];rfl
      by_cases hr:x.ring=y.ring
      ·have hr2:(x.ring==y.ring)=true:=by rw[hr];simp
       have hcf:=RI.out hij (.inl hr);clear hr;exact afr
      ·have hr2:(x.ring==y.ring)=false:=by rw[iL];exact hr
       by_cases hg:x.group=y.group
       ·have hg2:(x.group==y.group)=true:=by rw[hg];simp
        have hg3:(x.group !=y.group)=false:=by rw[bne,hg2];rfl
        go_wp2_with fail
        go_roundw
        case rel=>exact⟨j+1,rfl,by go_num,by omega,bz⟩
        case measure=>simp[intOf];omega
       ·have hg2:(x.group==y.group)=false:=by rw[iL];exact hg
        have hg3:(x.group !=y.group)=true:=by rw[bne,hg2];rfl
        have hcf:=RI.out hij (.inr hg);exact afr
    ·obtain rfl:j=ps.length:=by omega
     go_wp2_with fail
     go_roundw
     case rel=>exact⟨i+1,rfl,by go_num,by omega,bel⟩
     case measure=>simp[intOf];omega
  ·obtain rfl:i=ps.length:=by omega
   go_wp2_with fail
   rw[Exit.noGoto_ret];go_ret;exact⟨rfl,bel⟩
section
open Go.RowKit Go.Sort Go.Shelf
attribute [local go_sem] Oper.semAt_some
def qC(ring:Int):Nat→List Ph→aO
 |_,[]=> []
 |i,p::l=>if p.ring=ring then(i:Int)::qC ring (i+1) l else qC ring (i+1) l
theorem afs{P:Prop}(h:P:=by
 obtain⟨j,hj,e,hr⟩:=aaf h;exact⟨j+1,by simpa using hj,by rw[e];congr 1;omega,by simpa using hr⟩):P:=h
theorem aaf{ring:Int}: ∀{i:Nat} {l:List Ph} {x:Int},x∈qC ring i l→∃j:Nat,∃h:j<l.length,x=((i+j:Nat):Int)∧l[j].ring=ring
 |i,[],x,h=>by simp[qC]at h
 |i,p::l,x,h=>by
  unfold qC at h;by_cases hp:p.ring=ring
  ·rw[if_pos hp]at h;rcases List.mem_cons.1 h with rfl|h
   ·exact⟨0,by simp,by simp,hp⟩
   ·exact afs
  ·rw[if_neg hp]at h;exact afs
@[reducible] def qO(jb jn jc aQ eX aY:Nat)(s:Int):Value:= .agg #[.slice (some ⟨jb,0,none⟩) jn jc,.slice (some ⟨aQ,0,none⟩) eX aY,ae s]
theorem aft(jb jn jc aQ eX aY:Nat)(s ring:Int)(w:ak):aH 176 #[qO jb jn jc aQ eX aY s,ae ring] w fun e w'=>e= .returned (.func (.func 194) #[] #[.pointer (some ⟨w.heap.size,0,none⟩),.pointer (some ⟨w.heap.size+1,0,none⟩)])∧w'=(w.alloc (.cells #[.slice (some ⟨jb,0,none⟩) jn jc,.slice (some ⟨aQ,0,none⟩) eX aY,ae s] 69)).alloc (.cells #[ae ring] 3):=by
 go_enter func176,ntmps176
 go_wp2
 go_ret;exact⟨rfl,rfl⟩
theorem agJ(n:Nat)(hn:1≤n)(jb jc aQ eX aY:Nat)(ps:List Ph)(s ring:Int)(Bj Br:Nat)(w:ak)(hj:ah w Bj 69 #[.slice (some ⟨jb,0,none⟩) ps.length jc,.slice (some ⟨aQ,0,none⟩) eX aY,ae s])(hr:ah w Br 3 #[ae ring])(h:Row w (some ⟨jb,0,none⟩) (jI ps))(h8:ps.length≤8):
  QP Fence.wide n prog 194 #[.pointer (some ⟨Bj,0,none⟩),.pointer (some ⟨Br,0,none⟩)] (fun x:Int=> #[ae x]) (fun pre x _=> ∃t,qC ring 0 ps=pre++x::t) (Below w.heap.size) (fun xs=>xs=qC ring 0 ps) (fun pre=> ∃t,qC ring 0 ps=pre++t) w:=fun L J Jx W hW hJ hJx hY h0=>by
 refine callsIn_of_wp func194 rfl trivial ?_ rfl;simp only[ntmps194,List.size_toArray,jJ,List.length_nil,Nat.reduceAdd,Nat.reduceSub,Array.replicate_succ,Array.replicate_zero,List.push_toArray,List.append_toArray,List.nil_append,List.cons_append];have kJ:=hj.below hW hj.lt;have j0:=kJ.cell 0;have jl:=kJ.lt
 gi_wp2
 gi_loopw [9] (fun s9 wr=> ∃(i:Nat) (pre:aO),s9=ae i∧i≤ps.length∧Hid (qC ring 0 ps=pre++qC ring i (ps.drop i))∧J pre wr∧Below w.heap.size w wr) (fun s9 _=>ps.length -(intOf s9).toNat)
 case atStart=>exact⟨0,[],rfl,by omega,ax rfl,h0,hW⟩
 case round=>
  clear j0 jl;obtain⟨i,pre,rfl,hi,hp,hJ0,hb⟩:=hrel;by_cases hlt:i<ps.length
  ·have ix:(i:Int)<(ps.length:Int):=by omega
   have hpr:=Row.below h hb aA;obtain⟨x0,x1,x2,x3,x4,x5,x6,x7⟩:=zS hpr i hlt;have xl:jb<wr.heap.size:=by
    rcases hpr with h0|⟨b,off,e,hl,_⟩
    ·have:=Yt ps;rw[h0]at this;simp at this;omega
    ·injection e with e;injection e with e _ _;omega
   have HD:=ax (List.drop_eq_getElem_cons hlt);obtain⟨x,hx⟩:=aI (ps[i]);rw[hx]at x0 x1 x2 x3 x4 x5 x6 x7 HD;clear hx hpr;have AA:=hj.below hb hj.lt;have kRr:=hr.below hb hr.lt;have r0:wr.cell? ⟨Br,0,none⟩=some (ae ring):=kRr.cell 0;have rl:=kRr.lt;have HJ:=ax hJ0;clear hJ0;obtain⟨X,hX⟩: ∃X,X=wr.alloc (.cells #[ae x.ring,ae x.group,ae x.qy,ae x.qA,ae x.mV,ae x.red,ae x.walk,ae x.clear_] 71):=⟨_,rfl⟩;have hbX:Below w.heap.size w X:=by rw[hX];exact bel
   have hJX:J pre X:=by rw[hX];exact hJ _ _ _ none HJ.out (((Below.refl wr.heap.size wr).alloc aA _).Io none) PZ
   have HX:=ax hX;clear hX;by_cases hring:x.ring=ring
   ·have hr2:(x.ring==ring)=true:=by rw[hring];simp
    have HN:Hid (qC ring 0 ps=pre++(i:Int)::qC ring (i+1) (ps.drop (i+1))):=ax (by rw[hp.out,HD.out,qC,if_pos hring]);clear hring;obtain⟨fn,tmps,assign,body,hy,hR⟩:=hY pre (i:Int) X hJX ⟨_,HN.out⟩;have G6:=hbX;rw[HX.out]at hy hR G6
    gi_wp2
    refine hR.mono ?_;rintro e W3 (⟨rfl,hJ3,hk3⟩|⟨rfl,hJx3⟩)
    ·have hb3:Below w.heap.size w W3:=G6.trans hk3
     gi_wp2
     go_roundw
     case rel=>exact⟨i+1,pre++ [(i:Int)],by go_num,by omega,ax (by rw[HN.out,uM];rfl),hJ3,hb3⟩
     case measure=>simp[intOf];omega
    ·gi_wp2
     refine bodyPost_ret (results_none rfl _ _ _) rfl ?_;exact⟨⟨_,rfl⟩,.inr ⟨pre++ [(i:Int)],⟨_,by rw[HN.out,uM];rfl⟩,hJx3⟩⟩
   ·have hr2:(x.ring==ring)=false:=by rw[iL];exact hring
    have HN:Hid (qC ring 0 ps=pre++qC ring (i+1) (ps.drop (i+1))):=ax (by rw[hp.out,HD.out,qC,if_neg hring]);clear hring
    gi_wp2
    refine⟨fun _ h=>(by cases h),?_⟩
    gi_wp2
    go_roundw
    case rel=>exact⟨i+1,pre,by go_num,by omega,HN,by rw[←HX.out];exact hJX,by rw[←HX.out];exact hbX⟩
    case measure=>simp[intOf];omega
  ·obtain rfl:i=ps.length:=by omega
   have HP:Hid (pre=qC ring 0 ps):=ax (by rw[hp.out];simp[qC])
   gi_wp2
   go_end0
   exact YI
end
section
open Go.RowKit Go.Sort Go.Shelf
attribute [local go_sem] Oper.semAt_some
def Ai(ps:List Ph)(group from_ p:Int):Bool:=decide (from_≤p) && (match ps[p.toNat]? with
 |some q=>decide (q.group=group)
 |none=>false)
def zh(ps:List Ph)(ring group from_:Int):Int:=((qC ring 0 ps).find? (Ai ps group from_)).getD (-1)
structure Jn(w:ak)(T:Nat)(jb jn jc aQ eX aY:Nat)(s group from_ v:Int)(p:Prop)(W:ak):Prop where
 p:p
 kJ:ah W T 69 #[.slice (some ⟨jb,0,none⟩) jn jc,.slice (some ⟨aQ,0,none⟩) eX aY,ae s]
 kG:ah W (T+1) 3 #[ae group]
 kF:ah W (T+1+1) 3 #[ae from_]
 kR:ah W (T+1+1+1) 3 #[ae v]
 be:Below w.heap.size w W
theorem Jn.own{α:Type}{T:Nat}{jb jn jc aQ eX aY:Nat}{group from_ v:Int}{p:α→Prop}(hB:w.heap.size≤B):OwnFrom B (fun pre W=>Jn w T jb jn jc aQ eX aY s group from_ v (p pre) W):=by
 rintro pre W W' row h hg hr;have q:=fun r e=>(hr r e).2;exact⟨h.p,h.kJ.turn hg q,h.kG.turn hg q,h.kF.turn hg q,h.kR.turn hg q,h.be.grown hg h.be.size fun k e=>dA hB (hr k e).1⟩
theorem afu(W:ak)(n:Nat):KeepsFrom B W (W.drewN n):=⟨Nat.le_refl _,fun k o _ h _=>h⟩
theorem afv{P:Prop}(h:P:=by
 gi_wp2
 (refine aej bP bP rfl ?_;(repeat(go_big_quiet_step (fail)));refine wpQuiet_nil ?_;intro _ hw';obtain⟨nq,hw''⟩:=hw';subst hw'')
 gi_wp2
 exact⟨afu W nq,below_drewN bD nq,fun x hx=>by
  rcases lW.1 hx with q|q
  ·exact hp x q
  ·rw[dU.1 q];exact HV.out,kJ.drewN nq,kG.drewN nq,kF.drewN nq,kR.drewN nq,below_drewN hb nq⟩):P:=h
theorem afw{P:Prop}(h:P:=by
 rintro L pre x W K hi ⟨t,hv⟩ hK;obtain⟨j,hj,e, -⟩:=aaf (ring:=ring) (i:=0) (l:=ps) (x:=x) (by rw[hv];simp);have E:=ax e;clear e
 gi_wp2
 exact hK _ _ (KeepsFrom.refl _ _) bD hi ⟨⟨j,hj,by simpa using E.out⟩,rfl⟩):P:=h
theorem afx{P:Prop}(h:P:=by
 rw[hq];exact⟨rfl,hb.grown hput hb.size Zf⟩):P:=h
theorem aer(jb jc aQ eX aY:Nat)(ps:List Ph)(s ring group from_:Int)(w:ak)(h:Row w (some ⟨jb,0,none⟩) (jI ps))(h8:ps.length≤8):
  aH 156 #[qO jb ps.length jc aQ eX aY s,ae ring,ae group,ae from_] w fun e w'=>e= .returned (ae (zh ps ring group from_))∧Below w.heap.size w w':=by
 refine callsIn_wide.1 (callsIn_of_wp_marks (n:=6) func156 rfl trivial (wpIn_wide.2 ?_) rfl);simp only[ntmps156,List.size_toArray,jJ,List.length_nil,Nat.reduceAdd,Nat.reduceSub,Array.replicate_succ,Array.replicate_zero,List.push_toArray,List.append_toArray,List.nil_append,List.cons_append]
 go_upto_region 1 with fail
 obtain⟨T,hT⟩:=aI w.heap.size;refine aW (fun W=>Jn w T jb ps.length jc aQ eX aY s group from_ 0 True W∧W.heap.size=T+4) ⟨⟨trivial,by rw[←hT];exact(((ah.new _ _ _).alloc _).alloc _).alloc _,by rw[←hT];exact((ah.dG _ _ _ _).alloc _).alloc _,by rw[←hT];have:=(ah.dG (w.alloc (.cells #[.slice (some ⟨jb,0,none⟩) ps.length jc,.slice (some ⟨aQ,0,none⟩) eX aY,ae s] 69)) (.cells #[ae group] 3) 3 #[ae from_]).alloc (.cells #[ae 0] 3);rw[World.size_alloc]at this;exact this,by rw[←hT];have:=ah.dG ((w.alloc (.cells #[.slice (some ⟨jb,0,none⟩) ps.length jc,.slice (some ⟨aQ,0,none⟩) eX aY,ae s] 69)).alloc (.cells #[ae group] 3)) (.cells #[ae from_] 3) 3 #[ae 0];rw[World.size_alloc,World.size_alloc]at this;exact this,bel⟩,by simp[hT]⟩ ?_;have HT:=ax hT;rw[hT];clear hT;rintro W4 ⟨⟨-,kJ,kG,kF,kR,be4⟩,z4⟩;have sW:w.heap.size≤T:=by rw[HT.out];exact Nat.le_refl _
 have HZ:=ax z4;clear z4;(obtain⟨j0,j1,j2,jf,jl⟩:=kJ.n3)
 go_wp2_with (go_at_call 176;refine(aft jb ps.length jc aQ eX aY s ring _).mono ?_;rintro e w' ⟨rfl,rfl⟩)
 refine aW (fun W=>Jn w T jb ps.length jc aQ eX aY s group from_ 0 True W∧ah W (T+4) 69 #[.slice (some ⟨jb,0,none⟩) ps.length jc,.slice (some ⟨aQ,0,none⟩) eX aY,ae s]∧ah W (T+4+1) 3 #[ae ring]∧W.heap.size=T+6) ⟨⟨trivial,(kJ.alloc _).alloc _,(kG.alloc _).alloc _,(kF.alloc _).alloc _,(kR.alloc _).alloc _,bel⟩,by rw[←HZ.out];exact(ah.new _ _ _).alloc _,by rw[←HZ.out];exact ah.dG _ _ _ _,by simp[HZ.out]⟩ ?_;rw[HZ.out];(clear j0 j1 j2 jf jl);clear kJ kG kF kR be4;rintro wc ⟨hI,kL,kS,zc⟩;have HT4:=ax zc;clear zc;have HP:Hid (qC ring 0 ps=qC ring 0 ps):=ax rfl;refine(wpIn_wide (n:=6)).1 ?_;refine JV (F:=Fence.wide) rfl aj (gf:=194) (lb:= #[.pointer (some ⟨T+4,0,none⟩),.pointer (some ⟨T+4+1,0,none⟩)]) rfl trivial (enters_of func194 bP rfl)
  (agJ 5 aj jb jc aQ eX aY ps s ring (T+4) (T+4+1) wc kL kS (Row.below h hI.be aA) h8) belowK_t (belowK_b aA) bD (fun _=>rfl)
  (fun pre W=>Jn w T jb ps.length jc aQ eX aY s group from_ 0 (∀x∈pre,Ai ps group from_ x=false) W)
  (fun cd pre W=>cd= .ret∧∃v,Jn w T jb ps.length jc aQ eX aY s group from_ v (∃p0,pre=p0++ [v]∧(∀x∈p0,Ai ps group from_ x=false)∧Ai ps group from_ v=true) W)
  (Jn.own hI.be.size) (fun cd=>OwnFrom.and (ownFrom_pure _ _) (fun s W W' row hs hg hr=>by obtain⟨v,hv⟩:=hs;exact⟨v,Jn.own (p:=fun pre=> ∃p0,pre=p0++ [v]∧(∀x∈p0,Ai ps group from_ x=false)∧Ai ps group from_ v=true) hI.be.size s W W' row hv hg hr⟩))
  ⟨by simp,hI.kJ,hI.kG,hI.kF,hI.kR,hI.be⟩
  (fun pre x a' W=>(∃j:Nat,∃hj:j<ps.length,x=j)∧a'={tmps:= #[qO jb ps.length jc aQ eX aY s,ae ring,ae group,ae from_,.pointer (some ⟨T,0,none⟩),undef,.pointer (some ⟨T+1,0,none⟩),.pointer (some ⟨T+1+1,0,none⟩),.pointer (some ⟨T+1+1+1,0,none⟩),ae x,.agg #[.slice (some ⟨jb,0,none⟩) ps.length jc,.slice (some ⟨aQ,0,none⟩) eX aY,ae s],ae ring,.func (.func 194) #[] #[.pointer (some ⟨T+4,0,none⟩),.pointer (some ⟨T+4+1,0,none⟩)],ae x,undef,undef,undef,undef,undef,undef,undef,undef,undef,undef,undef,undef,undef,undef],defers:= []})
  (fun pre x a'=>ownFrom_pure _ _) ?assign ?body ?done ?stop
 case assign=>
  exact afw
 case body=>
  rintro L pre x a' W hL hrec ⟨hp,kJ,kG,kF,kR,hb⟩ ⟨⟨j,hj,rfl⟩,rfl⟩;have hpr:=Row.below h hb aA;obtain⟨x0,x1,x2,x3,x4,x5,x6,x7⟩:=zS hpr j hj;have HG:=ax (show Ai ps group from_ (j:Int)=(decide (from_≤(j:Int)) && decide (ps[j].group=group))by simp[Ai,hj]);obtain⟨y,hy⟩:=aI (ps[j]);rw[hy]at x0 x1 x2 x3 x4 x5 x6 x7 HG;clear hy hpr x0 x2 x3 x4 x5 x6 x7;have jx:(j:Int)<(ps.length:Int):=by omega
  (obtain⟨c0,c1,c2,cf,cl⟩:=kJ.n3);(obtain⟨g0,gf,gl⟩:=kG.n1);(obtain⟨f0,ff,fl⟩:=kF.n1);(obtain⟨r0,rf,rl⟩:=kR.n1);by_cases hf:from_≤(j:Int)
  ·have hf2:decide (from_≤(j:Int))=true:=jB hf;by_cases hg:y.group=group
   ·have hg2:(y.group==group)=true:=by rw[hg];simp
    have HV:Hid (Ai ps group from_ (j:Int)=true):=ax (by rw[HG.out,hf2,jB hg];rfl);rw[hg]at x1;clear hg
    gi_wp2
    (refine aej bP bP rfl ?_;(repeat(go_big_quiet_step (fail)));refine wpQuiet_nil ?_;intro _ hw';obtain⟨nq,hw''⟩:=hw';subst hw'')
    gi_wp2
    exact⟨KeepsFrom.trans (afu W nq) ((KeepsOthers.setCell _ _ _).from _),rfl,(j:Int),⟨pre,rfl,hp,HV.out⟩,(kJ.drewN nq).far Be _,(kG.drewN nq).far Be _,(kF.drewN nq).far Be _,(kR.drewN nq).set 0 _,(below_drewN hb nq).grown (grownBy_set (W.drewN nq) (T+1+1+1) 0 _) hb.size UC⟩
   ·have hg2:(y.group==group)=false:=by rw[iL];exact hg
    have HV:Hid (Ai ps group from_ (j:Int)=false):=ax (by rw[HG.out,hf2,fA hg];rfl);exact afv
  ·have hf2:decide (from_≤(j:Int))=false:=fA hf;have HV:Hid (Ai ps group from_ (j:Int)=false):=ax (by rw[HG.out,hf2];rfl);exact afv
 case done=>
  rintro D xs W hD rfl ⟨hp,kJ,kG,kF,kR,hb⟩ hK;(obtain⟨r0,rf,rl⟩:=kR.n1)
  go_wp2
  have hK2:(W.setCell ⟨T+1+1+1,0,none⟩ (ae (-1))).heap[D]?=some (.deferred (some [])):=(KeepsOthers.setCell W ⟨T+1+1+1,0,none⟩ (ae (-1))).same D _ hK rfl;have hput:=grownBy_putObj' (W.setCell ⟨T+1+1+1,0,none⟩ (ae (-1))) D (.deferred none);have hrow: ∀r,some D=some r→∃o:Obj,(W.setCell ⟨T+1+1+1,0,none⟩ (ae (-1))).heap[r]?=some o∧o.isCells=false:=fun r e=>by cases e;exact⟨_,hK2,rfl⟩
  have k9:=(kR.set 0 (ae (-1))).turn hput hrow;have y0:=k9.cell 0;refine⟨by simp,.inl ⟨_,_,rfl,run_takeDeferred hK2,?_⟩⟩;refine⟨ae (-1),by simp[results,results156,go_sem,y0],?_⟩;have hq:zh ps ring group from_= -1:=by unfold zh;rw[List.find?_eq_none.2 (fun x hx=>by simp[hp x hx])];rfl
  rw[hq];exact⟨rfl,(hb.grown (grownBy_set W (T+1+1+1) 0 (ae (-1))) hb.size UC).grown hput (by have:=hb.size;simp[World.setCell];omega) Zf⟩
 case stop=>
  rintro D cd pre W hD ⟨t,ht⟩ ⟨rfl,v,⟨p0,rfl,hp0,hv⟩,kJ,kG,kF,kR,hb⟩ hK
  gi_wp2
  have hput:=grownBy_putObj' W D (.deferred none);have hrow: ∀r,some D=some r→∃o:Obj,W.heap[r]?=some o∧o.isCells=false:=fun r e=>by cases e;exact⟨_,hK,rfl⟩
  have k9:=kR.turn hput hrow;have y0:=k9.cell 0;refine⟨by simp,.inl ⟨_,_,rfl,run_takeDeferred hK,?_⟩⟩;refine⟨ae v,by simp[results,results156,go_sem,y0],?_⟩;have hq:zh ps ring group from_=v:=by
   unfold zh;rw[ht,uM,List.find?_append,List.find?_eq_none.2 (fun x hx=>by simp[hp0 x hx])];simp[hv]
  exact afx
end
def KL(n:Int):Int:=if 0≤n∧n≤200 then n+10 else 0
theorem aq2(n:Int)(w:ak):aH 173 #[ae n] w fun e w'=>e= .returned (ae (KL n))∧w=w':=by
 by_cases h:0≤n∧n≤200
 ·obtain⟨h1,h2⟩:=h;have H:=ax (show KL n=n+10 by unfold KL;rw[if_pos ⟨h1,h2⟩])
  go_enter func173,ntmps173
  go_wp2
  go_ret;exact⟨yT (by rw[H.out];try omega),rfl⟩
 ·have H:=ax (show KL n=0 by unfold KL;rw[if_neg h]);by_cases h1:n<0
  all_goals
   go_enter func173,ntmps173
   go_wp2
   go_ret;exact⟨yT (by rw[H.out]),rfl⟩
theorem ar0(n:Nat)(h:n≤200):KL n=((n+10:Nat):Int):=by unfold KL;rw[if_pos aj];omega
theorem MR(n:Nat)(h:n≤200)(w:ak):aH 173 #[ae n] w fun e w'=>e= .returned (ae ((n+10:Nat):Int))∧w=w':=ar0 n h▸aq2 n w
def aiQ(k:Int)(p:aJ)(w:ak)(e:Ending)(w':ak):Prop:= ∃a c,e= .returned (.tuple #[.slice a (p.length+10) c,ae 0])∧Own w' w.heap.size 5 1 a (p.length+10) c ((fG k p).map a_)∧Below w.heap.size w w'
theorem aiR(k:Int)(p:aJ):(fG k p).length=p.length+10:=Dc k p
theorem atq(k:Int)(p:aJ):splice ((((((((List.replicate (p.length+10) (0:UInt8)).set 0 0x5a).set 1 0xa5).set 2 1).set 3 (dL k)).set 4 (dL ((p.length:Int)/256))).set 5 (dL p.length))) 6 p=([0x5a,0xa5]++jC k p)++ [0,0,0,0]:=by
 have e:List.replicate (p.length+10) (0:UInt8)=0::0::0::0::0::0::List.replicate (p.length+4) 0:=by
  rw[show p.length+10=p.length+4+1+1+1+1+1+1 by omega];simp only[List.replicate_succ]
 rw[e];unfold splice jC;simp only[jX,lh];have e2:(dL k::dL ((p.length:Int)/256)::dL p.length::List.replicate (p.length+4) (0:UInt8)).drop (3+p.length)= [0,0,0,0]:=by
  rw[show 3+p.length=p.length+3 by omega];simp only[EI,List.drop_replicate];rw[show p.length+4 -p.length=4 by omega];rfl
 rw[show 6+p.length=3+p.length+3 by omega];simp only[EI,e2];simp
theorem set_tail(A T:aJ)(z:Nat)(x:UInt8):(A++T).set (A.length+z) x=A++T.set z x:=by
 rw[List.set_append_right _ _ aj];simp
theorem tail_at(s:Int)(z:Nat)(hz:z<4):(tail4 s)[z]'(by rw[Nl];exact hz)=dL (s/2 ^ (8*(3 -z))):=by
 have:z=0∨z=1∨z=2∨z=3:=by omega
 rcases this with rfl|rfl|rfl|rfl
 ·rfl
 ·rfl
 ·rfl
 ·show dL s=dL (s/1);rw[Int.ediv_one]
theorem ar1{T:aJ}{z:Nat}(hz:z<4)(hT:T.length=4)(h:T.take z=(tail4 s).take z)(x:UInt8)(hx:x=dL (s/2 ^ (8*(3 -z)))):(T.set z x).take (z+1)=(tail4 s).take (z+1):=by
 rw[List.take_succ_eq_append_getElem (by simpa using by omega),List.take_succ_eq_append_getElem (by rw[Nl];exact hz),tail_at s z hz,←hx];rw[List.take_set_of_le aj,h];simp
theorem Df{x y:Int}(h:x=y % 256):Value.int .u8 x=a_ (dL y):=by rw[h,ato]
theorem auL{g:Nat}{k:Int}{p T:aJ}(h:ah w g t (([0x5a,0xa5]++jC k p++T).map a_).toArray):bI w (some ⟨g,2,none⟩) (jC k p):=by
 have h1:bI w (some ⟨g,0,none⟩) ([0x5a,0xa5]++jC k p++T):=h.awK;have h2:=(h1.drop 2).take (jC k p).length;rw[dX]at h2;have e:(([0x5a,0xa5]++jC k p++T).drop 2).take (jC k p).length=jC k p:=by simp
 rwa [e]at h2
theorem apj(k:Int)(a:az)(p:aJ)(c:Nat)(w:ak)(h0:0≤k)(h1:k≤255)(hb:bI w a p)(hp:p.length≤200):
  aH 150 #[ae k,.slice a p.length c] w (aiQ k p w):=by
 have q5:(5:Nat)<p.length+10:=by omega
 obtain⟨s,hs⟩:=aI (tX 0 (jC k p));have s01:=aav (jC k p);rw[hs]at s01;have HS:=ax hs;clear hs
 go_enter func150,ntmps150
 go_wp2_with (first|(go_at_call 173;refine(MR _ aj _).mono ?_;rintro e w' ⟨rfl,rfl⟩)|((with_reducible refine U0 (p.length+10) (p.length+10) ?_ ?_ ?_ ?_ ?_);(focus rfl);(focus rfl);(focus omega);(focus omega);intro W B0 lK z0;(have bp:=hb.below lK aA);(have c0:=B0.cellL 0 aF);(have c1:=B0.cellL 1 aF);(have c2:=B0.cellL 2 aF);(have c3:=B0.cellL 3 aF);(have c4:=B0.cellL 4 aF);(have c5:=B0.cellL 5 aF);(have fz:=B0.frozen);simp only[List.getElem_replicate]at c0 c1 c2 c3 c4 c5;(have zl:=B0.lt))|((with_reducible refine ah4 ?_);refine ahC w.heap.size 6 _ ((((((B0.wM 0 0x5a rfl).wM 1 0xa5 rfl).wM 2 1 rfl).wM 3 (dL k) (Df aj)).wM 4 (dL ((p.length:Int)/256)) (Df aj)).wM 5 (dL p.length) (Df aj)) p w.heap.size w rfl rfl ⟨rfl,by omega⟩ (fun _=>rfl) (hb.below bel aA) cu bel aA ?_;intro w2 B2 be2;rw[atq]at B2;(have b2:bI w2 (some ⟨w.heap.size,2,none⟩) (jC k p):=auL B2))|(go_at_call 174;refine(aik _ (jC k p) _ _ _ b2 UE UE).mono ?_;rintro e w' ⟨rfl,rfl⟩;(rw[HS.out])))
 have hA:([0x5a,0xa5]++jC k p).length=p.length+6:=by rw[dP,UF];show 2+_=_;omega
 have HA:=ax hA;clear hA bp c0 c1 c2 c3 c4 c5 fz
 go_loopw [52] (fun i wr=> ∃(z:Nat) (T:aJ),z≤4∧i=ae z∧T.length=4∧T.take z=(tail4 s).take z∧ah wr w.heap.size 5 ((([0x5a,0xa5]++jC k p)++T).map a_).toArray∧Below w.heap.size w wr) (fun i _=>4 -(intOf i).toNat)
 case atStart=>exact⟨0,[0,0,0,0],by omega,rfl,rfl,rfl,B2,be2⟩
 case round=>
  obtain⟨z,T,hz,rfl,hT,hTz,B3,eH⟩:=hrel;have HT:=ax hT;have HZ:=ax hTz;clear hT hTz;by_cases hlt:z<4
  ·have hq:6+p.length+z<(([0x5a,0xa5]++jC k p)++T).length:=by rw[dP,HA.out,HT.out];omega
   have cz: ∃v,wr.cell? ⟨w.heap.size,6+p.length+z,none⟩=some v:=⟨_,B3.cellL _ hq⟩;obtain⟨v,cz⟩:=cz;have fz:=B3.frozen (6+p.length+z);have lz:=B3.lt;clear hq
   go_wp2
   go_roundw
   case rel=>
    refine⟨z+1,T.set z (dL (s/2 ^ (8*(3 -z)))),by omega,by go_num,by rw[iQ];exact HT.out,ar1 hlt HT.out HZ.out _ rfl,?_,bel⟩;have h:=B3.wM (6+p.length+z) (dL (s/2 ^ (8*(3 -z)))) (Df rfl);rw[show 6+p.length+z=([0x5a,0xa5]++jC k p).length+z by rw[HA.out];omega,set_tail]at h;rw[show 6+p.length+z=([0x5a,0xa5]++jC k p).length+z by rw[HA.out];omega];exact h
   case measure=>simp[intOf];omega
  ·go_wp2
   go_ret2
   have hT4:T=tail4 s:=by
    have h:=HZ.out
    rwa [nM (by rw[HT.out];omega),nM (by rw[Nl];omega)]at h
   refine⟨_,_,rfl,?_,eH⟩;have e: [0x5a,0xa5]++jC k p++T=fG k p:=by rw[hT4,←HS.out];rfl
   rw[e]at B3;exact B3.IX aA (Dc k p).symm Ii
theorem auM(a:az)(l:aJ)(n cap:Nat)(h:Hid (tX 0 l=s))(w:ak)(hb:bI w a l)(hn:n=l.length)(hl:l.length≤9223372036854775807):
 aH 31 #[.slice a n cap] w fun e w'=>e= .returned (.int .u32 s)∧w=w':=h.out▸aqf a l n cap w hb hn hl
theorem Vh(a:az)(l:aJ)(n cap:Nat)(h:Hid (tX 0 l=s))(w:ak)(hb:bI w a l)(hn:n=l.length)(hl:l.length≤9223372036854775807):
 aH 174 #[.slice a n cap] w fun e w'=>e= .returned (.int .u32 s)∧w=w':=h.out▸aik a l n cap w hb hn hl
theorem axk{x y z k1 k2 k3:Int}(h1:x=k1 % 256)(h2:y=k2 % 256)(h3:z=k3 % 256):(#[.int .u8 90,.int .u8 165,.int .u8 1,.int .u8 x,.int .u8 y,.int .u8 z]:aZ).toList= [0x5a,0xa5,1,dL k1,dL k2,dL k3].map a_:=by
 rw[Df h1,Df h2,Df h3];rfl
theorem axl{x y z u k1 k2 k3 k4:Int}(h1:x=k1 % 256)(h2:y=k2 % 256)(h3:z=k3 % 256)(h4:u=k4 % 256):(#[.int .u8 x,.int .u8 y,.int .u8 z,.int .u8 u]:aZ).toList= [dL k1,dL k2,dL k3,dL k4].map a_:=by
 rw[Df h1,Df h2,Df h3,Df h4];rfl
theorem atr{g:Nat}{k:Int}{p:aJ}(h1:bI w (some ⟨g,0,none⟩) ([0x5a,0xa5]++jC k p)):bI w (some ⟨g,2,none⟩) (jC k p):=by
 have h2:=h1.drop 2;rw[dX]at h2;exact h2
theorem apk(k:Int)(a:az)(p:aJ)(c:Nat)(w:ak)(h0:0≤k)(h1:k≤255)(hb:bI w a p)(hp:p.length≤200):
  aH 60 #[ae k,.slice a p.length c] w (aiQ k p w):=by
 obtain⟨s,hs⟩:=aI (tX 0 (jC k p));have s01:=aav (jC k p);rw[hs]at s01;have HS:=ax hs;clear hs
 go_enter func60,ntmps60
 go_wp2_with (first|(at_builtin;refine qN rfl _ _ rfl w.heap.size (some ⟨w.heap.size,0,none⟩) 6 6 [0x5a,0xa5,1,dL k,dL ((p.length:Int)/256),dL p.length] rfl a _ _ p rfl (ah2 (axk aj aj aj)) (hb.alloc _) rfl (p.length+6) aj aj aF ?_;intro b1 cap1 w1 Ae g1 BO;(have uY:=BO w bel);(obtain⟨gg,rfl,hg1,hg2⟩:=Ae.open_ aj);(have cl1:=Ae.IJ);(have b2:bI w1 (some ⟨gg,2,none⟩) (jC k p):=atr Ae.dL))|(go_at_call 31;refine(auM _ (jC k p) _ _ HS _ b2 UE UE).mono ?_;rintro e w' ⟨rfl,rfl⟩)|(at_builtin;refine qN rfl _ _ rfl w.heap.size (some ⟨gg,0,none⟩) (p.length+6) cap1 ([0x5a,0xa5]++jC k p) rfl (some ⟨w1.heap.size,0,none⟩) 4 4 (tail4 s) rfl (Ae.alloc _) (Z4 (axl UQ UQ UQ UQ)) rfl (p.length+10) aj aj cu ?_;intro b2' cap2 w2 eu g2 Ar;(have be2:=Ar w bel)))
 go_ret2
 refine⟨_,_,rfl,?_,be2⟩;have e: [0x5a,0xa5]++jC k p++tail4 s=fG k p:=by rw[←HS.out];rfl
 rwa [e]at eu
section
variable{l:aJ}
theorem ZJ(h:l.length=0):iC l= .more:=by unfold iC;rw[if_pos h]
theorem ar6(h:l.length≠0)(h0:at_ l 0≠90):iC l= .fault 2 1:=by unfold iC;rw[if_neg h,if_pos h0]
theorem ar7(h:1<l.length)(h0:at_ l 0=90)(h1:at_ l 1≠165):iC l= .fault 2 1:=by unfold iC;rw[if_neg aj,if_neg aj,if_pos ⟨h,h1⟩]
theorem atx(h:l.length≠0)(h0:at_ l 0=90)(h1:1<l.length→at_ l 1=165)(h6:l.length<6):iC l= .more:=by
 unfold iC;rw[if_neg aj,if_neg aj,if_neg (fun q=>q.2 (h1 q.1)),if_pos h6]
theorem auN(h6:6≤l.length)(h0:at_ l 0=90)(h1:at_ l 1=165)(hn:200<lD l):iC l= .fault 7 1:=by
 unfold iC;rw[if_neg aj,if_neg aj,if_neg (fun q=>q.2 h1),if_neg aj,if_pos hn]
theorem aty(h6:6≤l.length)(h0:at_ l 0=90)(h1:at_ l 1=165)(hn:lD l≤200)(hl:l.length<lD l+10):iC l= .more:=by
 unfold iC;rw[if_neg aj,if_neg aj,if_neg (fun q=>q.2 h1),if_neg aj,if_neg aj,if_pos hl]
theorem avz(h0:at_ l 0=90)(h1:at_ l 1=165)(hn:lD l≤200)(hl:lD l+10≤l.length)(hs: ¬ DJ l):iC l= .fault 4 1:=by
 unfold iC;rw[if_neg aj,if_neg aj,if_neg (fun q=>q.2 h1),if_neg aj,if_neg aj,if_neg aj,if_pos hs]
theorem avA(h0:at_ l 0=90)(h1:at_ l 1=165)(hn:lD l≤200)(hl:lD l+10≤l.length)(hs:DJ l)(hv:at_ l 2≠1):iC l= .fault 3 (lD l+10):=by
 unfold iC;rw[if_neg aj,if_neg aj,if_neg (fun q=>q.2 h1),if_neg aj,if_neg aj,if_neg aj,if_neg (not_not_intro hs),if_pos hv]
theorem auO(h0:at_ l 0=90)(h1:at_ l 1=165)(hn:lD l≤200)(hl:lD l+10≤l.length)(hs:DJ l)(hv:at_ l 2=1)(hk:at_ l 3<1∨22<at_ l 3):iC l= .fault 5 (lD l+10):=by
 unfold iC;rw[if_neg aj,if_neg aj,if_neg (fun q=>q.2 h1),if_neg aj,if_neg aj,if_neg aj,if_neg (not_not_intro hs),if_neg aj,if_pos hk]
theorem auP(h0:at_ l 0=90)(h1:at_ l 1=165)(hn:lD l≤200)(hl:lD l+10≤l.length)(hs:DJ l)(hv:at_ l 2=1)(hk:1≤at_ l 3∧at_ l 3≤22):iC l=⟨0,at_ l 3,(l.drop 6).take (lD l),lD l+10,true⟩:=by
 unfold iC;rw[if_neg aj,if_neg aj,if_neg (fun q=>q.2 h1),if_neg aj,if_neg aj,if_neg aj,if_neg (not_not_intro hs),if_neg aj,if_neg aj]
end
def DK(r:PR)(w:ak)(e:Ending)(w':ak):Prop:= ∃a c,e= .returned (.tuple #[.agg #[ae r.code,ae r.kind,.slice a r.pay.length c],ae r.size,.bool r.ok])∧Own w' w.heap.size 5 1 a r.pay.length c (r.pay.map a_)∧Below w.heap.size w w'
theorem DK.more{r:PR}(h:r= .more)(hb:Below w.heap.size w w'):DK r w (.returned (.tuple #[.agg #[ae 0,ae 0,.slice none 0 0],ae 0,.bool false])) w':=by
 subst h;exact⟨none,0,rfl,Own.nil _ _ _ _,hb⟩
theorem DK.fault{r:PR}{c n:Int}{m:Nat}(h:r= .fault c m)(hm:n=m)(hb:Below w.heap.size w w'):DK r w (.returned (.tuple #[.agg #[ae c,ae 0,.slice none 0 0],ae n,.bool true])) w':=by
 subst h hm;exact⟨none,0,rfl,Own.nil _ _ _ _,hb⟩
theorem ND{b:Nat}{l:aJ}(h: ∀i (h:i<l.length),w.cell? ⟨b,off+i,none⟩=some (.int .u8 (l[i].toNat:Int)))(i:Nat)(hi:i<l.length){x:Int}(hx:(at_ l i:Int)=x):w.cell? ⟨b,off+i,none⟩=some (.int .u8 x):=by
 rw[h i hi,←hx];unfold at_;rw[eG,d_ hi];rfl
theorem NQ(l:aJ)(i:Nat):0≤(at_ l i:Int)∧(at_ l i:Int)<256:=⟨by omega,by have:=UInt8.toNat_lt (l.getD i 0);unfold at_;omega⟩
theorem ar8(l:aJ)(x:UInt8):be32 (l++ [x])=be32 l*256+(x.toNat:Int):=by simp[be32,List.foldl_append]
theorem ar9(l:aJ): ∀n:Int,0≤n→0≤l.foldl (fun n x=>n*256+(x.toNat:Int)) n∧l.foldl (fun n x=>n*256+(x.toNat:Int)) n<(n+1)*256 ^ l.length:=by
 induction l with
 |nil=>intro n hn;simp;omega
 |cons x l ih=>
  intro n hn;have hx:=x.toNat_lt;have:=ih (n*256+(x.toNat:Int)) aj;refine⟨this.1,Int.lt_of_lt_of_le this.2 ?_⟩;rw[jJ,Int.pow_succ,Int.mul_comm (256 ^ l.length) 256,←Int.mul_assoc];exact Int.mul_le_mul_of_nonneg_right aj (Int.le_of_lt (Int.pow_pos aj))
theorem auQ(l:aJ):0≤be32 l∧be32 l<256 ^ l.length:=by
 have:=ar9 l 0 aj;simpa [be32]using this
theorem aeA(a:Nat)(ha:a<4294967296):(BitVec.ofInt 32 (a:Int)).toNat=a:=by
 exact Yp
theorem u32_or(a b:Nat)(ha:a<4294967296)(hb:b<4294967296):bits .or .u32 (a:Int) (b:Int)=((a|||b:Nat):Int):=by
 have hx:a|||b<2 ^ 32:=Nat.or_lt_two_pow aj aj
 show IntKind.u32.wrap ((BitVec.ofInt 32 (a:Int)|||BitVec.ofInt 32 (b:Int)).toNat:Int)=_;rw[BitVec.toNat_or,aeA a ha,aeA b hb,IntKind.wrap_u32];omega
theorem aiT{a b:Nat}(h:b<2 ^ k):a*2 ^ k|||b=a*2 ^ k+b:=by
 rw[Nat.mul_comm];exact(Nat.two_pow_add_eq_or_of_lt h a).symm
theorem atz{a b:Int}(h0:0≤a)(h1:a<256)(h2:0≤b)(h3:b<256):bits .or .i64 (a*256) b=a*256+b:=by
 obtain⟨m,rfl⟩:=Int.eq_ofNat_of_zero_le h0;obtain⟨n,rfl⟩:=Int.eq_ofNat_of_zero_le h2;have:=aiF (m*256) n aj aj;rw[aiT (k:=8) aj]at this;simpa using this
theorem atA{a b:Int}(h0:0≤a)(h1:a<16777216)(h2:0≤b)(h3:b<256):bits .or .u32 (a*256) b=a*256+b:=by
 obtain⟨m,rfl⟩:=Int.eq_ofNat_of_zero_le h0;obtain⟨n,rfl⟩:=Int.eq_ofNat_of_zero_le h2;have:=u32_or (m*256) n aj aj;rw[aiT (k:=8) aj]at this;simpa using this
theorem avC(k:Nat)(h:k≤3):(256:Int) ^ k≤16777216:=by
 have:k=0∨k=1∨k=2∨k=3:=by omega
 rcases this with rfl|rfl|rfl|rfl<;>decide
theorem Ui(a:az)(l:aJ)(n c:Nat)(hs:Hid (be32 l=s))(w:ak)(hb:bI w a l)(hn:n=l.length)(h4:l.length≤4):
  aH 175 #[.slice a n c] w fun e w'=>e= .returned (.int .u32 s)∧w=w':=by
 subst hn
 go_enter func175,ntmps175
 go_wp2
 go_loop [8,3] (fun i v=> ∃(k:Nat) (x:Int),k≤l.length∧i=ae k∧v= .int .u32 x∧be32 (l.take k)=x) (fun i _=>l.length -(intOf i).toNat)
 case atStart=>exact⟨0,0,by omega,rfl,rfl,rfl⟩
 case round=>
  obtain⟨k,x,hk,rfl,rfl,hx⟩:=hrel;have HX:=ax hx;by_cases hlt:k<l.length
  ·rcases hb.open with rfl|⟨b,off,rfl,hbl,hc⟩
   ·simp at hlt
   have hc0:=hc k hlt;have bd:=auQ (l.take k);rw[hx,pV,Nat.min_eq_left hk]at bd;have pb:=avC k aj;obtain⟨y,hy⟩: ∃y:Int,(l[k].toNat:Int)=y:=⟨_,rfl⟩;have yb:0≤y∧y<256:=by have:=l[k].toNat_lt;omega
   rw[hy]at hc0;have x0:=bd.1;have x1:x<16777216:=by omega
   have HO:=ax (atA x0 x1 yb.1 yb.2);have HN:Hid (be32 (l.take (k+1))=bits .or .u32 (x*256) y):=by
    show be32 _=_;rw[HO.out,List.take_succ_eq_append_getElem hlt,ar8,hx,hy]
   clear hc hx bd pb hy HO
   go_wp2
   go_round
   case rel=>exact⟨k+1,_,by omega,by go_num,rfl,HN.out⟩
   case measure=>simp[intOf];omega
  ·clear hx
   go_wp2
   go_ret;exact⟨yT (by rw[←HX.out,nM aj];exact hs.out),rfl⟩
theorem afV{P:Prop}(h:P:=by
 exact bodyPost_ret (v:= .tuple #[.agg #[ae 0,ae 0,.slice none 0 0],ae 0,.bool false]) (by simp[results,results152,go_sem]) rfl (DK.more HP.out bel)):P:=h
theorem afW{P:Prop}(h:P:=by
 go_enter func152,ntmps152
 go_wp2
 exact bodyPost_ret (v:= .tuple #[.agg #[ae 2,ae 0,.slice none 0 0],ae 1,.bool true]) (by simp[results,results152,go_sem]) rfl (DK.fault HP.out rfl bel)):P:=h
theorem YU{P:Prop}(h:P:=by
 go_enter func152,ntmps152
 go_wp2
 exact afV):P:=h
theorem aqh(a:az)(l:aJ)(c:Nat)(w:ak)(hb:bI w a l)(hl:l.length≤9223372036854775807)(hc:l.length≤c):
  aH 152 #[.slice a l.length c] w (DK (iC l) w):=by
 by_cases c0:l.length=0
 ·have HP:=ax (ZJ c0);have z1:((l.length:Int)==0)=true:=by rw[beq_iff_eq];omega
  clear c0;exact YU
 have z1:((l.length:Int)==0)=false:=by rw[iL];omega
 have p0:0<l.length:=by omega
 rcases hb.open with rfl|⟨b,off,rfl,hbl,hcell⟩
 ·simp at c0
 obtain⟨x0,hx0⟩: ∃x:Int,(at_ l 0:Int)=x:=⟨_,rfl⟩;obtain⟨x1,hx1⟩: ∃x:Int,(at_ l 1:Int)=x:=⟨_,rfl⟩;have k0:=ND hcell 0 aj hx0;rw[iV]at k0;have k1:1<l.length→w.cell? ⟨b,off+1,none⟩=some (.int .u8 x1):=fun h=>ND hcell 1 h hx1;have y0:=NQ l 0;have y1:=NQ l 1;rw[hx0]at y0;rw[hx1]at y1;have HC:=ax hcell;have HX0:=ax hx0;have OU:=ax hx1;clear hcell hx0 hx1;by_cases c1:x0≠90
 ·have HP:=ax (ar6 c0 (by have:=HX0.out;omega));have z2:(x0==90)=false:=by rw[iL];omega
  have z3:(x0 !=90)=true:=by rw[bne_iff_ne];omega
  clear c0 c1;exact afW
 obtain rfl:x0=90:=by omega
 clear c1;by_cases c2:1<l.length∧x1≠165
 ·obtain⟨c2,c3⟩:=c2;have HP:=ax (ar7 c2 (by have:=HX0.out;omega) (by have:=OU.out;omega));have z2:(x1 !=165)=true:=by rw[bne_iff_ne];omega
  have k1:=k1 c2;have q2:decide (1<l.length)=true:=jB c2;clear c0 c3;exact afW
 by_cases c3:l.length<6
 ·have HP:=ax (atx c0 (by have:=HX0.out;omega) (fun h=>Decidable.by_contra fun q=>c2 ⟨h,fun e=>q (by have:=OU.out;omega)⟩) c3);by_cases c4:1<l.length
  ·have z2:(x1 !=165)=false:=by rw[bne_eq_false_iff_eq];omega
   have k1:=k1 c4;have q2:decide (1<l.length)=true:=jB c4;clear c0 c2;exact YU
  ·have q2:decide (1<l.length)=false:=fA c4;clear c0 c2 k1;exact YU
 obtain rfl:x1=165:=Decidable.by_contra fun q=>c2 ⟨by omega,q⟩;have k1:=k1 aj;have q2:decide (1<l.length)=true:=jB aj;have q3:decide (l.length<6)=false:=fA c3;obtain⟨x4,hx4⟩: ∃x:Int,(at_ l 4:Int)=x:=⟨_,rfl⟩;obtain⟨x5,hx5⟩: ∃x:Int,(at_ l 5:Int)=x:=⟨_,rfl⟩;have k4:=ND HC.out 4 aj hx4;have k5:=ND HC.out 5 aj hx5;have y4:=NQ l 4;have y5:=NQ l 5;rw[hx4]at y4;rw[hx5]at y5;have i4:(4:Int)<(l.length:Int):=by omega
 have i5:(5:Int)<(l.length:Int):=by omega
 obtain⟨N,hN⟩:=aI (lD l);have hor:bits .or .i64 (x4*256) x5=(N:Int):=by
  rw[atz y4.1 y4.2 y5.1 y5.2,←hN,←hx4,←hx5];unfold lD;omega
 have HN:=ax hN;have H0:=ax (show at_ l 0=90 by have:=HX0.out;omega);have H1:=ax (show at_ l 1=165 by have:=OU.out;omega);clear hN hx4 hx5 c0 c2;by_cases c5:200<N
 ·have HP:=ax (auN aj H0.out H1.out (by rw[HN.out];exact c5))
  go_enter func152,ntmps152
  go_wp2
  go_quiet (fail)
  go_wp2
  exact bodyPost_ret (v:= .tuple #[.agg #[ae 7,ae 0,.slice none 0 0],ae 1,.bool true]) (by simp[results,results152,go_sem]) rfl (DK.fault HP.out rfl bel)
 by_cases c6:l.length<N+10
 ·have HP:=ax (aty aj H0.out H1.out F6 (by rw[HN.out];exact c6))
  go_enter func152,ntmps152
  go_wp2
  go_quiet (fail)
  go_wp2_with (first|(go_at_call 173;refine(MR _ aj _).mono ?_;rintro e w' ⟨rfl,rfl⟩))
  exact afV
 have c5':N≤200:=by omega
 have c6':N+10≤l.length:=by omega
 clear c5 c6;have L1:((l.drop 2).take (N+4)).length=N+4:=by rw[pV,pW];omega
 have L2:((l.drop (6+N)).take 4).length=4:=by rw[pV,pW];omega
 have b1:bI w (some ⟨b,off+2,none⟩) ((l.drop 2).take (N+4)):=(hb.drop 2).take _;have b2:bI w (some ⟨b,off+(6+N),none⟩) ((l.drop (6+N)).take 4):=(hb.drop (6+N)).take _;obtain⟨s1,hs1⟩: ∃s,tX 0 ((l.drop 2).take (N+4))=s:=⟨_,rfl⟩;obtain⟨s2,hs2⟩: ∃s,be32 ((l.drop (6+N)).take 4)=s:=⟨_,rfl⟩;have hS:DJ l↔s1=s2:=by unfold DJ;rw[HN.out,hs1,Nat.add_comm N 6,hs2]
 have S1:=ax hs1;have S2:=ax hs2;have Fa:=ax L1;have HL2:=ax L2;have e1:IntKind.i64.wrap (6+(N:Int))=6+(N:Int):=by rw[IntKind.wrap_i64];omega
 have e2:(6+(N:Int)).toNat=6+N:=by omega
 have e3:(0:Int)≤6+(N:Int):=by omega
 have e4:(2:Int)≤6+(N:Int):=by omega
 have e5:(6:Int)+(N:Int)≤(c:Int):=by omega
 clear hs1 hs2 L1 L2;by_cases c7:s1≠s2
 ·have HP:=ax (avz H0.out H1.out F6 F6 (fun q=>c7 (hS.1 q)));have z3:(s1 !=s2)=true:=by rw[bne_iff_ne];exact c7
  clear hS c7
  go_enter func152,ntmps152
  go_wp2
  go_quiet (fail)
  go_wp2_with (first|(go_at_call 173;refine(MR _ aj _).mono ?_;rintro e w' ⟨rfl,rfl⟩))
  go_quiet ((first|(go_at_call 174;exact Gh (Vh _ _ _ _ S1 _ (b1.below bel aA) Ij Ij))|(go_at_call 175;exact Gh (Ui _ _ _ _ S2 _ (b2.below bel aA) Ik Ik))))
  clear e1 e2 e3 e4 e5
  go_wp2
  exact bodyPost_ret (v:= .tuple #[.agg #[ae 4,ae 0,.slice none 0 0],ae 1,.bool true]) (by simp[results,results152,go_sem]) rfl (DK.fault HP.out rfl bel)
 have hS':=hS.2 (Decidable.of_not_not c7);have z3:(s1 !=s2)=false:=by rw[bne_eq_false_iff_eq];exact Decidable.of_not_not c7
 have HS:=ax hS';clear hS hS' c7;obtain⟨x2,hx2⟩: ∃x:Int,(at_ l 2:Int)=x:=⟨_,rfl⟩;obtain⟨x3,hx3⟩: ∃x:Int,(at_ l 3:Int)=x:=⟨_,rfl⟩;have k2:=ND HC.out 2 aj hx2;have k3:=ND HC.out 3 aj hx3;have y2:=NQ l 2;have y3:=NQ l 3;rw[hx2]at y2;rw[hx3]at y3;have Xn:=ax hx2;have HX3:=ax hx3;clear hx2 hx3;by_cases c8:x2≠1
 ·have HP:=ax (show iC l= .fault 3 (N+10)by rw[←HN.out];exact avA H0.out H1.out F6 F6 HS.out (by have:=Xn.out;omega));have z4:(x2 !=1)=true:=by rw[bne_iff_ne];exact c8
  clear c8
  go_enter func152,ntmps152
  go_wp2
  go_quiet (fail)
  go_wp2_with (first|(go_at_call 173;refine(MR _ aj _).mono ?_;rintro e w' ⟨rfl,rfl⟩))
  go_quiet ((first|(go_at_call 174;exact Gh (Vh _ _ _ _ S1 _ (b1.below bel aA) Ij Ij))|(go_at_call 175;exact Gh (Ui _ _ _ _ S2 _ (b2.below bel aA) Ik Ik))))
  clear e1 e2 e3 e4 e5
  go_wp2
  exact bodyPost_ret (v:= .tuple #[.agg #[ae 3,ae 0,.slice none 0 0],ae ((N+10:Nat):Int),.bool true]) (by simp[results,results152,go_sem]) rfl (DK.fault HP.out rfl bel)
 have z4:(x2 !=1)=false:=by rw[bne_eq_false_iff_eq];exact Decidable.of_not_not c8
 have H2:=ax (show at_ l 2=1 by have:=Xn.out;have:=Decidable.of_not_not c8;omega);clear c8;by_cases c9:x3<1∨22<x3
 ·have HP:=ax (show iC l= .fault 5 (N+10)by rw[←HN.out];exact auO H0.out H1.out F6 F6 HS.out H2.out (by have:=HX3.out;omega));rcases c9 with c9|c9
  all_goals
   go_enter func152,ntmps152
   go_wp2
   go_quiet (fail)
   go_wp2_with (first|(go_at_call 173;refine(MR _ aj _).mono ?_;rintro e w' ⟨rfl,rfl⟩))
   go_quiet ((first|(go_at_call 174;exact Gh (Vh _ _ _ _ S1 _ (b1.below bel aA) Ij Ij))|(go_at_call 175;exact Gh (Ui _ _ _ _ S2 _ (b2.below bel aA) Ik Ik))))
   clear e1 e2 e3 e4 e5
   go_wp2
   exact bodyPost_ret (v:= .tuple #[.agg #[ae 5,ae 0,.slice none 0 0],ae ((N+10:Nat):Int),.bool true]) (by simp[results,results152,go_sem]) rfl (DK.fault HP.out rfl bel)
 obtain⟨c9,c10⟩:1≤x3∧x3≤22:=by omega
 have L3:((l.drop 6).take N).length=N:=by rw[pV,pW];omega
 have b3:bI w (some ⟨b,off+6,none⟩) ((l.drop 6).take N):=(hb.drop 6).take _;obtain⟨p,hp⟩:=aI ((l.drop 6).take N);rw[hp]at L3 b3;have HP:=ax (show iC l=⟨0,x3,p,N+10,true⟩by rw[←hp,←HX3.out,←HN.out];exact auP H0.out H1.out F6 F6 HS.out H2.out (by have:=HX3.out;omega));have mJ:=ax L3;clear L3 hp
 go_enter func152,ntmps152
 go_wp2
 go_quiet (fail)
 go_wp2_with (first|(go_at_call 173;refine(MR _ aj _).mono ?_;rintro e w' ⟨rfl,rfl⟩))
 go_quiet ((first|(go_at_call 174;exact Gh (Vh _ _ _ _ S1 _ (b1.below bel aA) Ij Ij))|(go_at_call 175;exact Gh (Ui _ _ _ _ S2 _ (b2.below bel aA) Ik Ik))))
 clear e1 e2 e3 e4 e5
 go_wp2_with (first|((with_reducible refine U0 N N ?_ ?_ ?_ ?_ ?_);(focus rfl);(focus rfl);(focus omega);(focus omega);intro W B0 lK z0;(have kr:=((ah.new w 128 #[ae 0,ae 0,.slice none 0 0]).drewN _).below lK aF);(have b4:=b3.below (show Below w.heap.size w W from bel) aA))|((with_reducible refine ah4 ?_);refine ahC _ 0 _ B0 p _ W rfl rfl ⟨by have:=mJ.out;omega,by omega⟩ (fun _=>by simp) b4 (by have:=mJ.out;simp;omega) bD aA ?_;intro w2 B2 be2;(have k5:=kr.below be2 aF);(have r0:=k5.cell 0);(have r1:=k5.cell 1);(have r2:=k5.cell 2);(have rf:=k5.frozen);(have rl:=k5.lt)))
 have e0:splice (List.replicate N (0:UInt8)) 0 p=p:=by
  unfold splice;have:=mJ.out;rw[List.drop_of_length_le cu];simp
 rw[e0]at B2;refine bodyPost_ret (v:= .tuple #[.agg #[ae 0,ae x3,.slice (some ⟨w.heap.size+1,0,none⟩) N N],ae ((N+10:Nat):Int),.bool true]) (by simp[results,results152,go_sem,r0,r1,r2]) rfl ?_;rw[HP.out];refine⟨some ⟨w.heap.size+1,0,none⟩,N,by rw[mJ.out],?_,bel⟩;have hB2:Own w2 w.heap.size 5 1 (some ⟨w.heap.size+1,0,none⟩) N N (p.map a_):=by
  have h:=B2.IX (base:=w.heap.size) (n:=N) aF mJ.out.symm tK;simpa using h
 show Own _ w.heap.size 5 1 _ p.length N (p.map a_);rw[mJ.out];exact((hB2.far aF _).far aF _).far aF _
end Go.Proofs.YtiffpjamngklhaaGreat
