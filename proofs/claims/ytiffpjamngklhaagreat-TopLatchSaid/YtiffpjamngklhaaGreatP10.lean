/- Lemmas, part 10. -/
import Derived.IntWalk
import Derived.Test.YtiffpjamngklhaaGreatP09
namespace Go.Proofs.YtiffpjamngklhaaGreat
set_option linter.all false
set_option maxRecDepth 100000
set_option maxHeartbeats 16000000
open Go.RowKit Tryz
open Go.Sort hiding Below
variable{w w' W W':ak}{B n C G:Nat}{s:Int}{ps:List Ph}
structure Ck where
 ls:List (Int × Int)
 g:Int
 nx:aO
def QR(cs:aO)(ls:List (Int × Int))(p:Int):Bool:=(List.range ls.length).any fun q=>decide ((ls.getD q (0,0)).1≠0) && jR cs p q
def ES(ps:List Ph)(cs:aO)(c:Ck)(p:Nat):Ck:=
 if QR cs c.ls p then c else
 match ps[p]? with
 |none=>c
 |some ph=>⟨c.ls.set p (1,0),ph.group,(if c.g=ph.group then c.nx else vS ps ph.group).set ph.ring.toNat (zh ps ph.ring ph.group (p+1))⟩
structure wQ(w:ak)(B:Nat)(jb jc aQ aY:Nat)(ps:List Ph)(cs:aO)(s:Int):Prop where
 j:Jh w B jb jc aQ aY ps cs s
 ring: ∀p∈ps,p.ring≤1
 rows:Qo cs
theorem wQ.below{jb jc aQ aY:Nat}{cs:aO}(h:wQ w B jb jc aQ aY ps cs s)(hb:Below B w w'):wQ w' B jb jc aQ aY ps cs s:=⟨h.j.below hb,h.ring,h.rows⟩
def oJ(C:Nat)(w w':ak):Prop:= ∀k t cs,ah w k t cs→t≠194→t≠3→k≠C→ah w' k t cs
theorem oJ.trans{w'':ak}(h:oJ C w w')(h':oJ C w' w''):oJ C w w'':=fun k t cs hb h1 h2 h3=>h' k t cs (h k t cs hb h1 h2 h3) h1 h2 h3
theorem oJ.of_below{J:Nat}(hb:Below J w w')(hJ:w.heap.size≤J):oJ C w w':=fun k t cs h _ _ _=>h.below hb (jL h.lt hJ)
theorem oJ.below(h:oJ C w W)(hb:Below W.heap.size W W'):oJ C w W':=h.trans (.of_below hb aA)
theorem oJ.drewN(h:oJ C w W)(n:Nat):oJ C w (W.drewN n):=h
theorem oJ.aiP(h:oJ C w W)(hg:W.grownBy W' (some C)):oJ C w W':=h.trans fun k t cs hb _ _ h3=>hb.aB hg (fun e=>h3 (by injection e with e;exact e.symm))
theorem oJ.grown{sz c:Nat}{e:aK}{xs:aP}(h:oJ C w W)(hg:W.grownBy W' (some G))(o:Own W B e sz (some ⟨G,0,none⟩) n c xs)(he:e=194∨e=3):oJ C w W':=h.trans fun k t cs hb h1 h2 _=>hb.aB hg (fun q=>by
 have hne:e≠t:=fun x=>by rcases he with y|y;exact h1 (x.symm.trans y);exact h2 (x.symm.trans y)
 exact o.iw hb hne (by injection q with q;rw[q];rfl))
def ajA(K:Ck)(wt:Int)(B C n:Nat)(la:az)(lc:Nat)(w:ak)(e:Ending)(w':ak):Prop:=
 ∃(na:az) (nc:Nat),e= .returned (.tuple #[])∧DC w' B C K.ls K.g K.nx wt la n lc na nc∧Below B w w'∧oJ C w w'
theorem ahq{lc p:Nat}{ls:List (Int × Int)}(h:Own w B 194 2 (some ⟨G,0,none⟩) n lc (gC gG ls))(hp:p<ls.length)(a b:Int):Own ((w.setCell ⟨G,p*2,none⟩ (ae a)).setCell ⟨G,p*2+1,none⟩ (ae b)) B 194 2 (some ⟨G,0,none⟩) n lc (gC gG (ls.set p (a,b))):=by
 have:=C9 mQ ls p hp (a,b);rw[this];exact(h.set (p*2) (ae a)).set (p*2+1) (ae b)
theorem ring_begin(B C jb jc aQ aY:Nat)(ps:List Ph)(cs:aO)(s:Int)(c:Ck)(wt:Int)(la:az)(lc:Nat)(na:az)(nc p:Nat)(w:ak)(hj:wQ w B jb jc aQ aY ps cs s)(hc:DC w B C c.ls c.g c.nx wt la ps.length lc na nc)(hp:p<ps.length)(hcl:C<w.heap.size):
  aH 240 #[qO jb ps.length jc aQ ps.length aY s,.pointer (some ⟨C,0,none⟩),ae p] w (ajA (ES ps cs c p) wt B C ps.length la lc w):=by
 obtain⟨ls,g,nx⟩:=c;obtain⟨hj0,hring,hrows⟩:=hj;obtain⟨AB,hcf,hlb,awY,WH,⟨hn1,uo⟩,rH,hok,hs0⟩:=hj0;obtain⟨kC,hC,oL,oN⟩:=hc;simp only at kC oL oN;have DU:Hid (ps.length=cs.length):=ax rH.symm;clear rH;have hls:Hid (ls.length=ps.length):=ax (by have:=oL.1;rw[oZ mQ]at this;omega);have hnx:Hid (nx.length=2):=ax (by have:=oN.1;simpa using this);obtain⟨G,rfl,hG,hGl⟩:=oL.open_ hn1;have hGC:G≠C:=fun e=>by have:=oL.iw kC ay;exact this tN
 go_enter func240,ntmps240
 go_upto_region 1 with fail
 obtain⟨J,hJ⟩:=aI w.heap.size;refine aW (fun W=>ah W J 69 #[.slice (some ⟨jb,0,none⟩) ps.length jc,.slice (some ⟨aQ,0,none⟩) ps.length aY,ae s]∧Below w.heap.size w W∧J+1≤W.heap.size) ⟨by rw[←hJ];exact ah.new _ _ _,bel,by simp;omega⟩ ?_;have sZ:w.heap.size≤J:=by omega
 have OC:B≤J:=by omega
 rw[hJ];have HJ:=ax hJ;clear hJ;rintro W ⟨kJ,be,sz⟩;have kC0:=kC.below be aj;(obtain⟨c0,c1,c2,c3,cf,cl⟩:=kC0.n4)
 go_wp2_with fail
 go_loopw [14] (fun s14 wr=> ∃i:Nat,s14=ae i∧i≤ps.length∧Hid (∀q,q<i→(decide ((ls.getD q (0,0)).1≠0) && jR cs p q)=false)∧Below W.heap.size W wr) (fun s _=>ps.length -(intOf s).toNat)
 case atStart=>exact⟨0,rfl,by omega,ax fun q hq=>by omega,bel⟩
 case round=>
  (clear c0 c1 c2 c3 cf cl);obtain⟨i,rfl,hi,HO,bw⟩:=hrel;have bz:=be.size;have RJ:=bw.size;have bJ:Below J w wr:=(be.mono aj).trans (bw.mono aj);have BR:=kC0.below bw aj;have AA:=kJ.below bw kJ.lt;have RN:=(oL.below bJ aj);have oNr:=(oN.below bJ aj);by_cases hlt:i<ps.length
  ·have ix:(i:Int)<(ps.length:Int):=by omega
   have hil:i<ls.length:=by rw[hls.out];exact hlt
   have x0:=RN.row.fV mQ i hil 0 ay (v:=ae ls[i].1) rfl;have x1:=RN.row.fV mQ i hil 1 ay (v:=ae ls[i].2) rfl;simp only[iV,dX]at x0 x1;have HG:=ax (show(ls.getD i (0,0)).1=ls[i].1 by simp[eG,hil]);obtain⟨y,hy⟩:=aI (ls[i]);rw[hy]at x0 x1 HG;clear hy;obtain⟨y0,y1⟩:=y;simp only at x0 x1 HG;have Gl:G<wr.heap.size:=by omega
   (obtain⟨j0,j1,j2,jf,jl⟩:=AA.n3);have awZ:Ints wr (some ⟨aQ,0,none⟩) cs:=(Row.keep hcf fun b off e hl=>bJ.block b PT);by_cases hz:y0=0
   ·have hz2:(y0 !=0)=false:=by rw[hz];rfl
    have HZ0:=ax hz;clear hz
    go_wp2_with fail
    go_roundw
    case rel=>exact⟨i+1,by go_num,by omega,ax (fun q hq=>by
     rcases Nat.lt_or_eq_of_le (Nat.le_of_lt_succ hq)with r|r
     ·exact HO.out q r
     ·rw[r,HG.out,HZ0.out];rfl),bel⟩
    case measure=>simp[intOf];omega
   ·have hz2:(y0 !=0)=true:=by rw[bne_iff_ne];exact hz
    have HZ0:=ax hz;clear hz;obtain⟨v,hv⟩:=aI (jR cs p i);have HV:=ax hv;clear hv;have ajB:Ints (wr.alloc (.cells #[ae y0,ae y1] 194)) (some ⟨aQ,0,none⟩) cs:=Row.alloc awZ _;cases v with
    |false=>
     go_wp2_with (go_at_call 154;(with_reducible refine(MN (some ⟨aQ,0,none⟩) cs ps.length aY p i _ ajB DU.out hrows).mono ?_);rintro e wz ⟨rfl,rfl⟩;(rw[HV.out]))
     go_roundw
     case rel=>exact⟨i+1,by go_num,by omega,ax (fun q hq=>by
      rcases Nat.lt_or_eq_of_le (Nat.le_of_lt_succ hq)with r|r
      ·exact HO.out q r
      ·rw[r,HV.out,Bool.and_false]),bel⟩
     case measure=>simp[intOf];omega
    |true=>
     go_wp2_with (go_at_call 154;(with_reducible refine(MN (some ⟨aQ,0,none⟩) cs ps.length aY p i _ ajB DU.out hrows).mono ?_);rintro e wz ⟨rfl,rfl⟩;(rw[HV.out]))
     go_end0
     have hblk:QR cs ls p=true:=by
      unfold QR;exact List.any_eq_true.2 ⟨i,List.mem_range.2 hil,by rw[HG.out,HV.out,Bool.and_true];simpa using HZ0.out⟩
     have hM:ES ps cs ⟨ls,g,nx⟩ p=⟨ls,g,nx⟩:=by unfold ES;rw[if_pos hblk]
     rw[hM];exact⟨na,nc,rfl,⟨BR.alloc _,hC,RN.alloc _,oNr.alloc _⟩,((bJ.mono OC).alloc aj _),.of_below (bJ.alloc aj _) sZ⟩
  ·obtain rfl:i=ps.length:=by omega
   have hblk:QR cs ls p=false:=by
    unfold QR;rw[List.any_eq_false];intro q hq;have:=HO.out q (by have:=List.mem_range.1 hq;rw[hls.out]at this;exact this);simpa using this
   have hpl:ps[p]?=some ps[p]:=by simp
   have hM:ES ps cs ⟨ls,g,nx⟩ p=⟨ls.set p (1,0),ps[p].group,(if g=ps[p].group then nx else vS ps ps[p].group).set ps[p].ring.toNat (zh ps ps[p].ring ps[p].group (p+1))⟩:=by
    unfold ES;rw[if_neg (by rw[hblk];exact Bool.false_ne_true),hpl]
   have HM:=ax hM;have ET:Row wr (some ⟨jb,0,none⟩) (jI ps):=AB.keep fun b off e hl=>bJ.block b PT;obtain⟨x0,x1,x2,x3,x4,x5,x6,x7⟩:=zS ET p hp;have hrg:=hring _ (bF hp);have hok2:=(hok _ (bF hp));have hr0:=hok2.ring;clear hM hblk hpl;obtain⟨x,hx⟩:=aI (ps[p]);rw[hx]at x0 x1 x2 x3 x4 x5 x6 x7 HM hrg hr0;clear hx hok2;have px:(p:Int)<(ps.length:Int):=by omega
   (obtain⟨j0,j1,j2,jf,jl⟩:=AA.n3)
   go_upto_region 7 with fail
   obtain⟨X,hX⟩:=aI wr.heap.size;refine aW (fun U=>ah U X 71 #[ae x.ring,ae x.group,ae x.qy,ae x.qA,ae x.mV,ae x.red,ae x.walk,ae x.clear_]∧ah U J 69 #[.slice (some ⟨jb,0,none⟩) ps.length jc,.slice (some ⟨aQ,0,none⟩) ps.length aY,ae s]∧DC U B C ls g nx wt (some ⟨G,0,none⟩) ps.length lc na nc∧Below J w U∧X+1≤U.heap.size) ⟨by rw[←hX];exact ah.new _ _ _,AA.alloc _,⟨BR.alloc _,hC,RN.alloc _,oNr.alloc _⟩,bJ.alloc aj _,by simp;omega⟩ ?_;have hXJ:J+1≤X:=by omega
   rw[hX];(clear j0 j1 j2 jf jl);clear hX x0 x1 x2 x3 x4 x5 x6 x7 ET kC0 kJ be sz HO bw bz RJ bJ BR AA RN oNr kC oL oN;rintro U ⟨kX,kJ,⟨kC, -,oL,oN⟩,be,sz⟩;have ktU:oJ C w U:= .of_below be sZ;have aa3:p<ls.length:=by rw[hls.out];exact hp
   have y0:=oL.row.fV mQ p aa3 0 ay (v:=ae ls[p].1) rfl;have y1:=oL.row.fV mQ p aa3 1 ay (v:=ae ls[p].2) rfl;simp only[iV,dX]at y0 y1;have yf:=oL.frozen;have yl:G<U.heap.size:=by omega
   have hCU:C<U.heap.size:=by omega
   (obtain⟨c0,c1,c2,c3,cf,cl⟩:=kC.n4);(obtain⟨x0,x1,x2,x3,x4,x5,x6,x7,xf,xl⟩:=kX.n8)
   go_upto_region 8 with fail
   have G7:=ahq oL aa3 1 0;obtain⟨Y,hY⟩: ∃Y,(U.setCell ⟨G,p*2,none⟩ (ae 1)).setCell ⟨G,p*2+1,none⟩ (ae 0)=Y:=⟨_,rfl⟩;have gY:U.grownBy Y (some G):=by rw[←hY];exact grownBy_trans (grownBy_set U G (p*2) _) (grownBy_set _ G (p*2+1) _)
   have zY:Y.heap.size=U.heap.size:=by rw[←hY];simp[World.setCell]
   have ktY:=ktU.grown gY oL (.inl rfl);rw[hY]at G7⊢;have um:=kX.aB gY F5;have pK:=kJ.aB gY F5;have eF:=kC.aB gY F5;have Fh:=oN.aC (xa:=some ⟨G,0,none⟩) gY oL ay;have be2:Below B w Y:=(be.mono OC).aB gY aj bQ;(clear c0 c1 c2 c3 cf cl);(clear x0 x1 x2 x3 x4 x5 x6 x7 xf xl);have HZY:=ax zY;have hYs:X+1≤Y.heap.size:=by omega
   clear hY zY y0 y1 yf yl hCU oL oN kC kX kJ gY be sz;(obtain⟨c0,c1,c2,c3,cf,cl⟩:=eF.n4);(obtain⟨x0,x1,x2,x3,x4,x5,x6,x7,xf,xl⟩:=um.n8);(obtain⟨j0,j1,j2,jf,jl⟩:=pK.n3);have ajC: ∀{Z:ak},Below B w Z→Row Z (some ⟨jb,0,none⟩) (jI ps):=fun hb=>AB.keep fun b off e hl=>hb.block b PT;obtain⟨RP,hnx1⟩: ∃RP,(if g=x.group then nx else vS ps x.group)=RP:=⟨_,rfl⟩;have Fj:=ax hnx1;have aw0:Hid (RP.length=2):=ax (by rw[←hnx1];split;exact hnx.out;rfl);rcases Classical.em (g=x.group)with hg|hg
   case' inl=>
    have hg2:(g !=x.group)=false:=by rw[hg];simp
    obtain rfl:nx=RP:=by rw[←hnx1,if_pos hg]
    clear hnx1
    go_upto_region 8 with fail
    go_quiet (fail)
    go_upto_region 10 with fail
    refine aW (fun Z=>((ah Z X 71 #[ae x.ring,ae x.group,ae x.qy,ae x.qA,ae x.mV,ae x.red,ae x.walk,ae x.clear_]∧ah Z J 69 #[.slice (some ⟨jb,0,none⟩) ps.length jc,.slice (some ⟨aQ,0,none⟩) ps.length aY,ae s])∧oJ C w Z)∧DC Z B C (ls.set p (1,0)) x.group (nx) wt (some ⟨G,0,none⟩) ps.length lc na nc∧Below B w Z∧X+1≤Z.heap.size) ⟨⟨⟨um.drewN nq,pK.drewN nq⟩,ktY.drewN nq⟩,⟨hg▸eF.drewN nq,hC,G7.keep (fun _ _ _ _=>rfl),Fh.keep (fun _ _ _ _=>rfl)⟩,below_drewN be2 nq,hYs⟩ ?_;(clear c0 c1 c2 c3 cf cl);(clear x0 x1 x2 x3 x4 x5 x6 x7 xf xl);(clear j0 j1 j2 jf jl);clear eF um pK G7 Fh be2 hYs hg hg2
   case' inr=>
    have hg2:(g !=x.group)=true:=by rw[bne_iff_ne];exact hg
    obtain rfl:vS ps x.group=RP:=by rw[←hnx1,if_neg hg]
    clear hnx1
    go_upto_region 8 with fail
    go_quiet (fail)
    have RQ:Row (Y.drewN nq) (some ⟨jb,0,none⟩) (jI ps):=ajC (below_drewN be2 nq)
    go_upto_region 10 with((go_at_call 126;(with_reducible refine(Y_ jb jc aQ ps.length aY ps s x.group C _ _ _ _ _ RQ uo aj (by simp only[World.heap_drewN];omega) (eF.drewN nq)).mono ?_);rintro e w4 ⟨N4,rfl,Xa,RS,RU,g4⟩;(obtain⟨aN,haN⟩: ∃aN,(some ⟨N4,0,none⟩:az)=aN:=⟨_,rfl⟩);(rw[haN]at RU RS);clear haN))
    refine aW (fun Z=>((ah Z X 71 #[ae x.ring,ae x.group,ae x.qy,ae x.qA,ae x.mV,ae x.red,ae x.walk,ae x.clear_]∧ah Z J 69 #[.slice (some ⟨jb,0,none⟩) ps.length jc,.slice (some ⟨aQ,0,none⟩) ps.length aY,ae s])∧oJ C w Z)∧DC Z B C (ls.set p (1,0)) x.group (vS ps x.group) wt (some ⟨G,0,none⟩) ps.length lc aN 2∧Below B w Z∧X+1≤Z.heap.size) ⟨⟨⟨(um.drewN nq).aB g4 F5,(pK.drewN nq).aB g4 F5⟩,(ktY.drewN nq).aiP g4⟩,⟨RU,hC,(G7.keep (w':=Y.drewN nq) (fun _ _ _ _=>rfl)).aB g4 (fun k hk=>by injection hk with hk;subst hk;intro e;simp at e;exact hGC e),RS.mono ag7⟩,(below_drewN be2 nq).aB g4 ag7 bQ,by have:=g4.size;simp only[World.heap_drewN]at this;omega⟩ ?_;(clear c0 c1 c2 c3 cf cl);(clear x0 x1 x2 x3 x4 x5 x6 x7 xf xl);(clear j0 j1 j2 jf jl);clear eF um pK G7 Fh be2 hYs hg hg2
   all_goals
    rintro Z ⟨⟨⟨kX,kJ⟩,kt⟩,⟨kC, -,oL,oN⟩,be,sz⟩;obtain⟨N,rfl,hN,hNl⟩:=oN.open_ ay;obtain⟨r,hr⟩: ∃r:Nat,x.ring=(r:Int):=⟨x.ring.toNat,by omega⟩;rw[hr]at kX hrg hr0;have HR:=ax hr;clear hr;have hr2:r<2:=by omega
    have hrx:(r:Int)<2:=by omega
    have hNC:N≠C:=fun e=>by have:=oN.iw kC ay;exact this tN
    have hsum:IntKind.i64.wrap ((p:Int)+1)=(p:Int)+1:=IntWalk.i64_in _ aj;(obtain⟨c0,c1,c2,c3,cf,cl⟩:=kC.n4);(obtain⟨x0,x1,x2,x3,x4,x5,x6,x7,xf,xl⟩:=kX.n8);(obtain⟨j0,j1,j2,jf,jl⟩:=kJ.n3);have rC:=fun d os o=>dC Z d os C o cl;have rX:=fun d os o=>dC Z d os X o xl;have rJ:=fun d os o=>dC Z d os J o jl;(refine nI 14 [([0,1,2,3,4,5,6,7,8,9,10,11,12],13)] [] bP bP ?_;refine lu ?_);(refine pF ?_;intro K hK)
    go_wp2_with ((go_at_call 156;(with_reducible refine(aer jb jc aQ ps.length aY ps s (r:Int) x.group ((p:Int)+1) Z.drew (Row.drew (ajC be)) uo).mono ?_);rintro e w6 ⟨rfl,hb6⟩))
    replace hb6:=jA hb6;refine dS hb6 (hK _ _ ?_);clear hK K;(refine lC ?_);have RV:=oN.below hb6 aA;have n0:w6.cell? ⟨N,r,none⟩=_:=RV.cell r (by rw[g_,aw0.out];exact hr2);have nf:=RV.frozen r;have nl:N<w6.heap.size:=by have:=hb6.size;omega
    have kC6:=kC.below hb6 kC.lt;have oL6:=oL.below hb6 aA;have RX:Below B w w6:=be.trans (hb6.mono Bf);have hBw:=RX.size;have kt6:=(kt.below hb6).grown (grownBy_set w6 N r (ae (zh ps (r:Int) x.group (p+1)))) RV (.inr rfl);(clear c0 c1 c2 c3 cf cl);(clear x0 x1 x2 x3 x4 x5 x6 x7 xf xl);(clear j0 j1 j2 jf jl);clear kC kX kJ oN oL hb6
    go_wp2_with fail
    go_end0
    rw[HM.out,Fj.out,HR.out];refine⟨some ⟨N,0,none⟩,_,rfl,⟨kC6.far Be _,hC,oL6.far (p:=⟨N,r,none⟩) (fun e=>RV.Bq oL6 ay N rfl e) _,?_⟩,RX.grown (grownBy_set w6 N r _) aj bQ,kt6⟩;have:=RV.set r (ae (zh ps (r:Int) x.group (p+1)));rw[show(x.group:Int)=x.group from rfl]at this;rw[show((r:Int)).toNat=r from Int.toNat_natCast r,List.map_set];exact this
def uh(ps:List Ph):Nat→Int
 |0=>0
 |i+1=>match ps[i]? with
  |some p=>if uh ps i<p.group+1 then p.group+1 else uh ps i
  |none=>uh ps i
def DD(ps:List Ph):Int:=uh ps ps.length
theorem Qe(h: ∀p∈ps,mO p): ∀i,i≤ps.length→0≤uh ps i∧uh ps i≤3∧(0<i→1≤uh ps i)∧∀j (hj:j<ps.length),j<i→ps[j].group<uh ps i
 |0,_=>⟨by simp[uh],by simp[uh],by omega,fun j _ h=>by omega⟩
 |i+1,hi=>by
  obtain⟨h1,h2,h3,h4⟩:=Qe h i aj;have hp:=h _ (bF (show i<ps.length by omega));have hg:=hp.group;have e:uh ps (i+1)=if uh ps i<ps[i].group+1 then ps[i].group+1 else uh ps i:=by rw[uh,d_ (show i<ps.length by omega)]
  refine⟨by rw[e];split<;>omega,by rw[e];split<;>omega,fun _=>by rw[e];split<;>omega,fun j hj hji=>?_⟩;rw[e];by_cases q:j=i
  ·subst q;split<;>omega
  ·have:=h4 j hj aj;split<;>omega
theorem afB(jb jc aQ eX aY:Nat)(ps:List Ph)(s:Int)(w:ak)(h:Row w (some ⟨jb,0,none⟩) (jI ps))(h8:ps.length≤8)(h1:1≤ps.length)(hok: ∀p∈ps,mO p):
  aH 234 #[qO jb ps.length jc aQ eX aY s] w fun e w'=>e= .returned (.int .i64 (DD ps))∧Below w.heap.size w w':=by
 go_enter func234,ntmps234
 go_wp2
 go_loopw [3,9] (fun s3 s9 wr=> ∃(i:Nat) (N:Int),s3= .int .i64 N∧s9= .int .i64 i∧i≤ps.length∧Hid (uh ps i=N)∧Below w.heap.size w wr) (fun _ s _=>ps.length -(intOf s).toNat)
 case atStart=>exact⟨0,0,rfl,rfl,by omega,ax rfl,bel⟩
 case round=>
  obtain⟨i,N,rfl,rfl,hi,HN,be⟩:=hrel;by_cases hlt:i<ps.length
  ·obtain⟨x0,x1,x2,x3,x4,x5,x6,x7⟩:=zS (h.below be aA) i hlt;have ix:(i:Int)<(ps.length:Int):=by omega
   obtain⟨b0,b1, -, -⟩:=Qe hok i aj;rw[HN.out]at b0 b1;have hg:=(hok _ (bF hlt)).group;have HE:=ax (show uh ps (i+1)=if uh ps i<ps[i].group+1 then ps[i].group+1 else uh ps i by rw[uh,d_ hlt]);rw[HN.out]at HE;obtain⟨p,hp⟩:=aI (ps[i]);rw[hp]at x0 x1 x2 x3 x4 x5 x6 x7 hg HE;clear hp;obtain⟨N',hN'⟩: ∃N',(if N<p.group+1 then p.group+1 else N)=N':=⟨_,rfl⟩;rw[hN']at HE
   go_wp2_with fail
   go_roundw
   case rel=>exact⟨i+1,N',rfl,by go_num,by omega,HE,bel⟩
   case measure=>simp[intOf];omega
  ·obtain rfl:i=ps.length:=by omega
   go_wp2
   go_ret;exact⟨yT (by rw[←HN.out];rfl),be⟩
def OfO(ps:List Ph)(ring group:Int)(w:ak)(e:Ending)(w':ak):Prop:=
 ∃(l:aO) (a:az) (m c:Nat),e= .returned (.slice a m c)∧Hid (m=l.length)∧m≤8∧Own w' w.heap.size 3 1 a m c (l.map encI)∧Hid (∀i (h:i<ps.length),ps[i].ring=ring→ps[i].group=group→(i:Int)∈l)∧Below w.heap.size w w'
theorem auo(jb jc aQ eX aY:Nat)(ps:List Ph)(s ring group:Int)(w:ak)(h:Row w (some ⟨jb,0,none⟩) (jI ps))(h8:ps.length≤8):
  aH 236 #[qO jb ps.length jc aQ eX aY s,.int .i64 ring,.int .i64 group] w (OfO ps ring group w):=by
 go_enter func236,ntmps236
 go_wp2
 go_loopw [7,13] (fun s7 s13 wr=> ∃(i:Nat) (l:aO) (a:az) (m c:Nat),s7= .slice a m c∧s13= .int .i64 i∧i≤ps.length∧Hid (m=l.length)∧m≤i∧Own wr (w.heap.size+1) 3 1 a m c (l.map encI)∧Hid (∀k (h:k<ps.length),k<i→ps[k].ring=ring→ps[k].group=group→(k:Int)∈l)∧Below w.heap.size w wr∧w.heap.size+1≤wr.heap.size) (fun _ s _=>ps.length -(intOf s).toNat)
 case atStart=>exact⟨0,[],none,0,0,rfl,rfl,by omega,ax rfl,by omega,Own.nil _ _ _ _,ax (fun k _ hk=>by omega),bel,by simp⟩
 case round=>
  obtain⟨i,l,a,m,c,rfl,rfl,hi,hm,hmi,own,HM,be,sz⟩:=hrel;by_cases hlt:i<ps.length
  ·obtain⟨x0,x1,x2,x3,x4,x5,x6,x7⟩:=zS (h.below be aA) i hlt;have ix:(i:Int)<(ps.length:Int):=by omega
   obtain⟨p,hp⟩:=aI (ps[i]);rw[hp]at x0 x1 x2 x3 x4 x5 x6 x7;have HP:=ax hp;clear hp;obtain⟨r,g,mg,xg,y,rd,wk,cl⟩:=p;simp only at x0 x1 x2 x3 x4 x5 x6 x7;by_cases hr:r=ring
   ·subst hr;by_cases hg:g=group
    ·subst hg
     go_wp2_with ((at_builtin;refine av4 rfl _ _ rfl (w.heap.size+1) a m c l rfl (i:Int) (wr.heap.size+1) rfl (by simpa using ah.new (wr.alloc (.cells #[.int .i64 r,.int .i64 g,.int .i64 mg,.int .i64 xg,.int .i64 y,.int .i64 rd,.int .i64 wk,.int .i64 cl] 71)) 3 #[.int .i64 (i:Int)]) ((own.alloc _).alloc _) aj cu ?_;intro b' c' w' own' gr bl;(have be':=bl _ bD)))
     go_roundw
     case rel=>
      refine⟨i+1,l++ [(i:Int)],b',m+1,c',rfl,by go_num,by omega,ax (by rw[dP,←hm.out];rfl),by omega,own',ax (fun k hk hki h1 h2=>?_),bel,by have:=be'.size;simp at this;omega⟩;rcases Nat.lt_or_eq_of_le (Nat.le_of_lt_succ hki)with q|q
      ·exact List.mem_append_left _ (HM.out k hk q h1 h2)
      ·subst q;simp
     case measure=>simp[intOf];omega
    ·have z0:(g==group)=false:=by rw[iL];exact hg
     have HG:=ax hg;clear hg
     go_wp2_with fail
     go_roundw
     case rel=>exact⟨i+1,l,a,m,c,rfl,by go_num,by omega,hm,by omega,own.alloc _,ax (fun k hk hki h1 h2=>by
      rcases Nat.lt_or_eq_of_le (Nat.le_of_lt_succ hki)with q|q
      ·exact HM.out k hk q h1 h2
      ·subst q;rw[HP.out]at h2;exact absurd h2 HG.out),bel,by simp;omega⟩
     case measure=>simp[intOf];omega
   ·have z0:(r==ring)=false:=by rw[iL];exact hr
    have HR:=ax hr;clear hr
    go_wp2_with fail
    go_roundw
    case rel=>exact⟨i+1,l,a,m,c,rfl,by go_num,by omega,hm,by omega,own.alloc _,ax (fun k hk hki h1 h2=>by
     rcases Nat.lt_or_eq_of_le (Nat.le_of_lt_succ hki)with q|q
     ·exact HM.out k hk q h1 h2
     ·subst q;rw[HP.out]at h1;exact absurd h1 HR.out),bel,by simp;omega⟩
    case measure=>simp[intOf];omega
  ·obtain rfl:i=ps.length:=by omega
   go_wp2
   go_ret;exact⟨l,a,m,c,rfl,hm,by omega,own.mono aj,ax (fun k hk=>HM.out k hk hk),be⟩
def aw1(l:aO)(v:Int)(w:ak)(e:Ending)(w':ak):Prop:= ∃r:Int,e= .returned (ae r)∧Hid (decide (0≤r)=decide (v∈l))∧w=w'
theorem slices_Index(a:az)(n c:Nat)(l:aO)(v:Int)(w:ak)(h:Ints w a l)(hn:n=l.length)(h9:n≤1000):
  aH 260 #[.slice a n c,ae v] w (aw1 l v w):=by
 have HN:=ax hn;clear hn
 go_enter func260,ntmps260
 go_wp2
 go_loop [8] (fun s8=> ∃i:Nat,s8=ae i∧i≤n∧Hid (∀k (hk:k<l.length),k<i→l[k]≠v)) (fun s=>n -(intOf s).toNat)
 case atStart=>exact⟨0,rfl,by omega,ax fun k _ h=>by omega⟩
 case round=>
  obtain⟨i,rfl,hi,ho⟩:=hrel;by_cases hlt:i<n
  ·have kx:(i:Int)<(n:Int):=by omega
   have hil:i<l.length:=by rw[←HN.out];exact hlt
   obtain⟨b,off,rfl⟩:=P9 h aj;obtain⟨x0,xl⟩:=EE h i hil;obtain⟨x,hx⟩:=aI (l[i]);rw[hx]at x0;have HX:=ax hx;clear hx;by_cases hz:v=x
   ·have hz2:(v==x)=true:=by rw[hz];simp
    have HZ:=ax hz;clear hz
    go_wp2_with fail
    go_ret;have hm:v∈l:=by rw[HZ.out,←HX.out];exact bF hil
    exact⟨i,rfl,ax (by rw[jB hm];simp),rfl⟩
   ·have hz2:(v==x)=false:=by rw[iL];exact hz
    have HZ:=ax hz;clear hz
    go_wp2_with fail
    go_round
    case rel=>exact⟨i+1,by go_num,by omega,ax fun k hk hki=>by
     by_cases e:k=i
     ·subst e;rw[HX.out];exact fun q=>HZ.out q.symm
     ·exact ho.out k hk aj⟩
    case measure=>simp[intOf];omega
  ·obtain rfl:i=n:=by omega
   go_wp2_with fail
   go_ret;have hm:v ∉ l:=fun q=>by
    obtain⟨k,hk,e⟩:=List.getElem_of_mem q;exact ho.out k hk (by rw[HN.out];exact hk) e
   exact⟨-1,rfl,ax (by rw[fA hm];rfl),rfl⟩
theorem slices_Contains(a:az)(n c:Nat)(l:aO)(v:Int)(w:ak)(h:Ints w a l)(hn:n=l.length)(h9:n≤1000):
  aH 235 #[.slice a n c,ae v] w fun e w'=>e= .returned (.bool (decide (v∈l)))∧w=w':=by
 have HN:=ax hn;clear hn
 go_enter func235,ntmps235
 go_wp2_with (go_at_call 260;(with_reducible refine(slices_Index a n c l v _ h HN.out h9).mono ?_);rintro e w2 ⟨r,rfl,hr,rfl⟩)
 go_ret;exact⟨uH hr.out,rfl⟩
def DF(ls:List (Int × Int)):Nat→Nat:=Gw fun s=>decide ((ls.getD s.toNat (0,0)).1≠0)
theorem ata(la:az)(n lc:Nat)(ls:List (Int × Int))(g:Int)(na:az)(nc:Nat)(wt:Int)(w:ak)(h:Sl w 194 2 la n lc (gC gG ls))(hn:n=ls.length)(h8:n≤8):
  aH 233 #[KT la n lc g na nc wt] w fun e w'=>e= .returned (ae (DF ls n))∧Below w.heap.size w w':=by
 have HN:=ax hn;clear hn
 go_enter func233,ntmps233
 go_wp2_with fail
 go_loopw [3,9] (fun s3 s9 wr=> ∃(i S:Nat),s3=ae S∧s9=ae i∧i≤n∧Hid (S=DF ls i)∧S<2 ^ i∧Below w.heap.size w wr) (fun _ s _=>n -(intOf s).toNat)
 case atStart=>exact⟨0,0,rfl,rfl,by omega,ax rfl,by simp,bel⟩
 case round=>
  obtain⟨i,S,rfl,rfl,hi,hS,hlt,be⟩:=hrel;by_cases hil:i<n
  ·have kx:(i:Int)<(n:Int):=by omega
   have hl2:i<ls.length:=by rw[←HN.out];exact hil
   have hr:=h.below be aA;obtain⟨b,off,rfl,bl⟩:=hr.open_ aj;have x0:=hr.row.fV mQ i hl2 0 ay (v:=ae ls[i].1) rfl;have x1:=hr.row.fV mQ i hl2 1 ay (v:=ae ls[i].2) rfl;simp only[iV]at x0;have HG:=ax (show(ls.getD i (0,0)).1=ls[i].1 by simp[eG,hl2]);obtain⟨x,hx⟩:=aI (ls[i]);rw[hx]at x0 x1 HG;clear hx hr;obtain⟨x,t⟩:=x;simp only at x0 x1 HG;have hpw:=as3 i;have hp8:=aaJ (i:=i) aj;have hsh:=as2 (i:=i) aj;have hor:=or_bit hlt aj;by_cases hz:x=0
   ·have hz2:(x !=0)=false:=by rw[hz];rfl
    have HZ:=ax hz;clear hz
    go_wp2_with fail
    go_roundw
    case rel=>exact⟨i+1,S,rfl,by go_num,by omega,ax (by rw[DF,Gw,←DF,Int.toNat_natCast,HG.out,HZ.out,←hS.out];simp),by omega,bel⟩
    case measure=>simp[intOf];omega
   ·have hz2:(x !=0)=true:=by rw[bne_iff_ne];exact hz
    have HZ:=ax hz;clear hz;have ajD:Hid (S+2 ^ i=DF ls (i+1)):=ax (by rw[DF,Gw,←DF,Int.toNat_natCast,HG.out,←hS.out];simp[HZ.out]);obtain⟨p,hp⟩: ∃p:Nat,2 ^ i=p:=⟨_,rfl⟩;rw[hp]at ajD hpw hlt hp8 hsh hor;have HP:=ax hp;clear hp
    go_wp2_with fail
    go_roundw
    case rel=>exact⟨i+1,S+p,rfl,by go_num,by omega,ajD,by have:=HP.out;omega,bel⟩
    case measure=>simp[intOf];omega
  ·obtain rfl:i=n:=by omega
   go_wp2_with fail
   go_ret;exact⟨yT (by rw[hS.out]),be⟩
theorem aup{S i:Nat}(h1:S<256)(hi:i<8):(bits .and .u64 ((S:Int)/2 ^ i) 1==1)=rG (S:Int) i:=by
 have hh: ∀x:Fin 256,∀i:Fin 8,(bits .and .u64 ((x.val:Int)/2 ^ i.val) 1==1)=rG (x.val:Int) i.val:=by decide+kernel
 exact hh ⟨S,h1⟩ ⟨i,hi⟩
theorem UU(S p:Nat)(w:ak)(h:S<256)(hp:p<8):aH 259 #[ae S,ae p] w fun e w'=>e= .returned (.bool (rG (S:Int) p))∧w=w':=by
 have hb:=aup h hp;have px:(p:Int)<8:=by omega
 go_enter func259,ntmps259
 go_wp2_with fail
 go_ret;exact⟨rfl,rfl⟩
theorem YK{P:Prop}(h:P:=by
 go_round
 case rel=>exact⟨j+1,by go_num,by omega⟩
 case measure=>simp[intOf];omega):P:=h
theorem afC{P:Prop}(h:P:=by
 go_round
 case rel=>exact⟨i+1,by go_num,by omega⟩
 case measure=>simp[intOf];omega):P:=h
theorem aoL(ca:az)(cs:aO)(n c S:Nat)(w:ak)(hc:Ints w ca cs)(hn:n=cs.length)(hro:Qo cs)(hS:S<256)(hno: ∀p q:Nat,p<n→q<n→p≠q→rG (S:Int) p=true→rG (S:Int) q=true→jR cs p q=false):
  aH 232 #[.slice ca n c,ae S] w fun e w'=>e= .returned (.tuple #[ae (-1),ae (-1)])∧w=w':=by
 have HN:=ax hn;have Au:=ax hno;have h8:=hro.n;rw[←hn]at h8;clear hn hno
 go_enter func232,ntmps232
 go_wp2_with fail
 go_loop [10] (fun s10=> ∃i:Nat,s10=ae i∧i≤n) (fun s=>n -(intOf s).toNat)
 case atStart=>exact⟨0,rfl,by omega⟩
 case round=>
  obtain⟨i,rfl,hi⟩:=hrel;by_cases hlt:i<n
  ·have ix:(i:Int)<(n:Int):=by omega
   obtain⟨bi,hbi⟩: ∃b,rG (S:Int) i=b:=⟨_,rfl⟩;have HB:=ax hbi;clear hbi;cases bi with
   |false=>
    go_wp2_with (go_at_call 259;(with_reducible refine(UU S i _ hS aj).mono ?_);rintro e wz ⟨rfl,rfl⟩;(rw[HB.out]))
    exact afC
   |true=>
    go_wp2_with (go_at_call 259;(with_reducible refine(UU S i _ hS aj).mono ?_);rintro e wz ⟨rfl,rfl⟩;(rw[HB.out]))
    go_loop [19] (fun s19=> ∃j:Nat,s19=ae j∧j≤n) (fun s=>n -(intOf s).toNat)
    case atStart=>exact⟨0,rfl,by omega⟩
    case round=>
     obtain⟨j,rfl,hj⟩:=hrel;by_cases hlt2:j<n
     ·have jx:(j:Int)<(n:Int):=by omega
      by_cases hij:j=i
      ·have hij2:((j:Int) !=(i:Int))=false:=by rw[hij];simp
       clear hij
       go_wp2_with fail
       exact YK
      ·have hij2:((j:Int) !=(i:Int))=true:=by rw[bne_iff_ne];omega
       obtain⟨bj,hbj⟩: ∃b,rG (S:Int) j=b:=⟨_,rfl⟩;have HBJ:=ax hbj;have RI:=ax hij;clear hbj hij;cases bj with
       |false=>
        go_wp2_with (go_at_call 259;(with_reducible refine(UU S j _ hS aj).mono ?_);rintro e wz ⟨rfl,rfl⟩;(rw[HBJ.out]))
        exact YK
       |true=>
        have HC:=ax (Au.out i j hlt hlt2 (fun e=>RI.out e.symm) HB.out HBJ.out)
        go_wp2_with (first|(go_at_call 259;(with_reducible refine(UU S j _ hS aj).mono ?_);rintro e wz ⟨rfl,rfl⟩;(rw[HBJ.out]))|(go_at_call 154;(with_reducible refine(MN ca cs n c i j _ hc HN.out hro).mono ?_);rintro e wz ⟨rfl,rfl⟩;(rw[HC.out])))
        exact YK
     ·obtain rfl:j=n:=by omega
      go_wp2_with fail
      exact afC
  ·obtain rfl:i=n:=by omega
   go_wp2_with fail
   go_ret2
   exact⟨rfl,rfl⟩
def VC(ps:List Ph)(r g x:Int):Prop:=x= -1∨∃(i:Nat) (h:i<ps.length),x=i∧ps[i].ring=r∧ps[i].group=g
structure mW(ps:List Ph)(cs:aO)(s:Int)(c:Ck)(wt:Int):Prop where
 ll:c.ls.length=ps.length
 nl:c.nx.length=2
 li: ∀i (h:i<ps.length) (h2:i<c.ls.length),xZ ps[i] c.ls[i].1 c.ls[i].2
 cl: ∀p q:Nat,p<ps.length→q<ps.length→p≠q→(c.ls.getD p (0,0)).1≠0→(c.ls.getD q (0,0)).1≠0→jR cs p q=false
 g0:0≤c.g
 g1:c.g<DD ps
 nx: ∀r (h:r<c.nx.length),VC ps r c.g c.nx[r]
 w0:0≤wt
 w1:wt≤s
 wr:wt=0∨BH c.ls=true
theorem ahO(ls:List (Int × Int))(n p:Nat)(hp:p<n)(h8:n≤8):rG (DF ls n:Int) p=decide ((ls.getD p (0,0)).1≠0):=by
 have h:=ahM (fun s=>decide ((ls.getD s.toNat (0,0)).1≠0)) n p hp;rw[rG];rw[Int.toNat_natCast,DF,h,Int.toNat_natCast];by_cases q:(ls.getD p (0,0)).1=0<;>simp[q]
theorem auq(ls:List (Int × Int))(n:Nat)(h8:n≤8):DF ls n<256:=
 jL (aac _ n) (by calc 2 ^ n≤2 ^ 8:=Nat.pow_le_pow_right ay h8
  _=256:=by decide)
theorem aur{r g mg xg y rd wk cl a t:Int}(H:Hid (tV ⟨r,g,mg,xg,y,rd,wk,cl⟩ a t=true))(w:ak):aH 231 #[.agg #[ae r,ae g,ae mg,ae xg,ae y,ae rd,ae wk,ae cl],.agg #[ae a,ae t]] w fun e w'=>e= .returned (.bool true)∧Below w.heap.size w w':=by
 have:=aqQ ⟨r,g,mg,xg,y,rd,wk,cl⟩ a t w;rw[H.out]at this;exact this
theorem aag{a:az}{l:aO}(h:Row w a (l.map encI)):Ints w a l:=h
theorem ahr{b off:Nat}{cs:aO}(h:Ints w (some ⟨b,off,none⟩) cs)(hb:Below B w w')(hl:b<B):Ints w' (some ⟨b,off,none⟩) cs:=
 Row.keep h fun b off e _=>hb.block b PT
theorem afD{P:Prop}(h:P:=by
 go_roundw
 case rel=>exact⟨i+1,by go_num,by omega,bel⟩
 case measure=>simp[intOf];omega):P:=h
theorem aqR(B jb jc aQ aY:Nat)(ps:List Ph)(cs:aO)(s:Int)(c:Ck)(wt:Int)(la:az)(lc:Nat)(na:az)(nc:Nat)(w:ak)(hj:wQ w B jb jc aQ aY ps cs s)(hl:Sl w 194 2 la ps.length lc (gC gG c.ls))(hn:Sl w 3 1 na 2 nc (c.nx.map encI))(ok:mW ps cs s c wt):
  aH 213 #[qO jb ps.length jc aQ ps.length aY s,KT la ps.length lc c.g na nc wt] w fun e w'=>e= .returned (.bool true)∧Below w.heap.size w w':=by
 obtain⟨ls,g,nx⟩:=c;obtain⟨hll,hnl,D5,hcl,hg0,hg1,hnx,hw0,hw1,hwr⟩:=ok;obtain⟨hj0,hring,hrows⟩:=hj;obtain⟨AB,hcf,hlb,awY,WH,⟨hn1,uo⟩,rH,hok,hs0⟩:=hj0;simp only at hll hnl D5 hcl hg0 hg1 hnx hwr hl hn;have DU:Hid (ps.length=cs.length):=ax rH.symm;clear rH;have nT:=ax hll;have OD:=ax hnl;have LK:=ax hcl;have HWR:=ax hwr;clear hll hnl hcl hwr
 go_enter func213,ntmps213
 go_upto_region 1 with fail
 obtain⟨J,hJ⟩:=aI w.heap.size;refine aW (fun W=>ah W J 69 #[.slice (some ⟨jb,0,none⟩) ps.length jc,.slice (some ⟨aQ,0,none⟩) ps.length aY,ae s]∧ah W (J+1) 118 #[.slice la ps.length lc,ae g,.slice na 2 nc,ae wt]∧Below w.heap.size w W) ⟨by rw[←hJ];exact(ah.new _ _ _).alloc _,by rw[←hJ];exact ah.dG _ _ _ _,bel⟩ ?_;have sZ:w.heap.size≤J:=by omega
 have hJv:J≤w.heap.size:=by omega
 rw[hJ];have HJ:=ax hJ;clear hJ;rintro W ⟨kJ,kC,be⟩;(obtain⟨j0,j1,j2,jf,jl⟩:=kJ.n3);(obtain⟨k0,k1,k2,k3,kf,kl⟩:=kC.n4)
 go_wp2_with fail
 go_loopw [27] (fun s27 wr=> ∃i:Nat,s27=ae i∧i≤ps.length∧Below W.heap.size W wr) (fun s _=>ps.length -(intOf s).toNat)
 case atStart=>exact⟨0,rfl,by omega,bel⟩
 case round=>
  (clear j0 j1 j2 jf jl);(clear k0 k1 k2 k3 kf kl);obtain⟨i,rfl,hi,bw⟩:=hrel;have AA:=kJ.below bw kJ.lt;have BR:=kC.below bw kC.lt;have bJ:Below J w wr:=be.trans (bw.mono Bf);have Jl:J≤wr.heap.size:=by have:=be.size;have:=bw.size;omega
  by_cases hlt:i<ps.length
  ·have ix:(i:Int)<(ps.length:Int):=by omega
   have hil:i<ls.length:=by rw[nT.out];exact hlt
   obtain⟨x0,x1,x2,x3,x4,x5,x6,x7⟩:=zS (AB.below bJ sZ) i hlt;have hlr:=hl.below bJ sZ;obtain⟨b,off,rfl,bl⟩:=hlr.open_ aj;have y0:=hlr.row.fV mQ i hil 0 ay (v:=ae ls[i].1) rfl;have y1:=hlr.row.fV mQ i hil 1 ay (v:=ae ls[i].2) rfl;simp only[iV]at y0;have HV:=ax (arK (D5 i hlt hil));obtain⟨p,hp⟩:=aI (ps[i]);obtain⟨y,hy⟩:=aI (ls[i]);rw[hp]at x0 x1 x2 x3 x4 x5 x6 x7 HV;rw[hy]at y0 y1 HV;clear hp hlr;obtain⟨y,t⟩:=y;obtain⟨r,pg,mg,xg,py,rd,wk,cl⟩:=p;simp only at x0 x1 x2 x3 x4 x5 x6 x7 y0 y1 HV;have HY:=ax hy;clear hy;(obtain⟨j0,j1,j2,jf,jl⟩:=AA.n3);(obtain⟨k0,k1,k2,k3,kf,kl⟩:=BR.n4)
   go_upto_region 6 with fail
   obtain⟨X,hX⟩:=aI wr.heap.size;refine aW (fun Z=>ah Z X 71 #[ae r,ae pg,ae mg,ae xg,ae py,ae rd,ae wk,ae cl]∧Below wr.heap.size wr Z) ⟨by rw[←hX];exact ah.new _ _ _,bel⟩ ?_;rintro Z ⟨kX,bz⟩;rw[hX]at bz⊢;have hlz:=(hl.below bJ sZ).below bz aj;have Fp:=BR.below bz aj;have y0':=hlz.row.fV mQ i hil 0 ay (v:=ae y) UO;have y1':=hlz.row.fV mQ i hil 1 ay (v:=ae t) UO;simp only[iV]at y0';(clear j0 j1 j2 jf jl);(clear k0 k1 k2 k3 kf kl);clear y0 y1;(obtain⟨x0,x1,x2,x3,x4,x5,x6,x7,xf,xl⟩:=kX.n8);(obtain⟨k0,k1,k2,k3,kf,kl⟩:=Fp.n4);have Ar:b<Z.heap.size:=by have:=bz.size;omega
   have rX:=fun d os o=>dC Z d os X o xl;have rC:=fun d os o=>dC Z d os (J+1) o kl;have rL:=fun d os o=>dC Z d os b o Ar;(refine nI 6 [] [0,1,2,3,4,5] bP bP ?_;refine lu ?_);(refine lC ?_)
   go_wp2_with (go_at_call 231;(with_reducible refine(aur HV _).mono ?_);rintro e wz ⟨rfl,hbz⟩;(replace hbz:=jA hbz))
   go_roundw
   case rel=>exact⟨i+1,by go_num,by omega,bw.trans ((bz.mono (by have:=bw.size;omega)).trans (hbz.mono (by have:=bw.size;have:=bz.size;omega)))⟩
   case measure=>simp[intOf];omega
  ·obtain rfl:i=ps.length:=by omega
   (obtain⟨j0,j1,j2,jf,jl⟩:=AA.n3);(obtain⟨k0,k1,k2,k3,kf,kl⟩:=BR.n4)
   go_upto_region 9 with fail
   have rJ:=fun d os o=>dC wr d os J o jl;have rC:=fun d os o=>dC wr d os (J+1) o kl;have hlr:=hl.below bJ sZ;have hcr:Ints wr (some ⟨aQ,0,none⟩) cs:=Row.keep hcf fun b off e hl=>bJ.block b PT;have hS8:=auq ls ps.length uo;have HST:=ax (fun p q (hp:p<ps.length) (hq:q<ps.length) hpq h1 h2=>LK.out p q hp hq hpq (of_decide_eq_true (by rw[←ahO ls ps.length p hp uo];exact h1)) (of_decide_eq_true (by rw[←ahO ls ps.length q hq uo];exact h2)));(refine nI 9 [([0,1,2],3),([],4)] [5,6,7,8] bP bP ?_;refine lu ?_);(refine pF ?_;intro K hK)
   go_wp2_with (go_at_call 233;(with_reducible refine(ata la ps.length lc ls g na nc wt wr.drew hlr.drew nT.out.symm uo).mono ?_);rintro e wz ⟨rfl,hbz⟩)
   replace hbz:=jA hbz;refine dS hbz (hK _ _ ?_);clear hK K;(refine pF ?_;intro K hK);have hcz:Ints wz (some ⟨aQ,0,none⟩) cs:=ahr hcr hbz aj
   go_wp2_with (go_at_call 232;(with_reducible refine(aoL (some ⟨aQ,0,none⟩) cs ps.length aY (DF ls ps.length) _ hcz DU.out hrows hS8 HST.out).mono ?_);rintro e wy ⟨rfl,rfl⟩)
   refine dS hbz (hK _ _ ?_);clear hK K;(refine lC ?_);have LM:=AA.below hbz AA.lt;have Fp:=BR.below hbz BR.lt;(clear j0 j1 j2 jf jl);(clear k0 k1 k2 k3 kf kl);clear rJ rC;(obtain⟨j0,j1,j2,jf,jl⟩:=LM.n3);(obtain⟨k0,k1,k2,k3,kf,kl⟩:=Fp.n4);have rJ:=fun d os o=>dC wz d os J o jl;have rC:=fun d os o=>dC wz d os (J+1) o kl;have bJz:Below J w wz:=bJ.trans (hbz.mono Jl);have ajE:=AB.below bJz sZ;have gx:(g<0)=False:=eq_false aj
   go_upto_region 12 with fail
   (refine nI 8 [([0,1,2,3,4,5,6],7)] [] bP bP ?_;refine lu ?_);(refine pF ?_;intro K hK)
   go_wp2_with (go_at_call 234;(with_reducible refine(afB jb jc aQ ps.length aY ps s wz.drew (Row.drew ajE) uo hn1 hok).mono ?_);rintro e wy ⟨rfl,hby⟩)
   replace hby:=jA hby;refine dS hby (hK _ _ ?_);clear hK K;(refine lC ?_);have kJy:=LM.below hby LM.lt;have kCy:=Fp.below hby Fp.lt;have bJy:Below J w wy:=bJz.trans (hby.mono (by have:=hbz.size;omega));have Jy:J≤wy.heap.size:=by have:=hbz.size;have:=hby.size;omega
   (clear j0 j1 j2 jf jl);(clear k0 k1 k2 k3 kf kl);clear rJ rC LM Fp AA BR hcz hcr ajE hbz hby bJz bJ bw hlr;(obtain⟨j0,j1,j2,jf,jl⟩:=kJy.n3);(obtain⟨k0,k1,k2,k3,kf,kl⟩:=kCy.n4);obtain⟨G,hG⟩:=aI (DD ps);rw[hG]at hg1;have HG:=ax hG;rw[hG];clear hG
   go_wp2_with fail
   go_loopw [64] (fun s64 wr=> ∃i:Nat,s64=ae i∧i≤2∧Below wy.heap.size wy wr) (fun s _=>2 -(intOf s).toNat)
   case atStart=>exact⟨0,rfl,by omega,bel⟩
   case round=>
    (clear j0 j1 j2 jf jl);(clear k0 k1 k2 k3 kf kl);obtain⟨i,rfl,hi,bw⟩:=hrel;have AA:=kJy.below bw kJy.lt;have BR:=kCy.below bw kCy.lt;have bJ:Below J w wr:=bJy.trans (bw.mono Jy);have Jr:J≤wr.heap.size:=by have:=bw.size;omega
    (obtain⟨j0,j1,j2,jf,jl⟩:=AA.n3);(obtain⟨k0,k1,k2,k3,kf,kl⟩:=BR.n4);by_cases hlt:i<2
    ·have ix:(i:Int)<2:=by omega
     have hil:i<nx.length:=by rw[OD.out];exact hlt
     have hnr:=hn.below bJ sZ;obtain⟨b,off,rfl,bl⟩:=hnr.open_ aj;have y0:=(EE hnr.row i hil).1;have hc:=hnx i hil;obtain⟨x,hx⟩:=aI (nx[i]);rw[hx]at y0 hc;clear hx hnr;by_cases hz:x= -1
     ·subst hz
      go_wp2_with fail
      exact afD
     ·have hz2:(x != -1)=true:=by rw[bne_iff_ne];exact hz
      have hz3:=ax (hc.resolve_left hz);clear hz hc;have ET:=AB.below bJ sZ
      go_wp2_with (first|(go_at_call 236;(with_reducible refine(auo jb jc aQ ps.length aY ps s (i:Int) g _ ET uo).mono ?_);rintro e w2 ⟨l,a,m,c,rfl,hm,hm8,own,HM,hb2⟩;(have hmem:=ax (by obtain⟨k,hk,e,h1,h2⟩:=hz3.out;rw[e];exact HM.out k hk h1 h2:x∈l)))|(go_at_call 235;(with_reducible refine(slices_Contains a m c l x _ (aag own.row) hm.out aj).mono ?_);rintro e w3 ⟨rfl,rfl⟩;(rw[jB hmem.out])))
      go_roundw
      case rel=>exact⟨i+1,by go_num,by omega,bw.trans (hb2.mono bw.size)⟩
      case measure=>simp[intOf];omega
    ·obtain rfl:i=2:=by omega
     have h3:(wt<0)=False:=eq_false aj;have h4:(s<wt)=False:=eq_false aj;by_cases hw:wt=0
     ·subst hw
      go_wp2_with fail
      go_ret;exact⟨rfl,bJ.mono sZ⟩
     ·have hw2:(wt==0)=false:=by rw[iL];exact hw
      have HR:=ax (HWR.out.resolve_left hw);clear hw;have hlr:=hl.below bJ sZ
      go_wp2_with (go_at_call 237;(with_reducible refine(afA la ps.length lc ls g na nc wt _ hlr nT.out.symm aj).mono ?_);rintro e w2 ⟨rfl,hb2⟩;(rw[HR.out]))
      go_ret;exact⟨rfl,(bJ.mono sZ).trans (hb2.mono (bJ.mono sZ).size)⟩
theorem aah(ps:List Ph)(ring group from_:Int):VC ps ring group (zh ps ring group from_):=by
 unfold zh;cases e:(qC ring 0 ps).find? (Ai ps group from_)with
 |none=>exact .inl rfl
 |some x=>
  have hm:=List.mem_of_find?_eq_some e;have hp:=List.find?_some e;obtain⟨j,hj,rfl,hr⟩:=aaf hm;rw[dX]at hp⊢;refine .inr ⟨j,hj,rfl,hr,?_⟩;unfold Ai at hp;rw[Int.toNat_natCast,d_ hj]at hp;simp only[Bool.and_eq_true,decide_eq_true_eq]at hp;exact hp.2
theorem aai(ps:List Ph)(g:Int)(r:Nat)(h:r<(vS ps g).length):VC ps r g (vS ps g)[r]:=by
 match r,h with
 |0,_=>exact aah ps 0 g 0
 |1,_=>exact aah ps 1 g 0
theorem aie(hok: ∀p∈ps,mO p){p:Nat}(hp:p<ps.length):0≤ps[p].group∧ps[p].group<DD ps:=
 ⟨(hok _ (bF hp)).group.1,(Qe hok ps.length aA).2.2.2 p hp hp⟩
theorem ZI(hok: ∀p∈ps,mO p)(h1:1≤ps.length):1≤DD ps∧DD ps≤3:=
 ⟨(Qe hok ps.length aA).2.2.1 h1,(Qe hok ps.length aA).2.1⟩
theorem aus{cs:aO}{c:Ck}{p:Nat}(hok: ∀p∈ps,mO p)(hring: ∀p∈ps,p.ring≤1)(I8: ∀p q,jR cs p q=jR cs q p)(h:mW ps cs s c 0)(hp:p<ps.length):mW ps cs s (ES ps cs c p) 0:=by
 unfold ES
 split
 ·exact h
 ·rename_i hb;rw[d_ hp];simp only;have hl:=h.ll;have hr:=(hok _ (bF hp)).ring;have hr1:=hring _ (bF hp);obtain⟨r,hr⟩: ∃r:Nat,ps[p].ring=(r:Int):=⟨ps[p].ring.toNat,by omega⟩;have hbf: ∀q,q<ps.length→(c.ls.getD q (0,0)).1≠0→jR cs p q=false:=fun q hq hz=>by
   by_cases e:jR cs p q=true
   ·exact absurd (List.any_eq_true.2 ⟨q,List.mem_range.2 aj,by rw[e,jB hz];rfl⟩) hb
   ·exact Bool.eq_false_iff.2 e
  have gS: ∀q,q≠p→(c.ls.set p (1,0)).getD q (0,0)=c.ls.getD q (0,0):=fun q hq=>by
   rw[eG,List.getElem?_set,if_neg (fun e=>hq e.symm),eG]
  have hn0:(if c.g=ps[p].group then c.nx else vS ps ps[p].group).length=2:=by split;exact h.nl;rfl
  have hnk: ∀r (hh:r<(if c.g=ps[p].group then c.nx else vS ps ps[p].group).length),VC ps r ps[p].group (if c.g=ps[p].group then c.nx else vS ps ps[p].group)[r]:=by
   split
   ·rename_i e;intro r hh;have:=h.nx r hh;rw[e]at this;exact this
   ·intro r hh;exact aai ps _ r hh
  refine⟨by simpa using hl,by simpa using hn0,fun i hi h2=>?_,fun a b ha hb' hab ha1 hb1=>?_,(aie hok hp).1,(aie hok hp).2,fun q hq=>?_,h.w0,h.w1,.inl rfl⟩
  ·by_cases e:i=p
   ·subst e;simp only[List.getElem_set_self];exact .inr (.inl ⟨rfl,by omega,by omega⟩)
   ·have:=h.li i hi aj;have e2: ¬ p=i:=fun q=>e q.symm;simp only[List.getElem_set,if_neg e2];exact this
  ·by_cases ea:a=p
   ·subst ea;exact hbf b hb' (by rw[gS b (fun e=>hab e.symm)]at hb1;exact hb1)
   ·by_cases eb:b=p
    ·subst eb;rw[I8];exact hbf a ha (by rw[gS a ea]at ha1;exact ha1)
    ·rw[gS a ea]at ha1;rw[gS b eb]at hb1;exact h.cl a b ha hb' hab ha1 hb1
  ·rw[iQ]at hq;by_cases e:ps[p].ring.toNat=q
   ·subst e;simp only[List.getElem_set_self];have:=aah ps ps[p].ring ps[p].group (p+1);rw[show((ps[p].ring.toNat:Nat):Int)=ps[p].ring by omega];exact this
   ·simp only[List.getElem_set,if_neg e];exact hnk q hq
def aaK(c:Ck):Bool:=BH c.ls && c.nx.all fun x=>decide (x= -1)
def NY(ps:List Ph)(c:Ck):Ck:=if aaK c then⟨c.ls,(c.g+1) % DD ps,vS ps ((c.g+1) % DD ps)⟩else c
def Gt(ps:List Ph)(cs:aO)(c:Ck)(r:Nat):Ck:=if KI ps c.ls r && decide (c.nx.getD r (-1)≠ -1)then ES ps cs c (c.nx.getD r (-1)).toNat else c
def Gx(ps:List Ph)(cs:aO)(c:Ck):Nat→Ck
 |0=>NY ps c
 |r+1=>Gt ps cs (Gx ps cs c r) r
def NZ(ps:List Ph)(cs:aO)(c:Ck):Ck:=Gx ps cs c 2
theorem aut{cs:aO}{c:Ck}(hok: ∀p∈ps,mO p)(h1:1≤ps.length)(h:mW ps cs s c 0):mW ps cs s (NY ps c) 0:=by
 unfold NY
 split
 ·have hg:=ZI hok h1;exact⟨h.ll,rfl,h.li,h.cl,Int.emod_nonneg _ aj,Int.emod_lt_of_pos _ aj,aai ps _,h.w0,h.w1,.inl rfl⟩
 ·exact h
theorem mW.dG{cs:aO}{c:Ck}(h:mW ps cs s c 0){r:Nat}(hr:r<2):c.nx.getD r (-1)= -1∨∃p:Nat,p<ps.length∧c.nx.getD r (-1)=p:=by
 have hl:r<c.nx.length:=by rw[h.nl];exact hr
 rcases h.nx r hl with e|⟨i,hi,e, -, -⟩
 ·exact .inl (by simp[eG,hl,e])
 ·exact .inr ⟨i,hi,by simp[eG,hl,e]⟩
theorem atb{cs:aO}{c:Ck}{r:Nat}(hok: ∀p∈ps,mO p)(hring: ∀p∈ps,p.ring≤1)(I8: ∀p q,jR cs p q=jR cs q p)(hr:r<2)(h:mW ps cs s c 0):mW ps cs s (Gt ps cs c r) 0:=by
 unfold Gt
 split
 ·rename_i e;simp only[Bool.and_eq_true,decide_eq_true_eq]at e;rcases h.dG hr with q|⟨p,hp,q⟩
  ·exact absurd q e.2
  ·rw[q,Int.toNat_natCast];exact aus hok hring I8 h hp
 ·exact h
theorem aaj{cs:aO}{c:Ck}(hok: ∀p∈ps,mO p)(h1:1≤ps.length)(hring: ∀p∈ps,p.ring≤1)(I8: ∀p q,jR cs p q=jR cs q p)(h:mW ps cs s c 0): ∀r,r≤2→mW ps cs s (Gx ps cs c r) 0
 |0,_=>aut hok h1 h
 |r+1,hr=>atb hok hring I8 aj (aaj hok h1 hring I8 h r aj)
def CyI(w:ak)(B C J jb jc aQ aY:Nat)(ps:List Ph)(cs:aO)(s:Int)(wt:Int)(la:az)(lc:Nat)(K:Ck)(Z:ak):Prop:=
 ∃(na:az) (nc:Nat),DC Z B C K.ls K.g K.nx wt la ps.length lc na nc∧ah Z J 69 #[.slice (some ⟨jb,0,none⟩) ps.length jc,.slice (some ⟨aQ,0,none⟩) ps.length aY,ae s]∧Below B w Z∧oJ C w Z∧wQ Z B jb jc aQ aY ps cs s
theorem auu(h:Below B w.drew w'):Below B w w':=⟨h.os,h.tape,h.output,h.size,h.block⟩
theorem atc{α:Type}(p:α→Bool)(l:List α)(i:Nat)(h:i<l.length):(l.take (i+1)).all p=((l.take i).all p && p l[i]):=by
 rw[List.take_add_one,d_ h,List.all_append];simp
theorem afE{P:Prop}(h:P:=by
 (refine lC ?_)
 go_wp2_with fail
 go_roundw
 case rel=>exact⟨i+1,by go_num,by omega,by rw[HS2.out];exact⟨_,_,ajF.out,kJ5,jS,kt5,hj5⟩⟩
 case measure=>simp[intOf];omega):P:=h
theorem aqS(B C jb jc aQ aY:Nat)(ps:List Ph)(cs:aO)(s:Int)(c:Ck)(wt:Int)(la:az)(lc:Nat)(na:az)(nc:Nat)(w:ak)(hj:wQ w B jb jc aQ aY ps cs s)(I8: ∀p q,jR cs p q=jR cs q p)(hc:DC w B C c.ls c.g c.nx wt la ps.length lc na nc)(ok:mW ps cs s c 0):
  aH 216 #[qO jb ps.length jc aQ ps.length aY s,.pointer (some ⟨C,0,none⟩)] w (ajA (NZ ps cs c) wt B C ps.length la lc w):=by
 have OKT:=ax (aaj hj.j.ok hj.j.n1.1 hj.ring I8 ok);have WH:=hj.j.lw;have hn1:=hj.j.n1.1;have uo:=hj.j.n1.2;have hlb:=hj.j.lb;have hok:=hj.j.ok;obtain⟨ls,g,nx⟩:=c;obtain⟨hll,hnl, -, -,hg0,hg1,hnx, -, -, -⟩:=ok;simp only at hll hnl hg0 hg1 hnx;have nT:=ax hll;have OD:=ax hnl;have Xb:=ZI hok hn1;obtain⟨kC,hC,oL,oN⟩:=hc;simp only at kC oL oN;clear hll hnl;obtain⟨ct,hct⟩: ∃ct,Gx ps cs ⟨ls,g,nx⟩=ct:=⟨_,rfl⟩;have HCT:=ax hct;rw[hct]at OKT;rw[NZ,hct];clear hct
 go_enter func216,ntmps216
 go_upto_region 1 with fail
 obtain⟨J,hJ⟩:=aI w.heap.size;refine aW (fun W=>ah W J 69 #[.slice (some ⟨jb,0,none⟩) ps.length jc,.slice (some ⟨aQ,0,none⟩) ps.length aY,ae s]∧Below w.heap.size w W∧J+1≤W.heap.size) ⟨by rw[←hJ];exact ah.new _ _ _,bel,by simp;omega⟩ ?_;have sZ:w.heap.size≤J:=by omega
 have DZ:C<J:=by have:=kC.lt;omega
 have OC:B≤J:=by omega
 rw[hJ];have HJ:=ax hJ;clear hJ;rintro W ⟨kJ,be,sz⟩;have Xc:=kC.below be DZ;have oLW:=oL.below be sZ;have oNW:=oN.below be sZ;have uq:=hj.below (be.mono OC);have ktW:oJ C w W:= .of_below be sZ;have uS:=be.mono OC;clear kC oL oN be;(obtain⟨c0,c1,c2,c3,cf,cl⟩:=Xc.n4)
 go_upto_region 2 with((go_at_call 237;(with_reducible refine(afA la ps.length lc ls g na nc wt _ oLW.sl nT.out.symm aj).mono ?_);rintro e w2 ⟨rfl,hb2⟩))
 have eF:=Xc.below hb2 Xc.lt;have pK:=kJ.below hb2 kJ.lt;have G7:=oLW.below hb2 aA;have Fh:=oNW.below hb2 aA;have hj2:=uq.below (hb2.mono uq.j.lw);have kt2:=ktW.below hb2;have be2:=uS.trans (hb2.mono uq.j.lw);have sz2:J+1≤w2.heap.size:=by have:=hb2.size;omega
 (clear c0 c1 c2 c3 cf cl);clear Xc kJ oLW oNW uq ktW uS hb2;obtain⟨rd,hrd⟩:=aI (BH ls);rw[hrd];have RY:=ax hrd;clear hrd;obtain⟨N,rfl,hN,hNl⟩:=Fh.open_ ay;(obtain⟨c0,c1,c2,c3,cf,cl⟩:=eF.n4);have RZ:=Fh.row
 go_wp2_with fail
 go_loop [4,17] (fun s4 s17=> ∃(i:Nat) (b:Bool),s4= .bool b∧s17=ae i∧i≤2∧Hid (b=(rd && (nx.take i).all fun x=>decide (x= -1)))) (fun _ s=>2 -(intOf s).toNat)
 case atStart=>exact⟨0,rd,rfl,rfl,by omega,ax aF⟩
 case round=>
  obtain⟨i,b,rfl,rfl,hi,hb⟩:=hrel;by_cases hlt:i<2
  ·have ix:(i:Int)<2:=by omega
   have hil:i<nx.length:=by rw[OD.out];exact hlt
   have y0:=(EE (aag RZ) i hil).1;simp only[dX]at y0;have Ff:Hid ((nx.take (i+1)).all (fun x=>decide (x= -1))=((nx.take i).all (fun x=>decide (x= -1)) && decide (nx[i]= -1))):=ax (atc _ nx i hil);obtain⟨x,hx⟩:=aI (nx[i]);rw[hx]at y0 Ff;clear hx;by_cases hz:x= -1
   ·subst hz
    go_wp2_with fail
    go_round
    case rel=>exact⟨i+1,b,rfl,by go_num,by omega,ax (by rw[Ff.out,hb.out];simp)⟩
    case measure=>simp[intOf];omega
   ·have hz2:(x != -1)=true:=by rw[bne_iff_ne];exact hz
    have HZ:=ax hz;clear hz
    go_wp2_with fail
    go_round
    case rel=>exact⟨i+1,false,rfl,by go_num,by omega,ax (by rw[Ff.out,fA HZ.out];simp)⟩
    case measure=>simp[intOf];omega
  ·obtain rfl:i=2:=by omega
   have R_:Hid (aaK ⟨ls,g,nx⟩=b):=ax (by rw[hb.out,aaK,RY.out,nM (by rw[OD.out];exact Nat.le_refl _)]);clear hb RZ;have ET:=hj2.j.ph;cases b
   case' true=>
    have DW:=ax (show ct 0=⟨ls,(g+1) % DD ps,vS ps ((g+1) % DD ps)⟩by rw[←HCT.out,Gx,NY,if_pos R_.out]);obtain⟨GR,hGR⟩:=aI (DD ps);rw[hGR]at DW Xb hg1;have HGR:=ax hGR;clear hGR;(obtain⟨j0,j1,j2,jf,jl⟩:=pK.n3);have rC:=fun d os o=>dC w2 d os C o cl;have rJ:=fun d os o=>dC w2 d os J o jl
    go_upto_region 9 with fail
    (refine nI 10 [([0,1,2,3,4,5,6,7],8)] [9] bP bP ?_;refine lu ?_);(refine pF ?_;intro K hK)
    go_wp2_with (go_at_call 234;(with_reducible refine(afB jb jc aQ ps.length aY ps s w2.drew (Row.drew ET) uo hn1 hok).mono ?_);rintro e w3 ⟨rfl,hb3⟩)
    replace hb3:=jA hb3;rw[HGR.out];refine dS hb3 (hK _ _ ?_);clear hK K;(refine lC ?_);have ajG:Row w3 (some ⟨jb,0,none⟩) (jI ps):=ET.below hb3 aA;have uu:=eF.below hb3 eF.lt;have OE:=pK.below hb3 pK.lt;have LP:=G7.below hb3 aA;have hCJ:C≠J:=by omega
    have hw3:B≤w3.heap.size∧jb<w3.heap.size:=by have:=hb3.size;omega
    (clear c0 c1 c2 c3 cf cl);(clear j0 j1 j2 jf jl);clear rC rJ
    go_upto_region 10 with((go_at_call 126;(with_reducible refine(Y_ jb jc aQ ps.length aY ps s ((g+1) % GR) C _ _ _ _ _ ajG uo aj hw3.2 uu).mono ?_);rintro e w4 ⟨N4,rfl,Xa,RS,RU,g4⟩))
    have be4:Below B w w4:=(be2.trans (hb3.mono hj2.j.lw)).aB g4 hw3.1 bQ;refine aW (CyI w B C J jb jc aQ aY ps cs s wt la lc (ct 0)) ⟨some ⟨N4,0,none⟩,2,by rw[DW.out];exact⟨RU,hC,LP.aB g4 (fun k hk=>by injection hk with hk;subst hk;exact LP.iw uu ay),RS.mono hw3.1⟩,OE.aB g4 F5,be4,(kt2.below hb3).aiP g4,hj.below be4⟩ ?_;clear be4 RS RU g4 uu OE LP ajG hw3 hb3 hCJ Xa hg0 hg1 Xb
   case' false=>
    have DW:=ax (show ct 0=⟨ls,g,nx⟩by rw[←HCT.out,Gx,NY,if_neg (by rw[R_.out];exact Bool.false_ne_true)])
    go_upto_region 10 with fail
    refine aW (CyI w B C J jb jc aQ aY ps cs s wt la lc (ct 0)) ⟨some ⟨N,0,none⟩,nc,by rw[DW.out];exact⟨eF,hC,G7,Fh⟩,pK,be2,kt2,hj2⟩ ?_;(clear c0 c1 c2 c3 cf cl);clear hg0 hg1 Xb
   all_goals
    clear ET eF pK G7 Fh be2 kt2 hj2 sz2 hnx hN hNl;rintro V hV
    go_wp2_with fail
    go_loopw [36] (fun s36 wr=> ∃i:Nat,s36=ae i∧i≤2∧CyI w B C J jb jc aQ aY ps cs s wt la lc (ct i) wr) (fun s _=>2 -(intOf s).toNat)
    case atStart=>exact⟨0,rfl,by omega,hV⟩
    case round=>
     obtain⟨i,rfl,hi,na,nc,hcp,kJ,be,kt,hj3⟩:=hrel;by_cases hlt:i<2
     ·have ix:(i:Int)<2:=by omega
      have OK:=OKT.out i hi;have HS:Hid (ct (i+1)=Gt ps cs (ct i) i):=ax (by rw[←HCT.out];rfl);obtain⟨c,hc⟩:=aI (ct i);rw[hc]at OK hcp HS;clear hc;obtain⟨hll,hnl, -, -, -, -, -, -, -, -⟩:=id OK;have Fj:=ax (OK.dG hlt);have jQ:=ax OK;clear OK;have HL:=ax hll;have HN:=ax hnl;clear hll hnl;obtain⟨kC, -,oL,oN⟩:=id hcp;have OG:=ax hcp;clear hcp;obtain⟨N,rfl,hN,hNl⟩:=oN.open_ ay;have hil:i<c.nx.length:=by rw[HN.out];exact hlt
      have y0:=(EE (aag oN.row) i hil).1;simp only[dX]at y0;have HX:Hid (c.nx.getD i (-1)=c.nx[i]):=ax (by simp[eG,hil]);obtain⟨x,hx⟩:=aI (c.nx[i]);rw[hx]at y0 HX;clear hx;obtain⟨dk,hdk⟩:=aI (KI ps c.ls (i:Int));have HD:=ax hdk;clear hdk;(obtain⟨c0,c1,c2,c3,cf,cl⟩:=kC.n4);(obtain⟨j0,j1,j2,jf,jl⟩:=kJ.n3);have rC:=fun d os o=>dC wr d os C o cl;have rJ:=fun d os o=>dC wr d os J o jl;have rN:=fun d os o=>dC wr d os N o hNl;have bw:Below wr.heap.size wr wr:=Below.refl _ _;have ET:=hj3.j.ph
      go_upto_region 13 with fail
      (refine nI 12 [([0,1,2,3,4],5)] [6,7,8,9,10,11] bP bP ?_;refine lu ?_);(refine pF ?_;intro K hK)
      go_wp2_with (go_at_call 238;(with_reducible refine(arI jb jc aQ ps.length aY ps s (i:Int) la lc c.g (some ⟨N,0,none⟩) nc wt c.ls wr.drew (Row.drew ET) uo oL.sl.drew).mono ?_);rintro e w5 ⟨rfl,hb5⟩)
      rw[HD.out];replace hb5:=jA hb5;refine dS hb5 (hK _ _ ?_);clear hK K;have kC5:=kC.below hb5 kC.lt;have kJ5:=kJ.below hb5 kJ.lt;have Si:=oN.below hb5 aA;have ajF:=ax (OG.out.below hb5);have jS:=be.trans (hb5.mono hj3.j.lw);have kt5:=kt.below hb5;have hj5:=hj3.below (hb5.mono hj3.j.lw);have y5:w5.cell? ⟨N,i,none⟩=some (ae x):=by rw[←y0];exact hb5.cell (by exact hNl)
      (clear j0 j1 j2 jf jl);have aw2:N<w5.heap.size:=by have:=jS.size;have:=Si.open_ ay;obtain⟨_,e,_,h⟩:=this;injection e with e;injection e with e _ _;omega
      clear rJ kC kJ oN oL OG be kt hj3 hb5;cases dk with
      |false=>
       have HS2:=ax (show ct (i+1)=c by rw[HS.out,Gt,HD.out];rfl);exact afE
      |true=>
       by_cases hz:x= -1
       ·have HS2:=ax (show ct (i+1)=c by rw[HS.out,Gt,HX.out,hz];simp);subst hz;exact afE
       ·have hz2:(x != -1)=true:=by rw[bne_iff_ne];exact hz
        obtain⟨p,hp,hpx⟩:=Fj.out.resolve_left (by rw[HX.out];exact hz);rw[HX.out]at hpx;have HS2:=ax (show ct (i+1)=ES ps cs c p by rw[HS.out,Gt,HD.out,HX.out,jB hz,hpx];rfl);subst hpx;clear hz;(refine lC ?_);(clear c0 c1 c2 c3 cf cl);clear rC rN y0;(obtain⟨c0,c1,c2,c3,cf,cl⟩:=kC5.n4);have rC:=fun d os o=>dC w5 d os C o cl;have rN:=fun d os o=>dC w5 d os N o aw2;(obtain⟨j0,j1,j2,jf,jl⟩:=kJ5.n3);have rJ:=fun d os o=>dC w5 d os J o jl
        go_upto_region 14 with fail
        (refine nI 9 [] [0,1,2,3,4,5,6,7,8] bP bP ?_;refine lu ?_);(refine lC ?_);have hjd:wQ w5.drew B jb jc aQ aY ps cs s:=hj5.below (below_drewN (Below.refl B w5) 1);have hcd:DC w5.drew B C c.ls c.g c.nx wt la ps.length lc (some ⟨N,0,none⟩) nc:=ajF.out.below (below_drewN (Below.refl _ w5) 1);(clear j0 j1 j2 jf jl);(clear c0 c1 c2 c3 cf cl);clear rC rN rJ
        go_wp2_with (go_at_call 240;(with_reducible refine(ring_begin B C jb jc aQ aY ps cs s c wt la lc (some ⟨N,0,none⟩) nc p w5.drew hjd hcd hp hcd.k.lt).mono ?_);rintro e w6 ⟨na6,nc6,rfl,aw3,hb6,hk6⟩)
        replace hb6:=auu hb6;replace hk6:oJ C w5 w6:=fun k t cs h=>hk6 k t cs h;go_roundw
        case rel=>exact⟨i+1,by go_num,by omega,by rw[HS2.out];exact⟨_,_,aw3,hk6 _ _ _ kJ5 ay ay aj,jS.trans hb6,kt5.trans hk6,hj5.below hb6⟩⟩
        case measure=>simp[intOf];omega
     ·obtain rfl:i=2:=by omega
      go_wp2_with fail
      go_end0
      exact⟨na,nc,rfl,hcp,be,kt⟩
end Go.Proofs.YtiffpjamngklhaaGreat
