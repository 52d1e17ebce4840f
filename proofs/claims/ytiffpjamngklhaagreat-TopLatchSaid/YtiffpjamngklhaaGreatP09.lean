/- Lemmas, part 09. -/
import Derived.Test.YtiffpjamngklhaaGreatP06
import Derived.Test.YtiffpjamngklhaaGreatP08
namespace Go.Proofs.YtiffpjamngklhaaGreat
set_option linter.all false
set_option maxRecDepth 100000
set_option maxHeartbeats 16000000
open Go.RowKit Tryz
open Go.Sort hiding Below
variable{w w' W:ak}{B n n' c' C sz' lc ec jc nc jn:Nat}{t:aK}{ys:aP}{xa la ea na:az}{now gr ph wt:Int}{ls:List (Int × Int)}{en nx:aO}
structure Sx where
 ls:List (Int × Int)
 la:az
 lc:Nat
 g:Int
 nx:aO
 na:az
 nc:Nat
 wt:Int
 dB:Bool
structure iG where
 ls:List (Int × Int)
 g:Int
 nx:aO
 wt:Int
 dB:Bool
def Sx.key(s:Sx):iG:=⟨s.ls,s.g,s.nx,s.wt,s.dB⟩
@[reducible] def BD(la:az)(ln lc:Nat)(g:Int)(na:az)(nn nc:Nat)(wt:Int)(dB:Bool):Value:= .agg #[.slice la ln lc,ae g,.slice na nn nc,ae wt,.bool dB]
@[reducible] def Sx.val(s:Sx):Value:=BD s.la s.ls.length s.lc s.g s.na s.nx.length s.nc s.wt s.dB
def Sx.cells(s:Sx):aP:= [.slice s.la s.ls.length s.lc,ae s.g,.slice s.na s.nx.length s.nc,ae s.wt,.bool s.dB]
theorem ED(x:Sx):(Sx.cells x).length=5:=rfl
theorem aib(x:Sx): ∀u∈Sx.cells x,u.oneCell'=true:=by intro u hu;simp only[Sx.cells,List.mem_cons,o_,or_false]at hu;rcases hu with rfl|rfl|rfl|rfl|rfl<;>rfl
structure iG.Small(k:iG):Prop where
 ls:k.ls.length≤1000
 nx:k.nx.length≤1000
structure BF(w:ak)(s:Sx):Prop where
 ls:Sl w 194 2 s.la s.ls.length s.lc (gC gG s.ls)
 nx:Sl w 3 1 s.na s.nx.length s.nc (s.nx.map encI)
 sm:s.key.Small
structure iR(w:ak)(B:Nat)(s:Sx):Prop where
 ls:Own w B 194 2 s.la s.ls.length s.lc (gC gG s.ls)
 nx:Own w B 3 1 s.na s.nx.length s.nc (s.nx.map encI)
structure Vc where
 ph:Int
 gr:Int
 en:aO
 ea:az
 ec:Nat
structure sK where
 ph:Int
 gr:Int
 en:aO
def Vc.key(s:Vc):sK:=⟨s.ph,s.gr,s.en⟩
@[reducible] def BG(ph gr:Int)(ea:az)(en ec:Nat):Value:= .agg #[ae ph,ae gr,.slice ea en ec]
@[reducible] def Vc.val(s:Vc):Value:=BG s.ph s.gr s.ea s.en.length s.ec
def Vc.cells(s:Vc):aP:= [ae s.ph,ae s.gr,.slice s.ea s.en.length s.ec]
theorem IA(x:Vc):(Vc.cells x).length=3:=rfl
theorem aic(x:Vc): ∀u∈Vc.cells x,u.oneCell'=true:=by intro u hu;simp only[Vc.cells,List.mem_cons,o_,or_false]at hu;rcases hu with rfl|rfl|rfl<;>rfl
structure vP(w:ak)(s:Vc):Prop where
 en:Sl w 3 1 s.ea s.en.length s.ec (s.en.map encI)
 sm:s.en.length≤1000
structure fZ(w:ak)(B:Nat)(s:Vc):Prop where
 en:Own w B 3 1 s.ea s.en.length s.ec (s.en.map encI)
theorem IB(x:Vx):(Vx.cells x).length=4:=rfl
theorem aid(x:Vx): ∀u∈Vx.cells x,u.oneCell'=true:=by intro u hu;simp only[Vx.cells,List.mem_cons,o_,or_false]at hu;rcases hu with rfl|rfl|rfl|rfl<;>rfl
structure Ot(w:ak)(v:Vx):Prop where
 cs:Sl w 3 1 v.ca v.cs.length v.cc (v.cs.map encI)
 ns:Sl w 3 1 v.na v.ns.length v.nc (v.ns.map encI)
 sc:v.cs.length≤1000
 sn:v.ns.length≤1000
structure jH(w:ak)(B:Nat)(v:Vx):Prop where
 cs:Own w B 3 1 v.ca v.cs.length v.cc (v.cs.map encI)
 ns:Own w B 3 1 v.na v.ns.length v.nc (v.ns.map encI)
section
variable{w w':ak}{B B':Nat}
theorem iR.g{d:Sx}(h:iR w B d)(hs:d.key.Small):BF w d:=⟨h.ls.sl,h.nx.sl,hs⟩
theorem BF.below{d:Sx}(h:BF w d)(hb:Below B w w')(hB:w.heap.size≤B):BF w' d:=⟨h.ls.below hb hB,h.nx.below hb hB,h.sm⟩
theorem iR.below{d:Sx}(h:iR w C d)(hb:Below B w w')(hB:w.heap.size≤B):iR w' C d:=⟨h.ls.below hb hB,h.nx.below hb hB⟩
theorem iR.mono{d:Sx}(h:iR w B d)(hB:B'≤B):iR w B' d:=⟨h.ls.mono hB,h.nx.mono hB⟩
theorem iR.aG{g:Nat}{d:Sx}{cs:aZ}(h:iR w B d)(hg:w.grownBy w' (some g))(k:ah w g t cs)(h1:t≠194)(h2:t≠3):iR w' B d:=⟨h.ls.aG hg k h1.symm,h.nx.aG hg k h2.symm⟩
theorem iR.aC{d:Sx}(h:iR w B d)(hg:w.grownBy w' (xa.map (·.block)))(x:Own w B' t sz' xa n' c' ys)(h1:t≠194)(h2:t≠3):iR w' B d:=⟨h.ls.aC hg x h1.symm,h.nx.aC hg x h2.symm⟩
theorem fZ.g{d:Vc}(h:fZ w B d)(hs:d.en.length≤1000):vP w d:=⟨h.en.sl,hs⟩
theorem vP.below{d:Vc}(h:vP w d)(hb:Below B w w')(hB:w.heap.size≤B):vP w' d:=⟨h.en.below hb hB,h.sm⟩
theorem fZ.below{d:Vc}(h:fZ w C d)(hb:Below B w w')(hB:w.heap.size≤B):fZ w' C d:=⟨h.en.below hb hB⟩
theorem fZ.mono{d:Vc}(h:fZ w B d)(hB:B'≤B):fZ w B' d:=⟨h.en.mono hB⟩
theorem fZ.aG{g:Nat}{d:Vc}{cs:aZ}(h:fZ w B d)(hg:w.grownBy w' (some g))(k:ah w g t cs)(h2:t≠3):fZ w' B d:=⟨h.en.aG hg k h2.symm⟩
theorem fZ.aC{d:Vc}(h:fZ w B d)(hg:w.grownBy w' (xa.map (·.block)))(x:Own w B' t sz' xa n' c' ys)(h2:t≠3):fZ w' B d:=⟨h.en.aC hg x h2.symm⟩
theorem jH.g{d:Vx}(h:jH w B d)(hc:d.cs.length≤1000)(hn:d.ns.length≤1000):Ot w d:=⟨h.cs.sl,h.ns.sl,hc,hn⟩
theorem Ot.below{d:Vx}(h:Ot w d)(hb:Below B w w')(hB:w.heap.size≤B):Ot w' d:=⟨h.cs.below hb hB,h.ns.below hb hB,h.sc,h.sn⟩
theorem jH.below{d:Vx}(h:jH w C d)(hb:Below B w w')(hB:w.heap.size≤B):jH w' C d:=⟨h.cs.below hb hB,h.ns.below hb hB⟩
theorem jH.mono{d:Vx}(h:jH w B d)(hB:B'≤B):jH w B' d:=⟨h.cs.mono hB,h.ns.mono hB⟩
theorem jH.aG{g:Nat}{d:Vx}{cs:aZ}(h:jH w B d)(hg:w.grownBy w' (some g))(k:ah w g t cs)(h2:t≠3):jH w' B d:=⟨h.cs.aG hg k h2.symm,h.ns.aG hg k h2.symm⟩
theorem jH.aC{d:Vx}(h:jH w B d)(hg:w.grownBy w' (xa.map (·.block)))(x:Own w B' t sz' xa n' c' ys)(h2:t≠3):jH w' B d:=⟨h.cs.aC hg x h2.symm,h.ns.aC hg x h2.symm⟩
end
theorem iR.on{g:Nat}{r:Sx}{cs:aZ}(h:iR W B r)(hb:Below W.heap.size W w')(k:ah w' g t cs)(h1:t≠194)(h2:t≠3)(i:Nat)(v:Value):iR (w'.setCell ⟨g,i,none⟩ v) B r:=(h.below hb aA).aG (grownBy_set w' g i v) k h1 h2
theorem fZ.on{g:Nat}{r:Vc}{cs:aZ}(h:fZ W B r)(hb:Below W.heap.size W w')(k:ah w' g t cs)(h2:t≠3)(i:Nat)(v:Value):fZ (w'.setCell ⟨g,i,none⟩ v) B r:=(h.below hb aA).aG (grownBy_set w' g i v) k h2
theorem xJ:(prog.info? 120).map (·.size)=some 5:=by kernel_rfl
theorem CP:(prog.underlying 120).map TypeDesc.isRow=some true:=by kernel_rfl
theorem ry:(prog.info? 123).map (·.size)=some 3:=by kernel_rfl
theorem yP:(prog.underlying 123).map TypeDesc.isRow=some true:=by kernel_rfl
theorem aez{g:Int}{dB:Bool}(h:BF w ⟨ls,la,lc,g,nx,na,nc,wt,dB⟩):
  aH 98 #[BD la ls.length lc g na nx.length nc wt dB] w fun e w'=> ∃(la':az) (nC:Nat) (na':az) (Jk:Nat),e= .returned (BD la' ls.length nC g na' nx.length Jk wt dB)∧iR w' w.heap.size ⟨ls,la',nC,g,nx,na',Jk,wt,dB⟩∧Below w.heap.size w w':=by
 obtain⟨hls,hnx,s1,s2⟩:=h;simp only[Sx.key]at hls hnx s1 s2
 go_enter func98,ntmps98
 go_upto_region 1 with fail
 obtain⟨R,hR⟩:=aI w.heap.size;refine aW (fun W=>ah W R 120 #[.slice la ls.length lc,ae g,.slice na nx.length nc,ae wt,.bool dB]∧ah W (R+1) 120 #[.slice none 0 0,ae 0,.slice none 0 0,ae 0,.bool false]∧Below w.heap.size w W∧R+2≤W.heap.size) ⟨by rw[←hR];exact(ah.new _ _ _).alloc _,by rw[←hR];exact ah.dG _ _ _ _,bel,by simp;omega⟩ ?_;have fQ:w.heap.size≤R:=by omega
 rw[hR];clear hR;rintro W ⟨kR,kZ,be,sz⟩;replace be:=be.mono fQ;(obtain⟨x0,x1,x2,x3,x4,xf,xl⟩:=kR.n5);have z1:=hls.below be aA
 go_upto_region 2 with((go_at_call 133;refine(ahJ la ls.length lc _ _ z1 (wH Va _) aj).mono ?_;rintro e w1 ⟨a1,c1,rfl,o1,hb1⟩;((clear x0 x1 x2 x3 x4 xf xl);(replace kR:=kR.below hb1 kR.lt);(obtain⟨x0,x1,x2,x3,x4,xf,xl⟩:=kR.n5))))
 replace kZ:=kZ.on hb1 (g':=R) aF 0 (.slice a1 ls.length c1);have uV:Below w.heap.size w (w1.setCell ⟨R,0,none⟩ (.slice a1 ls.length c1)):=bel;replace o1:=o1.wK be.size kR ay 0 (.slice a1 ls.length c1)
 (replace kR:=kR.set 0 (.slice a1 ls.length c1));(simp only[pz,lh,jX]at kR)
 clear be hb1 z1;have z2:=hnx.below uV aA
 go_upto_region 3 with((go_at_call 101;refine(Ip na nx.length nc _ _ z2 (Bg _) aj).mono ?_;rintro e w2 ⟨a2,c2,rfl,o2,hb2⟩;((clear x0 x1 x2 x3 x4 xf xl);(replace kR:=kR.below hb2 kR.lt);(obtain⟨x0,x1,x2,x3,x4,xf,xl⟩:=kR.n5))))
 replace kZ:=kZ.on hb2 (g':=R) aF 2 (.slice a2 nx.length c2);have nz:Below w.heap.size w (w2.setCell ⟨R,2,none⟩ (.slice a2 nx.length c2)):=bel;replace o1:=o1.on hb2 kR ay 2 (.slice a2 nx.length c2);replace o2:=o2.wK uV.size kR ay 2 (.slice a2 nx.length c2)
 (replace kR:=kR.set 2 (.slice a2 nx.length c2));(simp only[pz,lh,jX]at kR)
 (clear x0 x1 x2 x3 x4 xf xl)
 go_wp2_with (first|(refine gy kR CP xJ ?_)|(refine dw #[.slice a1 ls.length c1,ae g,.slice a2 nx.length c2,ae wt,.bool dB] kZ xJ ?_;intro W' kw gw zw))
 refine nJ 2 120 results98 rfl kw 5 rfl CP xJ rfl ?_;exact⟨a1,c1,a2,c2,rfl,⟨o1.aG gw kZ ay,o2.aG gw kZ ay⟩,nz.aB gw nz.size bQ⟩
theorem Ua(h:vP w ⟨ph,gr,en,ea,ec⟩):
  aH 100 #[BG ph gr ea en.length ec] w fun e w'=> ∃(Ou:az) (Ov:Nat),e= .returned (BG ph gr Ou en.length Ov)∧fZ w' w.heap.size ⟨ph,gr,en,Ou,Ov⟩∧Below w.heap.size w w':=by
 obtain⟨hen,s1⟩:=h;simp only at hen s1
 go_enter func100,ntmps100
 go_upto_region 1 with fail
 obtain⟨R,hR⟩:=aI w.heap.size;refine aW (fun W=>ah W R 123 #[ae ph,ae gr,.slice ea en.length ec]∧ah W (R+1) 123 #[ae 0,ae 0,.slice none 0 0]∧Below w.heap.size w W∧R+2≤W.heap.size) ⟨by rw[←hR];exact(ah.new _ _ _).alloc _,by rw[←hR];exact ah.dG _ _ _ _,bel,by simp;omega⟩ ?_;have fQ:w.heap.size≤R:=by omega
 rw[hR];clear hR;rintro W ⟨kR,kZ,be,sz⟩;replace be:=be.mono fQ;(obtain⟨x0,x1,x2,xf,xl⟩:=kR.n3);have z1:=hen.below be aA
 go_upto_region 2 with((go_at_call 101;refine(Ip ea en.length ec _ _ z1 (Bg _) aj).mono ?_;rintro e w1 ⟨a1,c1,rfl,o1,hb1⟩;((clear x0 x1 x2 xf xl);(replace kR:=kR.below hb1 kR.lt);(obtain⟨x0,x1,x2,xf,xl⟩:=kR.n3))))
 replace kZ:=kZ.on hb1 (g':=R) aF 2 (.slice a1 en.length c1);have uV:Below w.heap.size w (w1.setCell ⟨R,2,none⟩ (.slice a1 en.length c1)):=bel;replace o1:=o1.wK be.size kR ay 2 (.slice a1 en.length c1)
 (replace kR:=kR.set 2 (.slice a1 en.length c1));(simp only[pz,lh,jX]at kR)
 (clear x0 x1 x2 xf xl)
 go_wp2_with (first|(refine gy kR yP ry ?_)|(refine dw #[ae ph,ae gr,.slice a1 en.length c1] kZ ry ?_;intro W' kw gw zw))
 refine nJ 2 123 results100 rfl kw 3 rfl yP ry rfl ?_;exact⟨a1,c1,rfl,⟨o1.aG gw kZ ay⟩,uV.aB gw uV.size bQ⟩
theorem ao6{l:List Vx}{va:az}{vc:Nat}(hn:n=l.length)(h:Sl w 73 4 va n vc (gC Vx.cells l))(hv: ∀v∈l,Ot w v)(h9:n≤1000):
  aH 102 #[.slice va n vc] w fun e w'=> ∃(oK:az) (oO:Nat) (l2:List Vx),e= .returned (.slice oK n oO)∧Hid (l2.map Vx.key=l.map Vx.key)∧Own w' w.heap.size 73 4 oK n oO (gC Vx.cells l2)∧(∀v∈l2,jH w' w.heap.size v)∧Below w.heap.size w w':=by
 have HN:=ax hn;clear hn
 go_enter func102,ntmps102
 go_upto_region 2 with((go_at_call 134;refine(asV va n vc _ _ h (wH aid _) aj).mono ?_;rintro e w1 ⟨a1,c1,rfl,o1,hb1⟩))
 go_wp2_with fail
 go_loopw [8] (fun s8 wr=> ∃(i:Nat) (l2:List Vx),s8=ae i∧i≤n∧Hid (iH Vx.cells (fun W v=>jH W w.heap.size v) Vx.key 73 4 w1 w.heap.size l a1 n c1 i l2 wr)) (fun s _=>n -(intOf s).toNat)
 case atStart=>exact⟨0,[],rfl,by omega,ax (iH.start o1)⟩
 case round=>
  obtain⟨i,l2,rfl,hi,HD⟩:=hrel;by_cases hlt:i<n
  ·have hd:=HD.out;have hil:i<l.length:=by rw[←HN.out];exact hlt
   have br:=hb1.aC hd.gr o1 hb1.size aA;obtain⟨g,rfl,gB,gl⟩:=hd.open_ HN.out hil;have hg:=hv _ (bF hil);have t2:=hd.cell IB hil 2 ay (v:= .slice l[i].ca l[i].cs.length l[i].cc) rfl;have t3:=hd.cell IB hil 3 ay (v:= .slice l[i].na l[i].ns.length l[i].nc) rfl;obtain⟨y,hy⟩:=aI (l[i]);rw[hy]at t2 t3 hg;obtain⟨h1,h2,h3,h4⟩:=hg;have ix:(i:Int)<(n:Int):=by omega
   have z1:=h1.below br aA;have HIL:=ax hil
   go_upto_region 6 with((go_at_call 101;refine(Ip y.ca y.cs.length y.cc _ _ z1 (Bg _) aj).mono ?_;rintro e w4 ⟨a4,c4,rfl,o4,hb4⟩;((have r4:=hd.row.below hb4 aA);(have rf:=r4.frozen);(have t4:w4.cell? ⟨g,i*4+2,none⟩=_:=(hb4.cell (p:=⟨g,i*4+2,none⟩) gl).trans t2);(have t5:w4.cell? ⟨g,i*4+3,none⟩=_:=(hb4.cell (p:=⟨g,i*4+3,none⟩) gl).trans t3);(have tl:g<w4.heap.size:=by have:=hb4.size;omega))))
   have r5:=r4.set (i*4+2) (.slice a4 y.cs.length c4);have br5:Below w.heap.size w (w4.setCell ⟨g,i*4+2,none⟩ (.slice a4 y.cs.length c4)):=bel;have o5:=(o4.mono br.size).far (p:=⟨g,i*4+2,none⟩) (fun e=>r4.Bq o4 ay g rfl e) (.slice a4 y.cs.length c4);have LH:=fun v hv=>(((hd.WQ v hv).below hb4 aA).aC (xa:=some ⟨g,0,none⟩) (grownBy_set w4 g (i*4+2) (.slice a4 y.cs.length c4)) r4 ay:jH (w4.setCell ⟨g,i*4+2,none⟩ (.slice a4 y.cs.length c4)) w.heap.size v);have g5:wr.grownBy (w4.setCell ⟨g,i*4+2,none⟩ (.slice a4 y.cs.length c4)) (some g):=grownBy_trans (grownBy_below hb4 _) (grownBy_set _ _ _ _);have z2:=h2.below br5 aA;have s5:g<(w4.setCell ⟨g,i*4+2,none⟩ (.slice a4 y.cs.length c4)).heap.size:=by simp[World.setCell];omega
   clear hb4 t2 t3
   go_upto_region 7 with((go_at_call 101;refine(Ip y.na y.ns.length y.nc _ _ z2 (Bg _) aj).mono ?_;rintro e w6 ⟨a6,c6,rfl,o6,hb6⟩;((have r6:=r5.below hb6 aA);(clear rf);(have rf:=r6.frozen);(have t6:w6.cell? ⟨g,i*4+3,none⟩=some (.slice y.na y.ns.length y.nc):=(hb6.cell (p:=⟨g,i*4+3,none⟩) s5).trans (by rw[World.cell?_setCell_other _ _ _ _ aF];exact t5));(have tl6:g<w6.heap.size:=by have:=hb6.size;omega))))
   have r7:=r6.set (i*4+3) (.slice a6 y.ns.length c6);have o7:=(o5.below hb6 aA).far (p:=⟨g,i*4+3,none⟩) (fun e=>r6.Bq (o5.below hb6 aA) ay g rfl e) (.slice a6 y.ns.length c6);have o8:=(o6.mono br5.size).far (p:=⟨g,i*4+3,none⟩) (fun e=>r6.Bq o6 ay g rfl e) (.slice a6 y.ns.length c6);have in7:=fun v hv=>(((LH v hv).below hb6 aA).aC (xa:=some ⟨g,0,none⟩) (grownBy_set w6 g (i*4+3) (.slice a6 y.ns.length c6)) r6 ay:jH (w6.setCell ⟨g,i*4+3,none⟩ (.slice a6 y.ns.length c6)) w.heap.size v);have g7:=grownBy_trans g5 (grownBy_trans (grownBy_below hb6 _) (grownBy_set w6 g (i*4+3) (.slice a6 y.ns.length c6)))
   go_wp2_with fail
   go_roundw
   case rel=>exact⟨i+1,_,by go_num,by omega,ax (hd.step2 IB HIL.out 2 3 ay ay _ _ r7 ⟨y.fl,y.ov,y.cs,y.ns,a4,c4,a6,c6⟩ ⟨y.fl,y.ov,y.cs,y.ns,a4,c4,y.na,y.nc⟩ (by rw[hy];rfl) rfl (by rw[hy];rfl) in7 ⟨o7,o8⟩ g7)⟩
   case measure=>simp[intOf];omega
  ·obtain rfl:i=n:=by omega
   obtain⟨hk,hl2,o2,hin⟩:=HD.out.fin HN.out;have br:=hb1.aC HD.out.gr o1 hb1.size aA
   go_wp2_with fail
   go_ret;exact⟨a1,c1,l2,rfl,ax hk,o2,hin,br⟩
structure Cf where
 ja:az
 jn:Nat
 jc:Nat
 ga:az
 gn:Nat
 gc:Nat
 per:Int
 cap:Int
 hold:Int
 lock:Int
@[reducible] def Dz(ja:az)(jn jc:Nat)(ga:az)(gn gc:Nat)(per cap hold lock:Int):Value:= .agg #[.slice ja jn jc,.slice ga gn gc,ae per,ae cap,ae hold,ae lock]
@[reducible] def Cf.val(c:Cf):Value:=Dz c.ja c.jn c.jc c.ga c.gn c.gc c.per c.cap c.hold c.lock
structure Cx where
 cf:Cf
 ref:Bool
 now:Int
 ds:List Dx
 da:az
 dc:Nat
 ss:List Sx
 sa:az
 sc:Nat
 vs:List Vc
 va:az
 vc:Nat
 st:aO
 ta:az
 tc:Nat
 ws:List Vx
 wa:az
 wc:Nat
structure dJ where
 cf:Cf
 ref:Bool
 now:Int
 ds:List dY
 ss:List iG
 vs:List sK
 st:aO
 ws:List Vk
def Cx.key(c:Cx):dJ:=⟨c.cf,c.ref,c.now,c.ds.map Dx.key,c.ss.map Sx.key,c.vs.map Vc.key,c.st,c.ws.map Vx.key⟩
@[reducible] def IZ(ja:az)(jn jc:Nat)(ga:az)(gn gc:Nat)(per cap hold lock:Int)(ref:Bool)(now:Int)(da:az)(dn dc:Nat)(sa:az)(sn sc:Nat)(va:az)(vn vc:Nat)(ta:az)(tn tc:Nat)(wa:az)(wn wc:Nat):Value:=
 .agg #[.slice ja jn jc,.slice ga gn gc,ae per,ae cap,ae hold,ae lock,.bool ref,ae now,.slice da dn dc,.slice sa sn sc,.slice va vn vc,.slice ta tn tc,.slice wa wn wc]
@[reducible] def Cx.val(c:Cx):Value:=IZ c.cf.ja c.cf.jn c.cf.jc c.cf.ga c.cf.gn c.cf.gc c.cf.per c.cf.cap c.cf.hold c.cf.lock c.ref c.now c.da c.ds.length c.dc c.sa c.ss.length c.sc c.va c.vs.length c.vc c.ta c.st.length c.tc c.wa c.ws.length c.wc
structure dJ.Small(k:dJ):Prop where
 ds:k.ds.length≤1000
 WT: ∀x∈k.ds,x.Small
 ss:k.ss.length≤1000
 ssm: ∀x∈k.ss,x.Small
 vs:k.vs.length≤1000
 WU: ∀x∈k.vs,x.en.length≤1000
 st:k.st.length≤1000
 ws:k.ws.length≤1000
 WV: ∀x∈k.ws,x.2.2.1.length≤1000∧x.2.2.2.length≤1000
structure xU(w:ak)(c:Cx):Prop where
 ds:Sl w 89 17 c.da c.ds.length c.dc (gC Dx.cells c.ds)
 qV: ∀d∈c.ds,pq w d
 ss:Sl w 120 5 c.sa c.ss.length c.sc (gC Sx.cells c.ss)
 sV: ∀d∈c.ss,BF w d
 vs:Sl w 123 3 c.va c.vs.length c.vc (gC Vc.cells c.vs)
 uk: ∀d∈c.vs,vP w d
 st:Sl w 3 1 c.ta c.st.length c.tc (c.st.map encI)
 ws:Sl w 73 4 c.wa c.ws.length c.wc (gC Vx.cells c.ws)
 r_: ∀d∈c.ws,Ot w d
 sm:c.key.Small
structure dE(w:ak)(B:Nat)(c:Cx):Prop where
 ds:Own w B 89 17 c.da c.ds.length c.dc (gC Dx.cells c.ds)
 qV: ∀d∈c.ds,dZ w B d
 ss:Own w B 120 5 c.sa c.ss.length c.sc (gC Sx.cells c.ss)
 sV: ∀d∈c.ss,iR w B d
 vs:Own w B 123 3 c.va c.vs.length c.vc (gC Vc.cells c.vs)
 uk: ∀d∈c.vs,fZ w B d
 st:Own w B 3 1 c.ta c.st.length c.tc (c.st.map encI)
 ws:Own w B 73 4 c.wa c.ws.length c.wc (gC Vx.cells c.ws)
 r_: ∀d∈c.ws,jH w B d
 zF: ∀d∈c.ds,Apart c.ta d.r.la
 yz: ∀d∈c.ss,Apart c.ta d.na
 yA: ∀d∈c.vs,Apart c.ta d.ea
 yC: ∀d∈c.ws,Apart c.ta d.ca∧Apart c.ta d.na
section
variable{w w':ak}{B B':Nat}{c:Cx}
theorem dE.g(h:dE w B c)(hs:c.key.Small):xU w c:=
 ⟨h.ds.sl,fun d hd=>(h.qV d hd).g (hs.WT _ (List.mem_map.2 ⟨_,hd,rfl⟩)),h.ss.sl,fun d hd=>(h.sV d hd).g (hs.ssm _ (List.mem_map.2 ⟨_,hd,rfl⟩)),h.vs.sl,fun d hd=>(h.uk d hd).g (hs.WU _ (List.mem_map.2 ⟨_,hd,rfl⟩)),h.st.sl,h.ws.sl,
  fun d hd=>(h.r_ d hd).g (hs.WV _ (List.mem_map.2 ⟨_,hd,rfl⟩)).1 (hs.WV _ (List.mem_map.2 ⟨_,hd,rfl⟩)).2,hs⟩
theorem xU.below(h:xU w c)(hb:Below B w w')(hB:w.heap.size≤B):xU w' c:=
 ⟨h.ds.below hb hB,fun d hd=>(h.qV d hd).below hb hB,h.ss.below hb hB,fun d hd=>(h.sV d hd).below hb hB,h.vs.below hb hB,fun d hd=>(h.uk d hd).below hb hB,h.st.below hb hB,h.ws.below hb hB,fun d hd=>(h.r_ d hd).below hb hB,h.sm⟩
theorem dE.below(h:dE w C c)(hb:Below B w w')(hB:w.heap.size≤B):dE w' C c:=
 ⟨h.ds.below hb hB,fun d hd=>(h.qV d hd).below hb hB,h.ss.below hb hB,fun d hd=>(h.sV d hd).below hb hB,h.vs.below hb hB,fun d hd=>(h.uk d hd).below hb hB,h.st.below hb hB,h.ws.below hb hB,fun d hd=>(h.r_ d hd).below hb hB,h.zF,h.yz,h.yA,h.yC⟩
theorem dE.mono(h:dE w B c)(hB:B'≤B):dE w B' c:=
 ⟨h.ds.mono hB,fun d hd=>(h.qV d hd).mono hB,h.ss.mono hB,fun d hd=>(h.sV d hd).mono hB,h.vs.mono hB,fun d hd=>(h.uk d hd).mono hB,h.st.mono hB,h.ws.mono hB,fun d hd=>(h.r_ d hd).mono hB,h.zF,h.yz,h.yA,h.yC⟩
def KG:List aK:=Gq++ [89,120,194,123,73]
theorem dE.aG{g:Nat}{cs:aZ}(h:dE w B c)(hg:w.grownBy w' (some g))(k:ah w g t cs)(hne:t ∉ KG):dE w' B c:=by
 have ne: ∀e∈KG,e≠t:=fun e he q=>hne (q▸he);have hd:t ∉ Gq:=fun q=>hne (List.mem_append_left _ q);have hi:t≠3:=(ne 3 ay).symm;exact⟨h.ds.aG hg k (ne _ ay),fun d hd'=>(h.qV d hd').aG hg k hd,h.ss.aG hg k (ne _ ay),fun d hd'=>(h.sV d hd').aG hg k (ne 194 ay).symm hi,h.vs.aG hg k (ne _ ay),fun d hd'=>(h.uk d hd').aG hg k hi,
  h.st.aG hg k (ne _ ay),h.ws.aG hg k (ne _ ay),fun d hd'=>(h.r_ d hd').aG hg k hi,h.zF,h.yz,h.yA,h.yC⟩
end
def QB(K:dJ)(w:ak)(e:Ending)(w':ak):Prop:= ∃c:Cx,e= .returned c.val∧Hid (c.key=K)∧dE w' w.heap.size c∧Below w.heap.size w w'
theorem nK:(prog.info? 45).map (·.size)=some 13:=by kernel_rfl
theorem vG:(prog.underlying 45).map TypeDesc.isRow=some true:=by kernel_rfl
theorem wI(y:Dx):(Dx.cells y).toArray.size=17:=rfl
theorem C_(y:Dx):(Dx.cells y).toArray.toList.all (·.oneCell')=true:=rfl
theorem aiM(y:Sx):(Sx.cells y).toArray.size=5:=rfl
theorem aul(y:Sx):(Sx.cells y).toArray.toList.all (·.oneCell')=true:=rfl
theorem aiN(y:Vc):(Vc.cells y).toArray.size=3:=rfl
theorem aum(y:Vc):(Vc.cells y).toArray.toList.all (·.oneCell')=true:=rfl
theorem Ug{d:Dx}(h:pq w d):aH 96 #[.agg (Dx.cells d).toArray] w fun e w'=> ∃d':Dx,e= .returned (.agg (Dx.cells d').toArray)∧Hid (d'.key=d.key)∧dZ w' w.heap.size d'∧Below w.heap.size w w':=apK d w h
theorem aoc{s:Sx}(h:BF w s):aH 98 #[.agg (Sx.cells s).toArray] w fun e w'=> ∃s':Sx,e= .returned (.agg (Sx.cells s').toArray)∧Hid (s'.key=s.key)∧iR w' w.heap.size s'∧Below w.heap.size w w':=
 (aez (ls:=s.ls) (la:=s.la) (lc:=s.lc) (g:=s.g) (nx:=s.nx) (na:=s.na) (nc:=s.nc) (wt:=s.wt) (dB:=s.dB) h).mono fun _ _ ⟨la',nC,na',Jk,he,hL,hb⟩=>⟨⟨s.ls,la',nC,s.g,s.nx,na',Jk,s.wt,s.dB⟩,he,ax rfl,hL,hb⟩
theorem anO{s:Vc}(h:vP w s):aH 100 #[.agg (Vc.cells s).toArray] w fun e w'=> ∃s':Vc,e= .returned (.agg (Vc.cells s').toArray)∧Hid (s'.key=s.key)∧fZ w' w.heap.size s'∧Below w.heap.size w w':=
 (Ua (ph:=s.ph) (gr:=s.gr) (en:=s.en) (ea:=s.ea) (ec:=s.ec) h).mono fun _ _ ⟨Ou,Ov,he,hL,hb⟩=>⟨⟨s.ph,s.gr,s.en,Ou,Ov⟩,he,ax rfl,hL,hb⟩
def VZ(K:sK)(w:ak)(e:Ending)(w':ak):Prop:= ∃(ea:az) (ec:Nat),e= .returned (BG K.ph K.gr ea K.en.length ec)∧fZ w' w.heap.size ⟨K.ph,K.gr,K.en,ea,ec⟩∧Below w.heap.size w w'
theorem aeK(h:vP w ⟨-1,0,en,ea,ec⟩):
  aH 163 #[BG (-1) 0 ea en.length ec,ae now] w (VZ ⟨-1,0,en⟩ w):=by
 go_enter func163,ntmps163
 go_upto_region 1 with fail
 obtain⟨R,hR⟩:=aI w.heap.size;refine aW (fun W=>ah W R 123 #[ae (-1),ae 0,.slice ea en.length ec]∧ah W (R+1) 123 #[ae 0,ae 0,.slice none 0 0]∧Below w.heap.size w W∧R+2≤W.heap.size) ⟨by rw[←hR];exact(ah.new _ _ _).alloc _,by rw[←hR];exact ah.dG _ _ _ _,bel,by simp;omega⟩ ?_;have fQ:w.heap.size≤R:=by omega
 rw[hR];clear hR;rintro W ⟨kR,kZ,be,sz⟩;replace be:=be.mono fQ;(obtain⟨x0,x1,x2,xf,xl⟩:=kR.n3);have z1:=h.below be aA
 go_upto_region 2 with((go_at_call 100;refine(Ua z1).mono ?_;rintro e w1 ⟨a1,c1,rfl,o1,hb1⟩;((clear x0 x1 x2 xf xl);(replace kR:=kR.below hb1 kR.lt);(obtain⟨x0,x1,x2,xf,xl⟩:=kR.n3))))
 refine aW (fun U=>ah U R 123 #[ae (-1),ae 0,.slice a1 en.length c1]∧ah U (R+1) 123 #[ae 0,ae 0,.slice none 0 0]∧fZ U w.heap.size ⟨-1,0,en,a1,c1⟩∧Below w.heap.size w U) ⟨ah.sets (cs:= [_,_,_]) [ae (-1),ae 0,.slice a1 en.length c1] 0 kR,(kZ.below hb1 kZ.lt).aB (gm R [ae (-1),ae 0,.slice a1 en.length c1] _ 0) aF,(o1.mono be.size).aG (gm R [ae (-1),ae 0,.slice a1 en.length c1] _ 0) kR ay,bel⟩ ?_;(clear x0 x1 x2 xf xl);clear kR kZ be o1 hb1 z1 sz;rintro U ⟨kR,kZ,o1,be⟩;(obtain⟨x0,x1,x2,xf,xl⟩:=kR.n3)
 go_upto_region 5 with fail
 have o2:fZ ((U.setCell ⟨R,0,none⟩ (ae (-1))).setCell ⟨R,1,none⟩ (ae 0)) w.heap.size ⟨-1,0,en,a1,c1⟩:=(o1.aG (grownBy_set U R 0 (ae (-1))) kR ay).aG (grownBy_set _ R 1 (ae 0)) (kR.set 0 _) ay;have oU:=(kZ.far (p:=⟨R,0,none⟩) aF (ae (-1))).far (p:=⟨R,1,none⟩) aF (ae 0)
 (replace kR:=kR.set 0 (ae (-1)));(simp only[pz,lh,jX]at kR)
 (replace kR:=kR.set 1 (ae 0));(simp only[pz,lh,jX]at kR)
 have be2:Below w.heap.size w ((U.setCell ⟨R,0,none⟩ (ae (-1))).setCell ⟨R,1,none⟩ (ae 0)):=bel;(clear x0 x1 x2 xf xl)
 go_wp2_with (first|(refine gy kR yP ry ?_)|(refine dw #[ae (-1),ae 0,.slice a1 en.length c1] oU ry ?_;intro W' kw gw zw))
 refine nJ 4 123 results163 rfl kw 3 rfl yP ry rfl ?_;exact⟨a1,c1,rfl,o2.aG gw oU ay,be2.aB gw be2.size bQ⟩
theorem aod(h:vP w ⟨ph,gr,en,ea,ec⟩):
  aH 166 #[BG ph gr ea en.length ec,.bool false] w (VZ ⟨ph,gr,en⟩ w):=by
 go_enter func166,ntmps166
 go_upto_region 1 with fail
 obtain⟨R,hR⟩:=aI w.heap.size;refine aW (fun W=>ah W R 123 #[ae ph,ae gr,.slice ea en.length ec]∧ah W (R+1) 123 #[ae 0,ae 0,.slice none 0 0]∧Below w.heap.size w W∧R+2≤W.heap.size) ⟨by rw[←hR];exact(ah.new _ _ _).alloc _,by rw[←hR];exact ah.dG _ _ _ _,bel,by simp;omega⟩ ?_;have fQ:w.heap.size≤R:=by omega
 rw[hR];clear hR;rintro W ⟨kR,kZ,be,sz⟩;replace be:=be.mono fQ;(obtain⟨x0,x1,x2,xf,xl⟩:=kR.n3);have z1:=h.below be aA
 go_upto_region 2 with((go_at_call 100;refine(Ua z1).mono ?_;rintro e w1 ⟨a1,c1,rfl,o1,hb1⟩;((clear x0 x1 x2 xf xl);(replace kR:=kR.below hb1 kR.lt);(obtain⟨x0,x1,x2,xf,xl⟩:=kR.n3))))
 refine aW (fun U=>ah U R 123 #[ae ph,ae gr,.slice a1 en.length c1]∧ah U (R+1) 123 #[ae 0,ae 0,.slice none 0 0]∧fZ U w.heap.size ⟨ph,gr,en,a1,c1⟩∧Below w.heap.size w U) ⟨ah.sets (cs:= [_,_,_]) [ae ph,ae gr,.slice a1 en.length c1] 0 kR,(kZ.below hb1 kZ.lt).aB (gm R [ae ph,ae gr,.slice a1 en.length c1] _ 0) aF,(o1.mono be.size).aG (gm R [ae ph,ae gr,.slice a1 en.length c1] _ 0) kR ay,bel⟩ ?_;(clear x0 x1 x2 xf xl);clear kR kZ be o1 hb1 z1 sz;rintro U ⟨kR,kZ,o1,be⟩
 go_wp2_with (first|(refine gy kR yP ry ?_)|(refine dw #[ae ph,ae gr,.slice a1 en.length c1] kZ ry ?_;intro W' kw gw zw))
 refine nJ 4 123 results166 rfl kw 3 rfl yP ry rfl ?_;exact⟨a1,c1,rfl,o1.aG gw kZ ay,be.aB gw be.size bQ⟩
theorem aqO{ja:az}{ga:az}{gn gc:Nat}{per cap hold lock:Int}:
  aH 186 #[Dz ja jn jc ga gn gc per cap hold lock,BG ph gr ea en.length ec,ae now,.slice la 0 lc] w fun e w'=>e= .returned (ae (-1))∧Below w.heap.size w w':=by
 go_enter func186,ntmps186
 go_wp2_with fail
 refine wp_loop_once ?_
 go_wp2_with fail
 go_ret;exact⟨rfl,bel⟩
theorem anP{ja:az}{ga:az}{gn gc:Nat}{per cap hold lock:Int}(h:vP w ⟨-1,0,en,ea,ec⟩):
  aH 164 #[Dz ja jn jc ga gn gc per cap hold lock,BG (-1) 0 ea en.length ec,.slice la 0 lc,ae now] w (VZ ⟨-1,0,en⟩ w):=by
 go_enter func164,ntmps164
 go_upto_region 1 with fail
 obtain⟨C,hC⟩:=aI w.heap.size;refine aW (fun W=>ah W C 28 #[.slice ja jn jc,.slice ga gn gc,ae per,ae cap,ae hold,ae lock]∧ah W (C+1) 123 #[ae (-1),ae 0,.slice ea en.length ec]∧ah W (C+1+1) 123 #[ae 0,ae 0,.slice none 0 0]∧Below w.heap.size w W∧C+3≤W.heap.size) ⟨by rw[←hC];exact((ah.new _ _ _).alloc _).alloc _,by rw[←hC];exact(ah.dG _ _ _ _).alloc _,by rw[←hC];have:=ah.dG (w.alloc (.cells #[.slice ja jn jc,.slice ga gn gc,ae per,ae cap,ae hold,ae lock] 28)) (.cells #[ae (-1),ae 0,.slice ea en.length ec] 123) 123 #[ae 0,ae 0,.slice none 0 0];rwa [World.size_alloc]at this,bel,by simp;omega⟩ ?_;have hCw:w.heap.size≤C:=by omega
 rw[hC];clear hC;rintro W ⟨kC,kR,kZ,be,sz⟩;replace be:=be.mono hCw;(obtain⟨x0,x1,x2,xf,xl⟩:=kR.n3);have z1:=h.below be aA
 go_upto_region 2 with((go_at_call 100;refine(Ua z1).mono ?_;rintro e w1 ⟨a1,c1,rfl,o1,hb1⟩;((clear x0 x1 x2 xf xl);(replace kR:=kR.below hb1 kR.lt);(obtain⟨x0,x1,x2,xf,xl⟩:=kR.n3))))
 refine aW (fun U=>ah U C 28 #[.slice ja jn jc,.slice ga gn gc,ae per,ae cap,ae hold,ae lock]∧ah U (C+1) 123 #[ae (-1),ae 0,.slice a1 en.length c1]∧ah U (C+1+1) 123 #[ae 0,ae 0,.slice none 0 0]∧fZ U w.heap.size ⟨-1,0,en,a1,c1⟩∧Below w.heap.size w U) ⟨(kC.below hb1 kC.lt).aB (gm (C+1) [ae (-1),ae 0,.slice a1 en.length c1] _ 0) aF,ah.sets (cs:= [_,_,_]) [ae (-1),ae 0,.slice a1 en.length c1] 0 kR,(kZ.below hb1 kZ.lt).aB (gm (C+1) [ae (-1),ae 0,.slice a1 en.length c1] _ 0) aF,(o1.mono be.size).aG (gm (C+1) [ae (-1),ae 0,.slice a1 en.length c1] _ 0) kR ay,bel⟩ ?_;(clear x0 x1 x2 xf xl);clear kC kR kZ be o1 hb1 z1 sz;rintro U ⟨kC,kR,kZ,o1,be⟩;(obtain⟨x0,x1,x2,xf,xl⟩:=kR.n3);(obtain⟨y0,y1,y2,y3,y4,y5,yf,yl⟩:=kC.n6)
 go_wp2_with (first|(go_at_call 186;refine(aqO).mono ?_;rintro e w2 ⟨rfl,hb2⟩;((clear x0 x1 x2 xf xl);(replace kR:=kR.below hb2 kR.lt);(obtain⟨x0,x1,x2,xf,xl⟩:=kR.n3));(have oU:=kZ.below hb2 kZ.lt);(have be2:Below w.heap.size w w2:=bel);(have o2:=o1.below hb2 aA))|(refine dw #[ae (-1),ae 0,.slice a1 en.length c1] oU ry ?_;intro W' kw gw zw))
 refine nJ 8 123 results164 rfl kw 3 rfl yP ry rfl ?_;exact⟨a1,c1,rfl,o2.aG gw oU ay,be2.aB gw be2.size bQ⟩
theorem ZH{ops:Array Oper}{rest:List Oper}{dst:Option Tmp}{a:Act}{Q:dR}{ty:aK}{pos:String}{after:Array Edge}{x y:Operand}
  (n:Nat) (hx:a.eval x=ae n) (hy:a.eval y=ae n) (hn:n≤1000000)
  (h: ∀W B,Hid (B=w.heap.size)→ah W B 3 ((List.replicate n (0:Int)).map encI).toArray→Below w.heap.size w W→wpList prog ops Q rest (a.put dst (.slice (some ⟨B,0,none⟩) n n)) W):
  wpList prog ops Q ({dst:=dst,op:= .makeSlice 22 x y,type:=ty,pos:=pos,after:=after,guard:=none}::rest) a w:=by
 obtain⟨i0,hi,hz0,hz1,hz2⟩:=info_parts Nr;refine Z5 _ i0 _ underlying22 hi hz0 hz1 rfl n n hx hy aA JU aj ?_;intro W hW hb _;refine h W _ (ax rfl) ?_ hb;rw[List.map_replicate];exact hW
theorem afy{P:Prop}(h:P:=by
 refine Own.ofRaw k hB aA Ii (by simp[hn]) ?_;rw[nM (by simp[hn])]):P:=h
theorem ah.I7{B':Nat}{l:aO}(k:ah W B' 3 (l.map encI).toArray)(hB:B≤B')(n:Nat)(hn:l.length=n)(h9:n≤1000000):Own W B 3 1 (some ⟨B',0,none⟩) n n (l.map encI):=by
 exact afy
def uN(ls:List (Int × Int))(st:Int):aO:=ls.mapIdx fun i l=>if(i:Int)=st then 1 else l.1
theorem Zw(ls:List (Int × Int))(st:Int):(uN ls st).length=ls.length:=by simp[uN]
theorem ahp(ls:List (Int × Int))(st:Int)(i:Nat)(h:i<ls.length):(uN ls st)[i]'(by rw[Zw];exact h)=if(i:Int)=st then 1 else ls[i].1:=by simp[uN]
theorem aqP{l:aO}{i:Nat}(h:ah w B 3 ((jv l n i).map encI).toArray)(hl:l.length=n)(hi:i<n)(y x:Int)(hx:l[i]' aj=x):ah ((w.setCell ⟨B,i,none⟩ (ae y)).setCell ⟨B,i,none⟩ (ae x)) B 3 ((jv l n (i+1)).map encI).toArray:=by
 have h2:=(h.wM i y (u:=ae y) rfl).wM i x (u:=ae x) rfl;rw[List.set_set,Y8 hl hi x hx]at h2;exact h2
theorem ao7{st:Int}(hn:n=ls.length)(h:Sl w 194 2 la n lc (gC gG ls))(h9:n≤1000):
  aH 188 #[.slice la n lc,ae st] w fun e w'=> ∃(a':az) (c':Nat),e= .returned (.slice a' n c')∧Own w' w.heap.size 3 1 a' n c' ((uN ls st).map encI)∧Below w.heap.size w w':=by
 have HN:=ax hn;clear hn;obtain⟨M,hM⟩:=aI (uN ls st);have HM:=ax hM;have hml:M.length=n:=by rw[←hM,Zw,HN.out]
 have uj:=ax hml;rw[hM];clear hM hml
 go_enter func188,ntmps188
 go_wp2_with ((refine ZH n rfl rfl aj ?_;intro W1 B hB0 kB hb1))
 have hBw:w.heap.size≤B:=by rw[hB0.out];exact Nat.le_refl _
 go_loopw [13] (fun s13 wr=> ∃i:Nat,s13=ae i∧i≤n∧ah wr B 3 ((jv M n i).map encI).toArray∧Below w.heap.size w wr) (fun s _=>n -(intOf s).toNat)
 case atStart=>exact⟨0,rfl,by omega,by rw[Pz];exact kB,hb1⟩
 case round=>
  clear kB hb1;obtain⟨i,rfl,hi,kB,be⟩:=hrel;by_cases hlt:i<n
  ·have hil:i<ls.length:=by rw[←HN.out];exact hlt
   have hr:=(h.below be aA);obtain⟨b,off,rfl,bl⟩:=hr.open_ aj;have x0:=hr.row.fV mQ i hil 0 ay (v:=ae ls[i].1) rfl;have x1:=hr.row.fV mQ i hil 1 ay (v:=ae ls[i].2) rfl;simp only[iV]at x0;have HG:Hid (∀h2:i<M.length,M[i]=if(i:Int)=st then 1 else ls[i].1):=ax (fun h2=>by have e:=HM.out;subst e;exact ahp ls st i hil);obtain⟨y,hy⟩:=aI (ls[i]);rw[hy]at x0 x1 HG;clear hy;obtain⟨y0,y1⟩:=y;simp only at x0 x1 HG;have ix:(i:Int)<(n:Int):=by omega
   have kc:wr.cell? ⟨B,i,none⟩=some (ae 0):=F7 kB uj.out hlt;have kf:=kB.frozen i;have kl:=kB.lt;have sz:=be.size;by_cases hst:(i:Int)=st
   ·have hst2:((i:Int)==st)=true:=by rw[hst];simp
    have HST:=ax hst;clear hst
    go_wp2_with fail
    go_roundw
    case rel=>exact⟨i+1,by go_num,by omega,(aqP kB uj.out hlt _ 1 (by rw[HG.out,if_pos HST.out])).alloc _,bel⟩
    case measure=>simp[intOf];omega
   ·have hst2:((i:Int)==st)=false:=by rw[iL];exact hst
    have HST:=ax hst;clear hst
    go_wp2_with fail
    go_roundw
    case rel=>exact⟨i+1,by go_num,by omega,(JW kB uj.out hlt _ (by rw[HG.out,if_neg HST.out])).alloc _,bel⟩
    case measure=>simp[intOf];omega
  ·obtain rfl:i=n:=by omega
   go_wp2_with fail
   go_ret;rw[PN uj.out]at kB;exact⟨_,_,rfl,kB.I7 hBw i uj.out aj,be⟩
def uX(x:Int):Bool:=decide (x=1)||decide (x=2)
theorem Po(x:Int)(w:ak):aH 217 #[ae x] w fun e w'=>e= .returned (.bool (uX x))∧w=w':=by
 go_enter func217,ntmps217
 go_wp2_with fail
 all_goals
  go_ret;exact⟨uH (by first|rfl|(simp;done)|(simp;omega)|(rw[Bool.eq_iff_iff];simp[uX];done)|(rw[Bool.eq_iff_iff];simp[uX];omega)),rfl⟩
def Ad(cs L:aO):Bool:=(List.range L.length).any fun p=>uX (L.getD p 0) && (List.range L.length).any fun q=>uX (L.getD q 0) && jR cs p q
theorem ahN{cs L:aO}(h: ∀p,p<L.length→uX (L.getD p 0)=true→∀q,q<L.length→(uX (L.getD q 0) && jR cs p q)=false):Ad cs L=false:=by
 rw[Bool.eq_false_iff];intro hh;unfold Ad at hh;obtain⟨p,hp,h1⟩:=List.any_eq_true.1 hh;simp only[Bool.and_eq_true]at h1;obtain⟨q,hq,h2⟩:=List.any_eq_true.1 h1.2;have:=h p (List.mem_range.1 hp) h1.1 q (List.mem_range.1 hq);rw[h2]at this;cases this
theorem arH{cs L:aO}{p q:Nat}(hp:p<L.length)(hq:q<L.length)(h1:uX (L.getD p 0)=true)(h2:uX (L.getD q 0)=true)(h3:jR cs p q=true):Ad cs L=true:=by
 unfold Ad;refine List.any_eq_true.2 ⟨p,List.mem_range.2 hp,?_⟩;rw[h1,Bool.true_and];exact List.any_eq_true.2 ⟨q,List.mem_range.2 hq,by rw[h2,h3];rfl⟩
theorem afz{P:Prop}(h:P:=by
 go_round
 case rel=>exact⟨j+1,rfl,by go_num,by omega,ax (fun q hq=>by
  rcases Nat.lt_or_eq_of_le (Nat.le_of_lt_succ hq)with r|r
  ·exact HI.out q r
  ·rw[r,HG2.out];exact HV.out)⟩
 case measure=>simp[intOf];omega):P:=h
theorem anB{cs L:aO}{ca:az}{cn cc:Nat}(hc:Ints w ca cs)(hcn:cn=cs.length)(hro:Qo cs)(h:Ints w la L)(hn:n=L.length)(h9:n≤1000):
  aH 189 #[.slice ca cn cc,.slice la n lc] w fun e w'=>e= .returned (.bool (Ad cs L))∧w=w':=by
 have HN:=ax hn;have HC:=ax hcn;clear hn hcn
 go_enter func189,ntmps189
 go_wp2_with fail
 go_step3
 go_wp2_with fail
 go_step3
 go_wp2_with fail
 go_loop [5,12] (fun s5 s12=> ∃i:Nat,s5= .bool false∧s12=ae i∧i≤n∧Hid (∀p,p<i→uX (L.getD p 0)=true→∀q,q<L.length→(uX (L.getD q 0) && jR cs p q)=false)) (fun _ s=>n -(intOf s).toNat)
 case atStart=>exact⟨0,rfl,rfl,by omega,ax (fun p hp=>by omega)⟩
 case round=>
  obtain⟨i,rfl,rfl,hi,HO⟩:=hrel;by_cases hlt:i<n
  ·have hil:i<L.length:=by rw[←HN.out];exact hlt
   obtain⟨b,off,rfl⟩:=P9 h aj;obtain⟨x0,xl⟩:=EE h i hil;have HG:=ax (show L.getD i 0=L[i]by simp[eG,hil]);obtain⟨x,hx⟩:=aI (L[i]);rw[hx]at x0 HG;clear hx;have ix:(i:Int)<(n:Int):=by omega
   cases hb:uX x with
   |false=>
    have HB:=ax hb
    go_wp2_with (go_at_call 217;refine(Po x _).mono ?_;rintro e wz ⟨rfl,rfl⟩;(rw[HB.out]))
    go_round
    case rel=>exact⟨i+1,rfl,by go_num,by omega,ax (fun p hp hp1=>by
     rcases Nat.lt_or_eq_of_le (Nat.le_of_lt_succ hp)with q|q
     ·exact HO.out p q hp1
     ·rw[q,HG.out,HB.out]at hp1;cases hp1)⟩
    case measure=>simp[intOf];omega
   |true=>
    have HB:=ax hb;clear hb
    go_wp2_with (go_at_call 217;refine(Po x _).mono ?_;rintro e wz ⟨rfl,rfl⟩;(rw[HB.out]))
    go_loop [5,22] (fun s5 LJ=> ∃j:Nat,s5= .bool false∧LJ=ae j∧j≤n∧Hid (∀q,q<j→(uX (L.getD q 0) && jR cs i q)=false)) (fun _ s=>n -(intOf s).toNat)
    case atStart=>exact⟨0,rfl,rfl,by omega,ax (fun p hp=>by omega)⟩
    case round=>
     obtain⟨j,rfl,rfl,hj,HI⟩:=hrel;by_cases hlt2:j<n
     ·have hjl:j<L.length:=by rw[←HN.out];exact hlt2
      obtain⟨y0,yl⟩:=EE h j hjl;have HG2:=ax (show L.getD j 0=L[j]by simp[eG,hjl]);obtain⟨y,hy⟩:=aI (L[j]);rw[hy]at y0 HG2;clear hy;have jx:(j:Int)<(n:Int):=by omega
      obtain⟨v,hv⟩:=aI ((uX y && jR cs i j));have HV:=ax hv;cases hb2:uX y with
      |false=>
       rw[hb2]at hv;obtain rfl:v=false:=by rw[←hv];rfl
       clear hv;have HB2:=ax hb2;clear hb2
       go_wp2_with (go_at_call 217;refine(Po y _).mono ?_;rintro e wz ⟨rfl,rfl⟩;(rw[HB2.out]))
       exact afz
      |true=>
       rw[hb2,Bool.true_and]at hv;have HB2:=ax hb2;have HC2:=ax hv;clear hb2 hv;cases v with
       |false=>
        go_wp2_with (first|(go_at_call 217;refine(Po y _).mono ?_;rintro e wz ⟨rfl,rfl⟩;(rw[HB2.out]))|(go_at_call 154;refine(MN ca cs cn cc i j _ hc HC.out hro).mono ?_;rintro e wz ⟨rfl,rfl⟩;(rw[HC2.out])))
        exact afz
       |true=>
        go_wp2_with (first|(go_at_call 217;refine(Po y _).mono ?_;rintro e wz ⟨rfl,rfl⟩;(rw[HB2.out]))|(go_at_call 154;refine(MN ca cs cn cc i j _ hc HC.out hro).mono ?_;rintro e wz ⟨rfl,rfl⟩;(rw[HC2.out])))
        (try rw[Exit.noGoto_ret])
        go_ret;exact⟨uH (arH hil hjl (by rw[HG.out,HB.out]) (by rw[HG2.out,HB2.out]) HC2.out).symm,rfl⟩
     ·obtain rfl:j=n:=by omega
      go_wp2_with fail
      go_round
      case rel=>exact⟨i+1,rfl,by go_num,by omega,ax (fun p hp hp1 q hq=>by
       rcases Nat.lt_or_eq_of_le (Nat.le_of_lt_succ hp)with r|r
       ·exact HO.out p r hp1 q hq
       ·rw[r];exact HI.out q (by rw[HN.out];exact hq))⟩
      case measure=>simp[intOf];omega
  ·obtain rfl:i=n:=by omega
   go_wp2_with fail
   (try rw[Exit.noGoto_ret])
   go_ret;exact⟨uH (ahN (fun p hp=>HO.out p (by rw[HN.out];exact hp))).symm,rfl⟩
def vS(ps:List Ph)(group:Int):aO:= [zh ps 0 group 0,zh ps 1 group 0]
structure DC(W:ak)(B C:Nat)(ls:List (Int × Int))(g:Int)(nx:aO)(wt:Int)(la:az)(n lc:Nat)(na:az)(nc:Nat):Prop where
 k:ah W C 118 #[.slice la n lc,ae g,.slice na 2 nc,ae wt]
 hC:B≤C
 ls:Own W B 194 2 la n lc (gC gG ls)
 nx:Own W B 3 1 na 2 nc (nx.map encI)
theorem DC.below{W':ak}{g:Int}(h:DC W B C ls g nx wt la n lc na nc)(hb:Below W.heap.size W W'):DC W' B C ls g nx wt la n lc na nc:=
 ⟨h.k.below hb h.k.lt,h.hC,h.ls.below hb aA,h.nx.below hb aA⟩
def ajz(ps:List Ph)(C:Nat)(group:Int)(v0 v3:Value)(w:ak)(e:Ending)(w':ak):Prop:=
 ∃N:Nat,e= .returned (.tuple #[])∧w.heap.size≤N∧Own w' w.heap.size 3 1 (some ⟨N,0,none⟩) 2 2 ((vS ps group).map encI)∧ah w' C 118 #[v0,ae group,.slice (some ⟨N,0,none⟩) 2 2,v3]∧w.grownBy w' (some C)
theorem Y_(jb jc aQ eX aY:Nat)(ps:List Ph)(s group:Int)(C:Nat)(v0 v1 v2 v3:Value)(w:ak)(h:Row w (some ⟨jb,0,none⟩) (jI ps))(h8:ps.length≤8)(hj:jb≠C)(hjl:jb<w.heap.size)(hk:ah w C 118 #[v0,v1,v2,v3]):
  aH 126 #[qO jb ps.length jc aQ eX aY s,.pointer (some ⟨C,0,none⟩),ae group] w (ajz ps C group v0 v3 w):=by
 obtain⟨M,hM⟩:=aI (vS ps group);have HM:=ax hM;have uj:Hid (M.length=2):=ax (by rw[←hM];rfl);unfold ajz;rw[hM];clear hM
 go_enter func126,ntmps126
 go_upto_region 1 with fail
 obtain⟨J,hJ⟩:=aI w.heap.size;have DZ:=hk.lt;refine aW (fun W=>ah W J 69 #[.slice (some ⟨jb,0,none⟩) ps.length jc,.slice (some ⟨aQ,0,none⟩) eX aY,ae s]∧ah W C 118 #[v0,v1,v2,v3]∧Below w.heap.size w W∧J+1≤W.heap.size) ⟨by rw[←hJ];exact ah.new _ _ _,hk.alloc _,bel,by simp;omega⟩ ?_;have sZ:w.heap.size≤J:=by omega
 rw[hJ];have HJ:=ax hJ;clear hJ hk;rintro W ⟨kJ,kC,be,sz⟩;replace be:=be.mono sZ;have hCJ:C<J:=by omega
 (obtain⟨c0,c1,c2,c3,cf,cl⟩:=kC.n4)
 go_upto_region 3 with((refine ZH 2 rfl rfl aj ?_;intro W1 N hN0 kN hb1;(have WZ:=(kC.set 1 (ae group)).below hb1 (by simpa [World.setCell]using cl));(simp only[pz,lh,jX]at WZ);(obtain⟨d0,d1,d2,d3,df,dl⟩:=WZ.n4)))
 have eF:=WZ.set 2 (.slice (some ⟨N,0,none⟩) 2 2);simp only[pz,lh,jX]at eF;have pK:ah (W1.setCell ⟨C,2,none⟩ (.slice (some ⟨N,0,none⟩) 2 2)) J 69 #[.slice (some ⟨jb,0,none⟩) ps.length jc,.slice (some ⟨aQ,0,none⟩) eX aY,ae s]:=((kJ.far (p:=⟨C,1,none⟩) Be (ae group)).below hb1 (by simp[World.setCell];exact kJ.lt)).far (p:=⟨C,2,none⟩) Be _;have hNJ:J+1≤N:=by rw[hN0.out];simpa [World.setCell]using sz
 have LC:ah (W1.setCell ⟨C,2,none⟩ (.slice (some ⟨N,0,none⟩) 2 2)) N 3 ((List.replicate 2 (0:Int)).map encI).toArray:=kN.far (p:=⟨C,2,none⟩) Be _;have g2:w.grownBy (W1.setCell ⟨C,2,none⟩ (.slice (some ⟨N,0,none⟩) 2 2)) (some C):=grownBy_trans (grownBy_trans (grownBy_below be _) (grownBy_set W C 1 (ae group))) (grownBy_trans (grownBy_below hb1 _) (grownBy_set W1 C 2 _));obtain⟨V,hV⟩: ∃V,W1.setCell ⟨C,2,none⟩ (.slice (some ⟨N,0,none⟩) 2 2)=V:=⟨_,rfl⟩;rw[hV]at eF pK LC g2⊢;(clear c0 c1 c2 c3 cf cl);(clear d0 d1 d2 d3 df dl);clear hV kC WZ kJ hb1 kN be sz;have hrow: ∀{U:ak},V.grownBy U (some N)→Row U (some ⟨jb,0,none⟩) (jI ps):=fun gu=>(h.keep fun b off e hl=>(g2.block b hl (fun e2=>by injection e2 with e2;injection e with e;injection e with e _ _;omega))).keep fun b off e hl=>gu.block b hl (fun e2=>by
  injection e2 with e2;injection e with e;injection e with e _ _;have:=HJ.out;omega)
 (obtain⟨c0,c1,c2,c3,cf,cl⟩:=eF.n4)
 go_wp2_with fail
 go_loopw [20] (fun s20 wr=> ∃i:Nat,s20=ae i∧i≤2∧ah wr N 3 ((jv M 2 i).map encI).toArray∧V.grownBy wr (some N)) (fun s _=>2 -(intOf s).toNat)
 case atStart=>exact⟨0,rfl,by omega,by rw[Pz];exact LC,⟨rfl,rfl,rfl,Nat.le_refl _,fun _ _ _=>rfl⟩⟩
 case round=>
  (clear c0 c1 c2 c3 cf cl);obtain⟨i,rfl,hi,kN,gr⟩:=hrel;by_cases hlt:i<2
  ·have ix:(i:Int)<2:=by omega
   have kc:=eF.aB gr F5;have kj:=pK.aB gr F5;have hr:=hrow gr;(obtain⟨c0,c1,c2,c3,cf,cl⟩:=kc.n4);(obtain⟨j0,j1,j2,jf,jl⟩:=kj.n3);have rC:=fun d os o=>dC wr d os C o cl;have rJ:=fun d os o=>dC wr d os J o jl
   go_upto_region 6 with fail
   (refine nI 9 [([0,1,2,3,4,5,6,7],8)] [] bP bP ?_;refine lu ?_);(refine pF ?_;intro K hK)
   go_wp2_with (go_at_call 156;refine(aer jb jc aQ eX aY ps s (i:Int) group 0 wr.drew (Row.drew hr) h8).mono ?_;rintro e w4 ⟨rfl,hb4⟩)
   replace hb4:=jA hb4;refine dS hb4 (hK _ _ ?_);clear hK K;(refine lC ?_);have W_:=kN.below hb4 kN.lt;have nc:w4.cell? ⟨N,i,none⟩=some (ae 0):=F7 W_ uj.out hlt;have nf:=W_.frozen i;have nl:=W_.lt;have HV:Hid (∀hh:i<M.length,M[i]=zh ps (i:Int) group 0):=ax (fun hh=>by
    have e:=HM.out;subst e;rcases(show i=0∨i=1 by omega)with rfl|rfl<;>rfl)
   (clear c0 c1 c2 c3 cf cl);(clear j0 j1 j2 jf jl)
   go_wp2_with fail
   go_roundw
   case rel=>exact⟨i+1,by go_num,by omega,JW W_ uj.out hlt _ (by rw[HV.out]),grownBy_trans gr (grownBy_trans (grownBy_below hb4 _) (grownBy_set w4 N i _))⟩
   case measure=>simp[intOf];omega
  ·obtain rfl:i=2:=by omega
   have kc:=eF.aB gr F5;rw[PN uj.out]at kN
   go_wp2_with fail
   go_end0
   refine⟨N,rfl,by omega,kN.I7 aj 2 uj.out aj,kc,?_⟩;exact⟨g2.os▸gr.os,g2.tape▸gr.tape,g2.output▸gr.output,dA g2.size gr.size,fun b hb hne=>(gr.block b (jL hb g2.size) CV).trans (g2.block b hb hne)⟩
section
open Go.RowKit Go.Sort Go.Shelf
attribute [local go_sem] Oper.semAt_some
def Qp(ls:List (Int × Int))(p:Int):Int:=(ls.getD p.toNat (0,0)).1
def KI(ps:List Ph)(ls:List (Int × Int))(ring:Int):Bool:=(qC ring 0 ps).all fun p=>decide (Qp ls p=0)
@[reducible] def KT(la:az)(n lc:Nat)(g:Int)(na:az)(nc:Nat)(wt:Int):Value:= .agg #[.slice la n lc,ae g,.slice na 2 nc,ae wt]
structure Jo(w:ak)(T:Nat)(la:az)(n lc:Nat)(g:Int)(na:az)(nc:Nat)(wt:Int)(v:Bool)(p:Prop)(W:ak):Prop where
 p:p
 kC:ah W (T+1) 118 #[.slice la n lc,ae g,.slice na 2 nc,ae wt]
 kR:ah W (T+1+1) 4 #[.bool v]
 be:Below w.heap.size w W
theorem Jo.own{α:Type}{T:Nat}{g:Int}{v:Bool}{p:α→Prop}(hB:w.heap.size≤B):OwnFrom B (fun pre W=>Jo w T la n lc g na nc wt v (p pre) W):=by
 rintro pre W W' row h hg hr;have q:=fun r e=>(hr r e).2;exact⟨h.p,h.kC.turn hg q,h.kR.turn hg q,h.be.grown hg h.be.size fun k e=>dA hB (hr k e).1⟩
theorem arI(jb jc aQ eX aY:Nat)(ps:List Ph)(s ring:Int)(la:az)(lc:Nat)(g:Int)(na:az)(nc:Nat)(wt:Int)(ls:List (Int × Int))(w:ak)(h:Row w (some ⟨jb,0,none⟩) (jI ps))(h8:ps.length≤8)(hl:Sl w 194 2 la ps.length lc (gC gG ls)):
  aH 238 #[qO jb ps.length jc aQ eX aY s,KT la ps.length lc g na nc wt,ae ring] w fun e w'=>e= .returned (.bool (KI ps ls ring))∧Below w.heap.size w w':=by
 refine callsIn_wide.1 (callsIn_of_wp_marks (n:=6) func238 rfl trivial (wpIn_wide.2 ?_) rfl);simp only[ntmps238,List.size_toArray,jJ,List.length_nil,Nat.reduceAdd,Nat.reduceSub,Array.replicate_succ,Array.replicate_zero,List.push_toArray,List.append_toArray,List.nil_append,List.cons_append];have hls:Hid (ls.length=ps.length):=ax (by have:=hl.len;rw[oZ mQ]at this;omega)
 go_upto_region 1 with fail
 obtain⟨T,hT⟩:=aI w.heap.size;refine aW (fun W=>ah W T 69 #[.slice (some ⟨jb,0,none⟩) ps.length jc,.slice (some ⟨aQ,0,none⟩) eX aY,ae s]∧Jo w T la ps.length lc g na nc wt false True W∧W.heap.size=T+3) ⟨by rw[←hT];exact((ah.new _ _ _).alloc _).alloc _,⟨trivial,by rw[←hT];exact(ah.dG _ _ _ _).alloc _,by rw[←hT];have:=ah.dG (w.alloc (.cells #[.slice (some ⟨jb,0,none⟩) ps.length jc,.slice (some ⟨aQ,0,none⟩) eX aY,ae s] 69)) (.cells #[.slice la ps.length lc,ae g,.slice na 2 nc,ae wt] 118) 4 #[.bool false];rw[World.size_alloc]at this;exact this,bel⟩,by simp[hT]⟩ ?_;have HT:=ax hT;rw[hT];clear hT;rintro W4 ⟨kJ,⟨-,kC,kR,be4⟩,z4⟩;have sW:w.heap.size≤T:=by rw[HT.out];exact Nat.le_refl _
 have HZ:=ax z4;clear z4;(obtain⟨j0,j1,j2,jf,jl⟩:=kJ.n3)
 go_wp2_with (go_at_call 176;refine(aft jb ps.length jc aQ eX aY s ring _).mono ?_;rintro e w' ⟨rfl,rfl⟩)
 refine aW (fun W=>Jo w T la ps.length lc g na nc wt false True W∧ah W (T+3) 69 #[.slice (some ⟨jb,0,none⟩) ps.length jc,.slice (some ⟨aQ,0,none⟩) eX aY,ae s]∧ah W (T+3+1) 3 #[ae ring]∧W.heap.size=T+5) ⟨⟨trivial,(kC.alloc _).alloc _,(kR.alloc _).alloc _,bel⟩,by rw[←HZ.out];exact(ah.new _ _ _).alloc _,by rw[←HZ.out];exact ah.dG _ _ _ _,by simp[HZ.out]⟩ ?_;rw[HZ.out];(clear j0 j1 j2 jf jl);clear kJ kC kR be4;rintro wc ⟨hI,kL,kS,zc⟩;have HT4:=ax zc;clear zc;refine(wpIn_wide (n:=6)).1 ?_;refine JV (F:=Fence.wide) rfl aj (gf:=194) (lb:= #[.pointer (some ⟨T+3,0,none⟩),.pointer (some ⟨T+3+1,0,none⟩)]) rfl trivial (enters_of func194 bP rfl)
  (agJ 5 aj jb jc aQ eX aY ps s ring (T+3) (T+3+1) wc kL kS (Row.below h hI.be aA) h8) belowK_t (belowK_b aA) bD (fun _=>rfl)
  (fun pre W=>Jo w T la ps.length lc g na nc wt false (∀x∈pre,Qp ls x=0) W)
  (fun cd pre W=>cd= .ret∧Jo w T la ps.length lc g na nc wt false (∃x∈pre,Qp ls x≠0) W)
  (Jo.own hI.be.size) (fun cd=>OwnFrom.and (ownFrom_pure _ _) (Jo.own hI.be.size))
  ⟨by simp,hI.kC,hI.kR,hI.be⟩
  (fun pre x a' W=>(∃j:Nat,∃hj:j<ps.length,x=j)∧a'={tmps:= #[qO jb ps.length jc aQ eX aY s,KT la ps.length lc g na nc wt,ae ring,.pointer (some ⟨T,0,none⟩),.pointer (some ⟨T+1,0,none⟩),undef,.pointer (some ⟨T+1+1,0,none⟩),ae x,.agg #[.slice (some ⟨jb,0,none⟩) ps.length jc,.slice (some ⟨aQ,0,none⟩) eX aY,ae s],ae ring,.func (.func 194) #[] #[.pointer (some ⟨T+3,0,none⟩),.pointer (some ⟨T+3+1,0,none⟩)],ae x,undef,undef,undef,undef,undef,undef,undef],defers:= []})
  (fun pre x a'=>ownFrom_pure _ _) ?assign ?body ?done ?stop
 case assign=>
  exact afw
 case body=>
  rintro L pre x a' W hL hrec ⟨hp,kC,kR,hb⟩ ⟨⟨j,hj,rfl⟩,rfl⟩;have hlr:=hl.below hb aA;have hjl:j<ls.length:=by rw[hls.out];exact hj
  obtain⟨b,off,rfl,bl⟩:=hlr.open_ aj;have x0:=hlr.row.fV mQ j hjl 0 ay (v:=ae ls[j].1) rfl;simp only[iV]at x0;have HG:=ax (show Qp ls (j:Int)=ls[j].1 by simp[Qp,eG,hjl]);obtain⟨y,hy⟩:=aI (ls[j].1);rw[hy]at x0 HG;clear hy hlr;have jx:(j:Int)<(ps.length:Int):=by omega
  (obtain⟨c0,c1,c2,c3,cf,cl⟩:=kC.n4);(obtain⟨r0,rf,rl⟩:=kR.n1);by_cases hz:y=0
  ·have hz2:(y !=0)=false:=by rw[hz];rfl
   have HZ0:=ax hz;clear hz
   gi_wp2
   exact⟨KeepsFrom.refl _ _,Below.refl _ _,fun x hx=>by
    rcases lW.1 hx with q|q
    ·exact hp x q
    ·rw[dU.1 q,HG.out];exact HZ0.out,kC,kR,hb⟩
  ·have hz2:(y !=0)=true:=by rw[bne_iff_ne];exact hz
   have HZ0:=ax hz;clear hz
   gi_wp2
   exact⟨(KeepsOthers.setCell _ _ _).from _,rfl,⟨(j:Int),by simp,by rw[HG.out];exact HZ0.out⟩,kC.far Be _,kR.set 0 _,hb.grown (grownBy_set _ (T+1+1) 0 _) hb.size UC⟩
 case done=>
  rintro D xs W hD rfl ⟨hp,kC,kR,hb⟩ hK;(obtain⟨r0,rf,rl⟩:=kR.n1)
  go_wp2
  have hK2:(W.setCell ⟨T+1+1,0,none⟩ (.bool true)).heap[D]?=some (.deferred (some [])):=(KeepsOthers.setCell W ⟨T+1+1,0,none⟩ (.bool true)).same D _ hK rfl;have hput:=grownBy_putObj' (W.setCell ⟨T+1+1,0,none⟩ (.bool true)) D (.deferred none);have hrow: ∀r,some D=some r→∃o:Obj,(W.setCell ⟨T+1+1,0,none⟩ (.bool true)).heap[r]?=some o∧o.isCells=false:=fun r e=>by cases e;exact⟨_,hK2,rfl⟩
  have k9:=(kR.set 0 (.bool true)).turn hput hrow;have y0:=k9.cell 0;refine⟨by simp,.inl ⟨_,_,rfl,run_takeDeferred hK2,?_⟩⟩;refine⟨.bool true,by simp[results,results238,go_sem,y0],?_⟩;have hq:KI ps ls ring=true:=by unfold KI;rw[List.all_eq_true];intro x hx;simp[hp x hx]
  rw[hq];exact⟨rfl,(hb.grown (grownBy_set W (T+1+1) 0 (.bool true)) hb.size UC).grown hput (by have:=hb.size;simp[World.setCell];omega) Zf⟩
 case stop=>
  rintro D cd pre W hD ⟨t,ht⟩ ⟨rfl,⟨x,hx,hx2⟩,kC,kR,hb⟩ hK
  gi_wp2
  have hput:=grownBy_putObj' W D (.deferred none);have hrow: ∀r,some D=some r→∃o:Obj,W.heap[r]?=some o∧o.isCells=false:=fun r e=>by cases e;exact⟨_,hK,rfl⟩
  have k9:=kR.turn hput hrow;have y0:=k9.cell 0;refine⟨by simp,.inl ⟨_,_,rfl,run_takeDeferred hK,?_⟩⟩;refine⟨.bool false,by simp[results,results238,go_sem,y0],?_⟩;have hq:KI ps ls ring=false:=by
   unfold KI;rw[List.all_eq_false];exact⟨x,by rw[ht];exact List.mem_append_left _ hx,by simpa using hx2⟩
  exact afx
end
def BH(ls:List (Int × Int)):Bool:=ls.all fun l=>decide (l.1=0)
theorem arJ(a t:Int)(w:ak):aH 262 #[.agg #[ae a,ae t]] w fun e w'=>e= .returned (.bool (a !=0))∧Below w.heap.size w w':=by
 go_enter func262,ntmps262
 go_wp2
 go_ret;exact⟨rfl,bel⟩
theorem ao8(la:az)(n lc:Nat)(ls:List (Int × Int))(w:ak)(h:Sl w 194 2 la n lc (gC gG ls))(hn:n=ls.length)(h9:n≤1000):
  aH 281 #[.slice la n lc,.func (.func 262) #[] #[]] w fun e w'=> ∃r:Int,e= .returned (ae r)∧Hid (decide (0≤r)=!BH ls)∧Below w.heap.size w w':=by
 have HN:=ax hn;clear hn
 go_enter func281,ntmps281
 go_wp2
 go_loopw [8] (fun s8 wr=> ∃i:Nat,s8=ae i∧i≤n∧Hid (∀k (hk:k<ls.length),k<i→ls[k].1=0)∧Below w.heap.size w wr) (fun s _=>n -(intOf s).toNat)
 case atStart=>exact⟨0,rfl,by omega,ax fun k _ h=>by omega,bel⟩
 case round=>
  obtain⟨i,rfl,hi,ho,be⟩:=hrel;by_cases hlt:i<n
  ·have kx:(i:Int)<(n:Int):=by omega
   have hil:i<ls.length:=by rw[←HN.out];exact hlt
   have hr:=h.below be aA;obtain⟨b,off,rfl,bl⟩:=hr.open_ aj;have x0:=hr.row.fV mQ i hil 0 ay (v:=ae ls[i].1) rfl;have x1:=hr.row.fV mQ i hil 1 ay (v:=ae ls[i].2) rfl;simp only[iV]at x0;obtain⟨x,hx⟩:=aI (ls[i]);rw[hx]at x0 x1;have HX:=ax hx;clear hx hr;obtain⟨x,t⟩:=x;simp only at x0 x1
   go_upto_if 16 with((go_at_call 262;refine(arJ x t _).mono ?_;rintro e w2 ⟨rfl,hb2⟩))
   by_cases hz:x=0
   ·have zq:(x !=0)=false:=by rw[hz];rfl
    have HQ:=ax hz;clear hz
    go_wp2_with fail
    go_roundw
    case rel=>exact⟨i+1,by go_num,by omega,ax fun k hk hki=>by
     by_cases e:k=i
     ·subst e;rw[HX.out];exact HQ.out
     ·exact ho.out k hk aj,bel⟩
    case measure=>simp[intOf];omega
   ·have zq:(x !=0)=true:=by rw[bne_iff_ne];exact hz
    have HQ:=ax hz;clear hz
    go_wp2_with fail
    go_ret;have aa2:BH ls=false:=by
     unfold BH;rw[List.all_eq_false];exact⟨ls[i],bF hil,by rw[HX.out];simpa using HQ.out⟩
    exact⟨i,rfl,ax (by rw[aa2];simp),bel⟩
  ·obtain rfl:i=n:=by omega
   go_wp2_with fail
   go_ret;have aa2:BH ls=true:=by
    unfold BH;rw[List.all_eq_true];intro x hx;obtain⟨k,hk,rfl⟩:=List.getElem_of_mem hx;simpa using ho.out k hk (by rw[HN.out];exact hk)
   exact⟨-1,rfl,ax (by rw[aa2];rfl),bel⟩
theorem anQ(la:az)(n lc:Nat)(ls:List (Int × Int))(w:ak)(h:Sl w 194 2 la n lc (gC gG ls))(hn:n=ls.length)(h9:n≤1000):
  aH 261 #[.slice la n lc,.func (.func 262) #[] #[]] w fun e w'=>e= .returned (.bool (!BH ls))∧Below w.heap.size w w':=by
 have HN:=ax hn;clear hn
 go_enter func261,ntmps261
 go_wp2_with (go_at_call 281;refine(ao8 la n lc ls _ h HN.out h9).mono ?_;rintro e w2 ⟨r,rfl,hr,hb2⟩)
 go_ret;exact⟨uH hr.out,hb2⟩
theorem afA(la:az)(n lc:Nat)(ls:List (Int × Int))(g:Int)(na:az)(nc:Nat)(wt:Int)(w:ak)(h:Sl w 194 2 la n lc (gC gG ls))(hn:n=ls.length)(h9:n≤1000):
  aH 237 #[KT la n lc g na nc wt] w fun e w'=>e= .returned (.bool (BH ls))∧Below w.heap.size w w':=by
 have HN:=ax hn;clear hn
 go_enter func237,ntmps237
 have h2:=h.alloc (.cells #[.slice la n lc,ae g,.slice na 2 nc,ae wt] 118)
 go_wp2_with (go_at_call 261;refine(anQ la n lc ls _ h2 HN.out h9).mono ?_;rintro e w2 ⟨rfl,hb2⟩)
 go_ret;exact⟨uH aF,bel⟩
end Go.Proofs.YtiffpjamngklhaaGreat
