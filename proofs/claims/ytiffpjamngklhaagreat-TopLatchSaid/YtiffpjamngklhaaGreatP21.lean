/- Lemmas, part 21. -/
import Derived.Test.YtiffpjamngklhaaGreatP19
import Derived.Test.YtiffpjamngklhaaGreatP20
namespace Go.Proofs.YtiffpjamngklhaaGreat
set_option linter.all false
set_option maxRecDepth 100000
set_option maxHeartbeats 16000000
open Go.RowKit Tryz
open Go.Sort hiding Below
variable{w w' W:ak}{B n i k n' c c' sz' M h:Nat}{t:aK}{a xa:az}{P:Program}{ys:aP}{j:Jx}{cf:Cf}{js:List Jx}{K:dJ}{fn:Func}{rt:Int}{Ms:List aU}{St:Nat→aU}
@[reducible] def tH(k s a b:Int)(ba:az)(bn bc:Nat):aZ:= #[ae k,ae s,ae a,ae b,.slice ba bn bc]
theorem Ym:(prog.info? 56).map (·.size)=some 5:=by kernel_rfl
theorem Pn{R:EN}{a:Act}{g:Nat}{cs ds:aZ}{v:Value}(i:Nat)(T:aK)(j:Nat)(U:aK)(l:Nat)(hres:fn.results= #[.cell i T,.cell j U,.tmp l])(hp:a.tmps.getD i undef= .pointer (some ⟨g,0,none⟩))(hq:a.tmps.getD j undef= .pointer (some ⟨h,0,none⟩))(hl:a.tmps.getD l undef=v)(k:ah w g T cs)(k2:ah w h U ds)
  (N M:Nat) (hn:cs.size=N) (hm:ds.size=M) (hu:(P.underlying T).map TypeDesc.isRow=some true) (hi:(P.info? T).map (·.size)=some N) (hu2:(P.underlying U).map TypeDesc.isRow=some true) (hi2:(P.info? U).map (·.size)=some M) (hd:a.defers= []) (hR:R (.returned (.tuple #[.agg cs,.agg ds,v])) w):bodyPost P fn R .ret a w:=by
 refine bodyPost_ret (v:= .tuple #[.agg cs,.agg ds,v]) ?_ hd hR;have h1:=tJ k T N hn hu hi;have h2:=tJ k2 U M hm hu2 hi2;simp only[Array.getD_eq_getD_getElem?]at hp hq hl;simp[results,hres,hp,hq,hl,h1,h2,asAddr,Sem.run_bind,Result.andThen]
def JH(K:dJ)(S:List cO)(w:ak)(e:Ending)(w':ak):Prop:= ∃b:Bx,e= .returned (.tuple #[b.val,.agg #[.slice none 0 0,.slice none 0 0],.bool false])∧Hid (b.c.key=K)∧Hid (b.ss.map Sz.S=S)∧ik w' w.heap.size b∧Below w.heap.size w w'
def JI(K:dJ)(S:List cO)(Sa:List (List aU))(Fd:List aU)(w:ak)(e:Ending)(w':ak):Prop:=
 ∃(b:Bx) (outs:List Dw) (oa:az) (oc:Nat) (fd:Dw),e= .returned (.tuple #[b.val,.agg #[.slice oa outs.length oc,.slice fd.a fd.b.length fd.c],.bool true])∧Hid (b.c.key=K)∧Hid (b.ss.map Sz.S=S)∧ik w' w.heap.size b∧Hid (outs.map Dw.b=Sa.map h_)∧Own w' w.heap.size 30 1 oa outs.length oc (gC Dw.cells outs)∧(∀o∈outs,Cj w' w.heap.size o)∧Hid (fd.b=h_ Fd)∧Cj w' w.heap.size fd∧Below w.heap.size w w'
theorem ik.akj{N:Nat}{c:Cx}{l:List Sz}{sc:Nat}(h:ik w B ⟨c,l,some ⟨N,0,none⟩,sc⟩)(hi:i<l.length){y:Sz}(hy:yM w B y)(hW:W=jy w N (i*4) (Sz.cells y)):ik W B ⟨c,l.set i y,some ⟨N,0,none⟩,sc⟩:=by
 have gr:=gm N (Sz.cells y) w (i*4);rw[←hW]at gr;have row:=h.ss;refine⟨h.c.aC (xa:=some ⟨N,0,none⟩) gr row ay,?_,fun s hs=>?_⟩
 ·simp only[iQ];rw[C9 xP l i hi y,hW];exact row.sets (Sz.cells y) (i*4)
 ·exact agi
theorem agj{P:Prop}(h:P:=by
 have e:=congrArg (fun l=>l[s]?) HS2.out;simp only[List.getElem?_map,d_ hsl,d_ hs,Option.map_some,Option.some.injEq]at e;rw[hz]at e;exact e):P:=h
theorem aeE(b:Bx)(s:Nat)(A Bb:Int)(ba:az)(bn bc:Nat)(S1:cO)(w:ak)(hb:qI w b)(hs:s<b.ss.length)(hS1:S1=cO.opn b.ss[s].S):
  aH 16 #[b.val,.agg (tH 1 s A Bb ba bn bc)] w (JH b.c.key ((b.ss.map Sz.S).set s S1) w):=by
 have Lh:=hb.it _ (bF hs);have h8:=Lh.small;have tq:=ax hS1;clear hS1;obtain⟨c,ss,sa,sc⟩:=b;have MH:=hb.n9;simp only at MH;have qE:=fun W hW=>Ue ⟨c,ss,sa,sc⟩ W (hb.below (B:=w.heap.size) (w':=W) hW aA);obtain⟨m,hm⟩:=aI ss.length;have hval:(Bx.val ⟨c,ss,sa,sc⟩)= .agg (c.fK sa m sc):=by simp only[Bx.val,hm]
 rw[hval]at qE⊢;have vT:=ax qE;have HM:=ax hm;clear qE hval
 go_enter func16,ntmps16
 go_upto_region 1 with fail
 obtain⟨R,hR⟩:=aI w.heap.size;refine aW (fun W=>ah W R 48 (c.fK sa m sc)∧ah W (R+1) 56 (tH 1 s A Bb ba bn bc)∧ah W (R+1+1) 48 je∧ah W (R+1+1+1) 52 #[.slice none 0 0,.slice none 0 0]∧Below w.heap.size w W) ⟨by rw[←hR];exact(((ah.new _ _ _).alloc _).alloc _).alloc _,by rw[←hR];exact((ah.dG _ _ _ _).alloc _).alloc _,by rw[←hR];exact(mr (ah.new _ _ _) aF).alloc _,by rw[←hR];exact mr (ah.new _ _ _) aF,bel⟩ ?_;have HR:=ax hR;have fQ:w.heap.size≤R:=by omega
 rw[hR];clear hR;rintro W ⟨kR,kE,kO,kP,be⟩;have be:Below w.heap.size w W:=by rw[HR.out];exact be
 go_upto_region 2 with(first|(refine gy kR l_ eP ?_)|(go_at_call 34;(with_reducible refine(vT.out W be).mono ?_);rintro e w1 ⟨⟨c2,l,n_,iJ⟩,rfl,HK,HS2,oB,hb1⟩;(have nH:=kR.below hb1 kR.lt))|(refine dw (c2.fK n_ l.length iJ) nH eP ?_;intro W2 kw gw zw))
 have hws:=be.size;have hll:l.length=m:=by have:=congrArg List.length HS2.out;simp only[g_]at this;omega
 refine aW (fun Y=>ah Y R 48 (c2.fK n_ m iJ)∧ah Y (R+1) 56 (tH 1 s A Bb ba bn bc)∧ah Y (R+1+1) 48 je∧ah Y (R+1+1+1) 52 #[.slice none 0 0,.slice none 0 0]∧ik Y w.heap.size ⟨c2,l,n_,iJ⟩∧Below w.heap.size w Y)
  ⟨by rw[←hll];exact kw,(kE.below hb1 kE.lt).aB gw aF,(kO.below hb1 kO.lt).aB gw cu,(kP.below hb1 kP.lt).aB gw cu,(oB.mono hws).aG gw nH ay ay,(be.trans (hb1.mono hws)).aB gw (dA hws hb1.size) bQ⟩ ?_
 have nT:=ax hll;clear kR kE kO kP be hb1 nH oB kw gw zw hws vT hll hm;rintro Y ⟨kR,kE,kO,kP,oB,be⟩;simp only at hs Lh h8⊢;have hsm:s<m:=by rw[←HM.out];exact hs
 have HHS:=ax hs;obtain⟨N,rfl,_,_⟩:=oB.ss.open_ UD;have s0:(0:Int)≤(s:Int):=by omega
 have sx:(s:Int)<(m:Int):=by omega
 have hsl:s<l.length:=by rw[nT.out];exact hsm
 obtain⟨z,hz⟩:=aI (l[s]);have Cm:z.S=ss[s].S:=by
  exact agj
 have hat:=(oB.it z (by rw[←hz];exact bF hsl)).at_ (by rw[Cm];exact h8);have DZ:Hid (∀V,Below Y.heap.size Y V→aH 35 #[.agg (Sz.cells z).toArray] V (Oa (cO.opn z.S) V)):=ax (fun V hV=>aq7 z.S.op z.S.dr z.S.gb z.S.buf z.a z.S.buf.length z.c V (hat.below hV aA));have Ed:=CW oB.ss.sl.row xP s hsl hz (oB.ss.lt' N rfl) 107 PI Et;have GN:=ax Cm;have axE:=ax hs;clear hat hz Cm Lh h8;have Eg:=kR;(obtain⟨x0,x1,x2,x3,x4,x5,x6,x7,x8,x9,x10,x11,x12,dh,xf,xl⟩:=Eg.n14);(obtain⟨y0,y1,y2,y3,y4,yf,yl⟩:=kE.n5);have rC:=fun d os o=>dC Y d os R o xl;have rE:=fun d os o=>dC Y d os (R+1) o yl
 go_upto_region 6 with fail
 (refine JM 12 [12] (.mM [(0,[]),(1,[]),(2,[]),(3,[]),(4,[]),(5,[]),(6,[]),(7,[]),(8,[]),(9,[])] (.op 10 (.mM [(11,[])] (.fin [])))) bP bP ?_);(refine JP fun K hK=>?_;refine m_ ?_;(repeat(first|(refine gI rfl 107 _ rfl _ _ rfl (fun|_,⟨p,rfl⟩=>Ed p.d p.os) ?_;refine dF ?_)|go_big_quiet_step (fail)));refine wpQuiet_nil ?_;refine hK _ _ ?_;clear hK K);(refine vK fun K hK=>?_;simp only[jM,jO])
 go_wp2_with (go_at_call 35;(with_reducible refine(DZ.out _ bel).mono ?_);rintro e w2 ⟨xa,xc,xn,AV,rfl,oX,hb2⟩)
 have hb3:=jA hb2;refine dS hb3 (hK _ _ ?_);clear hK K;(refine vO ?_);(refine wE ?_;refine m_ ?_);(clear x0 x1 x2 x3 x4 x5 x6 x7 x8 x9 x10 x11 x12 dh xf xl);(clear y0 y1 y2 y3 y4 yf yl);clear rC rE Ed DZ;have hYs:=be.size;replace oB:=oB.below hb3 aA;have row:=oB.ss;have room:s*4+4≤(gC Sz.cells l).length:=by rw[oZ xP];omega
 have hT:cO.opn z.S=S1:=by rw[GN.out];exact tq.out.symm
 rw[hT]at AV oX⊢
 go_upto_region 20 with(refine yO rfl 107 _ _ rfl (off:=s*4) #[.bool S1.op,.bool S1.dr,.slice xa xn xc,.bool S1.gb] rfl rfl row room 4 rfl Et rfl ?_;intro W4 h4 z4;(have H4:=ax h4;clear h4 z4))
 have e4:W4=jy w2 N (s*4) (Sz.cells ⟨S1,xa,xc⟩):=by rw[H4.out];simp only[Sz.cells,AV.out]
 have gr:=gm N (Sz.cells ⟨S1,xa,xc⟩) w2 (s*4);rw[←e4]at gr;replace oX:=oX.mono (show w.heap.size≤Y.drew.heap.size from hYs);have AX:=oB.akj hsl (y:=⟨S1,xa,xc⟩) (by unfold yM;simp only;rw[←AV.out];exact oX) e4;have JJ:Hid ((l.set s ⟨S1,xa,xc⟩).map Sz.S=(ss.map Sz.S).set s S1):=ax (by rw[List.map_set,HS2.out]);refine aW (fun Y=>ah Y R 48 (c2.fK (some ⟨N,0,none⟩) m iJ)∧ah Y (R+1+1) 48 je∧ah Y (R+1+1+1) 52 #[.slice none 0 0,.slice none 0 0]∧ik Y w.heap.size ⟨c2,l.set s ⟨S1,xa,xc⟩,some ⟨N,0,none⟩,iJ⟩∧Below w.heap.size w Y)
  ⟨(kR.below hb3 kR.lt).aC (xa:=some ⟨N,0,none⟩) gr row ay,(kO.below hb3 kO.lt).aC (xa:=some ⟨N,0,none⟩) gr row ay,(kP.below hb3 kP.lt).aC (xa:=some ⟨N,0,none⟩) gr row ay,AX,(be.trans (hb3.mono hYs)).aC (xa:=some ⟨N,0,none⟩) gr row (dA hYs hb3.size) aA⟩ ?_
 clear kR Eg kE kO kP oB be row room gr e4 oX AX hb3 hb2 H4;rintro Y ⟨kR,kO,kP,oB,be⟩
 go_wp2_with (first|(refine gy kR l_ eP ?_)|(refine dw (c2.fK (some ⟨N,0,none⟩) m iJ) kO eP ?_;intro Wv kv gv zv;(have tC:=kP.aB gv aF))|(refine dw #[.slice none 0 0,.slice none 0 0] tC sH ?_;intro Wu ku gu zu))
 refine Pn 4 48 5 52 6 (v:= .bool false) results16 rfl rfl rfl (kv.aB gu aF) ku 14 2 rfl rfl l_ eP JQ sH rfl ?_;have Le:=((oB.aG gv kO ay ay).aG gu tC ay ay);have hbe:=((be.aB gv be.size bQ).aB gu (dA be.size gv.size) bQ);exact⟨⟨c2,l.set s ⟨S1,xa,xc⟩,some ⟨N,0,none⟩,iJ⟩,by simp only[Bx.val,iQ,nT.out],HK,JJ,Le,hbe⟩
theorem aom(b:Bx)(s:Nat)(A Bb:Int)(ba:az)(bb:aJ)(bn bc:Nat)(S1:cO)(w:ak)(hb:qI w b)(hs:s<b.ss.length)(hS1:S1=cO.rcv b.ss[s].S bb)(hbb:bI w ba bb)(hbn:bn=bb.length)(hbc:bn≤bc)(hbl:bn≤1000000)(h256:b.ss[s].S.buf.length≤256):
  aH 16 #[b.val,.agg (tH 3 s A Bb ba bn bc)] w (JH b.c.key ((b.ss.map Sz.S).set s S1) w):=by
 have Lh:=hb.it _ (bF hs);have h8:=Lh.small;have tq:=ax hS1;clear hS1;have HBN:=ax hbn;have HBC:=ax hbc;have HBL:=ax hbl;clear hbn hbc hbl;obtain⟨c,ss,sa,sc⟩:=b;have MH:=hb.n9;simp only at MH;have qE:=fun W hW=>Ue ⟨c,ss,sa,sc⟩ W (hb.below (B:=w.heap.size) (w':=W) hW aA);obtain⟨m,hm⟩:=aI ss.length;have hval:(Bx.val ⟨c,ss,sa,sc⟩)= .agg (c.fK sa m sc):=by simp only[Bx.val,hm]
 rw[hval]at qE⊢;have vT:=ax qE;have HM:=ax hm;clear qE hval
 go_enter func16,ntmps16
 go_upto_region 1 with fail
 obtain⟨R,hR⟩:=aI w.heap.size;refine aW (fun W=>ah W R 48 (c.fK sa m sc)∧ah W (R+1) 56 (tH 3 s A Bb ba bn bc)∧ah W (R+1+1) 48 je∧ah W (R+1+1+1) 52 #[.slice none 0 0,.slice none 0 0]∧Below w.heap.size w W) ⟨by rw[←hR];exact(((ah.new _ _ _).alloc _).alloc _).alloc _,by rw[←hR];exact((ah.dG _ _ _ _).alloc _).alloc _,by rw[←hR];exact(mr (ah.new _ _ _) aF).alloc _,by rw[←hR];exact mr (ah.new _ _ _) aF,bel⟩ ?_;have HR:=ax hR;have fQ:w.heap.size≤R:=by omega
 rw[hR];clear hR;rintro W ⟨kR,kE,kO,kP,be⟩;have be:Below w.heap.size w W:=by rw[HR.out];exact be
 go_upto_region 2 with(first|(refine gy kR l_ eP ?_)|(go_at_call 34;(with_reducible refine(vT.out W be).mono ?_);rintro e w1 ⟨⟨c2,l,n_,iJ⟩,rfl,HK,HS2,oB,hb1⟩;(have nH:=kR.below hb1 kR.lt))|(refine dw (c2.fK n_ l.length iJ) nH eP ?_;intro W2 kw gw zw))
 have hws:=be.size;have hll:l.length=m:=by have:=congrArg List.length HS2.out;simp only[g_]at this;omega
 refine aW (fun Y=>ah Y R 48 (c2.fK n_ m iJ)∧ah Y (R+1) 56 (tH 3 s A Bb ba bn bc)∧ah Y (R+1+1) 48 je∧ah Y (R+1+1+1) 52 #[.slice none 0 0,.slice none 0 0]∧ik Y w.heap.size ⟨c2,l,n_,iJ⟩∧Below w.heap.size w Y)
  ⟨by rw[←hll];exact kw,(kE.below hb1 kE.lt).aB gw aF,(kO.below hb1 kO.lt).aB gw cu,(kP.below hb1 kP.lt).aB gw cu,(oB.mono hws).aG gw nH ay ay,(be.trans (hb1.mono hws)).aB gw (dA hws hb1.size) bQ⟩ ?_
 have nT:=ax hll;clear kR kE kO kP be hb1 nH oB kw gw zw hws vT hll hm;rintro Y ⟨kR,kE,kO,kP,oB,be⟩;simp only at hs Lh h8⊢;have hsm:s<m:=by rw[←HM.out];exact hs
 have HHS:=ax hs;obtain⟨N,rfl,_,_⟩:=oB.ss.open_ UD;have s0:(0:Int)≤(s:Int):=by omega
 have sx:(s:Int)<(m:Int):=by omega
 have hsl:s<l.length:=by rw[nT.out];exact hsm
 obtain⟨z,hz⟩:=aI (l[s]);have Cm:z.S=ss[s].S:=by
  exact agj
 have hat:=(oB.it z (by rw[←hz];exact bF hsl)).at_ (by rw[Cm];exact h8);have DZ:Hid (∀V,Below Y.heap.size Y V→aH 37 #[.agg (Sz.cells z).toArray,.slice ba bn bc] V (Oa (cO.rcv z.S bb) V)):=ax (fun V hV=>aoQ z.S.op z.S.dr z.S.gb z.S.buf z.a z.S.buf.length z.c ba bb bn bc V (hat.below hV aA) (hbb.below (be.trans (hV.mono be.size)) aA) HBN.out (by rw[Cm];exact h256) HBC.out HBL.out);clear hbb;have Ed:=CW oB.ss.sl.row xP s hsl hz (oB.ss.lt' N rfl) 107 PI Et;have GN:=ax Cm;have axE:=ax hs;clear hat hz Cm Lh h8;have Eg:=kR;(obtain⟨x0,x1,x2,x3,x4,x5,x6,x7,x8,x9,x10,x11,x12,dh,xf,xl⟩:=Eg.n14);(obtain⟨y0,y1,y2,y3,y4,yf,yl⟩:=kE.n5);have rC:=fun d os o=>dC Y d os R o xl;have rE:=fun d os o=>dC Y d os (R+1) o yl
 go_upto_region 12 with fail
 (refine JM 14 [14] (.mM [(0,[]),(1,[]),(2,[]),(3,[]),(4,[]),(5,[]),(6,[]),(7,[]),(8,[]),(9,[]),(10,[]),(11,[])] (.op 12 (.mM [(13,[])] (.fin [])))) bP bP ?_);(refine JP fun K hK=>?_;refine m_ ?_;(repeat(first|(refine gI rfl 107 _ rfl _ _ rfl (fun|_,⟨p,rfl⟩=>Ed p.d p.os) ?_;refine dF ?_)|go_big_quiet_step (fail)));refine wpQuiet_nil ?_;refine hK _ _ ?_;clear hK K);(refine vK fun K hK=>?_;simp only[jM,jO])
 go_wp2_with (go_at_call 37;(with_reducible refine(DZ.out _ bel).mono ?_);rintro e w2 ⟨xa,xc,xn,AV,rfl,oX,hb2⟩)
 have hb3:=jA hb2;refine dS hb3 (hK _ _ ?_);clear hK K;(refine vO ?_);(refine wE ?_;refine m_ ?_);(clear x0 x1 x2 x3 x4 x5 x6 x7 x8 x9 x10 x11 x12 dh xf xl);(clear y0 y1 y2 y3 y4 yf yl);clear rC rE Ed DZ;have hYs:=be.size;replace oB:=oB.below hb3 aA;have row:=oB.ss;have room:s*4+4≤(gC Sz.cells l).length:=by rw[oZ xP];omega
 have hT:cO.rcv z.S bb=S1:=by rw[GN.out];exact tq.out.symm
 rw[hT]at AV oX⊢
 go_upto_region 20 with(refine yO rfl 107 _ _ rfl (off:=s*4) #[.bool S1.op,.bool S1.dr,.slice xa xn xc,.bool S1.gb] rfl rfl row room 4 rfl Et rfl ?_;intro W4 h4 z4;(have H4:=ax h4;clear h4 z4))
 have e4:W4=jy w2 N (s*4) (Sz.cells ⟨S1,xa,xc⟩):=by rw[H4.out];simp only[Sz.cells,AV.out]
 have gr:=gm N (Sz.cells ⟨S1,xa,xc⟩) w2 (s*4);rw[←e4]at gr;replace oX:=oX.mono (show w.heap.size≤Y.drew.heap.size from hYs);have AX:=oB.akj hsl (y:=⟨S1,xa,xc⟩) (by unfold yM;simp only;rw[←AV.out];exact oX) e4;have JJ:Hid ((l.set s ⟨S1,xa,xc⟩).map Sz.S=(ss.map Sz.S).set s S1):=ax (by rw[List.map_set,HS2.out]);refine aW (fun Y=>ah Y R 48 (c2.fK (some ⟨N,0,none⟩) m iJ)∧ah Y (R+1+1) 48 je∧ah Y (R+1+1+1) 52 #[.slice none 0 0,.slice none 0 0]∧ik Y w.heap.size ⟨c2,l.set s ⟨S1,xa,xc⟩,some ⟨N,0,none⟩,iJ⟩∧Below w.heap.size w Y)
  ⟨(kR.below hb3 kR.lt).aC (xa:=some ⟨N,0,none⟩) gr row ay,(kO.below hb3 kO.lt).aC (xa:=some ⟨N,0,none⟩) gr row ay,(kP.below hb3 kP.lt).aC (xa:=some ⟨N,0,none⟩) gr row ay,AX,(be.trans (hb3.mono hYs)).aC (xa:=some ⟨N,0,none⟩) gr row (dA hYs hb3.size) aA⟩ ?_
 clear kR Eg kE kO kP oB be row room gr e4 oX AX hb3 hb2 H4;rintro Y ⟨kR,kO,kP,oB,be⟩
 go_wp2_with (first|(refine gy kR l_ eP ?_)|(refine dw (c2.fK (some ⟨N,0,none⟩) m iJ) kO eP ?_;intro Wv kv gv zv;(have tC:=kP.aB gv aF))|(refine dw #[.slice none 0 0,.slice none 0 0] tC sH ?_;intro Wu ku gu zu))
 refine Pn 4 48 5 52 6 (v:= .bool false) results16 rfl rfl rfl (kv.aB gu aF) ku 14 2 rfl rfl l_ eP JQ sH rfl ?_;have Le:=((oB.aG gv kO ay ay).aG gu tC ay ay);have hbe:=((be.aB gv be.size bQ).aB gu (dA be.size gv.size) bQ);exact⟨⟨c2,l.set s ⟨S1,xa,xc⟩,some ⟨N,0,none⟩,iJ⟩,by simp only[Bx.val,iQ,nT.out],HK,JJ,Le,hbe⟩
theorem aon(b:Bx)(s j p:Nat)(js:List Jx)(gs:List Ax)(nd n:Nat)(ba:az)(bn bc:Nat)(w:ak)(hb:qI w b)(hs:s<b.ss.length)(hrf:b.c.ref=false)(hcf:rM w b.c.cf js gs)(hnd:b.c.ds.length=nd)(hgd:gs.length=nd)(hn:js.length=n)(l1:b.c.ss.length=n)(l2:b.c.vs.length=n)(l3:b.c.st.length=n)(l4:b.c.ws.length=n)(hj:j<js.length)(hp:p<js[j].ps.length):
  aH 16 #[b.val,.agg (tH 5 s j p ba bn bc)] w (JH ⟨b.c.cf,false,b.c.now,b.c.key.ds,b.c.key.ss,b.c.key.vs,b.c.st.set j p,b.c.key.ws⟩ (b.ss.map Sz.S) w):=by
 have QZ:=hb.c.sm;have HH:=ax (And.intro hrf (And.intro hcf (And.intro hnd (And.intro hgd (And.intro hn (And.intro l1 (And.intro l2 (And.intro l3 l4))))))));clear hrf hcf hnd hgd hn l1 l2 l3 l4;obtain⟨c,ss,sa,sc⟩:=b;have MH:=hb.n9;simp only at MH;have qE:=fun W hW=>Ue ⟨c,ss,sa,sc⟩ W (hb.below (B:=w.heap.size) (w':=W) hW aA);obtain⟨m,hm⟩:=aI ss.length;have hval:(Bx.val ⟨c,ss,sa,sc⟩)= .agg (c.fK sa m sc):=by simp only[Bx.val,hm]
 rw[hval]at qE⊢;have vT:=ax qE;have HM:=ax hm;clear qE hval
 go_enter func16,ntmps16
 go_upto_region 1 with fail
 obtain⟨R,hR⟩:=aI w.heap.size;refine aW (fun W=>ah W R 48 (c.fK sa m sc)∧ah W (R+1) 56 (tH 5 s j p ba bn bc)∧ah W (R+1+1) 48 je∧ah W (R+1+1+1) 52 #[.slice none 0 0,.slice none 0 0]∧Below w.heap.size w W) ⟨by rw[←hR];exact(((ah.new _ _ _).alloc _).alloc _).alloc _,by rw[←hR];exact((ah.dG _ _ _ _).alloc _).alloc _,by rw[←hR];exact(mr (ah.new _ _ _) aF).alloc _,by rw[←hR];exact mr (ah.new _ _ _) aF,bel⟩ ?_;have HR:=ax hR;have fQ:w.heap.size≤R:=by omega
 rw[hR];clear hR;rintro W ⟨kR,kE,kO,kP,be⟩;have be:Below w.heap.size w W:=by rw[HR.out];exact be
 go_upto_region 2 with(first|(refine gy kR l_ eP ?_)|(go_at_call 34;(with_reducible refine(vT.out W be).mono ?_);rintro e w1 ⟨⟨c2,l,n_,iJ⟩,rfl,HK,HS2,oB,hb1⟩;(have nH:=kR.below hb1 kR.lt))|(refine dw (c2.fK n_ l.length iJ) nH eP ?_;intro W2 kw gw zw))
 have hws:=be.size;have hll:l.length=m:=by have:=congrArg List.length HS2.out;simp only[g_]at this;omega
 refine aW (fun Y=>ah Y R 48 (c2.fK n_ m iJ)∧ah Y (R+1) 56 (tH 5 s j p ba bn bc)∧ah Y (R+1+1) 48 je∧ah Y (R+1+1+1) 52 #[.slice none 0 0,.slice none 0 0]∧ik Y w.heap.size ⟨c2,l,n_,iJ⟩∧Below w.heap.size w Y)
  ⟨by rw[←hll];exact kw,(kE.below hb1 kE.lt).aB gw aF,(kO.below hb1 kO.lt).aB gw cu,(kP.below hb1 kP.lt).aB gw cu,(oB.mono hws).aG gw nH ay ay,(be.trans (hb1.mono hws)).aB gw (dA hws hb1.size) bQ⟩ ?_
 have nT:=ax hll;clear kR kE kO kP be hb1 nH oB kw gw zw hws vT hll hm;rintro Y ⟨kR,kE,kO,kP,oB,be⟩
 try simp only at hs⊢
 have hsm:s<m:=by rw[←HM.out];exact hs
 obtain⟨N,rfl,_,_⟩:=oB.ss.open_ UD;have s0:(0:Int)≤(s:Int):=by omega
 have sx:(s:Int)<(m:Int):=by omega
 have hh:=HH.out
 try simp only at hh
 have hk:=HK.out;have hG:=oB.c.g (by simp only;rw[hk];exact QZ);have ecf:c2.cf=c.cf:=congrArg dJ.cf hk;have est:c2.st=c.st:=congrArg dJ.st hk;have hSt:Hid (aH 39 #[.agg #[.slice c2.cf.ja c2.cf.jn c2.cf.jc,.slice c2.cf.ga c2.cf.gn c2.cf.gc,ae c2.cf.per,ae c2.cf.cap,ae c2.cf.hold,ae c2.cf.lock,.bool c2.ref,ae c2.now,.slice c2.da c2.ds.length c2.dc,.slice c2.sa c2.ss.length c2.sc,.slice c2.va c2.vs.length c2.vc,.slice c2.ta c2.st.length c2.tc,.slice c2.wa c2.ws.length c2.wc],ae j,ae p] Y (QB ⟨c.cf,false,c.now,c.key.ds,c.key.ss,c.key.vs,c.st.set j p,c.key.ws⟩ Y)):=ax (by
  have e1:c2.key.ds=c.key.ds:=congrArg dJ.ds hk;have e2:c2.key.ss=c.key.ss:=congrArg dJ.ss hk;have e3:c2.key.vs=c.key.vs:=congrArg dJ.vs hk;have e4:c2.key.ws=c.key.ws:=congrArg dJ.ws hk;have axF:c2.now=c.now:=congrArg dJ.now hk;obtain⟨hrf,hcf,hnd,hgd,hn,l1,l2,l3,l4⟩:=hh;have q:=aqr c2 js gs nd n j p Y hG ((congrArg dJ.ref hk).trans hrf) (by rw[ecf];exact hcf.below be aA) (by have:=congrArg List.length e1;simp only[Cx.key,g_]at this;omega) hgd hn (by have:=congrArg List.length e2;simp only[Cx.key,g_]at this;omega) (by have:=congrArg List.length e3;simp only[Cx.key,g_]at this;omega) (by rw[est];exact l3) (by have:=congrArg List.length e4;simp only[Cx.key,g_]at this;omega) hj hp;rw[ecf,axF,e1,e2,e3,e4,est]at q;exact q)
 clear hG ecf est hk hh QZ;have Eg:=kR;(obtain⟨x0,x1,x2,x3,x4,x5,x6,x7,x8,x9,x10,x11,x12,dh,xf,xl⟩:=Eg.n14);(obtain⟨y0,y1,y2,y3,y4,yf,yl⟩:=kE.n5)
 go_upto_region 20 with(first|(refine U7 rfl 45 _ rfl R 0 48 _ [.slice c2.cf.ja c2.cf.jn c2.cf.jc,.slice c2.cf.ga c2.cf.gn c2.cf.gc,ae c2.cf.per,ae c2.cf.cap,ae c2.cf.hold,ae c2.cf.lock,.bool c2.ref,ae c2.now,.slice c2.da c2.ds.length c2.dc,.slice c2.sa c2.ss.length c2.sc,.slice c2.va c2.vs.length c2.vc,.slice c2.ta c2.st.length c2.tc,.slice c2.wa c2.ws.length c2.wc] rfl kR rfl vG nK ?_)|(go_at_call 39;(with_reducible refine(hSt.out).mono ?_);rintro e w2 ⟨c3,rfl,hk3,oC,hb2⟩;((clear x0 x1 x2 x3 x4 x5 x6 x7 x8 x9 x10 x11 x12 dh xf xl);(clear y0 y1 y2 y3 y4 yf yl);have j_:=kR.below hb2 kR.lt))|(refine P8 rfl 45 _ _ rfl R 0 48 (c2.fK (some ⟨N,0,none⟩) m iJ).toList #[.slice c3.cf.ja c3.cf.jn c3.cf.jc,.slice c3.cf.ga c3.cf.gn c3.cf.gc,ae c3.cf.per,ae c3.cf.cap,ae c3.cf.hold,ae c3.cf.lock,.bool c3.ref,ae c3.now,.slice c3.da c3.ds.length c3.dc,.slice c3.sa c3.ss.length c3.sc,.slice c3.va c3.vs.length c3.vc,.slice c3.ta c3.st.length c3.tc,.slice c3.wa c3.ws.length c3.wc] rfl rfl j_ (by exact(by decide:13≤14)) nK rfl ?_;intro W8 k8 g8 z8))
 have Tn:ah W8 R 48 (c3.fK (some ⟨N,0,none⟩) m iJ):=k8;have hYs:=be.size;refine aW (fun Y=>ah Y R 48 (c3.fK (some ⟨N,0,none⟩) m iJ)∧ah Y (R+1+1) 48 je∧ah Y (R+1+1+1) 52 #[.slice none 0 0,.slice none 0 0]∧ik Y w.heap.size ⟨c3,l,some ⟨N,0,none⟩,iJ⟩∧Below w.heap.size w Y)
  ⟨Tn,(kO.below hb2 kO.lt).aB g8 cu,(kP.below hb2 kP.lt).aB g8 cu,⟨(oC.mono hYs).aG g8 j_ ay,(oB.ss.below hb2 aA).aG g8 j_ ay,fun s hs=>Own.aG (Own.below (oB.it s hs) hb2 aA) g8 j_ ay⟩,(be.trans (hb2.mono hYs)).aB g8 (dA hYs hb2.size) bQ⟩ ?_
 clear kR Eg kE kO kP oB be k8 Tn j_ g8 z8 oC hb2 hYs hSt;rintro Y ⟨kR,kO,kP,oB,be⟩
 go_wp2_with (first|(refine gy kR l_ eP ?_)|(refine dw (c3.fK (some ⟨N,0,none⟩) m iJ) kO eP ?_;intro Wv kv gv zv;(have tC:=kP.aB gv aF))|(refine dw #[.slice none 0 0,.slice none 0 0] tC sH ?_;intro Wu ku gu zu))
 refine Pn 4 48 5 52 6 (v:= .bool false) results16 rfl rfl rfl (kv.aB gu aF) ku 14 2 rfl rfl l_ eP JQ sH rfl ?_;have Le:=((oB.aG gv kO ay ay).aG gu tC ay ay);have hbe:=((be.aB gv be.size bQ).aB gu (dA be.size gv.size) bQ);exact⟨⟨c3,l,some ⟨N,0,none⟩,iJ⟩,by simp only[Bx.val,nT.out],hk3,HS2,Le,hbe⟩
theorem aoR(b:Bx)(s:Nat)(A Bb:Int)(ba:az)(bn bc:Nat)(K:dJ)(Sa:List (List aU))(Fd:List aU)(w:ak)(hb:qI w b)(hs:s<b.ss.length)(Tj:(∀l∈Sa,(∀m∈l,uB m)∧l.length≤1000)∧Sa.length≤900)(Hq:(∀m∈Fd,uB m)∧Fd.length≤1000)
  (hMT: ∀(W:ak) (c:Cx) (ins:List Ix) (ia:az) (ic:Nat),Below w.heap.size w W→xU W c→Hid (c.key=b.c.key)→Sl W 160 2 ia ins.length ic (gC Ix.cells ins)→(∀x∈ins,AP W x)→Hid (ins.length=b.ss.length∧∀j (h:j<ins.length) (h0:j<(b.ss.map Sz.S).length),VP (b.ss.map Sz.S)[j] ins[j])→
   aH 73 #[c.val,.slice ia ins.length ic] W (QG K Sa Fd W)):
  aH 16 #[b.val,.agg (tH 6 s A Bb ba bn bc)] w (JI K ((b.ss.map Sz.S).map cO.dG) Sa Fd w):=by
 have QZ:=hb.c.sm;have hit0:=hb.it;have HMT:=ax hMT;clear hMT;obtain⟨c,ss,sa,sc⟩:=b;have MH:=hb.n9;simp only at MH;have qE:=fun W hW=>Ue ⟨c,ss,sa,sc⟩ W (hb.below (B:=w.heap.size) (w':=W) hW aA);obtain⟨m,hm⟩:=aI ss.length;have hval:(Bx.val ⟨c,ss,sa,sc⟩)= .agg (c.fK sa m sc):=by simp only[Bx.val,hm]
 rw[hval]at qE⊢;have vT:=ax qE;have HM:=ax hm;clear qE hval
 go_enter func16,ntmps16
 go_upto_region 1 with fail
 obtain⟨R,hR⟩:=aI w.heap.size;refine aW (fun W=>ah W R 48 (c.fK sa m sc)∧ah W (R+1) 56 (tH 6 s A Bb ba bn bc)∧ah W (R+1+1) 48 je∧ah W (R+1+1+1) 52 #[.slice none 0 0,.slice none 0 0]∧Below w.heap.size w W) ⟨by rw[←hR];exact(((ah.new _ _ _).alloc _).alloc _).alloc _,by rw[←hR];exact((ah.dG _ _ _ _).alloc _).alloc _,by rw[←hR];exact(mr (ah.new _ _ _) aF).alloc _,by rw[←hR];exact mr (ah.new _ _ _) aF,bel⟩ ?_;have HR:=ax hR;have fQ:w.heap.size≤R:=by omega
 rw[hR];clear hR;rintro W ⟨kR,kE,kO,kP,be⟩;have be:Below w.heap.size w W:=by rw[HR.out];exact be
 go_upto_region 2 with(first|(refine gy kR l_ eP ?_)|(go_at_call 34;(with_reducible refine(vT.out W be).mono ?_);rintro e w1 ⟨⟨c2,l,n_,iJ⟩,rfl,HK,HS2,oB,hb1⟩;(have nH:=kR.below hb1 kR.lt))|(refine dw (c2.fK n_ l.length iJ) nH eP ?_;intro W2 kw gw zw))
 have hws:=be.size;have hll:l.length=m:=by have:=congrArg List.length HS2.out;simp only[g_]at this;omega
 refine aW (fun Y=>ah Y R 48 (c2.fK n_ m iJ)∧ah Y (R+1) 56 (tH 6 s A Bb ba bn bc)∧ah Y (R+1+1) 48 je∧ah Y (R+1+1+1) 52 #[.slice none 0 0,.slice none 0 0]∧ik Y w.heap.size ⟨c2,l,n_,iJ⟩∧Below w.heap.size w Y)
  ⟨by rw[←hll];exact kw,(kE.below hb1 kE.lt).aB gw aF,(kO.below hb1 kO.lt).aB gw cu,(kP.below hb1 kP.lt).aB gw cu,(oB.mono hws).aG gw nH ay ay,(be.trans (hb1.mono hws)).aB gw (dA hws hb1.size) bQ⟩ ?_
 have nT:=ax hll;clear kR kE kO kP be hb1 nH oB kw gw zw hws vT hll hm;rintro Y ⟨kR,kE,kO,kP,oB,be⟩
 try simp only at hs⊢
 have hsm:s<m:=by rw[←HM.out];exact hs
 obtain⟨N,rfl,_,_⟩:=oB.ss.open_ UD;have s0:(0:Int)≤(s:Int):=by omega
 have sx:(s:Int)<(m:Int):=by omega
 have hMT:=HMT.out
 try simp only at hit0 hMT
 have hk:=HK.out;have tu:Hid (aH 40 #[.agg (c2.fK (some ⟨N,0,none⟩) m iJ)] Y (BtO K ((ss.map Sz.S).map cO.dG) Sa Fd w.heap.size Y)):=ax (by
  have hl2:(ss.map Sz.S).length=m:=by rw[g_];exact HM.out
  have q:=aqp ⟨c2,l,some ⟨N,0,none⟩,iJ⟩ w.heap.size (ss.map Sz.S) K Sa Fd Y oB be.size HS2.out (by rw[hl2];have:=HM.out;omega) (fun s0 h0=>by
   obtain⟨z,hz,rfl⟩:=List.mem_map.1 h0;exact(hit0 z hz).small) (by simp only;rw[hk];exact QZ) Tj Hq (fun W c ins ia ic hW hc hkc hsl hig hix=>hMT W c ins ia ic (be.trans hW) hc (ax (hkc.out.trans hk)) hsl hig (ax ⟨by have:=hix.out.1;rw[g_]at this;exact this,hix.out.2⟩))
  simp only[Bx.val,nT.out]at q;exact q)
 clear hMT Tj Hq hit0 QZ hk;have Eg:=kR;(obtain⟨x0,x1,x2,x3,x4,x5,x6,x7,x8,x9,x10,x11,x12,dh,xf,xl⟩:=Eg.n14);(obtain⟨y0,y1,y2,y3,y4,yf,yl⟩:=kE.n5)
 go_upto_region 19 with(first|(refine gy kR l_ eP ?_)|(go_at_call 40;(with_reducible refine(tu.out).mono ?_);rintro e w2 ⟨⟨c3,lb,sb,sd⟩,outs,oa,oc,fd,rfl,hk3,hs3,FX,ho3,oR,oI,hf3,oF,hb2,hkp⟩;((clear x0 x1 x2 x3 x4 x5 x6 x7 x8 x9 x10 x11 x12 dh xf xl);(clear y0 y1 y2 y3 y4 yf yl);have k80:=(ah.new w2 48 je).alloc (.cells #[.slice none 0 0,.slice none 0 0] 52)))|(refine dw (c3.fK sb lb.length sd) k80 eP ?_;intro W6 k6 g6 z6;(have k90:=(ah.dG w2 (.cells je 48) 52 #[.slice none 0 0,.slice none 0 0]).aB g6 aF))|(refine dw #[.slice oa outs.length oc,.slice fd.a fd.b.length fd.c] k90 sH ?_;intro W7 k7 g7 z7))
 have hYs:=be.size;have iT:=hb2.size;have bA:Below w2.heap.size w2 ((w2.alloc (.cells je 48)).alloc (.cells #[.slice none 0 0,.slice none 0 0] 52)):=bel;have b7:Below w2.heap.size w2 W7:=((bA.aB g6 cu bQ)).aB g7 (by have:=g6.size;simp at this;omega) bQ;have kX6:=k6.aB g7 aF;obtain⟨X,hX⟩:=aI w2.heap.size;have h3:=hkp _ _ _ kO ay ay;have h4:=hkp _ _ _ kP ay ay;have hRX:R+1+1+1<w2.heap.size:=h4.lt;refine aW (fun Z=>ah Z X 48 (c3.fK sb lb.length sd)∧ah Z (X+1) 52 #[.slice oa outs.length oc,.slice fd.a fd.b.length fd.c]∧ah Z (R+1+1) 48 je∧ah Z (R+1+1+1) 52 #[.slice none 0 0,.slice none 0 0]∧ik Z w.heap.size ⟨c3,lb,sb,sd⟩∧Own Z w.heap.size 30 1 oa outs.length oc (gC Dw.cells outs)∧(∀o∈outs,Cj Z w.heap.size o)∧Cj Z w.heap.size fd∧Below w.heap.size w Z)
  ⟨by rw[←hX];exact kX6,by rw[←hX];exact k7,h3.below b7 h3.lt,h4.below b7 h4.lt,FX.below b7 aA,(oR.below b7 aA).mono hYs,fun o ho=>Own.mono (Own.below (oI o ho) b7 aA) hYs,Own.mono (Own.below oF b7 aA) hYs,(be.trans hb2).trans (b7.mono (dA hYs iT))⟩ ?_
 rw[hX]at hRX⊢;clear kR Eg kE kO kP oB be kX6 k6 k7 g6 g7 z6 z7 bA b7 h3 h4 FX oR oI oF hb2 hkp tu hX k80 hYs iT;rintro Y ⟨kX,kX1,kO,kP,FX,oR,oI,oF,be⟩;have FT:=kX.drewN 1;have Td:=kX1.drewN 1;have vC:=kO.drewN 1;have kPd:=kP.drewN 1;have bd:Below Y.heap.size Y Y.drew:=bel
 try refine dF ?_
 haveI:Nonempty (Jb (Wl X (X+1) (c3.fK sb lb.length sd) #[.slice oa outs.length oc,.slice fd.a fd.b.length fd.c])):=⟨⟨Y,kX,kX1⟩⟩
 refine A7 3 [([0,1],2)] [] bP bP (fun w'=> ∃p:Jb (Wl X (X+1) (c3.fK sb lb.length sd) #[.slice oa outs.length oc,.slice fd.a fd.b.length fd.c]),w'=p.w) ⟨⟨Y.drew,FT,Td⟩,rfl⟩ ?_;simp only[dV,mF,oH,jM,jO,EI,EJ];refine lS fun K hK=>?_
 repeat(first|(refine gI rfl 48 _ rfl _ _ rfl (fun|_,⟨p,rfl⟩=>wC p.h.1 48 l_ eP) ?_;refine dF ?_)|(refine gI rfl 52 _ rfl _ _ rfl (fun|_,⟨p,rfl⟩=>wC p.h.2 52 JQ sH) ?_;refine dF ?_)|go_big_quiet_step (fail))
 refine wpQuiet_nil ?_
 go_wp2_with (refine dw (c3.fK sb lb.length sd) vC eP ?_;intro Wv kv gv zv)
 refine qJ ⟨⟨Wv,FT.aB gv cu,Td.aB gv cu⟩,rfl⟩ (hK _ _ ?_);clear hK K;refine yR ?_;refine wpQuiet_nil ?_;have tC:=kPd.aB gv aF
 go_wp2_with (refine dw #[.slice oa outs.length oc,.slice fd.a fd.b.length fd.c] tC sH ?_;intro Wu ku gu zu)
 have hdz:=bd.size;refine Pn 4 48 5 52 6 (v:= .bool true) results16 rfl rfl rfl (kv.aB gu aF) ku 14 2 rfl rfl l_ eP JQ sH rfl ?_;refine⟨⟨c3,lb,sb,sd⟩,outs,oa,oc,fd,rfl,hk3,hs3,(((FX.below bd aA).aG gv vC ay ay).aG gu tC ay ay),ho3,((oR.below bd aA).aG gv vC ay).aG gu tC ay,fun o ho=>Own.aG (Own.aG (Own.below (oI o ho) bd aA) gv vC ay) gu tC ay,hf3,Own.aG (Own.aG (Own.below oF bd aA) gv vC ay) gu tC ay,((be.trans (bd.mono be.size)).aB gv (dA be.size hdz) bQ).aB gu (dA (dA be.size hdz) gv.size) bQ⟩
structure Ev where
 k:Int
 s:Int
 a:Int
 b:Int
 dL:aJ
 ba:az
 bc:Nat
def Ev.cells(e:Ev):aP:= [ae e.k,ae e.s,ae e.a,ae e.b,.slice e.ba e.dL.length e.bc]
theorem aiu(x:Ev):(Ev.cells x).length=5:=rfl
theorem aBD(x:Ev): ∀u∈Ev.cells x,u.oneCell'=true:=by intro u hu;simp only[Ev.cells,List.mem_cons,o_,or_false]at hu;rcases hu with rfl|rfl|rfl|rfl|rfl<;>rfl
def O9(w:ak)(e:Ev):Prop:=Sl w 5 1 e.ba e.dL.length e.bc (e.dL.map a_)
theorem O9.below{e:Ev}(h:O9 w e)(hb:Below B w w')(hB:w.heap.size≤B):O9 w' e:=Sl.below h hb hB
structure Ox where
 l:List Dw
 a:az
 c:Nat
 fd:Dw
def Ox.cells(o:Ox):aP:= [.slice o.a o.l.length o.c,.slice o.fd.a o.fd.b.length o.fd.c]
theorem aiv(x:Ox):(Ox.cells x).length=2:=rfl
theorem auX(x:Ox): ∀u∈Ox.cells x,u.oneCell'=true:=by intro u hu;simp only[Ox.cells,List.mem_cons,o_,or_false]at hu;rcases hu with rfl|rfl<;>rfl
abbrev Lm:=List (aJ) × aJ
def Ox.key(o:Ox):Lm:=(o.l.map Dw.b,o.fd.b)
structure xE(w:ak)(B:Nat)(o:Ox):Prop where
 row:Own w B 30 1 o.a o.l.length o.c (gC Dw.cells o.l)
 it: ∀d∈o.l,Cj w B d
 fd:Cj w B o.fd
section
variable{w w':ak}{B B':Nat}{o:Ox}
theorem xE.below{C:Nat}(h:xE w C o)(hb:Below B w w')(hB:w.heap.size≤B):xE w' C o:=⟨h.row.below hb hB,fun d hd=>Own.below (h.it d hd) hb hB,Own.below h.fd hb hB⟩
theorem xE.mono(h:xE w B o)(hB:B'≤B):xE w B' o:=⟨h.row.mono hB,fun d hd=>Own.mono (h.it d hd) hB,Own.mono h.fd hB⟩
theorem xE.aG{g:Nat}{cs:aZ}(h:xE w B o)(hg:w.grownBy w' (some g))(k:ah w g t cs)(h1:30≠t)(h2:5≠t):xE w' B o:=⟨h.row.aG hg k h1,fun d hd=>Own.aG (h.it d hd) hg k h2,Own.aG h.fd hg k h2⟩
theorem xE.aC(h:xE w B o)(hg:w.grownBy w' (xa.map (·.block)))(x:Own w B' t sz' xa n' c' ys)(h1:30≠t)(h2:5≠t):xE w' B o:=⟨h.row.aC hg x h1,fun d hd=>Own.aC (h.it d hd) hg x h2,Own.aC h.fd hg x h2⟩
theorem ik.aC{b:Bx}(h:ik w B b)(hg:w.grownBy w' (xa.map (·.block)))(x:Own w B' t sz' xa n' c' ys)(hne:t ∉ KG)(h1:t≠107):ik w' B b:=
 ⟨h.c.aC hg x hne,h.ss.aC hg x h1.symm,fun s hs=>(h.it s hs).aC hg x (fun e=>hne (e▸by decide))⟩
end
def DoX(K:dJ)(S:List cO)(o:Option Lm)(w:ak)(e:Ending)(w':ak):Prop:=
 ∃(b:Bx) (x:Ox),e= .returned (.tuple #[b.val,.agg (Ox.cells x).toArray,.bool o.isSome])∧Hid (b.c.key=K)∧Hid (b.ss.map Sz.S=S)∧ik w' w.heap.size b∧xE w' w.heap.size x∧Hid (∀k,o=some k→x.key=k)∧Below w.heap.size w w'
theorem JH.x{S:List cO}{e:Ending}(h:JH K S w e w'):DoX K S none w e w':=by
 obtain⟨b,rfl,h1,h2,h3,h4⟩:=h;exact⟨b,⟨[],none,0,[],none,0⟩,rfl,h1,h2,h3,⟨Own.nil _ _ _ _,by simp,Own.nil _ _ _ _⟩,ax aF,h4⟩
theorem JI.x{S:List cO}{Sa:List (List aU)}{Fd:List aU}{e:Ending}(h:JI K S Sa Fd w e w'):DoX K S (some (Sa.map h_,h_ Fd)) w e w':=by
 obtain⟨b,outs,oa,oc,fd,rfl,h1,h2,h3,h4,h5,h6,h7,h8,h9⟩:=h;exact⟨b,⟨outs,oa,oc,fd⟩,rfl,h1,h2,h3,⟨h5,h6,h8⟩,ax (by rintro k hk;injection hk with hk;rw[←hk];simp only[Ox.key,h4.out,h7.out]),h9⟩
structure Q8(K:dJ)(S:List cO):Prop where
 sm:K.Small
 n8:S.length≤8
 b9: ∀s∈S,s.buf.length≤1000000
theorem ik.gK{b:Bx}{S:List cO}(h:ik w B b)(hK:b.c.key=K)(hS:b.ss.map Sz.S=S)(ok:Q8 K S):qI w b:=by
 subst hK hS;exact h.g ok.sm (by have:=ok.n8;simpa using this) fun s hs=>ok.b9 _ (List.mem_map.2 ⟨s,hs,rfl⟩)
def axK(l:List Lm)(w:ak)(e:Ending)(w':ak):Prop:= ∃(outs:List Ox) (a:az) (c:Nat),e= .returned (.slice a outs.length c)∧Own w' w.heap.size 52 2 a outs.length c (gC Ox.cells outs)∧(∀o∈outs,xE w' w.heap.size o)∧Hid (outs.map Ox.key=l)∧Below w.heap.size w w'
theorem agm:(prog.underlying 56).map TypeDesc.isRow=some true:=by kernel_rfl
theorem aqv:(prog.underlying 52).map TypeDesc.isRow=some true:=by kernel_rfl
theorem aeQ:(prog.info? 52).map (·.size)=some 2:=by kernel_rfl
theorem aqw:(prog.info? 52).map (fun i=>(i.zero.isSome,i.zero.map (fun z=>z.cells.size),i.size,i.bytes))=some (true,some 2,2,48):=by kernel_rfl
@[reducible] def Bx.cs(b:Bx):aZ:=b.c.fK b.sa b.ss.length b.sc
structure TE(w:ak)(Bk:Nat)(KS:Nat→dJ × List cO)(O:Nat→Option Lm)(i:Nat)(b:Bx)(outs:List Ox)(a:az)(c:Nat)(wr:ak):Prop where
 kB:ah wr Bk 48 b.cs
 bL:ik wr w.heap.size b
 key:b.c.key=(KS i).1
 qX:b.ss.map Sz.S=(KS i).2
 row:Own wr w.heap.size 52 2 a outs.length c (gC Ox.cells outs)
 it: ∀o∈outs,xE wr w.heap.size o
 okey:outs.map Ox.key=(List.range i).filterMap O
 be:Below w.heap.size w wr
theorem aeF{α β:Type}(f:α→Option β): ∀l:List α,(l.filterMap f).length≤l.length
 |[]=>by simp
 |x::l=>by
  have:=aeF f l;rw[List.filterMap_cons]
  split<;>simp<;>omega
theorem TE.below{Bk:Nat}{KS:Nat→dJ × List cO}{O:Nat→Option Lm}{b:Bx}{outs:List Ox}{wr:ak}(h:TE w Bk KS O i b outs a c wr)(hb:Below wr.heap.size wr W):TE w Bk KS O i b outs a c W:=
 ⟨h.kB.below hb h.kB.lt,h.bL.below hb aA,h.key,h.qX,h.row.below hb aA,fun o ho=>(h.it o ho).below hb aA,h.okey,h.be.trans (hb.mono h.be.size)⟩
theorem ara(cf:Cf)(evs:List Ev)(ea:az)(ec:Nat)(KS:Nat→dJ × List cO)(O:Nat→Option Lm)(w:ak)(he:Sl w 56 5 ea evs.length ec (gC Ev.cells evs))(hei: ∀e∈evs,O9 w e)(hn:evs.length≤400)
  (hNew: ∀W,Below w.heap.size w W→aH 15 #[cf.val] W (XO (KS 0).1 (KS 0).2 W)) (hok: ∀i,i<evs.length→Q8 (KS i).1 (KS i).2)
  (TF: ∀i (h:i<evs.length) (W:ak) (b:Bx),qI W b→b.c.key=(KS i).1→b.ss.map Sz.S=(KS i).2→Below w.heap.size w W→O9 W evs[i]→aH 16 #[b.val,.agg (Ev.cells evs[i]).toArray] W (DoX (KS (i+1)).1 (KS (i+1)).2 (O i) W)):
  aH 23 #[cf.val,.slice ea evs.length ec] w (axK ((List.range evs.length).filterMap O) w):=by
 obtain⟨n,hnn⟩:=aI evs.length;have HN:=ax hnn;have abo:=ax hNew;have jQ:=ax hok;have HDO:=ax TF;rw[hnn]at he hn⊢;clear hnn hNew hok TF;have hcap:=he.cap
 go_enter func23,ntmps23
 go_upto_region 1 with fail
 obtain⟨R,hR⟩:=aI w.heap.size;refine aW (fun W=>ah W R 28 (gJ cf.ja cf.jn cf.jc cf.ga cf.gn cf.gc cf.per cf.cap cf.hold cf.lock)∧Below w.heap.size w W) ⟨by rw[←hR];exact ah.new _ _ _,bel⟩ ?_;have HR:=ax hR;rw[hR];clear hR;rintro W ⟨kR,be⟩;have be:Below w.heap.size w W:=by rw[HR.out];exact be
 go_upto_region 2 with(first|(refine gy kR Px JO ?_)|(go_at_call 15;(with_reducible refine(abo.out _ be).mono ?_);rintro e w1 ⟨b0,rfl,TG,yG,oB,hb1⟩)|(refine dw b0.cs (ah.new _ _ _) eP ?_;intro W2 kw gw zw))
 have hws:=be.size;have bA:Below w1.heap.size w1 (w1.alloc (.cells je 48)):=bel;have kB0:ah (w1.alloc (.cells je 48)) w1.heap.size 48 je:=ah.new _ _ _;have hI:TE w w1.heap.size KS O 0 b0 [] none 0 W2:=⟨kw,((oB.mono hws).below bA aA).aG gw kB0 ay ay,TG.out,yG.out,Own.nil _ _ _ _,by simp,by simp,((be.trans (hb1.mono hws)).trans (bA.mono (by have:=hb1.size;omega))).aB gw (by have:=hb1.size;simp;omega) (fun k hk=>by injection hk with hk;have:=hb1.size;omega)⟩;have hBw:w.heap.size≤w1.heap.size:=by have:=hb1.size;omega
 obtain⟨Bk,TI⟩:=aI w1.heap.size;rw[TI]at hI hBw⊢;clear kR be hb1 kw gw zw hws bA kB0 oB TG yG TI;have hmin:min (n:Int) 400=n:=by omega
 go_wp2_with fail
 go_loopw [6,20] (fun s6 s20 wr=> ∃(i:Nat) (b:Bx) (outs:List Ox) (a:az) (c:Nat),s20=ae i∧i≤n∧s6= .slice a outs.length c∧TE w Bk KS O i b outs a c wr) (fun _ s20 _=>n -(intOf s20).toNat)
 case atStart=>exact⟨0,b0,[],none,0,rfl,by omega,rfl,hI⟩
 case round=>
  clear hI;obtain⟨i,b,outs,a,c,rfl,hi,rfl,hI⟩:=hrel;by_cases hlt:i<n
  ·have ix:(i:Int)<(n:Int):=by omega
   have hE:=he.below hI.be aA;obtain⟨eb,eo,rfl,elt⟩:=hE.open_ aj;have him:i<evs.length:=by rw[HN.out];exact hlt
   obtain⟨z,hz⟩:=aI (evs[i]);have hzG:O9 w z:=hei z Zk
   go_upto_region 6 with(first|(refine Ig rfl 56 _ rfl hE.row aiu i him hz rfl agm Ym ?_)|(refine dw (Ev.cells z).toArray (ah.new _ _ _) Ym ?_;intro W2 kT gw zw))
   have bT:Below wr.heap.size wr W2:=((Below.refl _ wr).alloc aA _).aB gw aF bQ;replace hI:=hI.below bT;have hG:=hI.bL.gK hI.key hI.qX (jQ.out i him);have HD:=ax (HDO.out i him W2 b hG hI.key hI.qX hI.be (by rw[hz];exact hzG.below hI.be aA));rw[hz]at HD;have HZ:=ax hz;obtain⟨T,hT⟩:=aI wr.heap.size;rw[hT]at kT⊢;clear bT gw zw hT hE elt hG hzG hz;have kB:=hI.kB
   go_upto_region 7 with(first|(refine gy kB l_ eP ?_)|(refine gy kT agm Ym ?_)|(go_at_call 16;(with_reducible refine(HD.out).mono ?_);rintro e w4 ⟨b4,x4,rfl,JJ,Tc,AX,yI,HX4,hb4⟩)|(refine xM rfl 48 _ _ rfl w4.heap.size je b4.cs rfl rfl ((ah.new _ _ _).alloc _) 14 rfl rfl eP rfl ?_;intro W5 k5 g5 z5)|(refine xM rfl 52 _ _ rfl (w4.heap.size+1) #[.slice none 0 0,.slice none 0 0] (Ox.cells x4).toArray rfl rfl ((ah.dG _ _ _ _).aB g5 aF) 2 rfl rfl aeQ rfl ?_;intro W6 k6 g6 z6))
   have iT:=hI.be.size;have Ej:=hb4.size;have k9:ah ((w4.alloc (.cells je 48)).alloc (.cells #[.slice none 0 0,.slice none 0 0] 52)) w4.heap.size 48 je:=(ah.new _ _ _).alloc _;have k10:ah W5 (w4.heap.size+1) 52 #[.slice none 0 0,.slice none 0 0]:=(ah.dG _ _ _ _).aB g5 aF;have bA:Below w4.heap.size w4 W6:=((((Below.refl _ w4).alloc aA _).alloc aF _).aB g5 cu bQ).aB g6 (by rw[z5];simp;omega) bQ;have bA0:Below w4.heap.size w4 ((w4.alloc (.cells je 48)).alloc (.cells #[.slice none 0 0,.slice none 0 0] 52)):=bel;have MJ:=hI.below (hb4.trans (bA.mono Ej));have oB6:=((((AX.mono iT).below bA0 aA).aG g5 k9 ay ay).aG g6 k10 ay ay);have oX6:=((((yI.mono iT).below bA0 aA).aG g5 k9 ay ay).aG g6 k10 ay ay);have k9':ah W6 w4.heap.size 48 b4.cs:=k5.aB g6 aF;have abt:=k6;have z6':W6.heap.size=w4.heap.size+2:=by rw[z6,z5];simp
   obtain⟨N,hN⟩:=aI w4.heap.size;rw[hN]at k9' abt z6'⊢;have hBN:Bk<N:=by rw[←hN];exact jL hI.kB.lt Ej
   have XW:=MJ.be.size;have Hy:=MJ.kB;clear kB hI kT k9 k10 bA bA0 AX yI hb4 iT Ej k5 g5 z5 k6 g6 z6 hN
   go_upto_region 8 with(first|(refine gy k9' l_ eP ?_)|(refine dw b4.cs Hy eP ?_;intro W7 k7 g7 z7))
   have bL7:=oB6.aG g7 Hy ay ay;have x7:=oX6.aG g7 Hy ay ay;have k10:=abt.aB g7 cu;have abu:=MJ.row.aG g7 Hy ay;have it7:=fun o ho=>(MJ.it o ho).aG g7 Hy ay ay;have sQ:Below w.heap.size w W7:=MJ.be.aB g7 XW bQ;have abv:=MJ.okey;clear oB6 oX6 abt k9' MJ Hy g7 z7;rcases hO:O i with _|q
   ·have e0:(none:Option Lm).isSome=false:=rfl;rw[e0]
    go_wp2_with fail
    go_roundw
    case rel=>exact⟨i+1,b4,outs,a,c,by go_num,by omega,rfl,⟨k7,bL7,JJ.out,Tc.out,abu,it7,by rw[abv,List.range_succ,List.filterMap_append];simp[hO],sQ⟩⟩
    case measure=>simp[intOf];omega
   ·have e0:(some q).isSome=true:=rfl;rw[e0];have hx4:=HX4.out q hO;have h9:outs.length≤100000:=by
     have:=aeF O (List.range i);rw[←abv]at this;simp at this;omega
    have HQ:=ax hO;clear hO e0;have m2:=aiv x4
    go_wp2_with (first|(refine gy k10 aqv aeQ ?_)|(at_builtin;refine zV rfl (.tmp 33) (.tmp 35) 74 52 2 48 rfl underlying74 aqw ay ay w.heap.size a outs.length c _ rfl (abu.alloc _) W7.heap.size (Ox.cells x4) rfl (ah.new _ _ _) (aiv _) (auX _) h9 (by have:=sQ.size;simp;omega) ?_;intro A' c' W8 oA gA))
    go_roundw
    case rel=>
     rw[show gC Ox.cells outs++Ox.cells x4=gC Ox.cells (outs++ [x4])by rw[yS];simp[gC]]at oA;have b8:Below W7.heap.size W7 (W7.alloc (.cells (Ox.cells x4).toArray 52)):=bel;have r8:=abu.alloc (.cells (Ox.cells x4).toArray 52);have z7:=sQ.size;refine⟨i+1,b4,outs++ [x4],A',c',by go_num,by omega,by simp,⟨(k7.alloc _).aC gA.1 r8 ay,(bL7.below b8 aA).aC gA.1 r8 ay ay,JJ.out,Tc.out,by simpa using oA,fun o ho=>?_,?_,(sQ.trans (b8.mono z7)).aC gA.1 r8 cu aA⟩⟩
     ·rcases lW.1 ho with ho|ho
      ·exact((it7 o ho).below b8 aA).aC gA.1 r8 ay ay
      ·rw[dU.1 ho];exact(x7.below b8 aA).aC gA.1 r8 ay ay
     ·rw[jg,abv,List.range_succ,List.filterMap_append];simp[HQ.out,hx4]
    case measure=>simp[intOf];omega
  ·obtain rfl:i=n:=by omega
   go_wp2_with fail
   go_ret;exact⟨outs,a,c,rfl,hI.row,hI.it,ax hI.okey,hI.be⟩
theorem auZ{m n:aU}(hm:m.Ok)(hn:n.Ok)(hk:m.kind=n.kind)(hp:m.pay=n.pay):m=n:=by
 obtain⟨s,hs⟩:=aI (cZ m.kind);obtain⟨-, -,a1, -,l,m2,r,a2,a3,a4⟩:=ZQ hm hs;obtain⟨-, -,b1, -,l',n2,r',b2,b3,b4⟩:=ZQ hn (hk▸hs);rw[hp]at a1 a3;have ht:m.tok=n.tok:=a1.symm.trans b1;rw[a3]at b3;injection b3 with b3
 injection b3 with b3 b3'
 subst b3 b3';have key:m2=n2∧m.dat=n.dat:=by
  rcases a4 with⟨g0,rfl,rfl⟩|⟨g0,x, -, -, -,x1,x2⟩
  ·rcases b4 with⟨_,rfl,h⟩|⟨g1,_⟩
   ·exact⟨rfl,h⟩
   ·omega
  ·rcases b4 with⟨g1,_⟩|⟨_,y, -, -, -,y1,y2⟩
   ·omega
   ·rw[x1]at y1;injection y1 with y1
    injection y1 with y1 y1'
    injection y1 with y1 _
    subst y1;rw[y1',y2]at x2;injection x2 with x2
    injection x2 with x2 x2'
    exact⟨x2.symm,x2'.symm⟩
 obtain⟨k,tok,args,dat⟩:=m;obtain⟨k',aCa,args',aCb⟩:=n;simp only at hk ht a2 b2 key;rw[hk,ht,a2,b2,key.1,key.2]
def Aa(b:aJ)(D:Bool)(ks:List Key):Prop:=ks.length≤b.length∧∀(m:aJ) (L:Nat),(b++m).length<L→pJ L (b++m) ⟨0,false,[]⟩=pJ L (b++m) ⟨b.length,D,ks⟩
theorem Aa.start:Aa [] false []:=⟨by simp,fun _ _ _=>rfl⟩
theorem Aa.step{b:aJ}{D:Bool}{ks:List Key}(h:Aa b D ks){s:aJ}{r:PR}(hr: ∀m,iC (s++m)=r)(ho:r.ok=true)(hs:r.size=s.length)(h1:1≤s.length):
  Aa (b++s) (t_ ⟨b.length,D,ks⟩ r).qP (t_ ⟨b.length,D,ks⟩ r).keys:=by
 refine⟨?_,fun m L hL=>?_⟩
 ·have:=h.1;rw[dP];rcases Zc ⟨b.length,D,ks⟩ r with e|e<;>rw[e]
  ·simp only;omega
  ·simp;omega
 ·have q:=h.2 (s++m) L (by rw[←uM];exact hL);rw[←uM]at q;rw[q];have e:(b++s++m).drop b.length=s++m:=by rw[uM,List.drop_left]
  have hp:iC ((b++s++m).drop b.length)=r:=by rw[e,hr]
  rw[Vl (st:=⟨b.length,D,ks⟩) ⟨by have:=h.1;simp only;rw[dP,dP]at hL;omega,by simp only;rw[hp];exact ho⟩];simp only[hp];have hu:=Zb ⟨b.length,D,ks⟩ r;generalize t_ ⟨b.length,D,ks⟩ r=q at hu⊢;obtain⟨u,g,kk⟩:=q;simp only at hu;rw[hu,hs,dP]
theorem Aa.frame{b:aJ}{D:Bool}{ks:List Key}(h:Aa b D ks){k:Int}{p:aJ}(k1:1≤k)(k2:k≤22)(hp:p.length≤200):Aa (b++fG k p) false (ks++ [(0,k,p)]):=by
 have:=h.step (s:=fG k p) (r:=⟨0,k,p,p.length+10,true⟩) (fun m=>agN m k1 k2 hp) rfl (Dc k p).symm (by rw[Dc];omega);rw[ais (b:=false) aF aF]at this;exact this
theorem Aa.done{b:aJ}{D:Bool}{ks:List Key}(h:Aa b D ks):QX b=ks:=by
 have:=h.2 [] (b.length+1) aF;rw[iK]at this;unfold QX;rw[this,F9 (fun q=>by have:=q.2;simp only at this;rw[List.drop_eq_nil_of_le aA,ZJ rfl]at this;cases this)]
theorem VS.mx{m:aU}{ta:az}{tc:Nat}{aa:az}{ac:Nat}{da:az}{dc:Nat}(h:VS w B m ta tc aa ac da dc):iI w B ⟨m,ta,tc,aa,ac,da,dc⟩:=⟨h.tok,h.args,h.dat⟩
def axU(m:aU)(w:ak)(e:Ending)(w':ak):Prop:= ∃x:Mx,e= .returned (.tuple #[.agg (Mx.cells x).toArray,ae 0])∧Hid (x.m=m)∧iI w' w.heap.size x∧Below w.heap.size w w'
theorem agx{m:aU}(hok:m.Ok){k:Int}{p:aJ}(hk:k=m.kind)(hp:p=m.pay)(w:ak)(h:Sl w 5 1 a p.length c (p.map a_)):
  aH 46 #[ae k,.slice a p.length c] w (axU m w):=by
 subst hk hp;refine(ard m.kind a m.pay m.pay.length c w h.row rfl h.cap h.nil0).mono fun e w' h=>?_;rcases h with⟨⟨m',h1,h2,h3,v,he,ta,tc,aa,ac,da,dc,hv,how,hat⟩|⟨_,_,h,_⟩|⟨h,_⟩,hb⟩
 ·have:=auZ h1 hok h2 h3;subst this;exact⟨⟨m',ta,tc,aa,ac,da,dc⟩,by rw[he,hv];rfl,ax rfl,how.mx,hb⟩
 ·exact absurd rfl (h m hok rfl)
 ·have:=hok.kind;omega
theorem aqy(ms:List aU)(h: ∀m∈ms,m.Ok):QX (h_ ms)=ms.map fun m=>(0,m.kind,m.pay):=by
 have key: ∀(l b:List aU),(∀m∈b++l,m.Ok)→Aa (h_ b) false (b.map fun m=>(0,m.kind,m.pay))→Aa (h_ (b++l)) false ((b++l).map fun m=>(0,m.kind,m.pay)):=by
  intro l
  induction l with
  |nil=>intro b _ h;simpa using h
  |cons m l ih=>
   intro b hb h;have hm:=hb m aF;have:=ih (b++ [m]) (by simpa using hb) (by
    rw[aeP,jg];exact h.frame hm.kind.1 hm.kind.2 hm.EO)
   simpa using this
 exact(key ms [] oq Aa.start).done
def axV(l:aJ)(w:ak)(e:Ending)(w':ak):Prop:=
 ∃(its:List It) (xa:az) (xc:Nat),e= .returned (.slice xa its.length xc)∧Hid (its.map It.key=QX l)∧Sl w' 128 3 xa its.length xc (gC It.cells its)∧(∀x∈its,Sl w' 5 1 x.a x.pay.length x.c (x.pay.map a_))∧Below w.heap.size w w'
theorem aqz(a:az)(l:aJ)(n c:Nat)(w:ak)(hb:bI w a l)(hn:n=l.length)(hcap:l.length≤c)(hl:l.length≤1000000000)(hnil:a=none→l.length=0∧c=0):
  aH 45 #[.slice a n c] w (axV l w):=by
 subst hn
 go_enter func45,ntmps45
 go_wp2_with (first|(go_at_call 79;(with_reducible refine(atB a l c false _ hb hcap hl hnil (l.length+1) (rD _)).mono ?_);rintro e w1 ⟨st,its,xa,xc,ra,rc,hst,rfl,hk,own,pays, -,hb1⟩))
 go_ret;exact⟨its,xa,xc,rfl,ax (by rw[hk,QX,hst.out]),own.sl.alloc _,fun x hx=>(pays x hx).sl.alloc _,bel⟩
def awG(l:List aU)(w:ak)(e:Ending)(w':ak):Prop:= ∃(ms:List Mx) (a:az) (c:Nat),e= .returned (.tuple #[.slice a ms.length c,.bool true])∧Hid (ms.map Mx.m=l)∧Own w' w.heap.size 36 4 a ms.length c (gC Mx.cells ms)∧(∀x∈ms,iI w' w.heap.size x)∧Below w.heap.size w w'
theorem apu{x:Mx}(h:iI w B x)(hok:x.m.Ok):aH 47 #[.agg #[ae x.m.kind,.slice x.ta x.m.tok.length x.tc,.slice x.aa x.m.args.length x.ac,.slice x.da x.m.dat.length x.dc]] w fun e w'=>e= .returned (.bool true)∧Below w.heap.size w w':=by
 refine(agw x.m x.ta x.tc x.aa x.da x.ac x.dc w (h.QD hok.lens) rfl rfl rfl).mono ?_;rintro e w' ⟨⟨_,rfl⟩|⟨hn,_⟩,hb⟩
 ·exact⟨rfl,hb⟩
 ·exact absurd hok hn
theorem agy:(prog.underlying 128).map TypeDesc.isRow=some true:=by kernel_rfl
theorem Yn:(prog.info? 128).map (·.size)=some 3:=by kernel_rfl
theorem atG(l:List aU)(bs:aJ)(a:az)(n c:Nat)(w:ak)(hbs:Hid (bs=h_ l))(hn:n=bs.length)(h:Sl w 5 1 a n c (bs.map a_))(hok: ∀m∈l,m.Ok)(hl:l.length≤1000):
  aH 18 #[.slice a n c] w (awG l w):=by
 have hbd:=agR l hok;rw[←hbs.out]at hbd;have abG:=ax (aqy l hok);rw[←hbs.out]at abG;have hcap:=h.cap;have hrow:bI w a bs:=h.row;have hnil:=h.nil0;have HN:=ax hn;clear hn
 go_enter func18,ntmps18
 go_wp2_with (go_at_call 45;(with_reducible refine(aqz a bs n c _ hrow HN.out (by rw[←HN.out];exact hcap) aj (by rw[←HN.out];exact hnil)).mono ?_);rintro e w1 ⟨its,xa,xc,rfl,hk,hrw,hpay,hb1⟩)
 have hkey:its.map It.key=l.map fun m=>(0,m.kind,m.pay):=hk.out.trans abG.out;have hlen:its.length=l.length:=by have:=congrArg List.length hkey;simpa using this
 obtain⟨N,hN⟩:=aI its.length;have HNI:=ax hN;have HKEY:=ax hkey;have HLEN:=ax hlen;rw[hN]at hrw hlen⊢;have hN9:N≤1000:=by omega
 have OD:=ax hlen;clear hN hkey hk hlen abG
 go_loopw [4,12] (fun s4 s12 wr=> ∃(i:Nat) (ms:List Mx) (ma:az) (mc:Nat),s12=ae i∧i≤N∧s4= .slice ma ms.length mc∧Hid (ms.map Mx.m=l.take i)∧Own wr w1.heap.size 36 4 ma ms.length mc (gC Mx.cells ms)∧(∀x∈ms,iI wr w1.heap.size x)∧Below w1.heap.size w1 wr) (fun _ s12 _=>N -(intOf s12).toNat)
 case atStart=>exact⟨0,[],none,0,rfl,by omega,rfl,ax aF,Own.nil _ _ _ _,by simp,Below.refl _ _⟩
 case round=>
  obtain⟨i,ms,ma,mc,rfl,hi,rfl,hms,row,hml,be⟩:=hrel;by_cases hlt:i<N
  ·have ix:(i:Int)<(N:Int):=by omega
   have hrr:=hrw.below be aA;obtain⟨eb,eo,rfl,elt⟩:=hrr.open_ aj;have him:i<its.length:=by rw[HNI.out];exact hlt
   have hil:i<l.length:=by have:=OD.out;omega
   obtain⟨z,hz⟩:=aI (its[i]);obtain⟨m,hm⟩:=aI (l[i]);have hmo:m.Ok:=hok m (by rw[←hm];exact bF hil);have Ju:z.key=(0,m.kind,m.pay):=by
    have e:=congrArg (fun l=>l[i]?) HKEY.out;simp only[List.getElem?_map,d_ him,d_ hil,Option.map_some,Option.some.injEq]at e;rw[hz,hm]at e;exact e
   have hzp:=(hpay z Zk).below be aA;obtain⟨zc,zk,zp,za,zcp⟩:=z;simp only[It.key,Prod.mk.injEq]at Ju;obtain⟨rfl,Ju,hzq⟩:=Ju;have HZK:=ax Ju;have HZQ:=ax hzq;simp only at hzp;clear Ju hzq
   go_upto_region 5 with(first|(refine Ig rfl 128 _ rfl hrr.row ail i him hz rfl agy Yn ?_)|(refine dw (It.cells ⟨0,zk,zp,za,zcp⟩).toArray (ah.new _ _ _) Yn ?_;intro W2 kT gw zw))
   have bT:Below wr.heap.size wr W2:=((Below.refl _ wr).alloc aA _).aB gw aF bQ;have HZ:=ax hz;replace hzp:=hzp.below bT aA;replace row:=row.below bT aA;replace hml:=fun x hx=>(hml x hx).below bT aA;replace be:=be.trans (bT.mono be.size);obtain⟨T,hT⟩:=aI wr.heap.size;rw[hT]at kT⊢;clear bT gw zw hT hrr elt hz;(obtain⟨x0,x1,x2,xf,xl⟩:=kT.n3)
   go_upto_region 6 with(first|(go_at_call 46;(with_reducible refine(agx hmo HZK.out HZQ.out _ hzp).mono ?_);rintro e w3 ⟨y,rfl,hy,oY,hb3⟩;(clear x0 x1 x2 xf xl);(replace kT:=kT.below hb3 kT.lt);(obtain⟨x0,x1,x2,xf,xl⟩:=kT.n3))|(refine dw (Mx.cells y).toArray (ah.new _ _ _) lZ ?_;intro W4 k7 g7 z7))
   (clear x0 x1 x2 xf xl);have bA:Below w3.heap.size w3 W4:=((Below.refl _ w3).alloc aA _).aB g7 aF bQ;have iT:=be.size;have BV:=hb3.size;have hb4:=hb3.trans (bA.mono BV);replace row:=row.below hb4 aA;replace hml:=fun x hx=>(hml x hx).below hb4 aA;replace be:=be.trans (hb4.mono iT);replace oY:=(oY.mono iT).below bA aA;replace kT:=kT.below bA kT.lt;have hyo:y.m.Ok:=by rw[hy.out];exact hmo
   obtain⟨Y,hY⟩:=aI w3.heap.size;rw[hY]at k7⊢;clear hb3 bA g7 z7 hY iT BV hb4 hzp;(obtain⟨x0,x1,x2,xf,xl⟩:=kT.n3);(obtain⟨y0,y1,y2,y3,yf,yl⟩:=k7.n4)
   go_upto_region 8 with((go_at_call 47;(with_reducible refine(apu oY hyo).mono ?_);rintro e w5 ⟨rfl,hb5⟩))
   (clear x0 x1 x2 xf xl);(clear y0 y1 y2 y3 yf yl);replace k7:=k7.below hb5 k7.lt;replace row:=row.below hb5 aA;replace hml:=fun x hx=>(hml x hx).below hb5 aA;replace be:=be.trans (hb5.mono be.size);replace oY:=oY.below hb5 aA;have m4:=Gg y;have axW:ms.length≤100000:=by
    have:=congrArg List.length hms.out;simp at this;omega
   have zz:w1.heap.size≤w5.heap.size:=be.size
   go_wp2_with (first|(refine gy k7 xK lZ ?_)|(at_builtin;refine zV rfl (.tmp 36) (.tmp 38) 58 36 4 80 rfl underlying58 Ut ay ay w1.heap.size ma ms.length mc _ rfl (row.alloc _) w5.heap.size (Mx.cells y) rfl (ah.new _ _ _) (Gg _) (Ve _) axW cu ?_;intro A' c' W8 oA gA))
   go_roundw
   case rel=>
    rw[show gC Mx.cells ms++Mx.cells y=gC Mx.cells (ms++ [y])by rw[yS];simp[gC]]at oA;have b8:Below w5.heap.size w5 (w5.alloc (.cells (Mx.cells y).toArray 36)):=bel;have r8:=row.alloc (.cells (Mx.cells y).toArray 36);refine⟨i+1,ms++ [y],A',c',by go_num,by omega,by simp,ax ?_,by simpa using oA,fun x hx=>?_,(be.trans (b8.mono be.size)).aC gA.1 r8 Na aA⟩
    ·rw[jg,hms.out,mF,hy.out,←hm,oH,List.take_succ_eq_append_getElem hil]
    ·rcases lW.1 hx with hx|hx
     ·exact((hml x hx).below b8 aA).aC gA.1 r8 ay ay
     ·rw[dU.1 hx];exact(oY.below b8 aA).aC gA.1 r8 ay ay
   case measure=>simp[intOf];omega
  ·obtain rfl:i=N:=by omega
   go_wp2_with fail
   refine bodyPost_ret (v:= .tuple #[.slice ma ms.length mc,.bool true]) (by simp[results,results18,go_sem]) rfl ?_;exact⟨ms,ma,mc,rfl,ax (by rw[hms.out,nM];have:=HLEN.out;have:=HNI.out;omega),row.mono hb1.size,fun x hx=>(hml x hx).mono hb1.size,hb1.trans (be.mono hb1.size)⟩
theorem anG{R:EN}{a:Act}{g:Nat}{cs ds:aZ}{v v':Value}(i:Nat)(T:aK)(j:Nat)(U:aK)(l k':Nat)(hres:fn.results= #[.cell i T,.cell j U,.tmp l,.tmp k'])(hp:a.tmps.getD i undef= .pointer (some ⟨g,0,none⟩))(hq:a.tmps.getD j undef= .pointer (some ⟨h,0,none⟩))(hl:a.tmps.getD l undef=v)(hl':a.tmps.getD k' undef=v')(k:ah w g T cs)(k2:ah w h U ds)
  (N M:Nat) (hn:cs.size=N) (hm:ds.size=M) (hu:(P.underlying T).map TypeDesc.isRow=some true) (hi:(P.info? T).map (·.size)=some N) (hu2:(P.underlying U).map TypeDesc.isRow=some true) (hi2:(P.info? U).map (·.size)=some M) (hd:a.defers= []) (hR:R (.returned (.tuple #[.agg cs,.agg ds,v,v'])) w):bodyPost P fn R .ret a w:=by
 refine bodyPost_ret (v:= .tuple #[.agg cs,.agg ds,v,v']) ?_ hd hR;have h1:=tJ k T N hn hu hi;have h2:=tJ k2 U M hm hu2 hi2;simp only[Array.getD_eq_getD_getElem?]at hp hq hl hl';simp[results,hres,hp,hq,hl,hl',h1,h2,asAddr,Sem.run_bind,Result.andThen]
@[reducible] def xH:aZ:= #[ae 0,.slice none 0 0,.slice none 0 0,.slice none 0 0]
theorem ahz(w:ak)(a b c d e:aZ)(ta tb tc td te:aK):
  ah (((((w.alloc (.cells a ta)).alloc (.cells b tb)).alloc (.cells c tc)).alloc (.cells d td)).alloc (.cells e te)) w.heap.size ta a∧ah (((((w.alloc (.cells a ta)).alloc (.cells b tb)).alloc (.cells c tc)).alloc (.cells d td)).alloc (.cells e te)) (w.heap.size+1) tb b∧
  ah (((((w.alloc (.cells a ta)).alloc (.cells b tb)).alloc (.cells c tc)).alloc (.cells d td)).alloc (.cells e te)) (w.heap.size+1+1) tc c∧ah (((((w.alloc (.cells a ta)).alloc (.cells b tb)).alloc (.cells c tc)).alloc (.cells d td)).alloc (.cells e te)) (w.heap.size+1+1+1) td d∧
  ah (((((w.alloc (.cells a ta)).alloc (.cells b tb)).alloc (.cells c tc)).alloc (.cells d td)).alloc (.cells e te)) (w.heap.size+1+1+1+1) te e∧Below w.heap.size w (((((w.alloc (.cells a ta)).alloc (.cells b tb)).alloc (.cells c tc)).alloc (.cells d td)).alloc (.cells e te)):=
 ⟨((((ah.new _ _ _).alloc _).alloc _).alloc _).alloc _,(((ah.dG _ _ _ _).alloc _).alloc _).alloc _,((mr (ah.new _ _ _) aF).alloc _).alloc _,(mr (ah.new _ _ _) aF).alloc _,mr (ah.new _ _ _) aF,bel⟩
def Kn2(a:Nat)(ta:aK)(ca:aZ)(b:Nat)(tb:aK)(cb:aZ)(w:ak):Prop:=ah w a ta ca∧ah w b tb cb
theorem arh{k:Int}{b:Bool}(h:xQ k=b)(w:ak):aH 199 #[ae k] w fun e w'=>e= .returned (.bool b)∧w=w':=by rw[←h];exact aow k w
@[reducible] def Rx.cs(r:Rx):aZ:= #[ae r.num,.slice r.sa r.sec.length r.sc,ae r.rt,ae r.cl,.slice r.la r.lim.length r.lc,ae r.rq,ae r.se,ae r.ra,ae r.bu,.slice r.ta r.tk.length r.tc,.slice r.va r.vh.length r.vc,ae r.lv,ae r.ra,ae r.bu]
def akn(K:dY)(M:aU)(r code:Int)(B:Nat)(w:ak)(e:Ending)(w':ak):Prop:=
 ∃(d:Dx) (x:Mx),e= .returned (.tuple #[.agg (Dx.cells d).toArray,.agg (Mx.cells x).toArray,ae r,ae code])∧Hid (d.key=K)∧Hid (x.m=M)∧dZ w' B d∧iI w' w.heap.size x∧Below w.heap.size w w'
theorem atH(k v:Int)(w:ak):aH 203 #[ae k,ae v] w (OL ⟨14,[],[k,v],[]⟩ w):=by
 go_enter func203,ntmps203
 go_wp2_with fail
 refine nJ 4 36 results203 rfl ((ah.new w 36 #[ae 14,.slice none 0 0,.slice (some ⟨w.heap.size+1,0,none⟩) 2 2,.slice none 0 0]).alloc _) 4 rfl xK lZ rfl ?_;exact⟨⟨⟨14,[],[k,v],[]⟩,none,0,some ⟨w.heap.size+1,0,none⟩,2,none,0⟩,rfl,ax rfl,⟨Own.nil _ _ _ _,(ah.dG w _ 3 (([k,v]:aO).map encI).toArray).I7 aj 2 rfl ay,Own.nil _ _ _ _⟩,bel⟩
theorem aeR{g:Option Nat}(h:w.grownBy w' g){p:Addr}(hl:p.block<w.heap.size)(hne:some p.block≠g):w'.cell? p=w.cell? p:=World.cell?_of_block (h.block p.block hl hne)
def ako(a:Nat)(ta:aK)(ca:aZ)(b:Nat)(tb:aK)(cb:aZ)(g o:Nat)(v:Value)(w:ak):Prop:=ah w a ta ca∧ah w b tb cb∧w.cell? ⟨g,o,none⟩=some v
theorem apx(cf:Cf)(d:Dx)(s now kd:Int)(pay:aJ)(pa:az)(pc:Nat)(w:ak)(B:Nat)(hD:dZ w B d)(hB:B≤w.heap.size)(j:Nat)(m:aU)(hm:m=⟨11,m.tok,[(j:Int)],[]⟩)(hok:m.Ok)(hkm:kd=m.kind)(hpy:pay=m.pay)(hp:Sl w 5 1 pa pay.length pc (pay.map a_))(hk:xQ kd=true)(hj:j<cf.jn)(K:wP)(slot:Int)
  (TN: ∀(W:ak) (x:Mx),Below w.heap.size w W→iI W w.heap.size x→Hid (x.m=m)→aH 200 #[d.r.val,.agg (Mx.cells x).toArray,ae now] W (aa5 K slot W)):
  aH 182 #[cf.val,.agg (Dx.cells d).toArray,ae s,.agg (It.cells ⟨0,kd,pay,pa,pc⟩).toArray,ae now] w (akn {d.key with r:=K} ⟨14,[],[11,j],[]⟩ j 0 B w):=by
 have HK:=ax hk;have HPY:=ax hpy;have HKM:=ax hkm;clear hk hpy hkm
 go_enter func182,ntmps182
 go_upto_region 1 with fail
 obtain⟨R,hR⟩:=aI w.heap.size;refine aW (fun W=>ah W R 28 (gJ cf.ja cf.jn cf.jc cf.ga cf.gn cf.gc cf.per cf.cap cf.hold cf.lock)∧ah W (R+1) 89 (Dx.cells d).toArray∧ah W (R+1+1) 128 (It.cells ⟨0,kd,pay,pa,pc⟩).toArray∧ah W (R+1+1+1) 89 qH∧ah W (R+1+1+1+1) 36 xH∧Below w.heap.size w W) (by rw[←hR];exact ahz w _ _ _ _ _ _ _ _ _ _) ?_;have HR:=ax hR;rw[hR];clear hR;rintro W ⟨kC,kD,kI,kZ,kM,be⟩;have be:Below w.heap.size w W:=by rw[HR.out];exact be
 have H9:=kI;(obtain⟨x0,x1,x2,xf,xl⟩:=H9.n3);have hpW:=hp.below be aA
 go_upto_region 8 with(first|(go_at_call 199;(with_reducible refine(arh HK.out _).mono ?_);rintro e wz ⟨rfl,rfl⟩)|(go_at_call 46;(with_reducible refine(agx hok HKM.out HPY.out _ hpW).mono ?_);rintro e w1 ⟨y,rfl,hy,oY,hb1⟩;(clear x0 x1 x2 xf xl))|(refine dw (Mx.cells y).toArray (ah.new _ _ _) lZ ?_;intro W1 kT gT zT))
 have bA:Below w1.heap.size w1 W1:=((Below.refl _ w1).alloc aA _).aB gT aF bQ;have hb2:=hb1.trans (bA.mono hb1.size);have hTR:R+1+1+1+1<w1.heap.size:=jL kM.lt hb1.size;have H_:=(oY.mono be.size).below bA aA;replace kC:=kC.below hb2 kC.lt;replace kD:=kD.below hb2 kD.lt;replace kI:=kI.below hb2 kI.lt;replace kZ:=kZ.below hb2 kZ.lt;replace kM:=kM.below hb2 kM.lt;replace be:=be.trans (hb2.mono be.size);obtain⟨T,hT⟩:=aI w1.heap.size;rw[hT]at kT hTR⊢;clear hb1 bA hb2 gT zT oY hT hpW H9;have akp:=ax (TN _ y be H_ hy);clear TN
 go_upto_region 9 with(first|(refine U7 rfl 85 _ rfl (R+1) 0 89 _ [ae d.r.num,.slice d.r.sa d.r.sec.length d.r.sc,ae d.r.rt,ae d.r.cl,.slice d.r.la d.r.lim.length d.r.lc,ae d.r.rq,ae d.r.se,ae d.r.ra,ae d.r.bu,.slice d.r.ta d.r.tk.length d.r.tc,.slice d.r.va d.r.vh.length d.r.vc,ae d.r.lv,ae d.r.ra,ae d.r.bu] rfl kD rfl FZ vF ?_)|(refine gy kT xK lZ ?_)|(go_at_call 200;(with_reducible refine(akp.out).mono ?_);rintro e w4 ⟨r,rfl,hrk,oR,hb4⟩)|(refine dw r.cs (ah.new _ _ _) vF ?_;intro W4 k4 g4 z4))
 have bA:Below w4.heap.size w4 W4:=((Below.refl _ w4).alloc aA _).aB g4 aF bQ;have hb5:=hb4.trans (bA.mono hb4.size);have Xa:T<w4.heap.size:=jL kT.lt hb4.size;have TP:=(oR.mono be.size).below bA aA;replace kC:=kC.below hb5 kC.lt;replace kD:=kD.below hb5 kD.lt;replace kZ:=kZ.below hb5 kZ.lt;replace kM:=kM.below hb5 kM.lt;replace kT:=kT.below hb5 kT.lt;replace H_:=H_.below hb5 aA;replace be:=be.trans (hb5.mono be.size);obtain⟨N,hN⟩:=aI w4.heap.size;rw[hN]at k4 Xa⊢;clear hb4 bA hb5 g4 z4 kI akp oR hN
 go_upto_region 12 with(first|(refine gy k4 FZ vF ?_)|(refine P8 rfl 85 _ _ rfl (R+1) 0 89 (Dx.cells d) r.cs rfl rfl kD (by exact(by decide:14≤17)) vF rfl ?_;intro W5 k5 g5 z5))
 have JL:ah W5 (R+1) 89 (Dx.cells {d with r:=r}).toArray:=k5;replace kC:=kC.aB g5 dm;replace kZ:=kZ.aB g5 dm;replace kM:=kM.aB g5 dm;replace kT:=kT.aB g5 dm;replace H_:=H_.aG g5 kD ay ay;have oR6:=TP.aG g5 kD ay;have jS:=be.aB g5 be.size CU;have Em:dZ W5 B {d with r:=r}:=by
  have oDw:=hD.below be aA;have Em:=oDw.aG g5 kD ay;exact⟨oR6.mono hB,Em.rs,Em.lg,Em.dr,Em.ds,Em.au⟩
 have hKr:({d with r:=r}:Dx).key={d.key with r:=K}:=by simp only[Dx.key,hrk.out]
 have HKR:=ax hKr;clear k5 g5 z5 kD be k4 TP hrk hKr;have hym:y.m=⟨11,m.tok,[(j:Int)],[]⟩:=hy.out.trans hm;have HM:=ax hm;clear hm;obtain⟨⟨yk,yt,ya,yd⟩,yta,ytc,yaa,yac,yda,ydc⟩:=y;simp only[aU.mk.injEq]at hym;obtain⟨rfl,rfl,rfl,rfl⟩:=hym;obtain⟨ag,rfl,ag1,X3⟩:=H_.args.open_ aF;have a0:W5.cell? ⟨ag,0,none⟩=some (ae j):=H_.args.cell 0 aF;have Cb:ah W5 T 36 #[ae 11,.slice yta m.tok.length ytc,.slice (some ⟨ag,0,none⟩) 1 yac,.slice yda 0 ydc]:=kT;have jx:(j:Int)<(cf.jn:Int):=by omega
 have kC5:=kC;(obtain⟨t0,t1,t2,t3,tf,tl⟩:=Cb.n4);(obtain⟨c0,c1,c2,c3,c4,c5,cf,cl⟩:=kC5.n6);have rT:=fun d os o=>dC W5 d os T o tl;have rA:=fun d os o=>dC W5 d os ag o X3;have rC:=fun d os o=>dC W5 d os R o cl
 go_upto_region 34 with fail
 (refine nI 7 [] [0,1,2,3,4,5,6] bP bP ?_;refine lu ?_);(refine lC ?_)
 go_upto_region 36 with fail
 (clear t0 t1 t2 t3 tf tl);(clear c0 c1 c2 c3 c4 c5 cf cl);clear rT rA rC
 ((haveI:Nonempty (wR (ako (R+1) 89 (Dx.cells {d with r:=r}).toArray T 36 #[ae 11,.slice yta m.tok.length ytc,.slice (some ⟨ag,0,none⟩) 1 yac,.slice yda 0 ydc] ag 0 (ae j))):=⟨⟨W5.drew,⟨JL,Cb,a0⟩⟩⟩);refine A7 14 [([0,1,2,3,4,5,6,8,9,10,11],7),([],12),([],13)] [] bP bP (fun w'=> ∃p:wR (ako (R+1) 89 (Dx.cells {d with r:=r}).toArray T 36 #[ae 11,.slice yta m.tok.length ytc,.slice (some ⟨ag,0,none⟩) 1 yac,.slice yda 0 ydc] ag 0 (ae j)),w'=p.w) ⟨⟨(W5.drew).drew,⟨JL,Cb,a0⟩⟩,rfl⟩ ?_;refine lu ?_)
 (refine lS fun K hK=>?_;(try refine dF ?_);(repeat(first|(refine gI rfl 89 _ rfl _ _ rfl (fun|_,⟨p,rfl⟩=>wC p.h.1 89 oh gZ) ?_;refine dF ?_)|(refine gI rfl 3 _ rfl _ _ rfl (fun|_,⟨p,rfl⟩=>ZO (p.h.2.1.cell 0)) ?_;refine dF ?_)|(refine gI rfl 22 _ rfl _ _ rfl (fun|_,⟨p,rfl⟩=>Vp (p.h.2.1.cell 2) underlying22) ?_;refine dF ?_)|(refine gI rfl 3 _ rfl _ _ rfl (fun|_,⟨p,rfl⟩=>ZO p.h.2.2) ?_;refine dF ?_)|go_big_quiet_step (fail)));refine wpQuiet_nil ?_)
 go_wp2_with (go_at_call 203;(with_reducible refine(atH 11 j _).mono ?_);rintro e w6 ⟨xr,rfl,hxr,oX,hb6⟩)
 have hb6:Below W5.heap.size W5 w6:=jA (jA hb6);have neZ:ag≠(R+1+1+1):=fun e=>by subst e;exact H_.args.iw kZ ay rfl
 have neM:ag≠(R+1+1+1+1):=fun e=>by subst e;exact H_.args.iw kM ay rfl
 replace JL:=JL.below hb6 JL.lt;replace Cb:=Cb.below hb6 Cb.lt;replace kZ:=kZ.below hb6 kZ.lt;replace kM:=kM.below hb6 kM.lt;replace a0:=(hb6.cell (p:=⟨ag,0,none⟩) X3).trans a0;replace jS:=jS.trans (hb6.mono jS.size);replace Em:=Em.below hb6 aA;replace oX:iI w6 W5.heap.size xr:=oX;have hws:=jS.size;refine qJ ⟨⟨w6,JL,Cb,a0⟩,rfl⟩ (hK _ _ ?_);clear hK K;(refine lS fun K hK=>?_;(try refine dF ?_);(repeat(first|go_big_quiet_step (fail)));refine wpQuiet_nil ?_)
 go_wp2_with (refine dw (Dx.cells {d with r:=r}).toArray kZ gZ ?_;intro W7 k7 g7 z7)
 have a7:W7.cell? ⟨ag,0,none⟩=some (ae j):=(aeR g7 (p:=⟨ag,0,none⟩) (jL X3 hb6.size) (by simpa using neZ)).trans a0;refine qJ ⟨⟨W7,JL.aB g7 dm,Cb.aB g7 dm,a7⟩,rfl⟩ (hK _ _ ?_);clear hK K;(refine lS fun K hK=>?_;(try refine dF ?_);(repeat(first|go_big_quiet_step (fail)));refine wpQuiet_nil ?_);have En:=kM.aB g7 dm
 go_wp2_with (refine dw (Mx.cells xr).toArray En lZ ?_;intro W8 k8 g8 z8)
 have a8:W8.cell? ⟨ag,0,none⟩=some (ae j):=(aeR g8 (p:=⟨ag,0,none⟩) (jL (jL X3 hb6.size) g7.size) (by simpa using neM)).trans a7;refine qJ ⟨⟨W8,(JL.aB g7 dm).aB g8 dm,(Cb.aB g7 dm).aB g8 dm,a8⟩,rfl⟩ (hK _ _ ?_);clear hK K;(refine yR ?_;(try refine dF ?_);(repeat(first|go_big_quiet_step (fail)));refine wpQuiet_nil ?_)
 go_wp2_with fail
 refine anG 10 89 11 36 12 13 results182 rfl rfl rfl rfl (k7.aB g8 dm) k8 17 4 rfl rfl oh gZ xK lZ rfl ?_;exact⟨_,xr,rfl,HKR,hxr,(Em.aG g7 kZ ay).aG g8 En ay,((oX.mono (by have:=HR.out;omega)).aG g7 kZ ay ay).aG g8 En ay ay,(jS.aB g7 jS.size CU).aB g8 (by rw[z7];exact jS.size) CU⟩
theorem ael{R:EN}{a:Act}{g q:Nat}{cs ds es:aZ}{v:Value}(i:Nat)(T:aK)(j:Nat)(U:aK)(m:Nat)(V:aK)(l:Nat)(hres:fn.results= #[.cell i T,.cell j U,.cell m V,.tmp l])(hp:a.tmps.getD i undef= .pointer (some ⟨g,0,none⟩))(hq:a.tmps.getD j undef= .pointer (some ⟨h,0,none⟩))(hr:a.tmps.getD m undef= .pointer (some ⟨q,0,none⟩))(hl:a.tmps.getD l undef=v)(k:ah w g T cs)(k2:ah w h U ds)(k3:ah w q V es)
  (N M O:Nat) (hn:cs.size=N) (hm:ds.size=M) (ho:es.size=O) (hu:(P.underlying T).map TypeDesc.isRow=some true) (hi:(P.info? T).map (·.size)=some N) (hu2:(P.underlying U).map TypeDesc.isRow=some true) (hi2:(P.info? U).map (·.size)=some M) (hu3:(P.underlying V).map TypeDesc.isRow=some true) (hi3:(P.info? V).map (·.size)=some O) (hd:a.defers= []) (hR:R (.returned (.tuple #[.agg cs,.agg ds,.agg es,v])) w):bodyPost P fn R .ret a w:=by
 refine bodyPost_ret (v:= .tuple #[.agg cs,.agg ds,.agg es,v]) ?_ hd hR;have h1:=tJ k T N hn hu hi;have h2:=tJ k2 U M hm hu2 hi2;have h3:=tJ k3 V O ho hu3 hi3;simp only[Array.getD_eq_getD_getElem?]at hp hq hr hl;simp[results,hres,hp,hq,hr,hl,h1,h2,h3,asAddr,Sem.run_bind,Result.andThen]
def enZ:aZ:= #[ae 0,ae 0,ae 0]
theorem aso(w:ak)(a b c d e f:aZ)(ta tb tc td te tf:aK):let W:=(((((w.alloc (.cells a ta)).alloc (.cells b tb)).alloc (.cells c tc)).alloc (.cells d td)).alloc (.cells e te)).alloc (.cells f tf)
  ah W w.heap.size ta a∧ah W (w.heap.size+1) tb b∧ah W (w.heap.size+1+1) tc c∧ah W (w.heap.size+1+1+1) td d∧ah W (w.heap.size+1+1+1+1) te e∧ah W (w.heap.size+1+1+1+1+1) tf f∧Below w.heap.size w W:=by
 obtain⟨h1,h2,h3,h4,h5,h6⟩:=ahz w a b c d e ta tb tc td te;exact⟨h1.alloc _,h2.alloc _,h3.alloc _,h4.alloc _,h5.alloc _,mr (ah.new _ _ _) aF,h6.alloc h6.size _⟩
def Pg(w:ak)(B R:Nat)(K:dY)(M:aU)(it:It)(d:Dx)(x:Mx)(X:Nat)(W:ak):Prop:=
 ah W (R+1) 89 (Dx.cells d).toArray∧ah W X 36 (Mx.cells x).toArray∧ah W (R+1+1) 128 (It.cells it).toArray∧ah W (R+1+1+1) 89 qH∧ah W (R+1+1+1+1) 36 xH∧ah W (R+1+1+1+1+1) 256 enZ∧Hid (d.key=K)∧Hid (x.m=M)∧dZ W B d∧iI W B x∧Below B w W∧R+1+1+1+1+1<X
def Kn3(a:Nat)(ta:aK)(ca:aZ)(b:Nat)(tb:aK)(cb:aZ)(c:Nat)(tc:aK)(cc:aZ)(w:ak):Prop:=ah w a ta ca∧ah w b tb cb∧ah w c tc cc
theorem Pg.fin{U V V2:ak}{R X:Nat}{K:dY}{M:aU}{it:It}{d d2:Dx}{x2:Mx}(hR:w.heap.size=R)(be:Below w.heap.size w W)(hb:Below W.heap.size W U)(kD:ah W (R+1) 89 (Dx.cells d).toArray)(kI:ah W (R+1+1) 128 (It.cells it).toArray)(kZ:ah W (R+1+1+1) 89 qH)(kM:ah W (R+1+1+1+1) 36 xH)(kE:ah W (R+1+1+1+1+1) 256 enZ)
  (hX:W.heap.size≤X) (kX:ah U X 36 xH) (oD:dZ U w.heap.size d2) (oX:iI U w.heap.size x2) (hk:Hid (d2.key=K)) (hx:Hid (x2.m=M)) (g7:U.grownBy V (some (R+1))) (k7:ah V (R+1) 89 (Dx.cells d2).toArray) (g8:V.grownBy V2 (some X)) (k8:ah V2 X 36 (Mx.cells x2).toArray):Pg w w.heap.size R K M it d2 x2 X V2:=by
 have e1:=kE.lt;have hU:=hb.size;have hV:=g7.size;have kDU:=kD.below hb kD.lt;have kXV:=kX.aB g7 dm;have ws:=be.size;refine⟨k7.aB g8 dm,k8,((kI.below hb kI.lt).aB g7 dm).aB g8 dm,((kZ.below hb kZ.lt).aB g7 dm).aB g8 dm,((kM.below hb kM.lt).aB g7 dm).aB g8 dm,((kE.below hb kE.lt).aB g7 dm).aB g8 dm,hk,hx,(oD.aG g7 kDU ay).aG g8 kXV ay,(oX.aG g7 kDU ay ay).aG g8 kXV ay ay,((be.trans (hb.mono ws)).aB g7 aj bQ).aB g8 aj bQ,by omega⟩
theorem aqA(cf:Cf)(d:Dx)(s now:Int)(it:It)(w:ak)(hG:pq w d)(K:dY)(M:aU)(r code:Int)
  (hH: ∀(W:ak) (d':Dx),Below w.heap.size w W→dZ W w.heap.size d'→Hid (d'.key=d.key)→aH 182 #[cf.val,.agg (Dx.cells d').toArray,ae s,.agg (It.cells it).toArray,ae now] W (akn K M r code w.heap.size W)):
  aH 161 #[cf.val,.agg (Dx.cells d).toArray,ae s,.agg (It.cells it).toArray,ae now] w (KY K (if code≠0 then⟨15,[],[it.kind,code],[]⟩else M) (K.r.num,it.kind,code) (if code≠0 then -1 else r) w):=by
 have HH:=ax hH;have HG:=ax hG;clear hH hG
 go_enter func161,ntmps161
 go_upto_region 1 with fail
 obtain⟨R,hR⟩:=aI w.heap.size;refine aW (fun W=>ah W R 28 (gJ cf.ja cf.jn cf.jc cf.ga cf.gn cf.gc cf.per cf.cap cf.hold cf.lock)∧ah W (R+1) 89 (Dx.cells d).toArray∧ah W (R+1+1) 128 (It.cells it).toArray∧ah W (R+1+1+1) 89 qH∧ah W (R+1+1+1+1) 36 xH∧ah W (R+1+1+1+1+1) 256 enZ∧Below w.heap.size w W) (by rw[←hR];exact aso w _ _ _ _ _ _ _ _ _ _ _ _) ?_;have HR:=ax hR;rw[hR];clear hR;rintro W ⟨kC,kD,kI,kZ,kM,kE,be⟩;have be:Below w.heap.size w W:=by rw[HR.out];exact be
 have Tf:=fun V (hV:Below W.heap.size W V)=>Ug (HG.out.below (be.trans (hV.mono be.size)) aA);have OG:=ax Tf;have Jw:=kC.IQ 28 Px JO;have ldD:=kD.IQ 89 oh gZ;have ldI:=kI.IQ 128 agy Yn;have hws:=be.size;have hRl:=kE.lt;clear Tf
 go_cut [14,15,16] (fun s14 s15 s16 wx=> ∃(X:Nat) (d2:Dx) (x2:Mx),s14= .pointer (some ⟨X,0,none⟩)∧s15=ae r∧s16=ae code∧Pg w w.heap.size R K M it d2 x2 X wx)
 case first=>
  (refine JM 13 [13,14] (.mM [(0,[]),(1,[]),(3,[]),(4,[]),(5,[])] (.fork 2 12 (.fork 6 12 (.mM [(7,[]),(8,[]),(9,[]),(10,[]),(11,[])] (.op 12 (.fin [14,15,16]))) (.op 6 (.mM [(7,[]),(8,[]),(9,[]),(10,[]),(11,[])] (.fin [14,15,16])))) (.op 2 (.op 6 (.mM [(7,[]),(8,[]),(9,[]),(10,[]),(11,[])] (.fin [14,15,16])))))) bP bP ?_);(refine JP fun K hK=>?_;refine m_ ?_;(repeat(first|(refine gI rfl 28 _ rfl _ _ rfl (fun|_,⟨p,rfl⟩=>Jw p.d p.os) ?_;refine dF ?_)|(refine gI rfl 89 _ rfl _ _ rfl (fun|_,⟨p,rfl⟩=>ldD p.d p.os) ?_;refine dF ?_)|(refine gI rfl 128 _ rfl _ _ rfl (fun|_,⟨p,rfl⟩=>ldI p.d p.os) ?_;refine dF ?_)|go_big_quiet_step (fail)));refine wpQuiet_nil ?_;refine hK _ _ ?_;clear hK K);(refine Np (fun K hK=>?_) (fun K hK=>?_)<;>simp only[jM,jO])
  ·go_wp2_with (go_at_call 96;(with_reducible refine(OG.out _ bel).mono ?_);rintro e w2 ⟨d1,rfl,hk1,oD1,hb2⟩)
   have hb3:=jA hb2;have be2:=be.trans (hb3.mono hws);have Ho:dZ w2 w.heap.size d1:=oD1.mono hws;refine dS hb3 (hK _ _ ?_);clear hK K;(refine Np (fun K hK=>?_) (fun K hK=>?_)<;>simp only[jM,jO])
   ·go_wp2_with (go_at_call 182;(with_reducible refine(HH.out _ d1 be2 Ho hk1).mono ?_);rintro e w3 ⟨d2,x2,rfl,hk2,hx2,He,xq,hb4⟩)
    have Ej:=hb3.size;have hb5:=hb3.trans (hb4.mono Ej);refine dS hb5 (hK _ _ ?_);clear hK K;(refine vO ?_);(refine vK fun K hK=>?_;simp only[jM,jO])
    go_wp2_with fail
    have bA:Below w3.heap.size w3 (w3.alloc (.cells xH 36)):=(Below.refl _ _).alloc aA _;have kX:ah (w3.alloc (.cells xH 36)) w3.heap.size 36 xH:=ah.new _ _ _;have hb6:=hb5.trans (bA.mono hb5.size);refine dS hb6 (hK _ _ ?_);clear hK K;(refine wE ?_;refine m_ ?_);have TQ:=kD.below hb6 kD.lt
    go_wp2_with (first|(refine dw (Dx.cells d2).toArray TQ gZ ?_;intro W7 k7 g7 z7)|(refine dw (Mx.cells x2).toArray (kX.aB g7 (by have:=hb5.size;simp;omega)) lZ ?_;intro W8 k8 g8 z8))
    go_meet
    exact⟨w3.heap.size,d2,x2,rfl,rfl,rfl,Pg.fin HR.out be hb6 kD kI kZ kM kE hb5.size kX (He.below bA aA) ((xq.mono be2.size).below bA aA) hk2 hx2 g7 k7 g8 k8⟩
   ·go_wp2_with fail
    have bA:Below w2.heap.size w2 (w2.alloc (.cells xH 36)):=(Below.refl _ _).alloc aA _;have kX:ah (w2.alloc (.cells xH 36)) w2.heap.size 36 xH:=ah.new _ _ _;have hb5:=hb3.trans (bA.mono hb3.size);refine dS hb5 (hK _ _ ?_);clear hK K;(refine vK fun K hK=>?_;simp only[jM,jO]);have jS:=be2.trans (bA.mono be2.size);have Em:=Ho.below bA aA
    go_wp2_with (go_at_call 182;(with_reducible refine(HH.out _ d1 jS Em hk1).mono ?_);rintro e w3 ⟨d2,x2,rfl,hk2,hx2,He,xq,hb4⟩)
    have hb6:=hb5.trans (hb4.mono hb5.size);have TR:=kX.below hb4 kX.lt;refine dS hb6 (hK _ _ ?_);clear hK K;(refine vO ?_);(refine wE ?_;refine m_ ?_);have TQ:=kD.below hb6 kD.lt
    go_wp2_with (first|(refine dw (Dx.cells d2).toArray TQ gZ ?_;intro W7 k7 g7 z7)|(refine dw (Mx.cells x2).toArray (TR.aB g7 (by have:=hb3.size;simp;omega)) lZ ?_;intro W8 k8 g8 z8))
    go_meet
    exact⟨w2.heap.size,d2,x2,rfl,rfl,rfl,Pg.fin HR.out be hb6 kD kI kZ kM kE hb3.size TR He (xq.mono jS.size) hk2 hx2 g7 k7 g8 k8⟩
  ·go_wp2_with fail
   have b0:Below W.heap.size W (W.drew.alloc (.cells xH 36)):=(jA (Below.refl _ W.drew)).alloc aA _;have kX:ah (W.drew.alloc (.cells xH 36)) W.heap.size 36 xH:=ah.new W.drew _ _;refine dS b0 (hK _ _ ?_);clear hK K;(refine vK fun K hK=>?_;simp only[jM,jO])
   go_wp2_with (go_at_call 96;(with_reducible refine(OG.out _ bel).mono ?_);rintro e w2 ⟨d1,rfl,hk1,oD1,hb2⟩)
   have hb3:=b0.trans (hb2.mono b0.size);have be2:=be.trans (hb3.mono hws);have Ho:dZ w2 w.heap.size d1:=oD1.mono (dA hws b0.size);refine dS hb3 (hK _ _ ?_);clear hK K;(refine vK fun K hK=>?_;simp only[jM,jO])
   go_wp2_with (go_at_call 182;(with_reducible refine(HH.out _ d1 be2 Ho hk1).mono ?_);rintro e w3 ⟨d2,x2,rfl,hk2,hx2,He,xq,hb4⟩)
   have hb6:=hb3.trans (hb4.mono hb3.size);have TR:=(kX.below hb2 kX.lt).below hb4 (kX.below hb2 kX.lt).lt;refine dS hb6 (hK _ _ ?_);clear hK K;(refine vO ?_);(refine wE ?_;refine m_ ?_);have TQ:=kD.below hb6 kD.lt
   go_wp2_with (first|(refine dw (Dx.cells d2).toArray TQ gZ ?_;intro W7 k7 g7 z7)|(refine dw (Mx.cells x2).toArray (TR.aB g7 cu) lZ ?_;intro W8 k8 g8 z8))
   go_meet
   exact⟨W.heap.size,d2,x2,rfl,rfl,rfl,Pg.fin HR.out be hb6 kD kI kZ kM kE aA TR He (xq.mono be2.size) hk2 hx2 g7 k7 g8 k8⟩
 case rest=>
  obtain⟨X,d2,x2,rfl,rfl,rfl,ru,kX,H9,oU,yJ,Eo,hk2,hx2,oD,oX,be2,hXR⟩:=hcut;clear kC kD kI kZ kM kE be OG Jw ldD ldI hRl hws;have hnum:=ax (show d2.r.num=K.r.num from congrArg (fun k=>k.r.num) hk2.out);by_cases hc:code=0
  ·subst hc;(obtain⟨q0,q1,q2,qf,ql⟩:=H9.n3);have d0:wc.cell? ⟨R+1,0,none⟩=some (ae d2.r.num):=ru.cell 0
   go_upto_region 6 with(refine dw (kY (d2.r.num,it.kind,0)).toArray (ah.new _ _ _) Ep ?_;intro W3 k3 g3 z3)
   (clear q0 q1 q2 qf ql);have bE:Below wc.heap.size wc W3:=((Below.refl _ wc).alloc aA _).aB g3 aF bQ;have hE:X<wc.heap.size:=kX.lt;have ML:=be2;replace ru:=ru.below bE ru.lt;replace kX:=kX.below bE kX.lt;replace oU:=oU.below bE oU.lt;replace yJ:=yJ.below bE yJ.lt;replace Eo:=Eo.below bE Eo.lt;replace oD:=oD.below bE aA;have xq:=oX.below bE aA;have eH:=ML.trans (bE.mono ML.size);obtain⟨E,hE0⟩:=aI wc.heap.size;rw[hE0]at k3 hE⊢;clear bE g3 z3 ML be2 hE0
   ((haveI:Nonempty (wR (Kn3 (R+1) 89 (Dx.cells d2).toArray X 36 (Mx.cells x2).toArray E 256 (kY (d2.r.num,it.kind,0)).toArray)):=⟨⟨W3,⟨ru,kX,k3⟩⟩⟩);refine A7 7 [([0,1,2,3],4),([],5),([],6)] [] bP bP (fun w'=> ∃p:wR (Kn3 (R+1) 89 (Dx.cells d2).toArray X 36 (Mx.cells x2).toArray E 256 (kY (d2.r.num,it.kind,0)).toArray),w'=p.w) ⟨⟨(W3).drew,⟨ru,kX,k3⟩⟩,rfl⟩ ?_;refine lu ?_)
   (refine lS fun K hK=>?_;(try refine dF ?_);(repeat(first|(refine gI rfl 89 _ rfl _ _ rfl (fun|_,⟨p,rfl⟩=>wC p.h.1 89 oh gZ) ?_;refine dF ?_)|(refine gI rfl 36 _ rfl _ _ rfl (fun|_,⟨p,rfl⟩=>wC p.h.2.1 36 xK lZ) ?_;refine dF ?_)|(refine gI rfl 256 _ rfl _ _ rfl (fun|_,⟨p,rfl⟩=>wC p.h.2.2 256 PH Ep) ?_;refine dF ?_)|go_big_quiet_step (fail)));refine wpQuiet_nil ?_);have kZ':ah W3.drew (R+1+1+1) 89 qH:=oU
   go_wp2_with (refine dw (Dx.cells d2).toArray kZ' gZ ?_;intro W7 k7 g7 z7)
   have g7:W3.grownBy W7 (some (R+1+1+1)):=⟨g7.os,g7.tape,g7.output,g7.size,g7.block⟩;refine qJ ⟨⟨W7,ru.aB g7 dm,kX.aB g7 dm,k3.aB g7 dm⟩,rfl⟩ (hK _ _ ?_);clear hK K;(refine lS fun K hK=>?_;(try refine dF ?_);(repeat(first|go_big_quiet_step (fail)));refine wpQuiet_nil ?_);have En:=yJ.aB g7 dm
   go_wp2_with (refine dw (Mx.cells x2).toArray En lZ ?_;intro W8 k8 g8 z8)
   refine qJ ⟨⟨W8,(ru.aB g7 dm).aB g8 dm,(kX.aB g7 dm).aB g8 dm,(k3.aB g7 dm).aB g8 dm⟩,rfl⟩ (hK _ _ ?_);clear hK K;(refine lS fun K hK=>?_;(try refine dF ?_);(repeat(first|go_big_quiet_step (fail)));refine wpQuiet_nil ?_);have MM:=(Eo.aB g7 dm).aB g8 dm
   go_wp2_with (refine dw (kY (d2.r.num,it.kind,0)).toArray MM Ep ?_;intro W9 k9 g9 z9)
   refine qJ ⟨⟨W9,((ru.aB g7 dm).aB g8 dm).aB g9 dm,((kX.aB g7 dm).aB g8 dm).aB g9 dm,((k3.aB g7 dm).aB g8 dm).aB g9 dm⟩,rfl⟩ (hK _ _ ?_);clear hK K;(refine yR ?_;(try refine dF ?_);(repeat(first|go_big_quiet_step (fail)));refine wpQuiet_nil ?_)
   go_wp2_with fail
   refine ael 10 89 11 36 12 256 13 results161 rfl rfl rfl rfl ((k7.aB g8 dm).aB g9 dm) (k8.aB g9 dm) k9 17 4 3 rfl rfl rfl oh gZ xK lZ PH Ep rfl ?_;have hRR:=HR.out;refine⟨d2,x2,?_,hk2,hx2,((oD.aG g7 oU ay).aG g8 En ay).aG g9 MM ay,((xq.aG g7 oU ay ay).aG g8 En ay ay).aG g9 MM ay ay,((eH.aB g7 eH.size bQ).aB g8 (by rw[z7];exact eH.size) bQ).aB g9 (by rw[z8,z7];exact eH.size) bQ⟩;simp only[hnum.out]
   try rfl
  ·have hcb:(code !=0)=true:=by simpa using hc
   have HC:=ax hc;clear hc;(obtain⟨q0,q1,q2,qf,ql⟩:=H9.n3);have d0:wc.cell? ⟨R+1,0,none⟩=some (ae d2.r.num):=ru.cell 0
   go_upto_region 5 with(refine dw (Mx.cells ⟨⟨15,[],[it.kind,code],[]⟩,none,0,some ⟨wc.heap.size,0,none⟩,2,none,0⟩).toArray (kX.alloc _) lZ ?_;intro W2 k2 g2 z2)
   (clear q0 q1 q2 qf ql);have bA:Below wc.heap.size wc (wc.alloc (.cells (([it.kind,code]:aO).map encI).toArray 3)):=(Below.refl _ wc).alloc aA _;have hXl:=kX.lt;have kXA:=kX.below bA kX.lt;have X5:iI W2 w.heap.size ⟨⟨15,[],[it.kind,code],[]⟩,none,0,some ⟨wc.heap.size,0,none⟩,2,none,0⟩:=⟨Own.nil _ _ _ _,((ah.new wc 3 (([it.kind,code]:aO).map encI).toArray).I7 be2.size 2 rfl ay).aG g2 kXA ay,Own.nil _ _ _ _⟩;have be4:=(be2.trans (bA.mono be2.size)).aB g2 (dA be2.size bA.size) CU;replace ru:=(ru.below bA ru.lt).aB g2 dm;replace H9:=(H9.below bA H9.lt).aB g2 dm;replace oU:=(oU.below bA oU.lt).aB g2 dm;replace yJ:=(yJ.below bA yJ.lt).aB g2 dm;replace Eo:=(Eo.below bA Eo.lt).aB g2 dm;replace oD:=(oD.below bA aA).aG g2 kXA ay;replace kX:=k2;obtain⟨x3,hx3⟩: ∃x3:Mx,(⟨⟨15,[],[it.kind,code],[]⟩,none,0,some ⟨wc.heap.size,0,none⟩,2,none,0⟩:Mx)=x3:=⟨_,rfl⟩;have HX4:Hid (x3.m=⟨15,[],[it.kind,code],[]⟩):=ax (by rw[←hx3]);rw[hx3]at kX X5;clear be2 bA kXA g2 k2 d0 oX hx2 hXl hx3 x2 z2;(obtain⟨q0,q1,q2,qf,ql⟩:=H9.n3);have d0:W2.cell? ⟨R+1,0,none⟩=some (ae d2.r.num):=ru.cell 0;have be2:=be4;clear be4
   go_upto_region 6 with(refine dw (kY (d2.r.num,it.kind,code)).toArray (ah.new _ _ _) Ep ?_;intro W3 k3 g3 z3)
   (clear q0 q1 q2 qf ql);have bE:Below W2.heap.size W2 W3:=((Below.refl _ W2).alloc aA _).aB g3 aF bQ;have hE:X<W2.heap.size:=kX.lt;have ML:=be2;replace ru:=ru.below bE ru.lt;replace kX:=kX.below bE kX.lt;replace oU:=oU.below bE oU.lt;replace yJ:=yJ.below bE yJ.lt;replace Eo:=Eo.below bE Eo.lt;replace oD:=oD.below bE aA;have xq:=X5.below bE aA;have eH:=ML.trans (bE.mono ML.size);obtain⟨E,hE0⟩:=aI W2.heap.size;rw[hE0]at k3 hE⊢;clear bE g3 z3 ML be2 hE0
   ((haveI:Nonempty (wR (Kn3 (R+1) 89 (Dx.cells d2).toArray X 36 (Mx.cells x3).toArray E 256 (kY (d2.r.num,it.kind,code)).toArray)):=⟨⟨W3,⟨ru,kX,k3⟩⟩⟩);refine A7 7 [([0,1,2,3],4),([],5),([],6)] [] bP bP (fun w'=> ∃p:wR (Kn3 (R+1) 89 (Dx.cells d2).toArray X 36 (Mx.cells x3).toArray E 256 (kY (d2.r.num,it.kind,code)).toArray),w'=p.w) ⟨⟨(W3).drew,⟨ru,kX,k3⟩⟩,rfl⟩ ?_;refine lu ?_)
   (refine lS fun K hK=>?_;(try refine dF ?_);(repeat(first|(refine gI rfl 89 _ rfl _ _ rfl (fun|_,⟨p,rfl⟩=>wC p.h.1 89 oh gZ) ?_;refine dF ?_)|(refine gI rfl 36 _ rfl _ _ rfl (fun|_,⟨p,rfl⟩=>wC p.h.2.1 36 xK lZ) ?_;refine dF ?_)|(refine gI rfl 256 _ rfl _ _ rfl (fun|_,⟨p,rfl⟩=>wC p.h.2.2 256 PH Ep) ?_;refine dF ?_)|go_big_quiet_step (fail)));refine wpQuiet_nil ?_);have kZ':ah W3.drew (R+1+1+1) 89 qH:=oU
   go_wp2_with (refine dw (Dx.cells d2).toArray kZ' gZ ?_;intro W7 k7 g7 z7)
   have g7:W3.grownBy W7 (some (R+1+1+1)):=⟨g7.os,g7.tape,g7.output,g7.size,g7.block⟩;refine qJ ⟨⟨W7,ru.aB g7 dm,kX.aB g7 dm,k3.aB g7 dm⟩,rfl⟩ (hK _ _ ?_);clear hK K;(refine lS fun K hK=>?_;(try refine dF ?_);(repeat(first|go_big_quiet_step (fail)));refine wpQuiet_nil ?_);have En:=yJ.aB g7 dm
   go_wp2_with (refine dw (Mx.cells x3).toArray En lZ ?_;intro W8 k8 g8 z8)
   refine qJ ⟨⟨W8,(ru.aB g7 dm).aB g8 dm,(kX.aB g7 dm).aB g8 dm,(k3.aB g7 dm).aB g8 dm⟩,rfl⟩ (hK _ _ ?_);clear hK K;(refine lS fun K hK=>?_;(try refine dF ?_);(repeat(first|go_big_quiet_step (fail)));refine wpQuiet_nil ?_);have MM:=(Eo.aB g7 dm).aB g8 dm
   go_wp2_with (refine dw (kY (d2.r.num,it.kind,code)).toArray MM Ep ?_;intro W9 k9 g9 z9)
   refine qJ ⟨⟨W9,((ru.aB g7 dm).aB g8 dm).aB g9 dm,((kX.aB g7 dm).aB g8 dm).aB g9 dm,((k3.aB g7 dm).aB g8 dm).aB g9 dm⟩,rfl⟩ (hK _ _ ?_);clear hK K;(refine yR ?_;(try refine dF ?_);(repeat(first|go_big_quiet_step (fail)));refine wpQuiet_nil ?_)
   go_wp2_with fail
   refine ael 10 89 11 36 12 256 13 results161 rfl rfl rfl rfl ((k7.aB g8 dm).aB g9 dm) (k8.aB g9 dm) k9 17 4 3 rfl rfl rfl oh gZ xK lZ PH Ep rfl ?_;have hRR:=HR.out;refine⟨d2,x3,?_,hk2,HX4,((oD.aG g7 oU ay).aG g8 En ay).aG g9 MM ay,((xq.aG g7 oU ay ay).aG g8 En ay ay).aG g9 MM ay ay,((eH.aB g7 eH.size bQ).aB g8 (by rw[z7];exact eH.size) bQ).aB g9 (by rw[z8,z7];exact eH.size) bQ⟩;simp only[hnum.out]
   try rfl
theorem BI.facts(h:BI w j):uJ j.ps j.cs∧1≤j.ps.length∧j.ps.length≤8:=⟨h.fine,h.at_.j.n1.1,h.at_.j.n1.2⟩
theorem aeS(gs:List Ax)(h: ∀a∈gs,1≤a.se∧a.se≤2)(i:Nat)(hi:1≤i)(hl:i≤gs.length):1≤(iE (gs.take i)).toNat:=by
 obtain⟨a,l,rfl⟩: ∃a l,gs=a::l:=by
  cases gs with
  |nil=>simp at hl;omega
  |cons a l=>exact⟨a,l,rfl⟩
 obtain⟨k,rfl⟩: ∃k,i=k+1:=⟨i -1,by omega⟩;have h1:=F_ (l.take k) (fun b hb=>h b (List.mem_cons_of_mem _ (List.mem_of_mem_take hb)));have h2:=(h a aF).1;simp only[List.take_succ_cons,iE,mF,List.sum_cons]at h1⊢;omega
theorem agU{d:dY}(h:d.rs= [])(now:Int):aiS d now=d:=by
 obtain⟨r,rs,dr,au⟩:=d;simp only at h;subst h;rfl
theorem arj(cf:Cf)(d:Dx)(now:Int)(ins:List Ix)(ia:az)(ic k:Nat)(w:ak)(h:pq w d)(hin:Sl w 160 2 ia ins.length ic (gC Ix.cells ins))(hii: ∀x∈ins,AP w x)(hk:ins.length=k)(hk1:1≤k∧k≤2)(wY:d.au=List.replicate k false)
  (hcl: ∀s (hs:s<ins.length),ins[s].op=false) (hrs:d.key.rs= []):
  aH 138 #[cf.val,d.val,.slice ia ins.length ic,ae now] w (KZ d.key k [] [] [] w):=by
 have:=ahw cf d now ins ia ic k (fun _=>d.key) (fun _=>⟨0,[],[],[]⟩) (fun _=>(0,0,0)) (fun _=> -1) [] w h hin hii hk hk1 wY (fun h0=>by rw[hcl 0 h0];rfl) (fun s hs _=>hcl s hs) rfl (fun _ _=>h.sm) aF (fun q hq=>absurd hq aF) (fun _ _=>by decide);rw[agU hrs]at this;exact this
def srM(a b:List iG):Nat→List iG
 |0=>a
 |_+1=>b
theorem avS{ss:List iG}{rl:aO}(h:Jd js ss rl):srM ss (lH js ss rl) rl.length=lH js ss rl:=by
 rcases h with rfl|⟨j,hj,hj',rfl,hl⟩<;>rfl
theorem agA(gs:List Ax)(i:Nat)(h:i<gs.length):(gs.map Ax.rq).getD i 0=gs[i].rq:=by simp[eG,h]
theorem aas(ins:List Ix)(b n s:Nat)(hs:s<(BJ ins b (List.range n)).length):(BJ ins b (List.range n))[s]=ins.getD (b+s) xx:=by simp[BJ]
theorem atI(c:Cx)(js:List Jx)(gs:List Ax)(K:dJ)(ins:List Ix)(ia:az)(ic:Nat)(w:ak)(h:xU w c)(hK:c.key=K)(ok:xI js gs K)(BK:K.now≤100000)(hcf:rM w c.cf js gs)(hjs: ∀j∈js,0≤j.s)
  (hin:Sl w 160 2 ia ins.length ic (gC Ix.cells ins)) (hii: ∀x∈ins,AP w x) (ops:List Bool) (hops:ins.map Ix.op=ops) (hcl: ∀j,1≤j→ops.getD j false=false)
  (ks:List Key) (hks: ∀h:0<ins.length,(if ins[0].op then ins[0].its.map It.key else [])=ks) (akq:0<ins.length) (h9:ks.length≤900)
  (D:Nat→dY) (M:Nat→aU) (E:Nat→Int × Int × Int) (Rs:Nat→Int) (rl:aO) (hD0: ∀h:0<K.ds.length,D 0=eY K.ds[0] (K.now+1)) (hsm: ∀q,q≤ks.length→(D q).Small) (hDl: ∀h:0<gs.length,Aq 0 gs[0] (D ks.length)) (hM: ∀q,q<ks.length→uB (M q))
  (hR: ∀q,q+1<ks.length→Rs q<0) (hrl:zo Rs ks.length=rl) (hlat:Jd js K.ss rl)
  (hH: ∀q (hq:q<ks.length) (W:ak) (d':Dx) (x:It),pq W d'→Hid (d'.key=D q)→Sl W 5 1 x.a x.pay.length x.c (x.pay.map a_)→Hid (x.key=ks[q])→Below w.heap.size w W→
   aH 161 #[c.cf.val,.agg (Dx.cells d').toArray,ae 0,.agg (It.cells x).toArray,ae (K.now+1)] W (KY (D (q+1)) (M q) (E q) (Rs q) W)):
  aH 73 #[c.val,.slice ia ins.length ic] w (QG (rZ js K rl (D ks.length)) (uQ ops gs ((List.range ks.length).map M) (stM js gs K rl)) [Ia js K rl] w):=by
 have vW: ∀j∈js,uJ j.ps j.cs∧1≤j.ps.length∧j.ps.length≤8∧0≤j.s:=fun j hj=>by
  have:=(hcf.Jt j hj).facts;exact⟨this.1,this.2.1,this.2.2,hjs j hj⟩
 have AY: ∀a∈gs,Gn a.num:=fun a ha=>(hcf.LX a ha).fine;have hse: ∀a∈gs,1≤a.se∧a.se≤2:=fun a ha=>(AY a ha).se;have ok1:=Qj vW AY ok hlat hDl;have hss:=aiz (fun j hj=>⟨(vW j hj).1,(vW j hj).2.1,(vW j hj).2.2.2⟩) ok.ss hlat;have l1:(lH js K.ss rl).length=js.length:=by rw[ZU,ok.ns]
 have l2:=ahW l1 ok.nt;have hnd:=ok.nd;have hns:=ok.ns;have Oz:=ok.nv;have hnt:=ok.nt;have hnw:=ok.nw;have n1:=hcf.n1;have n2:=hcf.n2;have akr:=ok.now;have lV:=aar (vs:=K.vs) l2 ok.nv;have hbl:(bytesOf (wu js (qR js (lH js K.ss rl) K.st) K.vs)).length≤44:=by
  have:=MP (wu js (qR js (lH js K.ss rl) K.st) K.vs) ok1.ws;rw[lV]at this;omega
 have hq: ∀i,qM gs i≤4:=fun i=>by
  unfold qM;rw[eG,List.getElem?_map];cases e:gs[i]? with
  |none=>simp
  |some a=>
   have:=(AY a (List.mem_of_getElem? e)).rq;simp only[Ax.num]at this;simp only[Option.map_some,Option.getD_some];omega
 subst hops;rw[←au0 ins gs];subst hK;have hd0:(c.key.ds.map fun d=>eY d (c.now+1)).length=gs.length:=by simpa using hnd
 have hT1: ∀i (hi:i<gs.length) (h':i<((c.key.ds.map fun d=>eY d (c.now+1)).set 0 (D ks.length)).length),Aq i gs[i] ((c.key.ds.map fun d=>eY d (c.now+1)).set 0 (D ks.length))[i]:=fun i hi h'=>ok1.ds i hi h';have axX:((c.key.ds.map fun d=>eY d (c.now+1)).set 0 (D ks.length)).length=gs.length:=by simpa using hd0
 have hrs: ∀d∈(c.key.ds.map fun d=>eY d (c.now+1)).set 0 (D ks.length),d.rs= []:=fun d hd=>by
  obtain⟨i,hi,rfl⟩:=List.getElem_of_mem hd;exact(hT1 i aj hi).rs
 have aCc:rl.length≤1:=by rcases hlat with rfl|⟨j,_,_,rfl,_⟩<;>simp
 have hkn: ∀i (hi:i<gs.length),uD gs i=gs[i].se.toNat:=fun i hi=>by
  unfold uD;rw[eG,List.getElem?_map,d_ hi];rfl
 refine aq5 c js gs ins ia ic gs.length js.length w h ok.ref ⟨akr,by show c.key.now≤_;omega⟩ hcf hin hii (by have:=hnd;simpa [Cx.key]using this) rfl rfl (by simpa [Cx.key]using hns) (by simpa [Cx.key]using Oz) (by simpa [Cx.key]using hnt) (by simpa [Cx.key]using hnw)
  (fun d hd=>by
   obtain⟨i,hi,rfl⟩:=List.getElem_of_mem hd;exact(ok.ds i aj hi).rgB (AY _ (bF _)))
  (fun d hd=>by
   obtain⟨i,hi,rfl⟩:=List.getElem_of_mem hd;exact((ok.ds i aj hi).begin (AY _ (bF _)) _).sm)
  ((c.key.ds.map fun d=>eY d (c.now+1)).set 0 (D ks.length)) (fun i=>if i=0 then(List.range ks.length).map M else []) (fun i=>if i=0 then(List.range ks.length).map E else []) (fun i=>if i=0 then rl else []) axX
  (fun i hi=>if_neg aj) (fun i=>by split<;>simp;omega) cu ?_
  (srM c.key.ss (lH js c.key.ss rl)) rfl ?_
  (qR js (lH js c.key.ss rl) c.key.st) c.key.vs (wu js (qR js (lH js c.key.ss rl) c.key.st) c.key.vs) l2 Oz lV
  (fun i h1 h2 h3 h4=>aiA h4 h1 h2 h3) (fun i h1 h2=>(ok1.ss i h1 h2).v) (fun i k hk=>by rw[agT (fun d hd=>hrs d (List.mem_of_mem_take hd))];simp) ?_
  (qM gs) (stM js gs c.key rl) ?_ (fun i=>⟨?_,?_⟩) ok1.ws (VU (.inr rfl) (by show 0≤c.key.now+1;omega) (by show c.key.now+1<_;omega) aj) ?_ ?_ ?_ ?_ ?_
 ·intro i hi hi1 hi2 W d' oa oc own hbe hdg hkey hown hsl hig;have hkey:=hkey.out;have hown:=hown.out;have hdk:=ok.ds i hi2 hi;have hdb:=hdk.begin (AY _ (bF hi2)) (c.now+1);have aCd:=hse _ (bF hi2);have hol:own.length=gs[i].se.toNat:=by rw[hown];simp[BJ]
  have wY:d'.au=List.replicate gs[i].se.toNat false:=by
   have:=congrArg dY.au hkey;rw[hdb.au]at this;exact this
  have aks: ∀k,1≤k→(ins.getD k xx).op=false:=fun k hk=>by
   have:=hcl k hk;simp only[eG,List.getElem?_map]at this⊢;cases e:ins[k]? with
   |none=>rfl
   |some x=>rw[e]at this;exact this
  by_cases h0:i=0
  ·subst h0;have hb0:(iE (gs.take 0)).toNat=0:=rfl;rw[hb0]at hown;have ho0: ∀h:0<own.length,own[0]=ins[0]:=fun h=>by
    subst hown;rw[aas,dX,eG,d_ akq];rfl
   obtain⟨its,hits⟩: ∃its,(if ins[0].op then ins[0].its else [])=its:=⟨_,rfl⟩;have hik:its.map It.key=ks:=by
    rw[←hits,←hks akq]
    split<;>simp
   have hil:its.length=ks.length:=by rw[←hik];simp
   have hX:=ahw c.cf d' (c.now+1) own oa oc own.length D M E Rs its W hdg hsl hig rfl aj (by rw[wY,hol]) (fun h=>by rw[ho0 h];exact hits) (fun s hs h1=>by subst hown;rw[aas,dX];exact aks s h1) (by rw[hkey];exact(hD0 hi).symm) (fun q hq=>hsm q aj) aj
    (fun q hq W' d'' axY hk' hby abI=>hH q aj W' d'' its[q] axY hk' hby (ax (by simp[←hik])) (hbe.trans (abI.mono hbe.size))) (fun q hq=>hR q aj)
   rw[hil,agU (hDl hi2).rs,hrl]at hX;simpa only[List.getElem_set_self,if_pos]using hX
  ·have hX:=arj c.cf d' (c.now+1) own oa oc own.length W hdg hsl hig rfl aj (by rw[wY,hol]) (fun s hs=>by subst hown;rw[aas];have:=aeS gs hse i aj aj;exact aks _ aj) (by rw[hkey];exact hdb.rs);rw[hkey]at hX;have he:((c.key.ds.map fun d=>eY d (c.now+1)).set 0 (D ks.length))[i]=eY c.key.ds[i] (c.now+1):=by
    rw[List.getElem_set_ne aj,List.getElem_map]
   rw[he];simpa only[if_neg h0]using hX
 ·intro i hi;simp only[↓reduceIte]at hi⊢;have hi0:i=0:=by omega
  subst hi0;rcases hlat with rfl|⟨j,hj,hj',rfl,hl⟩
  ·simp at hi
  ·refine⟨j,hj,hj',rfl,hl,(ok.ss j hj hj').nl,?_⟩;show lH js c.key.ss [(j:Int)]=c.key.ss.set j (jV js[j]);simp only[lH,Int.toNat_natCast,d_ hj]
 ·intro i hi h1 h2 h3 h4 h5 W s v ca cn cc B' hJ hS hV N7 hkv hown hcn;rw[agT hrs]at hcn;have hcn:=hcn.out;simp only[List.length_nil]at hcn;subst hcn;have hvs:=ok.vs _ (bF h2);simp only[↓reduceIte,avS hlat]at N7 h1;rw[ahX h4 hi aj h3];exact asq c.cf js[i] (lH js c.key.ss rl)[i] c.key.vs[i] c.key.st[i] (c.now+1) W s v ca cc hJ hS hV N7 hkv hvs.1 hvs.2.1 (hss i hi h1)
 ·intro i hi;have hi':i<gs.length:=by omega
  have hdk:=hT1 i hi' hi;obtain⟨tk,vh,lv,hr,_⟩:=hdk.rg;have hrq:=(AY _ (bF hi')).rq;simp only[Ax.num]at hrq;refine⟨?_,by have:=hq i;omega,fun b hb=>?_,?_,?_⟩
  ·rw[hr];simp only[qM,agA gs i hi'];omega
  ·rw[hdk.au]at hb;exact List.eq_of_mem_replicate hb
  ·rw[hdk.rs];rfl
  ·refine VU (.inl rfl) (by show 0≤c.key.now+1;omega) (by show c.key.now+1<_;omega) ?_;rw[dP,MS];have:=hq i;omega
 ·intro m hm
  split at hm
  ·obtain⟨q,hq,rfl⟩:=List.mem_map.1 hm;exact hM q (List.mem_range.1 hq)
  ·simp at hm
 ·split<;>simp
  omega
 ·intro d hd;obtain⟨i,hi,rfl⟩:=List.getElem_of_mem hd;exact(hT1 i aj hi).sm
 ·intro i s hs;have akt: ∀(l:List iG),l.length=js.length→(∀i (h:i<js.length) (h':i<l.length),zx js[i] l[i])→∀s∈l,s.Small:=fun l hl hl' s hs=>by
   obtain⟨i,hi,rfl⟩:=List.getElem_of_mem hs;exact(hl' i aj hi).small (vW _ (bF aj)).2.2.1
  cases i with
  |zero=>exact akt _ hns ok.ss s hs
  |succ i=>exact akt _ l1 hss s hs
 ·intro s hs;obtain⟨i,hi,rfl⟩:=List.getElem_of_mem hs;exact(ok1.ss i aj hi).small (vW _ (bF aj)).2.2.1
 ·intro v hv;exact(ok.vs v hv).2.2
 ·intro v hv;have:=ok1.ws v hv;have h1:=this.1;have h2:=this.2.1;omega
theorem asr{α β:Type}(f:α→List β)(k:Nat)(l:List α)(h: ∀x∈l,(f x).length≤k):(l.flatMap f).length≤k*l.length:=by
 induction l with
 |nil=>simp
 |cons a l ih=>
  have h1:=ih fun x hx=>h x (List.mem_cons_of_mem _ hx);have h2:=h a aF;simp only[List.flatMap_cons,dP,jJ,Nat.mul_add];omega
theorem avT{gs:List Ax}(hse: ∀a∈gs,1≤a.se∧a.se≤2)(i:Nat):uD gs i≤2:=by
 unfold uD;rw[eG,List.getElem?_map];cases e:gs[i]? with
 |none=>simp
 |some a=>
  have:=hse a (List.mem_of_getElem? e);simp only[Option.map_some,Option.getD_some];omega
theorem au1{ops:List Bool}{gs:List Ax}(hse: ∀a∈gs,1≤a.se∧a.se≤2)(h4:gs.length≤4)(hM: ∀m∈Ms,uB m)(hM9:Ms.length≤900)(hSt: ∀i,i<gs.length→uB (St i)):
  (∀l∈uQ ops gs Ms St,(∀m∈l,uB m)∧l.length≤1000)∧(uQ ops gs Ms St).length≤900:=by
 refine⟨fun l hl=>?_,?_⟩
 ·unfold uQ at hl;obtain⟨i,hi,hl⟩:=List.mem_flatMap.1 hl;obtain⟨x,hx,rfl⟩:=List.mem_map.1 hl;have hi:=List.mem_range.1 hi
  split
  ·refine⟨fun m hm=>?_,?_⟩
   ·rcases lW.1 hm with hm|hm
    ·split at hm
     ·split at hm
      ·exact hM m hm
      ·simp at hm
     ·simp at hm
    ·rw[dU.1 hm];exact hSt i hi
   ·rw[dP]
    split
    ·split<;>simp<;>omega
    ·simp
  ·simp
 ·have:=asr (fun i=>(List.range (uD gs i)).map fun x=>if ops.getD ((iE (gs.take i)).toNat+x) false then(if x=0 then(if i=0 then Ms else [])else [])++ [St i]else []) 2 (List.range gs.length) (fun i _=>by simpa using avT hse i);unfold uQ;rw[List.length_range]at this;omega
theorem ass{ops:List Bool}{gs:List Ax}(h1:1≤gs.length)(hse: ∀a∈gs,1≤a.se∧a.se≤2)(h0:ops.getD 0 false=true): ∃tl,uQ ops gs Ms St=(Ms++ [St 0])::tl:=by
 obtain⟨n,hn⟩: ∃n,gs.length=n+1:=⟨gs.length -1,by omega⟩;unfold uQ;rw[hn,List.range_succ_eq_map,List.flatMap_cons];have hk:uD gs 0=gs[0].se.toNat:=by
  unfold uD;rw[eG,List.getElem?_map,d_ aj];rfl
 have:=hse gs[0] (bF _);obtain⟨k,hk2⟩: ∃k,uD gs 0=k+1:=⟨uD gs 0 -1,by omega⟩;rw[hk2,List.range_succ_eq_map,mF,List.cons_append];have hb:(iE (gs.take 0)).toNat=0:=rfl;simp only[hb,dX,h0,↓reduceIte];exact⟨_,rfl⟩
theorem aiB(b:Bx)(js:List Jx)(gs:List Ax)(K:dJ)(S:List cO)(A Bb:Int)(ba:az)(bn bc:Nat)(w:ak)(hb:qI w b)(hK:b.c.key=K)(hS:b.ss.map Sz.S=S)(ok:xI js gs K)(BK:K.now≤100000)(hcf:rM w K.cf js gs)(hjs: ∀j∈js,0≤j.s)
  (h0:0<S.length) (hcl: ∀j,1≤j→(S.map cO.op).getD j false=false) (ks:List Key) (hks:S[0].inp=ks) (h9:ks.length≤900)
  (D:Nat→dY) (M:Nat→aU) (E:Nat→Int × Int × Int) (Rs:Nat→Int) (rl:aO) (hD0: ∀h:0<K.ds.length,D 0=eY K.ds[0] (K.now+1)) (hsm: ∀q,q≤ks.length→(D q).Small) (hDl: ∀h:0<gs.length,Aq 0 gs[0] (D ks.length)) (hM: ∀q,q<ks.length→uB (M q))
  (hR: ∀q,q+1<ks.length→Rs q<0) (hrl:zo Rs ks.length=rl) (hlat:Jd js K.ss rl)
  (hH: ∀q (hq:q<ks.length) (W:ak) (d':Dx) (x:It),pq W d'→Hid (d'.key=D q)→Sl W 5 1 x.a x.pay.length x.c (x.pay.map a_)→Hid (x.key=ks[q])→Below w.heap.size w W→
   aH 161 #[K.cf.val,.agg (Dx.cells d').toArray,ae 0,.agg (It.cells x).toArray,ae (K.now+1)] W (KY (D (q+1)) (M q) (E q) (Rs q) W)):
  aH 16 #[b.val,.agg (tH 6 0 A Bb ba bn bc)] w (JI (rZ js K rl (D ks.length)) (S.map cO.dG) (uQ (S.map cO.op) gs ((List.range ks.length).map M) (stM js gs K rl)) [Ia js K rl] w):=by
 subst hS;have hsl:b.ss.length=(b.ss.map Sz.S).length:=by simp
 have vW: ∀j∈js,uJ j.ps j.cs∧1≤j.ps.length∧j.ps.length≤8∧0≤j.s:=fun j hj=>by
  have:=(hcf.Jt j hj).facts;exact⟨this.1,this.2.1,this.2.2,hjs j hj⟩
 have AY: ∀a∈gs,Gn a.num:=fun a ha=>(hcf.LX a ha).fine;have hse: ∀a∈gs,1≤a.se∧a.se≤2:=fun a ha=>(AY a ha).se;have ok1:=Qj vW AY ok hlat hDl;have n1:=hcf.n1;have n2:=hcf.n2;have akr:=ok.now;have hbl:(bytesOf (wu js (qR js (lH js K.ss rl) K.st) K.vs)).length≤44:=by
  have:=MP (wu js (qR js (lH js K.ss rl) K.st) K.vs) ok1.ws;have h2:=ok1.nw;simp only[rZ]at h2;omega
 refine aoR b 0 A Bb ba bn bc _ _ _ w hb aj (au1 hse aj (fun m hm=>?_) (by simpa using h9) (fun i hi=>?_)) ⟨fun m hm=>?_,by simp⟩ ?_
 ·obtain⟨q,hq,rfl⟩:=List.mem_map.1 hm;exact hM q (List.mem_range.1 hq)
 ·refine VU (.inl rfl) (by show 0≤K.now+1;omega) (by show K.now+1<_;omega) ?_;rw[dP,MS];have:qM gs i≤4:=by
   have:=(AY _ (bF hi)).rq;simp only[Ax.num]at this;unfold qM;rw[agA gs i hi];omega
  omega
 ·rw[dU.1 hm];exact VU (.inr rfl) (by show 0≤K.now+1;omega) (by show K.now+1<_;omega) aj
 ·intro W c ins ia ic hbe hcg hck hin hii hkx;have hck:=hck.out;have hkx:=hkx.out;have hcK:c.key=K:=hck.trans hK;have aku:c.cf=K.cf:=congrArg dJ.cf hcK;have awH:ins.map Ix.op=(b.ss.map Sz.S).map cO.op:=by
   apply List.ext_getElem (by simpa using hkx.1);intro j h1 h2;simp only[List.getElem_map];have:=(hkx.2 j P6 (by simpa using h2)).1;simpa using this
  have hi0:0<ins.length:=by omega
  refine atI c js gs K ins ia ic W hcg hcK ok BK (by rw[aku];exact hcf.below hbe aA) hjs hin hii _ awH hcl ks (fun h=>?_) hi0 h9 D M E Rs rl hD0 hsm hDl hM hR hrl hlat ?_
  ·have h2:=hkx.2 0 h h0;obtain⟨h2,h3⟩:=h2;rw[h2,h3,hks];have:(b.ss.map Sz.S)[0].op=false→ks= []:=fun e=>by
    rw[←hks];unfold cO.inp;rw[e];rfl
   split
   ·rfl
   ·next hn=>exact(this (by simpa using hn)).symm
  ·intro q hq W' d' x hdg hk' hby axZ abI;rw[aku];exact hH q hq W' d' x hdg hk' hby axZ (hbe.trans (abI.mono hbe.size))
structure qF(cf:Cf)(js:List Jx)(gs:List Ax):Prop where
 hj:cf.jn=js.length
 hg:cf.gn=gs.length
 jn: ∀j∈js,Ll j
 gn: ∀a∈gs,Gn a.num∧a.sec.length=8
 n1:1≤js.length∧js.length≤4
 n2:1≤gs.length∧gs.length≤4
 per:1≤cf.per∧cf.per≤4
 cap:0≤cf.cap∧cf.cap≤3
 hold:1≤cf.hold∧cf.hold≤3
 lock:0≤cf.lock∧cf.lock≤4
theorem abr.p{gs:List Ax}(h:abr cf js gs rt):qF cf js gs:=
 ⟨h.hj,h.hg,h.jn,fun a ha=>by
  obtain⟨i,hi,rfl⟩:=List.getElem_of_mem ha;exact⟨(h.gn i hi).fine,by rw[(h.gn i hi).sec];exact ZN _ _⟩,⟨h.n1.1,by have:=h.n1.2;omega⟩,⟨h.n2.1,by have:=h.n2.2;omega⟩,h.per,h.cap,h.hold,h.lock⟩
theorem rY.g(h:rY w B j)(n:Ll j):BI w j:=
 ⟨⟨⟨h.ph.row,h.cf.row,h.ph.lt' _ rfl,h.cf.lt' _ rfl,Nat.le_refl _,n.n1,n.fine.len,n.fine.ok,n.s0⟩,n.fine.ring,n.fine.G5.rows⟩,n.fine⟩
theorem sN.xC{gs:List Ax}(h:sN w B M js gs): ∀j∈js,rY w B j:=fun j hj=>by
 obtain⟨i,hi,rfl⟩:=List.getElem_of_mem hj;by_cases h0:i=0
 ·subst h0;exact(h.j0 hi).1
 ·exact(h.js i hi aj).mono h.lM.1
theorem wS.c0{gs:List Ax}(h:wS w B M cf js gs)(n:qF cf js gs):rM w cf js gs:=
 ⟨n.hj,n.hg,h.jr.sl,fun j hj=>(h.mem.xC j hj).g (n.jn j hj),h.ar.sl,fun a ha=>⟨((h.mem.gs a ha).sec).sl,((h.mem.gs a ha).lim).sl,(n.gn a ha).2,(n.gn a ha).1⟩,n.n1,n.n2,n.per,n.cap,n.hold,n.lock⟩
theorem Zd{gs:List Ax}(n:qF cf js gs):xI js gs (jU cf js gs):=by
 have hlv: ∀j∈js,(jV j).ls.length=j.ps.length:=fun j hj=>(U9 (n.jn j hj).fine (n.jn j hj).n1.1 (n.jn j hj).s0.1).ll;refine⟨rfl,Int.le_refl _,by simp[jU],by simp[jU],by simp[jU],by simp[jU],by simp[jU],fun i hi hi'=>?_,fun i hi hi'=>?_,fun v hv=>?_,fun v hv=>?_⟩
 ·have e:(jU cf js gs).ds[i]=wL i gs[i]:=by simp[jU]
  rw[e];obtain⟨hf,h8⟩:=n.gn _ (bF hi);have hra:=hf.ra;have hbu:=hf.bu;have hll:=hf.ll;simp only[Ax.num]at hra hbu hll;refine⟨rfl,rfl,⟨iZ gs[i].sec gs[i].rt gs[i].cl,[],gs[i].bu,rfl,by simp[iZ],by omega,by omega⟩,⟨⟨by simp only[wL];omega,by simp only[wL];omega,by simp[wL,iZ],fun t ht=>?_,by simp[wL]⟩,by simp[wL],by simp[wL],by simp[wL],by simp[wL],?_⟩⟩
  ·simp only[wL,iZ,List.mem_cons,List.mem_replicate]at ht;rcases ht with rfl|⟨_,rfl⟩
   ·simp only;omega
   ·simp[BA]
  ·have:=hf.se;simp only[Ax.num]at this;simp only[wL,uK];omega
 ·have e:(jU cf js gs).ss[i]=jV js[i]:=by simp[jU]
  rw[e];have:=n.jn _ (bF hi);exact U9 this.fine this.n1.1 this.s0.1
 ·simp only[jU,List.mem_map]at hv;obtain⟨j,hj,rfl⟩:=hv;have:=(n.jn j hj).n1;exact⟨rfl,rfl,by simp only[IM,uK];omega⟩
 ·simp only[jU,List.mem_map]at hv;obtain⟨j,hj,rfl⟩:=hv;exact aiy (hlv j hj) (n.jn j hj).n1.2
theorem xI.small{gs:List Ax}(h:xI js gs K)(n:qF cf js gs):K.Small:=by
 have n1:=n.n1;have n2:=n.n2;have h1:=h.nd;have h2:=h.ns;have h3:=h.nv;have h4:=h.nt;have h5:=h.nw;refine⟨by omega,fun x hx=>?_,by omega,fun x hx=>?_,by omega,fun x hx=>(h.vs x hx).2.2,by omega,by omega,fun x hx=>?_⟩
 ·obtain⟨i,hi,rfl⟩:=List.getElem_of_mem hx;exact(h.ds i aj hi).sm
 ·obtain⟨i,hi,rfl⟩:=List.getElem_of_mem hx;exact(h.ss i aj hi).small (n.jn _ (bF aj)).n1.2
 ·have:=h.ws x hx;have a1:=this.1;have a2:=this.2.1;exact⟨by omega,by omega⟩
theorem cO.ast:cO.dG ⟨true,false,[],false⟩=⟨true,false,[],false⟩:=by
 have:cO.tk ⟨true,false,[],false⟩=⟨0,false,[]⟩:=by
  unfold cO.tk;exact F9 fun h=>by have:=h.2;simp[iC,PR.more]at this
 unfold cO.dG;simp[this]
theorem cO.asu:cO.inp ⟨true,false,[],false⟩= []:=by
 have:cO.tk ⟨true,false,[],false⟩=⟨0,false,[]⟩:=by
  unfold cO.tk;exact F9 fun h=>by have:=h.2;simp[iC,PR.more]at this
 unfold cO.inp;simp[this]
def ig(n:Nat):List cO:=(List.replicate n qZ.S).set 0 ⟨true,false,[],false⟩
theorem JY(n:Nat):(ig n).length=n:=by simp[ig]
theorem ahY(h:0<n):(ig n)[0]'(by rw[JY];exact h)=⟨true,false,[],false⟩:=by simp[ig]
theorem au2(j:Nat)(hj:1≤j):((ig n).map cO.op).getD j false=false:=by
 simp only[ig,eG,List.getElem?_map,List.getElem?_set_ne (show 0≠j by omega),List.getElem?_replicate]
 split<;>simp[qZ]
theorem atJ(h:0<n):((ig n).map cO.op).getD 0 false=true:=by
 simp only[ig,eG,List.getElem?_map];rw[List.getElem?_set_self oq];rfl
theorem atK(n:Nat):(ig n).map cO.dG=ig n:=by
 unfold ig;rw[List.map_set,List.map_replicate,cO.ast];rfl
theorem agW(h:n≤8):(ig n).length≤8∧∀s∈ig n,s.buf.length≤1000000:=by
 refine⟨by rw[JY];exact h,fun s hs=>?_⟩;rcases List.mem_or_eq_of_mem_set hs with hs|rfl
 ·rw[List.eq_of_mem_replicate hs];simp[qZ]
 ·simp
theorem ahZ{gs:List Ax}(h:xI js gs K)(n:qF cf js gs)(hk:k≤8):Q8 K (List.replicate k qZ.S):=
 ⟨h.small n,by simpa using hk,fun s hs=>by rw[List.eq_of_mem_replicate hs];simp[qZ]⟩
theorem Qw{gs:List Ax}(h:xI js gs K)(n:qF cf js gs)(hk:k≤8):Q8 K (ig k):=⟨h.small n,(agW hk).1,(agW hk).2⟩
theorem aiX{gs:List Ax}(n:qF cf js gs):1≤(iE gs).toNat∧(iE gs).toNat≤8:=by
 have hse: ∀a∈gs,1≤a.se∧a.se≤2:=fun a ha=>(n.gn a ha).1.se;have h1:=F_ gs hse;have n2:=n.n2;have:=aeS gs hse gs.length n2.1 aA;rw[List.take_length]at this;omega
theorem agX{gs:List Ax}(n:qF cf js gs)(ok:xI js gs K)(Ws:K.cf=cf)(BK:K.now≤100000)(A Bb:Int)(ba:az)(bn bc k:Nat)(hk:0<k)(hcf:rM w cf js gs)(b:Bx)(hb:qI w b)(hK:b.c.key=K)(hS:b.ss.map Sz.S=ig k):
  aH 16 #[b.val,.agg (tH 6 0 A Bb ba bn bc)] w (JI (rZ js K [] (eY (K.ds.getD 0 ⟨⟨0,[],0,0,[],0,0,0,0,[],[],0⟩,[],[],[]⟩) (K.now+1))) (ig k) (uQ ((ig k).map cO.op) gs [] (stM js gs K [])) [Ia js K []] w):=by
 have hjs: ∀j∈js,0≤j.s:=fun j hj=>(n.jn j hj).s0.1;have n2:=n.n2;have hd0:0<K.ds.length:=by have:=ok.nd;omega
 have he:K.ds.getD 0 ⟨⟨0,[],0,0,[],0,0,0,0,[],[],0⟩,[],[],[]⟩=K.ds[0]:=by simp[eG,hd0]
 rw[he];have hdk:=fun h:0<gs.length=>(ok.ds 0 h hd0).begin (n.gn _ (bF h)).1 (K.now+1);have:=aiB b js gs K (ig k) A Bb ba bn bc w hb hK hS ok BK (by rw[Ws];exact hcf) hjs (by rw[JY];exact hk) (fun j hj=>au2 j hj) [] (by rw[ahY hk];exact cO.asu) aF (fun _=>eY K.ds[0] (K.now+1)) (fun _=>⟨0,[],[],[]⟩) (fun _=>(0,0,0)) (fun _=>0) []
  (fun h=>rfl) (fun q hq=>(hdk aj).sm) (fun h=>hdk h) UL UL rfl (.inl rfl) UL
 rw[atK]at this;exact this
theorem atL{gs:List Ax}(n:qF cf js gs)(ok:xI js gs K):xI js gs (rZ js K [] (eY (K.ds.getD 0 ⟨⟨0,[],0,0,[],0,0,0,0,[],[],0⟩,[],[],[]⟩) (K.now+1))):=by
 have n2:=n.n2;have hd0:0<K.ds.length:=by have:=ok.nd;omega
 have he:K.ds.getD 0 ⟨⟨0,[],0,0,[],0,0,0,0,[],[],0⟩,[],[],[]⟩=K.ds[0]:=by simp[eG,hd0]
 rw[he];exact Qj (fun j hj=>⟨(n.jn j hj).fine,(n.jn j hj).n1.1,(n.jn j hj).n1.2,(n.jn j hj).s0.1⟩) (fun a ha=>(n.gn a ha).1) ok (.inl rfl) fun h=>(ok.ds 0 h hd0).begin (n.gn _ (bF h)).1 (K.now+1)
def TT:Ev:=⟨1,0,0,0,[],none,0⟩
def TU:Ev:=⟨6,0,0,0,[],none,0⟩
theorem au3(js:List Jx)(gs:List Ax)(K:dJ)(rl:aO)(i:Nat):11≤(h_ [stM js gs K rl i]).length:=by
 unfold h_ stM EL;simp only[List.flatMap_cons,List.flatMap_nil,iK];rw[Dc];have hs:cZ 17=⟨0,1,0,0,0, -1⟩:=rfl;have:=U2 (K.now+1).toNat;simp only[aU.pay,hs,mi,fP,List.nil_append,dP];simp;omega
theorem asv(cf:Cf)(js:List Jx)(gs:List Ax)(n:qF cf js gs)(h1:gs.length=1)(hse: ∀a∈gs,a.se=1)(g:Nat)(w:ak)(hc:rM w cf js gs)(hev:ah w g 56 (gC Ev.cells [TT,TU]).toArray):
  aH 23 #[cf.val,.slice (some ⟨g,0,none⟩) 2 2] w fun e w'=> ∃(o:Ox) (d:Dw) (a:az) (c:Nat),e= .returned (.slice a 1 c)∧Own w' w.heap.size 52 2 a 1 c (gC Ox.cells [o])∧xE w' w.heap.size o∧Hid (o.l= [d])∧Hid (11≤d.b.length)∧Below w.heap.size w w':=by
 obtain⟨hb1,hb8⟩:=aiX n;have hsum:(iE gs).toNat=1:=by
  obtain⟨a,rfl⟩:=List.length_eq_one_iff.1 h1;have:=hse a aF;simp[iE,this]
 have ok0:=Zd n;have hrow:Own w 0 56 5 (some ⟨g,0,none⟩) 2 2 (gC Ev.cells [TT,TU]):=hev.Am aiu (Nat.zero_le _) 2 rfl ay;have hR:=ara cf [TT,TU] (some ⟨g,0,none⟩) 2
  (fun i=>if i=0 then(jU cf js gs,List.replicate 1 qZ.S)else if i=1 then(jU cf js gs,ig 1)else(rZ js (jU cf js gs) [] (eY ((jU cf js gs).ds.getD 0 ⟨⟨0,[],0,0,[],0,0,0,0,[],[],0⟩,[],[],[]⟩) ((jU cf js gs).now+1)),ig 1))
  (fun i=>if i=0 then none else some ((uQ ((ig 1).map cO.op) gs [] (stM js gs (jU cf js gs) [])).map h_,h_ [Ia js (jU cf js gs) []])) w hrow.sl
  (fun e he=>by simp only[List.mem_cons,o_,or_false]at he;rcases he with rfl|rfl<;>exact Sl.nil _ _ _) ay (fun W hb=>by
   have:=agQ cf js gs W (hc.below hb aA);rw[hsum]at this;exact this) (fun i hi=>?_) (fun i hi W b hG hK hS hb hev=>?_)
 ·refine hR.mono ?_;rintro e w' ⟨outs,a,c,rfl,row,hit,hk,hb⟩;have hk:=hk.out;have e2:(List.range [TT,TU].length).filterMap (fun i=>if i=0 then none else some ((uQ ((ig 1).map cO.op) gs [] (stM js gs (jU cf js gs) [])).map h_,h_ [Ia js (jU cf js gs) []]))= [((uQ ((ig 1).map cO.op) gs [] (stM js gs (jU cf js gs) [])).map h_,h_ [Ia js (jU cf js gs) []])]:=rfl;rw[e2]at hk;have hl:outs.length=1:=by have:=congrArg List.length hk;simpa using this
  obtain⟨o,rfl⟩:=List.length_eq_one_iff.1 hl;simp only[mF,oH,List.cons.injEq,and_true]at hk;have hk1:=congrArg Prod.fst hk;simp only[Ox.key]at hk1;have ht:uQ ((ig 1).map cO.op) gs [] (stM js gs (jU cf js gs) [])= [[stM js gs (jU cf js gs) [] 0]]:=by
   obtain⟨a,rfl⟩:=List.length_eq_one_iff.1 h1;have:=hse a aF;have hk1:uD [a] 0=1:=by simp[uD,this]
   have hs0:(iE (List.take 0 [a])).toNat=0:=rfl;simp only[uQ,jJ,List.length_nil,dX,List.range_one,List.flatMap_cons,List.flatMap_nil,iK,hk1,hs0,mF,oH,atJ (n:=1) ay,if_true,List.nil_append,ite_self]
  rw[ht]at hk1;have hol:o.l.length=1:=by have:=congrArg List.length hk1;simpa using this
  obtain⟨d,hd⟩:=List.length_eq_one_iff.1 hol;rw[hd]at hk1;simp only[mF,oH,List.cons.injEq,and_true]at hk1;exact⟨o,d,a,c,rfl,row,hit o aF,ax hd,ax (by rw[hk1];exact au3 _ _ _ _ _),hb⟩
 ·have:i=0∨i=1:=by simp at hi;omega
  rcases this with rfl|rfl
  ·exact ahZ ok0 n ay
  ·exact Qw ok0 n ay
 ·have:i=0∨i=1:=by simp at hi;omega
  rcases this with rfl|rfl
  ·simp only[dX,if_true,Nat.one_ne_zero,if_false]at hK hS⊢;have hl:b.ss.length=1:=by have:=congrArg List.length hS;simpa using this
   have:=aeE b 0 0 0 none 0 0 (cO.opn b.ss[0].S) W hG aj rfl;have e1:(b.ss.map Sz.S).set 0 (cO.opn b.ss[0].S)=ig 1:=by
    have h0:b.ss[0].S=qZ.S:=by
     have:=congrArg (fun l=>l[0]?) hS;simpa [hl]using this
    rw[h0,hS];rfl
   rw[e1,hK]at this;exact this.mono fun e w' h=>h.x
  ·simp only[Nat.one_ne_zero,if_true,if_false,Nat.reduceAdd,show(2:Nat)≠0 by decide,show(2:Nat)≠1 by decide]at hK hS⊢;exact(agX n ok0 rfl (by show(0:Int)≤_;decide) 0 0 none 0 0 1 ay (hc.below hb aA) b hG hK hS).mono fun e w' h=>h.x
theorem ahA(w:ak):aH 20 #[] w fun e w'=>e= .returned (.bool true)∧Below w.heap.size w w':=by
 have hNew:Hid (aH 8 #[.slice none 0 0] w fun e w'=>e= .returned (.pointer (some ⟨w.heap.size,0,none⟩))∧dQ w' w.heap.size ⟨none,0,[]⟩ 0∧Below w.heap.size w w'):=ax (aiH none 0 [] w (Ints.nil _ _) aF)
 go_enter func20,ntmps20
 go_upto_region 2 with(first|(go_at_call 8;(with_reducible refine(hNew.out).mono ?_);rintro e w1 ⟨rfl,hd1,hb1⟩)|(go_at_call 9;(with_reducible refine(agl w.heap.size w1 ⟨none,0,[]⟩ 0 63 hd1 ay).mono ?_);rintro e w2 ⟨cf,js,gs,M,k2,rfl,hN,hL,hnil,hd2,g2⟩;((have hz1:=hd1.lt);(have hz2:=g2.size);(have be2:Below w.heap.size w w2:=hb1.grown g2 aj bQ);(have hL3:=hL.c0 hN.p);(have HG:=ax (hnil rfl))))|(go_at_call 23;(with_reducible refine(asv cf js gs hN.p HG.out.1 HG.out.2 w2.heap.size (w2.alloc (.cells #[ae 1,ae 0,ae 0,ae 0,.slice none 0 0,ae 6,ae 0,ae 0,ae 0,.slice none 0 0] 56)) (hL3.below (show Below w2.heap.size w2 _ from bel) aA) (ah.new _ _ _)).mono ?_);rintro e w4 ⟨o,d,a,c,rfl,row,oL,ho,hdl,hb4⟩))
 obtain⟨g,rfl, -, -⟩:=row.open_ ay;have c0:w4.cell? ⟨g,0,none⟩=some (.slice o.a 1 o.c):=by
  have:=row.cell 0 (by simp[gC,Ox.cells]);simpa [gC,Ox.cells,ho.out]using this
 have r2:=oL.row;rw[ho.out]at r2;obtain⟨g2',hg2, -, -⟩:=r2.open_ aF;rw[hg2]at r2 c0;have c1:w4.cell? ⟨g2',0,none⟩=some (.slice d.a d.b.length d.c):=by
  have:=r2.cell 0 (by simp[gC,Dw.cells]);simpa [gC,Dw.cells]using this
 have hlt:(10:Int)<(d.b.length:Int):=by have:=hdl.out;omega
 have be4:Below w.heap.size w w4:=be2.trans (((Below.refl _ w2).alloc aA _:Below w2.heap.size w2 (w2.alloc (.cells (gC Ev.cells [TT,TU]).toArray 56))).mono be2.size|>.trans (hb4.mono (by have:=be2.size;simp;omega)))
 go_wp2_with fail
 go_ret;exact⟨rfl,be4⟩
theorem ark(sec:aJ)(rt cl now:Int):yY (iZ sec rt cl) (zn (iZ sec rt cl) now)=iZ sec rt cl:=by
 have hl:(iZ sec rt cl).length=8:=by simp[iZ]
 have h0:zn (iZ sec rt cl) now 0=false:=by
  have hu:tU (iZ sec rt cl) 0=true:=by simp[tU,iZ]
  have hp:tP (iZ sec rt cl) 0= -1:=by simp[tP,iZ]
  have hn:tU (iZ sec rt cl) (-1)=false:=by simp[tU]
  have:qB (iZ sec rt cl) 8 0= [0]:=by
   unfold qB;rw[if_pos hu,hp];unfold qB;rw[if_neg (by rw[hn];simp)]
  unfold zn;rw[this];simp[gK,iZ,yg]
 refine List.ext_getElem (by simp[yY]) fun i h1 h2=>?_;simp only[yY,List.getElem_mapIdx];by_cases hi:i=0
 ·subst hi;rw[show((0:Nat):Int)=0 from rfl,h0];rfl
 ·obtain⟨j,rfl⟩: ∃j,i=j+1:=⟨i -1,by omega⟩;have e:(iZ sec rt cl)[j+1]=BA:=by
   have: ∀(l:List ny) (h:j+1<l.length),l=iZ sec rt cl→l[j+1]=BA:=by
    rintro l h rfl;have hj:j<(List.replicate 7 BA).length:=by simp[iZ]at h2;simp;omega
    have hm:=bF hj;exact List.eq_of_mem_replicate hm
   exact this _ h2 rfl
  rw[e]
  split<;>rfl
theorem atT{sec:aJ}{cl kind now:Int}(ag:Int)(ha:0≤ag∧ag<256)(h8:sec.length=8)(hp:xN rt kind=true):Ak (iZ sec rt cl) ag (uZ ag 0 sec) kind now=(0,0):=by
 unfold Ak uZ;have e1:=byte_of ag;have e2:=byte_of 0;have e3:ag % 256=ag:=Int.emod_eq_of_lt ha.1 ha.2;simp only;rw[e2];have e0:(0:Int) % 256=0:=rfl;rw[e0,e1,e3];rw[if_pos];refine⟨h8,rfl,by simp[tU,iZ],by simp[gK,iZ],by simp[gK,iZ,yg],?_⟩;simpa [gK,iZ]using hp
theorem Vq(ag s:Int)(sec:aJ):(uZ ag s sec).length=sec.length+2:=by simp[uZ]
theorem aiD{k n:Int}{tok:aJ}(hk:k=3∨k=5∨k=8∨k=10∨k=11)(ht:tok.length=10)(h0:0≤n)(h1:n≤4294967295):aU.Ok ⟨k,tok,[n],[]⟩:=by
 have hs:cZ k=⟨10,1,0,0,0,0⟩:=by rcases hk with rfl|rfl|rfl|rfl|rfl<;>rfl
 have hl:(dI n.toNat).length≤5:=F8 aj;have hp:aU.pay ⟨k,tok,[n],[]⟩=tok++dI n.toNat:=by simp[aU.pay,hs,mi,fP]
 refine⟨by show 1≤k∧k≤22;omega,by simp[hs,ht],.inr (by simp[hs]),by simp[hs,iD],by simp,fun m hm=>?_,?_⟩
 ·rw[dU.1 hm];exact⟨h0,h1⟩
 ·rw[hp,dP];omega
theorem au5{k a b:Int}(hk:k=13∨k=14∨k=15)(ha:0≤a∧a≤4294967295)(hb:0≤b∧b≤4294967295):aU.Ok ⟨k,[],[a,b],[]⟩:=by
 have hs:cZ k=⟨0,2,0,0,0,0⟩:=by rcases hk with rfl|rfl|rfl<;>rfl
 have hl:(dI a.toNat).length≤5:=F8 aj;have hl2:(dI b.toNat).length≤5:=F8 aj;have hp:aU.pay ⟨k,[],[a,b],[]⟩=dI a.toNat++dI b.toNat:=by simp[aU.pay,hs,mi,fP]
 refine⟨by show 1≤k∧k≤22;omega,by simp[hs],.inr (by simp[hs]),by simp[hs,iD],by simp,fun m hm=>?_,?_⟩
 ·simp only[List.mem_cons,o_,or_false]at hm;rcases hm with rfl|rfl
  ·exact ha
  ·exact hb
 ·rw[hp,dP];omega
theorem aU.Ok.m{m:aU}(h:m.Ok):uB m:=⟨h,h.lens.1,h.lens.2.1,h.lens.2.2⟩
section
variable{w w':ak}{B:Nat}(hk: ∀b,B≤b→b<w.heap.size→w'.heap[b]?=w.heap[b]?)
include hk
theorem Own.jD{e:aK}{sz:Nat}{xs:aP}(h:Own w B e sz a n c xs):Own w' B e sz a n c xs:=h.keep fun b _ h1 h2=>hk b h1 h2
theorem iM.jD{r:Rx}(h:iM w B r):iM w' B r:=⟨h.sec.jD hk,h.lim.jD hk,h.tk.jD hk,fun t ht=>(h.qG t ht).jD hk,h.vh.jD hk⟩
theorem dZ.jD{d:Dx}(h:dZ w B d):dZ w' B d:=⟨h.r.jD hk,h.rs.jD hk,fun t ht=>(h.lg t ht).jD hk,h.dr.jD hk,fun t ht=>(h.ds t ht).jD hk,h.au.jD hk⟩
theorem iR.jD{s:Sx}(h:iR w B s):iR w' B s:=⟨h.ls.jD hk,h.nx.jD hk⟩
theorem fZ.jD{s:Vc}(h:fZ w B s):fZ w' B s:=⟨h.en.jD hk⟩
theorem jH.jD{s:Vx}(h:jH w B s):jH w' B s:=⟨h.cs.jD hk,h.ns.jD hk⟩
theorem dE.jD{c:Cx}(h:dE w B c):dE w' B c:=
 ⟨h.ds.jD hk,fun d hd=>(h.qV d hd).jD hk,h.ss.jD hk,fun d hd=>(h.sV d hd).jD hk,h.vs.jD hk,fun d hd=>(h.uk d hd).jD hk,h.st.jD hk,h.ws.jD hk,fun d hd=>(h.r_ d hd).jD hk,h.zF,h.yz,h.yA,h.yC⟩
theorem ik.jD{b:Bx}(h:ik w B b):ik w' B b:=⟨h.c.jD hk,h.ss.jD hk,fun s hs=>Own.jD hk (h.it s hs)⟩
end
end Go.Proofs.YtiffpjamngklhaaGreat
