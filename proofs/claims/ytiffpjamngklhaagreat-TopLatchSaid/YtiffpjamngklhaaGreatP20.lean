/- Lemmas, part 20. -/
import Derived.Outline
import Derived.Test.YtiffpjamngklhaaGreatP14
namespace Go.Proofs.YtiffpjamngklhaaGreat
set_option linter.all false
set_option maxRecDepth 100000
set_option maxHeartbeats 16000000
open Go.RowKit Tryz
open Go.Sort hiding Below
variable{w w':ak}{n R T tn an dn:Nat}{a:az}{xs:aP}
def CE(k:Int)(p:aJ):Prop:= ∀m:aU,m.Ok→m.kind=k→m.pay≠p
def aaR(dt:Int)(r:aJ):Prop:=dt= -1∨(r.length:Int)=dt
theorem Hz{k:Int}{s:jZ}{p:aJ}(hs:cZ k=s)(h: ¬ (p.length≤200∧s.tok≤p.length∧∃l r,f_ s.fix.toNat (p.drop s.tok.toNat)=some (l,r)∧((s.grp=0∧aaR s.dat r)∨(0<s.grp∧∃x r2,f_ 1 r=some ([x],r2)∧s.lo≤x∧x≤s.hi∧∃m r3,f_ (x*s.grp).toNat r2=some (m,r3)∧aaR s.dat r3)))):CE k p:=by
 intro m hm hk hp;subst hk hp;obtain⟨a1,a2,a3,a4,l,m2,r,a5,a6,a7⟩:=ZQ hm hs;refine h ⟨a1,a2,l,r,a6,?_⟩;rcases a7 with⟨b1,b2,b3⟩|⟨b1,x,b2,b3,b4,b5,b6⟩
 ·exact .inl ⟨b1,by rw[b3];exact a4⟩
 ·exact .inr ⟨b1,x,_,b5,b2,b3,_,_,b6,a4⟩
theorem auY{k:Int}: ∃(T F:Nat) (gr lo hi dt:Int),cZ k=⟨T,F,gr,lo,hi,dt⟩∧(T=0∨T=10)∧F≤4∧0≤gr∧gr≤4∧0≤lo∧lo≤hi∧hi≤16∧(dt= -1∨dt=0∨dt=10):=by
 have so:=CX k;obtain⟨⟨tk,fx,gr,lo,hi,dt⟩,hs⟩: ∃s,cZ k=s:=⟨_,rfl⟩;rw[hs]at so⊢;obtain⟨h1,h2,h3,h4,h5,h6⟩:=so;simp only at h1 h2 h3 h4 h5 h6;obtain⟨T,rfl⟩:=Int.eq_ofNat_of_zero_le (show 0≤tk by omega);obtain⟨F,rfl⟩:=Int.eq_ofNat_of_zero_le h2.1;exact⟨T,F,gr,lo,hi,dt,rfl,by omega,by omega,h3.1,h3.2,h4.1,h5.1,h5.2.1,h6⟩
theorem rd1{b:aJ}{l:aO}{r:aJ}(h:f_ 1 b=some (l,r)): ∃x:Int,l= [x]∧0≤x∧x≤4294967295:=by
 obtain⟨h1,_,h3⟩:=zU _ _ _ _ h
 match l,h1 with
 |[x],_=>exact⟨x,rfl,h3 x aF⟩
def axM(n R:Nat)(l:aO)(a:az)(b r:aJ)(w:ak)(e:Ending)(w':ak):Prop:=
 ∃xa xc ra rc,e= .returned (.tuple #[.slice xa n xc,.slice ra R rc,.bool true])∧R≤rc∧Own w' w.heap.size 3 1 xa n xc (l.map encI)∧(∀w0:ak,bI w0 a b→bI w0 ra r)∧(ra=none→R=0∧rc=0)∧Below w.heap.size w w'
theorem Ir{b:aJ}{l:aO}{r:aJ}(h:Hid (f_ n b=some (l,r)))(hR:Hid (R=r.length))(a:az)(m c:Nat)(N:Int)(hN:N=n)(w:ak)(hb:bI w a b)(hm:m=b.length)(hc:m≤c)(hl:b.length≤1000000)(hnil:a=none→m=0∧c=0)(hn:n≤1000):
  aH 82 #[.slice a m c,ae N] w (axM n R l a b r w):=by
 subst hN;refine(agp n a b m c w hb hm hc hl hnil hn).mono fun e w' h'=>?_;rcases h' with⟨l',r',xa,xc,ra,rn,rc,h1,h2,h3,h4,h5,h6,h7,h8⟩|⟨h1,_⟩
 ·rw[h.out]at h1;injection h1 with h1
  injection h1 with e1 e2
  subst e1 e2;rw[hR.out];subst h3;exact⟨xa,xc,ra,rc,h2,h4,h5,h6,h7,h8⟩
 ·rw[h.out]at h1;cases h1
theorem ZR{b:aJ}(h:Hid (f_ n b=none))(a:az)(m c:Nat)(N:Int)(hN:N=n)(w:ak)(hb:bI w a b)(hm:m=b.length)(hc:m≤c)(hl:b.length≤1000000)(hnil:a=none→m=0∧c=0)(hn:n≤1000):
  aH 82 #[.slice a m c,ae N] w fun e w'=>e= .returned (.tuple #[.slice none 0 0,.slice none 0 0,.bool false])∧Below w.heap.size w w':=by
 subst hN;refine(agp n a b m c w hb hm hc hl hnil hn).mono fun e w' h'=>?_;rcases h' with⟨l',r',xa,xc,ra,rn,rc,h1,_⟩|⟨_,h2,h3⟩
 ·rw[h.out]at h1;cases h1
 ·exact⟨h2,h3⟩
theorem Iu{pa:az}{p:aJ}{pc:Nat}(hb:bI w pa p)(hc:p.length≤pc)(hT:T≤p.length)(hnil:pa=none→p.length=0∧pc=0):bI w (if pc=T then pa else Option.map (fun x=>x.add T) pa) (p.drop T)∧((if pc=T then pa else Option.map (fun x=>x.add T) pa)=none→p.length -T=0∧pc -T=0):=by
 by_cases h:pc=T
 ·rw[if_pos h];exact⟨by rw[List.drop_eq_nil_of_le aj];exact bI.nil _ _,fun _=>by omega⟩
 ·rw[if_neg h];cases pa with
  |none=>have:=hnil rfl;omega
  |some ad=>
   refine⟨?_,fun h=>by simp at h⟩;rcases hb.open with rfl|⟨b,off,e,_,_⟩
   ·simp;exact bI.nil _ _
   ·injection e with e
    subst e;have:=hb.drop T;have hadd:(⟨b,off,none⟩:Addr).add T=⟨b,off+T,none⟩:=by unfold Addr.add;split<;>simp_all
    simpa [hadd]using this
structure VS(w':ak)(B:Nat)(m:aU)(ta:az)(tc:Nat)(aa:az)(ac:Nat)(da:az)(dc:Nat):Prop where
 tok:Own w' B 5 1 ta m.tok.length tc (m.tok.map a_)
 args:Own w' B 3 1 aa m.args.length ac (m.args.map encI)
 dat:Own w' B 5 1 da m.dat.length dc (m.dat.map a_)
def avR(m:aU)(w':ak)(B:Nat)(v:Value):Prop:= ∃ta tc aa ac da dc,v= .agg #[ae m.kind,.slice ta m.tok.length tc,.slice aa m.args.length ac,.slice da m.dat.length dc]∧VS w' B m ta tc aa ac da dc∧qx w' m ta tc aa da
def qQ(k:Int)(p:aJ)(w:ak)(e:Ending)(w':ak):Prop:=
 ((∃m:aU,m.Ok∧m.kind=k∧m.pay=p∧∃v,e= .returned (.tuple #[v,ae 0])∧avR m w' w.heap.size v)∨
  (1≤k∧k≤22∧CE k p∧e= .returned (.tuple #[.agg #[ae 0,.slice none 0 0,.slice none 0 0,.slice none 0 0],ae 6]))∨
  ((k<1∨22<k)∧e= .returned (.tuple #[.agg #[ae 0,.slice none 0 0,.slice none 0 0,.slice none 0 0],ae 5])))∧Below w.heap.size w w'
theorem qQ.no{k:Int}{p:aJ}(h1:1≤k)(h2:k≤22)(h:CE k p)(hb:Below w.heap.size w w'):qQ k p w (.returned (.tuple #[.agg #[ae 0,.slice none 0 0,.slice none 0 0,.slice none 0 0],ae 6])) w':=⟨.inr (.inl ⟨h1,h2,h,rfl⟩),hb⟩
theorem Row.Ap{g:Nat}(h:Row w a xs)(hne: ∀b,a.map (·.block)=some b→b≠g)(u0 u1 u2 u3:Value):
  Row ((((w.setCell ⟨g,0,none⟩ u0).setCell ⟨g,1,none⟩ u1).setCell ⟨g,2,none⟩ u2).setCell ⟨g,3,none⟩ u3) a xs:=by
 have q: ∀i:Nat,a.map (·.block)≠some (⟨g,i,none⟩:Addr).block:=fun i e=>hne g e rfl;exact Row.far (Row.far (Row.far (Row.far h (q 0) _) (q 1) _) (q 2) _) (q 3) _
theorem Own.Ap{B:Nat}{e:aK}{size c:Nat}{g:Nat}(h:Own w B e size a n c xs)(hne: ∀b,a.map (·.block)=some b→b≠g)(u0 u1 u2 u3:Value):
  Own ((((w.setCell ⟨g,0,none⟩ u0).setCell ⟨g,1,none⟩ u1).setCell ⟨g,2,none⟩ u2).setCell ⟨g,3,none⟩ u3) B e size a n c xs:=by
 have q: ∀i:Nat,a.map (·.block)≠some (⟨g,i,none⟩:Addr).block:=fun i e=>hne g e rfl;exact Own.far (Own.far (Own.far (Own.far h (q 0) _) (q 1) _) (q 2) _) (q 3) _
theorem qQ.yes{m:aU}{k:Int}{p:aJ}{ta aa da:az}{tc A ac dc:Nat}(hm:m.Ok∧m.pay=p)(hk:m.kind=k)(hT:T=m.tok.length)(hA:A=m.args.length)(hR:R=m.dat.length)(how:VS w' w.heap.size m ta tc aa ac da dc)(hat:qx w' m ta tc aa da)(hb:Below w.heap.size w w'):
  qQ k p w (.returned (.tuple #[.agg #[ae k,.slice ta T tc,.slice aa A ac,.slice da R dc],ae 0])) w':=by
 subst hT hA hR hk;exact⟨.inl ⟨m,hm.1,rfl,hm.2,_,rfl,ta,tc,aa,ac,da,dc,rfl,how,hat⟩,hb⟩
theorem aU.Ok.lens{m:aU}(h:m.Ok):m.tok.length≤1000000∧m.args.length≤1000000∧m.dat.length≤1000000:=by
 have so:=CX m.kind;refine⟨by have:=h.tok;have:=so.tok;omega,?_,by have:=h.aaY;omega⟩;have hg:=h.grp;have hb:=U_ so hg;have f:=so.fix;have g:=so.grp;unfold iD at hg;unfold mY at hb
 split at hg
 ·omega
 ·rename_i h0;rw[if_neg h0]at hb;have e:=Int.ediv_mul_cancel (Int.dvd_of_emod_eq_zero hg.2.1);have:((m.args.length:Int) -(cZ m.kind).fix)/(cZ m.kind).grp*(cZ m.kind).grp≤16*4:=Int.mul_le_mul hb.2 g.2 g.1 aj;omega
def axN(R:Nat)(x:Int)(a:az)(b r:aJ)(w:ak)(e:Ending)(w':ak):Prop:=
 ∃g xc ra rc,e= .returned (.tuple #[.slice (some ⟨g,0,none⟩) 1 xc,.slice ra R rc,.bool true])∧R≤rc∧w'.cell? ⟨g,0,none⟩=some (ae x)∧w.heap.size≤g∧g<w'.heap.size∧1≤xc∧(∀w0:ak,bI w0 a b→bI w0 ra r)∧(ra=none→R=0∧rc=0)∧Below w.heap.size w w'
theorem ZT{b:aJ}{x:Int}{r:aJ}(h:Hid (f_ 1 b=some ([x],r)))(hR:Hid (R=r.length))(a:az)(m c:Nat)(w:ak)(hb:bI w a b)(hm:m=b.length)(hc:m≤c)(hl:b.length≤1000000)(hnil:a=none→m=0∧c=0):
  aH 82 #[.slice a m c,ae 1] w (axN R x a b r w):=
 (Ir h hR a m c 1 rfl w hb hm hc hl hnil aj).mono fun e w' ⟨xa,xc,ra,rc,h1,h2,h3,h4,h5,h6⟩=>by
  obtain⟨g,rfl,g1,g2⟩:=h3.open_ aj;exact⟨g,xc,ra,rc,h1,h2,by have:=h3.cell 0 aF;simpa [encI]using this,g1,g2,h3.IJ,h4,h5,h6⟩
theorem asl{b:aJ}(h:Hid (f_ 1 b=none))(a:az)(m c:Nat)(w:ak)(hb:bI w a b)(hm:m=b.length)(hc:m≤c)(hl:b.length≤1000000)(hnil:a=none→m=0∧c=0):
 aH 82 #[.slice a m c,ae 1] w fun e w'=>e= .returned (.tuple #[.slice none 0 0,.slice none 0 0,.bool false])∧Below w.heap.size w w':=ZR h a m c 1 rfl w hb hm hc hl hnil aj
section
theorem agq{P:Prop}(h:P:=by
 go_enter func46,ntmps46
 go_wp2_with (first|(go_at_call 81;(with_reducible refine(A8 _ h1 h2 hs).mono ?_);rintro e w1 ⟨rfl,hb1⟩;(have bR:=(ah.new w 36 #[ae 0,.slice none 0 0,.slice none 0 0,.slice none 0 0]).below hb1 aF);obtain⟨m0,m1,m2,m3⟩:=bR.four;(have lR:=bR.lt);(have fR:=bR.frozen)))
 exact bodyPost_ret (v:= .tuple #[.agg #[ae 0,.slice none 0 0,.slice none 0 0,.slice none 0 0],ae 6]) (by simp[results,results46,go_sem,m0,m1,m2,m3,lR]) rfl (qQ.no h1 h2 HN.out bel)):P:=h
theorem agr{P:Prop}(h:P:=by
 exact bodyPost_ret (v:= .tuple #[.agg #[ae 0,.slice none 0 0,.slice none 0 0,.slice none 0 0],ae 6]) (by simp[results,results46,go_sem,m0,m1,m2,m3]) rfl (qQ.no h1 h2 HN.out bel)):P:=h
variable(k:Int)(pa:az)(p:aJ)(pc:Nat)(w:ak)
theorem anY(hk:k<1∨22<k):aH 46 #[ae k,.slice pa p.length pc] w (qQ k p w):=by
 go_enter func46,ntmps46
 go_wp2_with (first|(go_at_call 81;(with_reducible refine(aep k _ hk).mono ?_);rintro e w1 ⟨rfl,hb1⟩;(have bR:=(ah.new w 36 #[ae 0,.slice none 0 0,.slice none 0 0,.slice none 0 0]).below hb1 aF);obtain⟨m0,m1,m2,m3⟩:=bR.four;(have lR:=bR.lt);(have fR:=bR.frozen)))
 exact bodyPost_ret (v:= .tuple #[.agg #[ae 0,.slice none 0 0,.slice none 0 0,.slice none 0 0],ae 5]) (by simp[results,results46,go_sem,m0,m1,m2,m3,lR]) rfl ⟨.inr (.inr ⟨hk,rfl⟩),bel⟩
variable{T F:Nat}{gr lo hi dt:Int}(h1:1≤k)(h2:k≤22)(hs:cZ k=⟨T,F,gr,lo,hi,dt⟩)
include h1 h2 hs
theorem anZ(hp:200<p.length):aH 46 #[ae k,.slice pa p.length pc] w (qQ k p w):=by
 have HN:=ax (show CE k p from Hz hs (fun⟨q,_⟩=>by omega));have z1:decide (200<p.length)=true:=jB hp;have i1:(200:Int)<(p.length:Int):=by omega
 exact agq
theorem aoq(hp:p.length≤200)(ht:p.length<T):aH 46 #[ae k,.slice pa p.length pc] w (qQ k p w):=by
 have HN:=ax (show CE k p from Hz hs (fun⟨_,q,_⟩=>by simp only at q;omega));have z1:decide (200<p.length)=false:=fA aj;have i1:(p.length:Int)≤200:=by omega
 have z2:decide (p.length<T)=true:=jB aj;exact agq
variable(hb:bI w pa p)(hc:p.length≤pc)(hnil:pa=none→p.length=0∧pc=0)(hp:p.length≤200)(ht:T≤p.length)
include hb hc hnil hp ht
theorem aoU(hF:F≤4)(hr:f_ F (p.drop T)=none):aH 46 #[ae k,.slice pa p.length pc] w (qQ k p w):=by
 have HN:=ax (show CE k p from Hz hs (fun⟨_,_,l,r,q,_⟩=>by simp only[Int.toNat_natCast]at q;rw[hr]at q;cases q));have z1:decide (200<p.length)=false:=fA aj;have i1:(p.length:Int)≤200:=by omega
 have z2:decide (p.length<T)=false:=fA aj;obtain⟨mX,qL⟩:=Iu hb hc ht hnil;obtain⟨ra,hra⟩: ∃ra,(if pc=T then pa else Option.map (fun x=>x.add T) pa)=ra:=⟨_,rfl⟩;rw[hra]at mX qL;have hld:(p.drop T).length=p.length -T:=pW;have HL:=ax hld;have HR:=ax hr;clear hld hr
 go_enter func46,ntmps46
 go_wp2_with (first|(go_at_call 81;(with_reducible refine(A8 _ h1 h2 hs).mono ?_);rintro e w1 ⟨rfl,hb1⟩;(have bR:=(ah.new w 36 #[ae 0,.slice none 0 0,.slice none 0 0,.slice none 0 0]).below hb1 aF);(have lR:=bR.lt)))
 go_quiet (fail)
 go_wp2_with (first|(go_at_call 82;(with_reducible refine(ZR HR ra _ _ _ rfl _ (mX.below bel aA) HL.out.symm aj JS qL aj).mono ?_);rintro e w2 ⟨rfl,hb2⟩;(have bR2:=((bR.alloc _).drewN _).below hb2 cu);obtain⟨m0,m1,m2,m3⟩:=bR2.four;(have JK:=bR2.lt);(have fR:=bR2.frozen)))
 exact agr
variable{l:aO}{r:aJ}(hF:F≤4)(hr:f_ F (p.drop T)=some (l,r))
include hF hr
theorem aor(hg:gr=0)(hd:dt≠ -1)(hd2:(r.length:Int)≠dt):aH 46 #[ae k,.slice pa p.length pc] w (qQ k p w):=by
 have HN:=ax (show CE k p from Hz hs (fun⟨_,_,l',r',q,q2⟩=>by
  simp only[Int.toNat_natCast]at q;rw[hr]at q;injection q with q
  injection q with q q'
  subst q';rcases q2 with⟨_,q2⟩|⟨q2,_⟩
  ·unfold aaR at q2;simp only at q2;omega
  ·simp only at q2;omega))
 subst hg;have z1:decide (200<p.length)=false:=fA aj;have i1:(p.length:Int)≤200:=by omega
 have z2:decide (p.length<T)=false:=fA aj;have z3:(dt != -1)=true:=by rw[bne_iff_ne];exact hd
 obtain⟨R,hR⟩: ∃R,Hid (R=r.length):=⟨_,ax rfl⟩;have z4:((R:Int) !=dt)=true:=by rw[bne_iff_ne,hR.out];exact hd2
 obtain⟨mX,qL⟩:=Iu hb hc ht hnil;obtain⟨ra,hra⟩: ∃ra,(if pc=T then pa else Option.map (fun x=>x.add T) pa)=ra:=⟨_,rfl⟩;rw[hra]at mX qL;have hld:(p.drop T).length=p.length -T:=pW;have HL:=ax hld;have HR:=ax hr;clear hld hr hd hd2
 go_enter func46,ntmps46
 go_wp2_with (first|(go_at_call 81;(with_reducible refine(A8 _ h1 h2 hs).mono ?_);rintro e w1 ⟨rfl,hb1⟩;(have bR:=(ah.new w 36 #[ae 0,.slice none 0 0,.slice none 0 0,.slice none 0 0]).below hb1 aF);(have lR:=bR.lt)))
 go_quiet (fail)
 go_wp2_with (first|(go_at_call 82;(with_reducible refine(Ir HR hR ra _ _ _ rfl _ (mX.below bel aA) HL.out.symm aj JS qL aj).mono ?_);rintro e w2 ⟨xa,xc,rb,rc,rfl,hrc,eu,EZ,E8,hb2⟩;(have bR2:=((bR.alloc _).drewN _).below hb2 cu);(have bS2:=((ah.new w1 177 #[ae T,ae F,ae 0,ae lo,ae hi,ae dt]).drewN nq).below hb2 aF);obtain⟨m0,m1,m2,m3⟩:=bR2.four;obtain⟨s0,s1,s2,s3,s4,s5⟩:=bS2.x_;(have JK:=bR2.lt);(have BP:=bS2.lt);(have fR:=bR2.frozen)))
 exact agr
theorem aos(hg:gr=0)(hd:dt= -1∨(r.length:Int)=dt):aH 46 #[ae k,.slice pa p.length pc] w (qQ k p w):=by
 have HY:=ax (aoT (p:=p) (l:=l) (r:=r) h1 h2 hs (by rw[←hs];exact CX k) hg aj dD Nc hd);simp only[Int.toNat_natCast]at HY;subst hg;have HM:=ax HY.out.1.lens;have hrl:r.length≤1000000:=HM.out.2.2;have hll:l.length=F:=(zU _ _ _ _ hr).1;have abw:=hb.take T;have htl:(p.take T).length=T:=by rw[pV];omega
 have HT:=ax htl;have nT:=ax hll;have abx:pa=none→T=0∧pc=0:=fun h=>by have:=hnil h;omega
 have z1:decide (200<p.length)=false:=fA aj;have i1:(p.length:Int)≤200:=by omega
 have z2:decide (p.length<T)=false:=fA aj;obtain⟨R,hR⟩: ∃R,Hid (R=r.length):=⟨_,ax rfl⟩;obtain⟨mX,qL⟩:=Iu hb hc ht hnil;obtain⟨ra,hra⟩: ∃ra,(if pc=T then pa else Option.map (fun x=>x.add T) pa)=ra:=⟨_,rfl⟩;rw[hra]at mX qL;have hld:(p.drop T).length=p.length -T:=pW;have HL:=ax hld;have HR:=ax hr;have hrR:R≤1000000:=by have:=hR.out;omega
 have wU:=ax hrl;clear hld hr htl hll hrl;rcases Ql hd with⟨q,z3⟩|⟨q,z3,z4⟩
 all_goals
  (try rw[←hR.out]at z4)
  clear hd q
  go_enter func46,ntmps46
  go_wp2_with (first|(go_at_call 81;(with_reducible refine(A8 _ h1 h2 hs).mono ?_);rintro e w1 ⟨rfl,hb1⟩;(have bR:=(ah.new w 36 #[ae 0,.slice none 0 0,.slice none 0 0,.slice none 0 0]).below hb1 aF);(have lR:=bR.lt)))
  go_quiet (fail)
  go_wp2_with (first|(go_at_call 82;(with_reducible refine(Ir HR hR ra _ _ _ rfl _ (mX.below bel aA) HL.out.symm aj JS qL aj).mono ?_);rintro e w2 ⟨xa,xc,rb,rc,rfl,hrc,eu,EZ,E8,hb2⟩;(have eu:=eu.mono (show w.heap.size+1≤_ by simp;omega));(have bR2:=((bR.alloc _).drewN _).below hb2 cu);(have bS2:=((ah.new w1 177 #[ae T,ae F,ae 0,ae lo,ae hi,ae dt]).drewN nq).below hb2 aF);obtain⟨m0,m1,m2,m3⟩:=bR2.four;obtain⟨s0,s1,s2,s3,s4,s5⟩:=bS2.x_;(have JK:=bR2.lt);(have BP:=bS2.lt);(have fR:=bR2.frozen);(have be2:Below w.heap.size w w2:=bel);(have CG:=EZ w mX))|(go_at_call 71;(with_reducible refine(Ez pa T pc (p.take T) _ (abw.below bel aA) HT.out.symm (by have:=HT.out;omega) abx).mono ?_);rintro e w5 ⟨ta,tc,rfl,jF,hb5⟩;(have jS:Below w.heap.size w w5:=bel);(have xG:=bR2.below hb5 bR2.lt))|(go_at_call 71;(with_reducible refine(Ez rb R rc r _ (CG.below jS aA) hR.out PY E8).mono ?_);rintro e w6 ⟨da,dc,rfl,jK,hb6⟩;(have RX:Below w.heap.size w w6:=bel);(have O_:=xG.below hb6 xG.lt);obtain⟨y0,y1,y2,y3⟩:=O_.four;(have lR6:=O_.lt);(have fR6:=O_.frozen)))
  refine bodyPost_ret (v:= .tuple #[.agg #[ae k,.slice ta T tc,.slice xa F xc,.slice da R dc],ae 0]) (by simp[results,results46,go_sem,y0,y1,y2,y3]) rfl ?_;have o2:=(eu.below hb5 aA).below hb6 aA;have o5:=jF.below hb6 aA;have s2:=hb1.size;have s5:=hb2.size;have s6:=hb5.size;simp at s2 s5;refine qQ.yes HY.out rfl HT.out.symm nT.out.symm hR.out ⟨by have:=(o5.mono (show w.heap.size≤_ by omega)).Ap (g:=w.heap.size) (fun b h=>by have:=o5.dW b h;omega) (ae k) (.slice ta T tc) (.slice xa F xc) (.slice da R dc);simpa only[HT.out]using this,by have:=(o2.mono (show w.heap.size≤_ by omega)).Ap (g:=w.heap.size) (fun b h=>by have:=o2.dW b h;omega) (ae k) (.slice ta T tc) (.slice xa F xc) (.slice da R dc);simpa only[nT.out]using this,by have:=(jK.mono (show w.heap.size≤_ by omega)).Ap (g:=w.heap.size) (fun b h=>by have:=jK.dW b h;omega) (ae k) (.slice ta T tc) (.slice xa F xc) (.slice da R dc);simpa only[←hR.out]using this⟩ ⟨Row.Ap o5.dL (fun b h=>?_) _ _ _ _,Row.Ap o2.row (fun b h=>?_) _ _ _ _,Row.Ap jK.dL (fun b h=>?_) _ _ _ _,fun h=>by have:=o5.Qc h;have:=HT.out;simp only;omega,HM.out⟩ bel
  ·have:=o5.dW b h;omega
  ·have:=o2.dW b h;omega
  ·have:=jK.dW b h;omega
end
section
theorem Y1{P:Prop}(h:P:=by
 exact bodyPost_ret (v:= .tuple #[.agg #[ae 0,.slice none 0 0,.slice none 0 0,.slice none 0 0],ae 6]) (by simp[results,results46,go_sem,y0,y1,y2,y3]) rfl (qQ.no h1 h2 HN.out bel)):P:=h
theorem PK{P:Prop}(h:P:=by
 have:=congrArg List.length (zU _ _ _ _ hr).2.1;rw[dP,hld]at this;omega):P:=h
theorem ags{P:Prop}(h:P:=by
 clear hld hrl hr hr1
 go_enter func46,ntmps46
 go_wp2_with (first|(go_at_call 81;(with_reducible refine(A8 _ h1 h2 hs).mono ?_);rintro e w1 ⟨rfl,hb1⟩;(have bR:=(ah.new w 36 #[ae 0,.slice none 0 0,.slice none 0 0,.slice none 0 0]).below hb1 aF);(have lR:=bR.lt)))
 go_quiet (fail)
 go_wp2_with (first|(go_at_call 82;(with_reducible refine(Ir HR hR ra _ _ _ rfl _ (mX.below bel aA) HL.out.symm aj JS qL aj).mono ?_);rintro e w2 ⟨xa,xc,rb,rc,rfl,hrc,eu,EZ,E8,hb2⟩;(have eu:=eu.mono (show w.heap.size+1≤_ by simp;omega));(have bR2:=((bR.alloc _).drewN _).below hb2 cu);(have bS2:=((ah.new w1 177 #[ae T,ae F,ae gr,ae lo,ae hi,ae dt]).drewN nq).below hb2 aF);obtain⟨m0,m1,m2,m3⟩:=bR2.four;obtain⟨s0,s1,s2,s3,s4,s5⟩:=bS2.x_;(have JK:=bR2.lt);(have BP:=bS2.lt);(have be2:Below w.heap.size w w2:=bel);(have CG:=EZ w mX))|(go_at_call 82;(with_reducible refine(ZT HR1 hR2 rb _ _ _ (CG.below be2 aA) hR.out hrc PY E8).mono ?_);rintro e w3 ⟨g,gc,rd,rdc,rfl,Wn,cx,g1,g2,gc1,Q9,Wp,hb3⟩;(have uF:=bR2.below hb3 bR2.lt);(have BQ:=bS2.below hb3 bS2.lt);(have jE:=eu.below hb3 aA);obtain⟨y0,y1,y2,y3⟩:=uF.four;obtain⟨t0,t1,t2,t3,t4,t5⟩:=BQ.x_;(have TJ:=uF.lt);(have TK:=uF.frozen);(have eH:Below w.heap.size w w3:=bel);(have TL:=Q9 w CG)))
 go_quiet (fail)
 go_wp2
 exact bodyPost_ret (v:= .tuple #[.agg #[ae 0,.slice none 0 0,.slice none 0 0,.slice none 0 0],ae 6]) (by simp[results,results46,go_sem,y0,y1,y2,y3]) rfl (qQ.no h1 h2 HN.out bel)):P:=h
variable(k:Int)(pa:az)(p:aJ)(pc:Nat)(w:ak)
variable{T F:Nat}{gr lo hi dt:Int}(h1:1≤k)(h2:k≤22)(hs:cZ k=⟨T,F,gr,lo,hi,dt⟩)
variable(hb:bI w pa p)(hc:p.length≤pc)(hnil:pa=none→p.length=0∧pc=0)(hp:p.length≤200)(ht:T≤p.length)
variable{l:aO}{r:aJ}(hF:F≤4)(hr:f_ F (p.drop T)=some (l,r))(hg:0<gr)
include h1 h2 hs hb hc hnil hp ht hF hr hg
theorem aoV(hr1:f_ 1 r=none):aH 46 #[ae k,.slice pa p.length pc] w (qQ k p w):=by
 have HN:=ax (show CE k p from Hz hs (fun⟨_,_,l',r',q,q2⟩=>by
  simp only[Int.toNat_natCast]at q;rw[hr]at q;injection q with q
  injection q with q q'
  subst q';rcases q2 with⟨q2,_⟩|⟨_,x',r2',q3,q4,q5,m',r3',q6,q7⟩
  ·simp only at q2;omega
  ·simp only at q4 q5 q6 q7;rw[hr1]at q3;cases q3))
 have z1:decide (200<p.length)=false:=fA aj;have i1:(p.length:Int)≤200:=by omega
 have z2:decide (p.length<T)=false:=fA aj;have zg:decide (0<gr)=true:=jB hg;obtain⟨R,hR⟩: ∃R,Hid (R=r.length):=⟨_,ax rfl⟩;obtain⟨mX,qL⟩:=Iu hb hc ht hnil;obtain⟨ra,hra⟩: ∃ra,(if pc=T then pa else Option.map (fun x=>x.add T) pa)=ra:=⟨_,rfl⟩;rw[hra]at mX qL;have hld:(p.drop T).length=p.length -T:=pW;have hrl:r.length≤p.length -T:=by
  exact PK
 have hRl:R≤200:=by have:=hR.out;omega
 have wU:=ax hrl;have HL:=ax hld;have HR:=ax hr;have HR1:=ax hr1;clear hld hrl hr hr1
 go_enter func46,ntmps46
 go_wp2_with (first|(go_at_call 81;(with_reducible refine(A8 _ h1 h2 hs).mono ?_);rintro e w1 ⟨rfl,hb1⟩;(have bR:=(ah.new w 36 #[ae 0,.slice none 0 0,.slice none 0 0,.slice none 0 0]).below hb1 aF);(have lR:=bR.lt)))
 go_quiet (fail)
 go_wp2_with (first|(go_at_call 82;(with_reducible refine(Ir HR hR ra _ _ _ rfl _ (mX.below bel aA) HL.out.symm aj JS qL aj).mono ?_);rintro e w2 ⟨xa,xc,rb,rc,rfl,hrc,eu,EZ,E8,hb2⟩;(have eu:=eu.mono (show w.heap.size+1≤_ by simp;omega));(have bR2:=((bR.alloc _).drewN _).below hb2 cu);(have bS2:=((ah.new w1 177 #[ae T,ae F,ae gr,ae lo,ae hi,ae dt]).drewN nq).below hb2 aF);obtain⟨m0,m1,m2,m3⟩:=bR2.four;obtain⟨s0,s1,s2,s3,s4,s5⟩:=bS2.x_;(have JK:=bR2.lt);(have BP:=bS2.lt);(have be2:Below w.heap.size w w2:=bel);(have CG:=EZ w mX))|(go_at_call 82;(with_reducible refine(asl HR1 rb _ _ _ (CG.below be2 aA) hR.out hrc PY E8).mono ?_);rintro e w3 ⟨rfl,hb3⟩;(have uF:=bR2.below hb3 bR2.lt);(have BQ:=bS2.below hb3 bS2.lt);obtain⟨y0,y1,y2,y3⟩:=uF.four;obtain⟨t0,t1,t2,t3,t4,t5⟩:=BQ.x_;(have TJ:=uF.lt);(have TK:=uF.frozen);(have eH:Below w.heap.size w w3:=bel)))
 go_quiet (fail)
 go_wp2
 exact Y1
variable{x:Int}{r2:aJ}(hr1:f_ 1 r=some ([x],r2))
include hr1
theorem aot(hx:x<lo):aH 46 #[ae k,.slice pa p.length pc] w (qQ k p w):=by
 have HN:=ax (show CE k p from Hz hs (fun⟨_,_,l',r',q,q2⟩=>by
  simp only[Int.toNat_natCast]at q;rw[hr]at q;injection q with q
  injection q with q q'
  subst q';rcases q2 with⟨q2,_⟩|⟨_,x',r2',q3,q4,q5,m',r3',q6,q7⟩
  ·simp only at q2;omega
  ·simp only at q4 q5 q6 q7;rw[hr1]at q3;injection q3 with q3
   injection q3 with q3 _
   injection q3 with q3 _
   omega))
 have z1:decide (200<p.length)=false:=fA aj;have i1:(p.length:Int)≤200:=by omega
 have z2:decide (p.length<T)=false:=fA aj;have zg:decide (0<gr)=true:=jB hg;obtain⟨R,hR⟩: ∃R,Hid (R=r.length):=⟨_,ax rfl⟩;obtain⟨mX,qL⟩:=Iu hb hc ht hnil;obtain⟨ra,hra⟩: ∃ra,(if pc=T then pa else Option.map (fun x=>x.add T) pa)=ra:=⟨_,rfl⟩;rw[hra]at mX qL;have hld:(p.drop T).length=p.length -T:=pW;have hrl:r.length≤p.length -T:=by
  exact PK
 have hRl:R≤200:=by have:=hR.out;omega
 have wU:=ax hrl;have HL:=ax hld;have HR:=ax hr;have HR1:=ax hr1;obtain⟨R2,hR2⟩: ∃R,Hid (R=r2.length):=⟨_,ax rfl⟩;have z3:decide (x<lo)=true:=jB hx;exact ags
theorem aou(hx0:lo≤x)(hx:hi<x):aH 46 #[ae k,.slice pa p.length pc] w (qQ k p w):=by
 have HN:=ax (show CE k p from Hz hs (fun⟨_,_,l',r',q,q2⟩=>by
  simp only[Int.toNat_natCast]at q;rw[hr]at q;injection q with q
  injection q with q q'
  subst q';rcases q2 with⟨q2,_⟩|⟨_,x',r2',q3,q4,q5,m',r3',q6,q7⟩
  ·simp only at q2;omega
  ·simp only at q4 q5 q6 q7;rw[hr1]at q3;injection q3 with q3
   injection q3 with q3 _
   injection q3 with q3 _
   omega))
 have z1:decide (200<p.length)=false:=fA aj;have i1:(p.length:Int)≤200:=by omega
 have z2:decide (p.length<T)=false:=fA aj;have zg:decide (0<gr)=true:=jB hg;obtain⟨R,hR⟩: ∃R,Hid (R=r.length):=⟨_,ax rfl⟩;obtain⟨mX,qL⟩:=Iu hb hc ht hnil;obtain⟨ra,hra⟩: ∃ra,(if pc=T then pa else Option.map (fun x=>x.add T) pa)=ra:=⟨_,rfl⟩;rw[hra]at mX qL;have hld:(p.drop T).length=p.length -T:=pW;have hrl:r.length≤p.length -T:=by
  exact PK
 have hRl:R≤200:=by have:=hR.out;omega
 have wU:=ax hrl;have HL:=ax hld;have HR:=ax hr;have HR1:=ax hr1;obtain⟨R2,hR2⟩: ∃R,Hid (R=r2.length):=⟨_,ax rfl⟩;have z3:decide (x<lo)=false:=fA aj;have z4:decide (hi<x)=true:=jB hx;exact ags
end
section
variable(k:Int)(pa:az)(p:aJ)(pc:Nat)(w:ak)
variable{T F:Nat}{gr lo hi dt:Int}(h1:1≤k)(h2:k≤22)(hs:cZ k=⟨T,F,gr,lo,hi,dt⟩)
variable(hb:bI w pa p)(hc:p.length≤pc)(hnil:pa=none→p.length=0∧pc=0)(hp:p.length≤200)(ht:T≤p.length)
variable{l:aO}{r:aJ}(hF:F≤4)(hr:f_ F (p.drop T)=some (l,r))(hg:0<gr)
variable{x:Int}{r2:aJ}(hr1:f_ 1 r=some ([x],r2))(hx0:lo≤x)(hx1:x≤hi)(TM:0≤x)(Ob:hi≤16)(hg4:gr≤4)
section
variable(hr3:f_ (x*gr).toNat r2=none)
include h1 h2 hs hb hc hnil hp ht hF hr hg hr1 hx0 hx1 TM Ob hg4
include hr3
theorem aov:aH 46 #[ae k,.slice pa p.length pc] w (qQ k p w):=by
 have HN:=ax (show CE k p from Hz hs (fun⟨_,_,l',r',q,q2⟩=>by
  simp only[Int.toNat_natCast]at q;rw[hr]at q;injection q with q
  injection q with q q'
  subst q';rcases q2 with⟨q2,_⟩|⟨_,x',r2',q3,q4,q5,m',r3',q6,q7⟩
  ·simp only at q2;omega
  ·simp only at q4 q5 q6 q7;rw[hr1]at q3;injection q3 with q3
   injection q3 with q3 q3'
   injection q3 with q3 _
   subst q3 q3';rw[hr3]at q6;cases q6))
 have z1:decide (200<p.length)=false:=fA aj;have i1:(p.length:Int)≤200:=by omega
 have z2:decide (p.length<T)=false:=fA aj;have zg:decide (0<gr)=true:=jB hg;obtain⟨R,hR⟩: ∃R,Hid (R=r.length):=⟨_,ax rfl⟩;obtain⟨mX,qL⟩:=Iu hb hc ht hnil;obtain⟨ra,hra⟩: ∃ra,(if pc=T then pa else Option.map (fun x=>x.add T) pa)=ra:=⟨_,rfl⟩;rw[hra]at mX qL;have hld:(p.drop T).length=p.length -T:=pW;have hrl:r.length≤p.length -T:=by
  exact PK
 have hRl:R≤200:=by have:=hR.out;omega
 have wU:=ax hrl;have HL:=ax hld;have HR:=ax hr;have HR1:=ax hr1;obtain⟨R2,hR2⟩: ∃R,Hid (R=r2.length):=⟨_,ax rfl⟩;have Q_:r2.length≤r.length:=by
  have:=congrArg List.length (zU _ _ _ _ hr1).2.1;rw[dP]at this;omega
 have aby:r2.length≤1000000:=by omega
 have axO:=ax Q_;have z3:decide (x<lo)=false:=fA aj;have z4:decide (hi<x)=false:=fA aj;have hxg:0≤x*gr:=Int.mul_nonneg TM aj;have Rf:x*gr≤16*4:=Int.mul_le_mul aj hg4 aj aj;obtain⟨q,hq⟩:=Int.eq_ofNat_of_zero_le hxg;rw[hq]at Rf;have aaw:q≤1000:=by omega
 rw[hq,Int.toNat_natCast]at hr3;have HR3:=ax hr3;have e1:IntKind.i64.wrap (x*gr)=(q:Int):=by rw[hq,IntKind.wrap_i64];omega
 clear hld hrl hr hr1 Q_ hxg Rf hq hr3
 go_enter func46,ntmps46
 go_wp2_with (first|(go_at_call 81;(with_reducible refine(A8 _ h1 h2 hs).mono ?_);rintro e w1 ⟨rfl,hb1⟩;(have bR:=(ah.new w 36 #[ae 0,.slice none 0 0,.slice none 0 0,.slice none 0 0]).below hb1 aF);(have lR:=bR.lt)))
 go_quiet (fail)
 go_wp2_with (first|(go_at_call 82;(with_reducible refine(Ir HR hR ra _ _ _ rfl _ (mX.below bel aA) HL.out.symm aj JS qL aj).mono ?_);rintro e w2 ⟨xa,xc,rb,rc,rfl,hrc,eu,EZ,E8,hb2⟩;(have eu:=eu.mono (show w1.heap.size+1≤_ by simp));(have bR2:=((bR.alloc _).drewN _).below hb2 cu);(have bS2:=((ah.new w1 177 #[ae T,ae F,ae gr,ae lo,ae hi,ae dt]).drewN nq).below hb2 aF);obtain⟨m0,m1,m2,m3⟩:=bR2.four;obtain⟨s0,s1,s2,s3,s4,s5⟩:=bS2.x_;(have JK:=bR2.lt);(have BP:=bS2.lt);(have be2:Below w.heap.size w w2:=bel);(have CG:=EZ w mX))|(go_at_call 82;(with_reducible refine(ZT HR1 hR2 rb _ _ _ (CG.below be2 aA) hR.out hrc PY E8).mono ?_);rintro e w3 ⟨g,gc,rd,rdc,rfl,Wn,cx,g1,g2,gc1,Q9,Wp,hb3⟩;(have uF:=bR2.below hb3 bR2.lt);(have BQ:=bS2.below hb3 bS2.lt);(have jE:=eu.below hb3 aA);obtain⟨y0,y1,y2,y3⟩:=uF.four;obtain⟨t0,t1,t2,t3,t4,t5⟩:=BQ.x_;(have TJ:=uF.lt);(have TK:=uF.frozen);(have eH:Below w.heap.size w w3:=bel);(have TL:=Q9 w CG)))
 go_quiet (fail)
 go_wp2
 refine aW (fun W=>ah W w.heap.size 36 #[ae 0,.slice none 0 0,.slice none 0 0,.slice none 0 0]∧ah W w1.heap.size 177 #[ae T,ae F,ae gr,ae lo,ae hi,ae dt]∧W.cell? ⟨g,0,none⟩=some (ae x)∧g<W.heap.size∧Own W (w1.heap.size+1) 3 1 xa F xc (l.map encI)∧Below w.heap.size w W) ⟨uF.drewN _,BQ.drewN _,by simpa using cx,by simpa using g2,jE.below bel aA,bel⟩ ?_;rintro W ⟨kR,kS,kx,kg,abz,xB⟩;clear m0 m1 m2 m3 s0 s1 s2 s3 s4 s5 y0 y1 y2 y3 t0 t1 t2 t3 t4 t5 bR2 bS2 uF BQ JK BP TJ TK eu jE cx;apply uG [] 15 116 [some 80,some 81,some 82,some 83,some 84,some 85,some 86,some 87,some 79,some 88,some 89,some 90,some 12,some 9,some 7] [⟨[],[],[],[]⟩,⟨[],[],[],[]⟩,⟨[1],[1],[1],[]⟩,⟨[1,2],[2],[2],[]⟩,⟨[],[],[],[]⟩,⟨[4],[4],[4],[]⟩,⟨[1,2,3,4,5],[3,5],[3,5],[]⟩,⟨[0,1,2,3,4,5,6],[0,6],[0,6],[]⟩,⟨[0,1,2,3,4,5,6,7],[7],[7],[]⟩,⟨[0,1,2,3,4,5,6,7,8],[8],[8],[]⟩,⟨[0,1,2,3,4,5,6,7,8],[8],[8],[]⟩,⟨[0,1,2,3,4,5,6,7,8],[8],[8],[]⟩,⟨[0,1,2,3,4,5,6,7,8,9],[9],[9],[]⟩,⟨[0,1,2,3,4,5,6,7,8,9,10,12],[10],[10],[]⟩,⟨[0,1,2,3,4,5,6,7,8,9,10,11,12,13],[11],[11],[]⟩] [0,1,2,3,4,5,6,7,8,9,10,11,12,13,14] [12,13,14] [bC,bC,bC,bC,bC,bC,bC,bC,bC,bC,bC,bC,bC,bC,bC] [bG _,bG _,bG _,bG _,bG _,bG _,bG _,bG _,bG _,bG _,bG _,bG _,bG _,bG _,bG _]
 ·kernel_rfl
 ·kernel_rfl
 ·rfl
 ·rfl
 ·exact trivial
 ·exact trivial
 refine⟨?pX,?pY,?p_,?qh,?qi,?qj,?qm,?rF,?vN,?xW,?z_,?Dl,?Gm,?Qu,?Qv,trivial⟩
 all_goals try(intro f lo hi w hb hx hf hk hrg R hR;(try replace hb:=fH.zero hb);(try simp(decide:=true) only[go_sem]at hf hk))
 case pX|pY|p_=>go_simp;exact hR _ _ (bK rfl rfl bD rfl)
 case qh=>
  have q0:=(hb.cell (p:=⟨g,0,none⟩) kg).trans kx;go_simp;exact hR _ _ (bK rfl rfl bD rfl)
 case qi=>go_simp;exact hR _ _ (bK rfl rfl bD rfl)
 case qj=>
  obtain⟨-, -,q2, -⟩:=(kS.below hb kS.lt).x_;have q3:=kS.lt;go_simp;exact hR _ _ (bK rfl rfl bD rfl)
 case qm=>go_simp;exact hR _ _ (bK rfl rfl bD rfl)
 case rF=>
  go_simp
  (with_reducible refine(ZR HR3 rd _ _ _ rfl _ (TL.below (xB.trans (hb.mono xB.size)) aA) hR2.out Wn aby Wp aaw).mono ?_)
  rintro e w' ⟨rfl,hb4⟩;exact⟨_,rfl,hR _ _ (bK rfl rfl hb4 rfl)⟩
 case vN|xW|z_|Dl|Gm|Qu|Qv=>go_simp;exact hR _ _ (bK rfl rfl bD rfl)
 case hcl=>
  refine⟨bH,bH,bH,bH,bH,bH,bH,bH,bH,bH,bH,bH,bH,bH,bH,trivial⟩
 intro f lo hi w4 hbr hx hf hk hrg;(try replace hbr:=fH.zero hbr);clear hx;(try simp(decide:=true) only[go_sem]at hf hk);have XY:=kR.below hbr kR.lt;have own4:=abz.below hbr aA;have VT:=own4.mono (show w.heap.size≤w1.heap.size+1 by omega);have be4:Below w.heap.size w w4:=xB.trans (hbr.mono xB.size);have XZ:xa.map (·.block)≠some w.heap.size:=fun h=>by have:=own4.dW _ h;omega
 have hlen:l.length=F:=(zU _ _ _ _ HR.out).1;clear hrg;go_simp;clear e1
 go_wp2_with (first|(at_builtin;refine VR rfl _ _ rfl w.heap.size xa F xc l rfl none 0 0 [] rfl VT (Ints.nil _ _) rfl F aj aj be4.size ?_;intro xb Pe w5 jF g5 sU;(have jS:=sU w be4);(have xG:=XY.jT g5 XZ);obtain⟨y0,y1,y2,y3⟩:=xG.four;(have lR5:=xG.lt);(have fR5:=xG.frozen)))
 exact Y1
end
end
section
variable(k:Int)(pa:az)(p:aJ)(pc:Nat)(w:ak)
variable{T F:Nat}{gr lo hi dt:Int}(h1:1≤k)(h2:k≤22)(hs:cZ k=⟨T,F,gr,lo,hi,dt⟩)
variable(hb:bI w pa p)(hc:p.length≤pc)(hnil:pa=none→p.length=0∧pc=0)(hp:p.length≤200)(ht:T≤p.length)
variable{l:aO}{r:aJ}(hF:F≤4)(hr:f_ F (p.drop T)=some (l,r))(hg:0<gr)
variable{x:Int}{r2:aJ}(hr1:f_ 1 r=some ([x],r2))(hx0:lo≤x)(hx1:x≤hi)(TM:0≤x)(Ob:hi≤16)(hg4:gr≤4)
variable{m2:aO}{r3:aJ}(hr3:f_ (x*gr).toNat r2=some (m2,r3))
include h1 h2 hs hb hc hnil hp ht hF hr hg hr1 hx0 hx1 TM Ob hg4 hr3
theorem aoW:aH 46 #[ae k,.slice pa p.length pc] w (qQ k p w):=by
 have z1:decide (200<p.length)=false:=fA aj;have i1:(p.length:Int)≤200:=by omega
 have z2:decide (p.length<T)=false:=fA aj;have zg:decide (0<gr)=true:=jB hg;obtain⟨R,hR⟩: ∃R,Hid (R=r.length):=⟨_,ax rfl⟩;obtain⟨mX,qL⟩:=Iu hb hc ht hnil;obtain⟨ra,hra⟩: ∃ra,(if pc=T then pa else Option.map (fun x=>x.add T) pa)=ra:=⟨_,rfl⟩;rw[hra]at mX qL;have hld:(p.drop T).length=p.length -T:=pW;have hrl:r.length≤p.length -T:=by
  exact PK
 have hRl:R≤200:=by have:=hR.out;omega
 have wU:=ax hrl;have HL:=ax hld;have HR:=ax hr;have HR1:=ax hr1;obtain⟨R2,hR2⟩: ∃R,Hid (R=r2.length):=⟨_,ax rfl⟩;have Q_:r2.length≤r.length:=by
  have:=congrArg List.length (zU _ _ _ _ hr1).2.1;rw[dP]at this;omega
 have aby:r2.length≤1000000:=by omega
 have axO:=ax Q_;have z3:decide (x<lo)=false:=fA aj;have z4:decide (hi<x)=false:=fA aj;have hxg:0≤x*gr:=Int.mul_nonneg TM aj;have Rf:x*gr≤16*4:=Int.mul_le_mul aj hg4 aj aj;obtain⟨q,hq⟩:=Int.eq_ofNat_of_zero_le hxg;have HXQ:=ax hr3;rw[hq]at Rf;have aaw:q≤1000:=by omega
 rw[hq,Int.toNat_natCast]at hr3;have HR3:=ax hr3;obtain⟨R3,Oc⟩: ∃R,Hid (R=r3.length):=⟨_,ax rfl⟩;have e1:IntKind.i64.wrap (x*gr)=(q:Int):=by rw[hq,IntKind.wrap_i64];omega
 clear hld hrl hr hr1 Q_ hxg Rf hq hr3
 go_enter func46,ntmps46
 go_wp2_with (first|(go_at_call 81;(with_reducible refine(A8 _ h1 h2 hs).mono ?_);rintro e w1 ⟨rfl,hb1⟩;(have bR:=(ah.new w 36 #[ae 0,.slice none 0 0,.slice none 0 0,.slice none 0 0]).below hb1 aF);(have lR:=bR.lt)))
 go_quiet (fail)
 go_wp2_with (first|(go_at_call 82;(with_reducible refine(Ir HR hR ra _ _ _ rfl _ (mX.below bel aA) HL.out.symm aj JS qL aj).mono ?_);rintro e w2 ⟨xa,xc,rb,rc,rfl,hrc,eu,EZ,E8,hb2⟩;(have eu:=eu.mono (show w1.heap.size+1≤_ by simp));(have bR2:=((bR.alloc _).drewN _).below hb2 cu);(have bS2:=((ah.new w1 177 #[ae T,ae F,ae gr,ae lo,ae hi,ae dt]).drewN nq).below hb2 aF);obtain⟨m0,m1,m2,m3⟩:=bR2.four;obtain⟨s0,s1,s2,s3,s4,s5⟩:=bS2.x_;(have JK:=bR2.lt);(have BP:=bS2.lt);(have be2:Below w.heap.size w w2:=bel);(have CG:=EZ w mX))|(go_at_call 82;(with_reducible refine(ZT HR1 hR2 rb _ _ _ (CG.below be2 aA) hR.out hrc PY E8).mono ?_);rintro e w3 ⟨g,gc,rd,rdc,rfl,Wn,cx,g1,g2,gc1,Q9,Wp,hb3⟩;(have uF:=bR2.below hb3 bR2.lt);(have BQ:=bS2.below hb3 bS2.lt);(have jE:=eu.below hb3 aA);obtain⟨y0,y1,y2,y3⟩:=uF.four;obtain⟨t0,t1,t2,t3,t4,t5⟩:=BQ.x_;(have TJ:=uF.lt);(have TK:=uF.frozen);(have eH:Below w.heap.size w w3:=bel);(have TL:=Q9 w CG)))
 go_quiet (fail)
 go_wp2
 refine aW (fun W=>ah W w.heap.size 36 #[ae 0,.slice none 0 0,.slice none 0 0,.slice none 0 0]∧ah W w1.heap.size 177 #[ae T,ae F,ae gr,ae lo,ae hi,ae dt]∧W.cell? ⟨g,0,none⟩=some (ae x)∧g<W.heap.size∧Own W (w1.heap.size+1) 3 1 xa F xc (l.map encI)∧Below w.heap.size w W) ⟨uF.drewN _,BQ.drewN _,by simpa using cx,by simpa using g2,jE.below bel aA,bel⟩ ?_;rintro W ⟨kR,kS,kx,kg,abz,xB⟩;clear m0 m1 m2 m3 s0 s1 s2 s3 s4 s5 y0 y1 y2 y3 t0 t1 t2 t3 t4 t5 bR2 bS2 uF BQ JK BP TJ TK eu jE cx;apply uG [] 15 116 [some 80,some 81,some 82,some 83,some 84,some 85,some 86,some 87,some 79,some 88,some 89,some 90,some 12,some 9,some 7] [⟨[],[],[],[]⟩,⟨[],[],[],[]⟩,⟨[1],[1],[1],[]⟩,⟨[1,2],[2],[2],[]⟩,⟨[],[],[],[]⟩,⟨[4],[4],[4],[]⟩,⟨[1,2,3,4,5],[3,5],[3,5],[]⟩,⟨[0,1,2,3,4,5,6],[0,6],[0,6],[]⟩,⟨[0,1,2,3,4,5,6,7],[7],[7],[]⟩,⟨[0,1,2,3,4,5,6,7,8],[7,8],[7,8],[]⟩,⟨[0,1,2,3,4,5,6,7,8],[7,8],[7,8],[]⟩,⟨[0,1,2,3,4,5,6,7,8],[7,8],[7,8],[]⟩,⟨[0,1,2,3,4,5,6,7,8,9],[9],[9],[]⟩,⟨[0,1,2,3,4,5,6,7,8,9,10,12],[10],[10],[]⟩,⟨[0,1,2,3,4,5,6,7,8,9,10,11,12,13],[11],[11],[]⟩] [0,1,2,3,4,5,6,7,8,9,10,11,12,13,14] [7,9,10,11,12,13,14] [bC,bC,bC,bC,bC,bC,bC,(fun f lo hi v b0 b1 W=> ∃ya yc re rec_,v= .tuple #[.slice ya q yc,.slice re R3 rec_,.bool true]∧R3≤rec_∧Own W b0 3 1 ya q yc (m2.map encI)∧(∀x,ya.map (·.block)=some x→x<b1)∧(∀w0:ak,bI w0 rd r2→bI w0 re r3)∧(re=none→R3=0∧rec_=0)),(fun f _ _ v _ _ _=>v=f 7),(fun f lo hi v b0 b1 W=> ∃ya yc re rec_,f 7= .tuple #[.slice ya q yc,.slice re R3 rec_,.bool true]∧v= .slice ya q yc),(fun f lo hi v b0 b1 W=> ∃ya yc re rec_,f 7= .tuple #[.slice ya q yc,.slice re R3 rec_,.bool true]∧v= .slice re R3 rec_),bC,(fun f _ _ v _ _ _=>v=f 9),(fun f _ _ v _ _ _=>v=f 10),bC] [bG _,bG _,bG _,bG _,bG _,bG _,bG _,dM,dM,dM,dM,(fun v=>v= .bool true),dM,dM,bG _]
 ·kernel_rfl
 ·kernel_rfl
 ·rfl
 ·rfl
 ·exact trivial
 ·exact trivial
 refine⟨?pX,?pY,?p_,?qh,?qi,?qj,?qm,?rF,?vN,?xW,?z_,?Dl,?Gm,?Qu,?Qv,trivial⟩
 all_goals try(intro f lo hi w hb hx hf hk hrg R hR;(try replace hb:=fH.zero hb);(try simp(decide:=true) only[go_sem]at hf hk))
 case pX|pY|p_=>go_simp;exact hR _ _ (bK rfl rfl bD rfl)
 case qh=>
  have q0:=(hb.cell (p:=⟨g,0,none⟩) kg).trans kx;go_simp;exact hR _ _ (bK rfl rfl bD rfl)
 case qi=>go_simp;exact hR _ _ (bK rfl rfl bD rfl)
 case qj=>
  obtain⟨-, -,q2, -⟩:=(kS.below hb kS.lt).x_;have q3:=kS.lt;go_simp;exact hR _ _ (bK rfl rfl bD rfl)
 case qm=>go_simp;exact hR _ _ (bK rfl rfl bD rfl)
 case rF=>
  go_simp
  (with_reducible refine(Ir HR3 Oc rd _ _ _ rfl _ (TL.below (xB.trans (hb.mono xB.size)) aA) hR2.out Wn aby Wp aaw).mono ?_)
  rintro e w' ⟨ya,yc,re,rec_,rfl,hrec,own4,abA,abB,hb4⟩;exact⟨_,rfl,hR _ _ (iU rfl hb4 ⟨ya,yc,re,rec_,rfl,hrec,own4,own4.lt',abA,abB⟩)⟩
 case vN=>
  go_simp;exact hR _ _ (iU rfl bD rfl)
 case xW=>
  obtain⟨⟨ya,yc,re,rec_,h7, -⟩,h8⟩:=hf;rw[h7]at h8;go_simp;refine hR _ _ (iU rfl bD ?_)
  (try simp(decide:=true) only[go_sem])
  exact⟨ya,yc,re,rec_,h7,rfl⟩
 case z_=>
  obtain⟨⟨ya,yc,re,rec_,h7, -⟩,h8⟩:=hf;rw[h7]at h8;go_simp;refine hR _ _ (iU rfl bD ?_)
  (try simp(decide:=true) only[go_sem])
  exact⟨ya,yc,re,rec_,h7,rfl⟩
 case Dl=>
  obtain⟨⟨ya,yc,re,rec_,h7, -⟩,h8⟩:=hf;rw[h7]at h8;go_simp;exact hR _ _ (bK rfl rfl bD rfl)
 case Gm=>
  go_simp;exact hR _ _ (iU rfl bD rfl)
 case Qu=>
  go_simp;exact hR _ _ (iU rfl bD rfl)
 case Qv=>go_simp;exact hR _ _ (bK rfl rfl bD rfl)
 case hcl=>
  refine⟨bH,bH,bH,bH,bH,bH,bH,?NK,?NL,?ajg,?Vz,bH,?VD,?aiV,bH,trivial⟩
  ·intro f lo hi v l h w w' hp _ _ hown _ _;obtain⟨ya,yc,re,rec_,rfl,h2,own,lt,h3⟩:=hp;exact⟨ya,yc,re,rec_,rfl,h2,own.keep fun b hb hl _=>hown b hl (lt b Nj),lt,h3⟩
  ·exact fun _ _ _ _ _ _ _ _ h _ _ _ _ _=>h
  ·exact fun _ _ _ _ _ _ _ _ h _ _ _ _ _=>h
  ·exact fun _ _ _ _ _ _ _ _ h _ _ _ _ _=>h
  ·exact fun _ _ _ _ _ _ _ _ h _ _ _ _ _=>h
  ·exact fun _ _ _ _ _ _ _ _ h _ _ _ _ _=>h
 intro f lo hi w4 hbr hx hf hk hrg;(try replace hbr:=fH.zero hbr);clear hx;(try simp(decide:=true) only[go_sem]at hf hk);obtain⟨⟨ya,yc,re,rec_,h7,hrec,sJ, -,abA,abB⟩,⟨ya',yc',re',axP,Eh,h9⟩,⟨ya2,yc2,re2,axQ,h72,h10⟩,h12,h13⟩:=hf;obtain⟨rfl,rfl,rfl,rfl⟩:ya=ya'∧yc=yc'∧re=re'∧rec_=axP:=by
  rw[h7]at Eh;injection Eh with e
  have e0:=congrArg (·[0]?) e;have e1:=congrArg (·[1]?) e;simp at e0 e1;exact⟨e0.1,e0.2,e1.1,e1.2⟩
 obtain⟨rfl,rfl⟩:re=re2∧rec_=axQ:=by
  rw[h7]at h72;injection h72 with e
  have e1:=congrArg (·[1]?) e;simp at e1;exact e1
 rw[h9]at h12;rw[h10]at h13;have iy:Ints w4 ya m2:=sJ.row;have XY:=kR.below hbr kR.lt;have own4:=abz.below hbr aA;have VT:=own4.mono (show w.heap.size≤w1.heap.size+1 by omega);have be4:Below w.heap.size w w4:=xB.trans (hbr.mono xB.size);have bS4:=kS.below hbr kS.lt;have XZ:xa.map (·.block)≠some w.heap.size:=fun h=>by have:=own4.dW _ h;omega
 have ne5: ∀b,xa.map (·.block)=some b→b≠w.heap.size:=fun b h=>by have:=own4.dW _ h;omega
 have hSl:w1.heap.size<w4.heap.size:=bS4.lt;have hm2:m2.length=q:=(zU _ _ _ _ HR3.out).1;have hlen:l.length=F:=(zU _ _ _ _ HR.out).1;have OH:=ax hm2;have uU:=ax hlen;have bre:=abA w TL;have axR:r3.length≤r2.length:=by
  have:=congrArg List.length (zU _ _ _ _ HR3.out).2.1;rw[dP]at this;omega
 have aB9:r3.length≤1000000:=by omega
 have XP:xa.map (·.block)≠some w1.heap.size:=fun h=>by have:=own4.dW _ h;omega
 clear hrg h7 Eh h72 h9 h10 hlen hm2 axR;go_simp;clear e1 h12 h13 hk;by_cases hd:dt= -1∨(r3.length:Int)=dt
 ·have HY:=ax (arc (p:=p) (l:=l) (r:=r) (r2:=r2) (r3:=r3) (m:=m2) (x:=x) h1 h2 hs (by rw[←hs];exact CX k) hg aj dD (by simpa using HR.out) HR1.out hx0 hx1 HXQ.out hd);simp only[Int.toNat_natCast]at HY;have HM:=ax HY.out.1.lens;have abw:=hb.take T;have htl:(p.take T).length=T:=by rw[pV];omega
  have HT:=ax htl;have abx:pa=none→T=0∧pc=0:=fun h=>by have:=hnil h;omega
  have aiW: ∀{xb:az} {w5:ak},Grew w.heap.size w4 w5 xa xb→∀b,xb.map (·.block)=some b→b≠w.heap.size:=fun g b hb=>by
   rcases g.2.1 with h|h
   ·exact ne5 b (by rw[←h];exact hb)
   ·rw[h]at hb;injection hb with hb;omega
  clear htl;rcases Ql hd with⟨q',z5⟩|⟨q',z5,z6⟩
  all_goals
   (try rw[←Oc.out]at z6)
   clear hd q'
   go_wp2_with (first|(at_builtin;refine VR rfl _ _ rfl w.heap.size xa F xc l rfl ya q yc m2 rfl VT iy OH.out.symm (F+q) rfl aj be4.size ?_;intro xb Pe w5 jF g5 sU;(have jS:=sU w be4);(have xG:=XY.jT g5 XZ);(have MK:=bS4.jT g5 XP);obtain⟨y0,y1,y2,y3⟩:=xG.four;obtain⟨t0,t1,t2,t3,t4,t5⟩:=MK.x_;(have lR5:=xG.lt);(have lS5:=MK.lt);(have fR5:=xG.frozen))|(go_at_call 71;(with_reducible refine(Ez pa T pc (p.take T) _ (abw.below jS aA) HT.out.symm (by have:=HT.out;omega) abx).mono ?_);rintro e w6 ⟨ta,tc,rfl,jK,hb6⟩;(have RX:Below w.heap.size w w6:=bel);(have O_:=xG.below hb6 xG.lt))|(go_at_call 71;(with_reducible refine(Ez re R3 rec_ r3 _ (bre.below RX aA) Oc.out aj abB).mono ?_);rintro e w7 ⟨da,dc,rfl,sJ,hb7⟩;(have sQ:Below w.heap.size w w7:=bel);(have bR7:=O_.below hb7 O_.lt);obtain⟨u0,u1,u2,u3⟩:=bR7.four;(have lR7:=bR7.lt);(have fR7:=bR7.frozen)))
   refine bodyPost_ret (v:= .tuple #[.agg #[ae k,.slice ta T tc,.slice xb (F+q) Pe,.slice da R3 dc],ae 0]) (by simp[results,results46,go_sem,u0,u1,u2,u3]) rfl ?_;have o5:=(jF.below hb6 aA).below hb7 aA;have o6:=jK.below hb7 aA;have s6:=jS.size;have s7:=hb6.size;refine qQ.yes HY.out rfl HT.out.symm (by have:=uU.out;have:=OH.out;simp;omega) Oc.out ⟨by have:=(o6.mono (show w.heap.size≤_ by omega)).Ap (g:=w.heap.size) (fun b h=>by have:=o6.dW b h;omega) (ae k) (.slice ta T tc) (.slice xb (F+q) Pe) (.slice da R3 dc);simpa only[HT.out]using this,by have:=o5.Ap (g:=w.heap.size) (fun b h=>aiW g5 b h) (ae k) (.slice ta T tc) (.slice xb (F+q) Pe) (.slice da R3 dc);simpa only[show(l++m2).length=F+q by have:=uU.out;have:=OH.out;simp;omega,jg]using this,by have:=(sJ.mono (show w.heap.size≤_ by omega)).Ap (g:=w.heap.size) (fun b h=>by have:=sJ.dW b h;omega) (ae k) (.slice ta T tc) (.slice xb (F+q) Pe) (.slice da R3 dc);simpa only[←Oc.out]using this⟩ ⟨Row.Ap o6.dL (fun b h=>?_) _ _ _ _,Row.Ap o5.row (fun b h=>?_) _ _ _ _,Row.Ap sJ.dL (fun b h=>?_) _ _ _ _,fun h=>by have:=o6.Qc h;have:=HT.out;simp only;omega,HM.out⟩ bel
   ·have:=o6.dW b h;omega
   ·exact aiW g5 b h
   ·have:=sJ.dW b h;omega
 ·have HN:=ax (show CE k p from Hz hs (fun⟨_,_,l',r',q,q2⟩=>by
   simp only[Int.toNat_natCast]at q;rw[HR.out]at q;injection q with q
   injection q with q q'
   subst q';rcases q2 with⟨q2,_⟩|⟨_,x',r2',q3,q4,q5,m',r3',q6,q7⟩
   ·simp only at q2;omega
   ·simp only at q4 q5 q6 q7;rw[HR1.out]at q3;injection q3 with q3
    injection q3 with q3 q3'
    injection q3 with q3 _
    subst q3 q3';rw[HXQ.out]at q6;injection q6 with q6
    injection q6 with _ q6
    subst q6;exact hd q7))
  have z5:(dt != -1)=true:=by rw[bne_iff_ne];exact fun e=>hd (.inl e)
  have z6:((R3:Int) !=dt)=true:=by rw[bne_iff_ne,Oc.out];exact fun e=>hd (.inr e)
  clear hd
  go_wp2_with (first|(at_builtin;refine VR rfl _ _ rfl w.heap.size xa F xc l rfl ya q yc m2 rfl VT iy OH.out.symm (F+q) rfl aj be4.size ?_;intro xb Pe w5 jF g5 sU;(have jS:=sU w be4);(have xG:=XY.jT g5 XZ);(have MK:=bS4.jT g5 XP);obtain⟨y0,y1,y2,y3⟩:=xG.four;obtain⟨t0,t1,t2,t3,t4,t5⟩:=MK.x_;(have lR5:=xG.lt);(have lS5:=MK.lt);(have fR5:=xG.frozen)))
  exact Y1
end
theorem ard(k:Int)(pa:az)(p:aJ)(n pc:Nat)(w:ak)(hb:bI w pa p)(hn:n=p.length)(hc:p.length≤pc)(hnil:pa=none→p.length=0∧pc=0):
  aH 46 #[ae k,.slice pa n pc] w (qQ k p w):=by
 subst hn;by_cases hk:k<1∨22<k
 ·exact anY k pa p pc w hk
 obtain⟨h1,h2⟩:1≤k∧k≤22:=by omega
 obtain⟨T,F,gr,lo,hi,dt,hs, -,hF,hg0,hg4,hlo,aBW,Ob, -⟩:=auY (k:=k);by_cases hp:200<p.length
 ·exact anZ k pa p pc w h1 h2 hs hp
 have hp':p.length≤200:=by omega
 by_cases ht:p.length<T
 ·exact aoq k pa p pc w h1 h2 hs hp' ht
 have ht':T≤p.length:=by omega
 cases hr:f_ F (p.drop T)with
 |none=>exact aoU k pa p pc w h1 h2 hs hb hc hnil hp' ht' hF hr
 |some lr=>
  obtain⟨l,r⟩:=lr;by_cases hg:gr=0
  ·by_cases hd:dt= -1∨(r.length:Int)=dt
   ·exact aos k pa p pc w h1 h2 hs hb hc hnil hp' ht' hF hr hg hd
   ·exact aor k pa p pc w h1 h2 hs hb hc hnil hp' ht' hF hr hg (fun e=>hd (.inl e)) (fun e=>hd (.inr e))
  have hg':0<gr:=by omega
  cases hr1:f_ 1 r with
  |none=>exact aoV k pa p pc w h1 h2 hs hb hc hnil hp' ht' hF hr hg' hr1
  |some q=>
   obtain⟨xl,r2⟩:=q;obtain⟨x,rfl,x0,x1⟩:=rd1 hr1;by_cases hx:x<lo
   ·exact aot k pa p pc w h1 h2 hs hb hc hnil hp' ht' hF hr hg' hr1 hx
   by_cases hx2:hi<x
   ·exact aou k pa p pc w h1 h2 hs hb hc hnil hp' ht' hF hr hg' hr1 aj hx2
   cases hr3:f_ (x*gr).toNat r2 with
   |none=>exact aov k pa p pc w h1 h2 hs hb hc hnil hp' ht' hF hr hg' hr1 aj aj x0 Ob hg4 hr3
   |some q3=>
    obtain⟨m2,r3⟩:=q3;exact aoW k pa p pc w h1 h2 hs hb hc hnil hp' ht' hF hr hg' hr1 aj aj x0 Ob hg4 hr3
def axS(m:aU)(w:ak)(e:Ending)(w':ak):Prop:=(m.Ok∧e= .returned (.bool true)∨¬ m.Ok∧e= .returned (.bool false))∧Below w.heap.size w w'
theorem atF(k:Int):((cZ k).grp=0)∨((cZ k).grp=4∧(cZ k).lo=1∧(cZ k).hi=3)∨((cZ k).grp=2∧(cZ k).lo=1∧(cZ k).hi=3)∨((cZ k).grp=3∧(cZ k).lo=0∧(cZ k).hi=16)∨((cZ k).grp=2∧(cZ k).lo=0∧(cZ k).hi=4):=by
 unfold cZ
 repeat' split
 all_goals simp
theorem asn{k:Int}{s:jZ}(hs:cZ k=s)(A:Nat): ∃P H:Int,s.grp*s.lo=P∧s.grp*s.hi=H∧0≤P∧P≤4∧0≤H∧H≤48∧
  (iD s A↔(s.grp=0∧(A:Int) -s.fix=0)∨(0<s.grp∧P≤(A:Int) -s.fix∧(A:Int) -s.fix≤H∧((A:Int) -s.fix).tmod s.grp=0)):=by
 have h5:=atF k;have so:=CX k;rw[hs]at h5 so;obtain⟨tk,fx,gr,lo,hi,dt⟩:=s;simp only at h5⊢;have key: ∀(G L U:Int),0<G→0≤L→(gr=G∧lo=L∧hi=U)→(∀D:Int,0≤D→((D % G=0∧L≤D/G∧D/G≤U)↔(G*L≤D∧D≤G*U∧D % G=0)))→
   (iD ⟨tk,fx,gr,lo,hi,dt⟩ A↔(gr=0∧(A:Int) -fx=0)∨(0<gr∧gr*lo≤(A:Int) -fx∧(A:Int) -fx≤gr*hi∧((A:Int) -fx).tmod gr=0)):=by
  rintro G L U hG hL ⟨rfl,rfl,rfl⟩ h;have h0:gr≠0:=by omega
  have hm:0≤gr*lo:=Int.mul_nonneg aj hL;unfold iD;simp only;rw[if_neg h0];constructor
  ·rintro⟨a,b,c,d⟩;obtain⟨x,y,z⟩:=(h ((A:Int) -fx) aj).1 ⟨b,c,d⟩;exact .inr ⟨hG,x,y,by rw[Int.tmod_eq_emod_of_nonneg aj];exact z⟩
  ·rintro(⟨a,_⟩|⟨_,x,y,z⟩)
   ·exact absurd a h0
   ·rw[Int.tmod_eq_emod_of_nonneg aj]at z;obtain⟨b,c,d⟩:=(h ((A:Int) -fx) aj).2 ⟨x,y,z⟩;exact⟨by omega,b,c,d⟩
 rcases h5 with h|h|h|h|h
 ·refine⟨_,_,rfl,rfl,by rw[h];simp,by rw[h];simp,by rw[h];simp,by rw[h];simp,?_⟩;unfold iD;simp only;rw[if_pos h];constructor
  ·intro q;exact .inl ⟨h,by omega⟩
  ·rintro(⟨_,q⟩|⟨q,_⟩)<;>omega
 ·refine⟨_,_,rfl,rfl,?_,?_,?_,?_,key 4 1 3 aj aj h UR⟩<;>(rw[h.1];first|rw[h.2.1]|rw[h.2.2])<;>omega
 ·refine⟨_,_,rfl,rfl,?_,?_,?_,?_,key 2 1 3 aj aj h UR⟩<;>(rw[h.1];first|rw[h.2.1]|rw[h.2.2])<;>omega
 ·refine⟨_,_,rfl,rfl,?_,?_,?_,?_,key 3 0 16 aj aj h UR⟩<;>(rw[h.1];first|rw[h.2.1]|rw[h.2.2])<;>omega
 ·refine⟨_,_,rfl,rfl,?_,?_,?_,?_,key 2 0 4 aj aj h UR⟩<;>(rw[h.1];first|rw[h.2.1]|rw[h.2.2])<;>omega
theorem anF{k:Int}{b:Bool}(h:xQ k=b)(w:ak):aH 84 #[ae k] w fun e w'=>e= .returned (.bool b)∧w=w':=by rw[←h];exact anI k w
theorem Y3{P:Prop}(h:P:=by
 go_enter func47,ntmps47
 go_wp2_with (first|(go_at_call 83;(with_reducible refine(ZA _ h1 h2 hs).mono ?_);rintro e w1 ⟨rfl,hb1⟩;(have bM:ah w1 w.heap.size 36 #[ae kind,.slice ta tok.length tc,.slice aa args.length ac,.slice da dat.length dc]:=(ah.new w _ _).below hb1 aF);(have lM:=bM.lt);obtain⟨m0,m1,m2,m3⟩:=bM.four)|(go_at_call 84;(with_reducible refine(hFS _).mono ?_);rintro e w' ⟨rfl,rfl⟩))
 go_ret;exact⟨.inr ⟨HN.out,rfl⟩,bel⟩):P:=h
theorem agv{P:Prop}(h:P:=by
 rcases hc with⟨y1,y2,y3⟩|⟨y1,y2,gp,y3,y4,y5⟩<;>rcases abD with⟨rfl,z1⟩|⟨rfl,z1⟩
 all_goals
  exact Y3):P:=h
theorem Y4{P:Prop}(h:P:=by
 go_wp2
 go_ret;exact⟨.inr ⟨HN.out,rfl⟩,bel⟩):P:=h
theorem agw(m:aU)(ta:az)(tc:Nat)(aa da:az)(ac dc:Nat)(w:ak)(hat:qx w m ta tc aa da)(e1:tn=m.tok.length)(e2:an=m.args.length)(e3:dn=m.dat.length):
  aH 47 #[.agg #[ae m.kind,.slice ta tn tc,.slice aa an ac,.slice da dn dc]] w (axS m w):=by
 obtain⟨kind,tok,args,dat⟩:=m;subst e1 e2 e3;obtain⟨L1,L2,L3⟩:=hat.len;simp only at L1 L2 L3;by_cases hk:1≤kind∧kind≤22
 case neg=>
  have HN:Hid (¬ aU.Ok ⟨kind,tok,args,dat⟩):=ax fun h=>hk h.kind;by_cases h1:kind<1
  all_goals
   go_enter func47,ntmps47
   exact Y4
 obtain⟨h1,h2⟩:=hk;obtain⟨tk,fx,gr,lo,hi,dt,hs⟩: ∃tk fx gr lo hi dt,cZ kind=⟨tk,fx,gr,lo,hi,dt⟩:=⟨_,_,_,_,_,_,rfl⟩;have so:=CX kind;have stk:=ahk h1 h2;obtain⟨P,H,hP,hH,P0,P1,H0,H1,hgi⟩:=asn hs args.length;rw[hs]at so stk;obtain⟨-,f1,f2, -, -,f5⟩:=so;simp only at f1 f2 f5 stk hP hH hgi;have HGI:=ax hgi;have HS:=ax hs;clear hgi;obtain⟨fb,hfb,hft⟩: ∃fb,xQ kind=fb∧((fb=true∧tk=10)∨(fb=false∧tk=0)):=by
  refine⟨_,rfl,?_⟩;unfold xQ;by_cases h12:kind≤12
  ·left;simp[h1,h12,stk]
  ·right;simp[h12,stk]
 clear stk;have hFS:=fun W=>anF hfb W;clear hfb;by_cases ht:(tok.length:Int)=tk
 case neg=>
  have HN:Hid (¬ aU.Ok ⟨kind,tok,args,dat⟩):=ax fun h=>ht (by have:=h.tok;simp only[HS.out]at this;exact this);rcases hft with⟨rfl,rfl⟩|⟨rfl,rfl⟩
  all_goals
   first
   |have z1:((tok.length:Int) !=10)=true:=by rw[bne_iff_ne];exact ht
   |have z1:((tok.length:Int) !=0)=true:=by rw[bne_iff_ne];exact ht
   clear ht;exact Y3
 have abD:(fb=true∧((tok.length:Int) !=10)=false)∨(fb=false∧((tok.length:Int) !=0)=false):=by
  rcases hft with⟨a,b⟩|⟨a,b⟩
  ·left;exact⟨a,by rw[bne_eq_false_iff_eq];omega⟩
  ·right;exact⟨a,by rw[bne_eq_false_iff_eq];omega⟩
 have HT:=ax ht;have htl:tok.length≤10:=by rcases hft with⟨_,b⟩|⟨_,b⟩<;>omega
 clear hft ht;obtain⟨D,hD⟩:=aI ((args.length:Int) -fx);obtain⟨R,hR⟩:=aI (D.tmod gr);have D0: -4≤D:=by omega
 have D1:D≤1000000:=by omega
 have abE:Hid (iD ⟨tk,fx,gr,lo,hi,dt⟩ args.length↔(gr=0∧D=0)∨(0<gr∧P≤D∧D≤H∧R=0)):=by
  have:=HGI.out;rw[hD,hR]at this;exact this
 clear HGI;by_cases hg:iD ⟨tk,fx,gr,lo,hi,dt⟩ args.length
 case neg=>
  have HN:Hid (¬ aU.Ok ⟨kind,tok,args,dat⟩):=ax fun h=>hg (by have:=h.grp;simp only[HS.out]at this;exact this);have hc:((gr==0)=true∧(D !=0)=true)∨((gr==0)=false∧decide (0<gr)=true∧0<gr∧decide (D<P)=true)∨((gr==0)=false∧decide (0<gr)=true∧0<gr∧decide (D<P)=false∧decide (H<D)=true)∨((gr==0)=false∧decide (0<gr)=true∧0<gr∧decide (D<P)=false∧decide (H<D)=false∧(R !=0)=true):=by
   rw[abE.out]at hg;simp only[beq_iff_eq,bne_iff_ne,iL,decide_eq_true_eq,decide_eq_false_iff_not];omega
  clear hg;rcases hc with⟨y1,y2⟩|⟨y1,y2,gp,y3⟩|⟨y1,y2,gp,y3,y4⟩|⟨y1,y2,gp,y3,y4,y5⟩<;>rcases abD with⟨rfl,z1⟩|⟨rfl,z1⟩
  all_goals
   exact Y3
 have hc:((gr==0)=true∧decide (0<gr)=false∧(D !=0)=false)∨((gr==0)=false∧decide (0<gr)=true∧0<gr∧decide (D<P)=false∧decide (H<D)=false∧(R !=0)=false):=by
  have:=abE.out.1 hg;simp only[beq_iff_eq,bne_eq_false_iff_eq,iL,decide_eq_true_eq,decide_eq_false_iff_not];omega
 have HG:=ax hg;clear hg abE;by_cases hd:dt= -1∨(dat.length:Int)=dt
 case neg=>
  have HN:Hid (¬ aU.Ok ⟨kind,tok,args,dat⟩):=ax fun h=>hd (by have:=h.dat;simp only[HS.out]at this;exact this);have x1:decide (0≤dt)=true:=jB aj;have x2:((dat.length:Int) !=dt)=true:=by rw[bne_iff_ne];exact fun q=>hd (.inr q)
  clear hd;exact agv
 have hdd:(decide (0≤dt)=false)∨(decide (0≤dt)=true∧((dat.length:Int) !=dt)=false):=by
  simp only[bne_eq_false_iff_eq,decide_eq_true_eq,decide_eq_false_iff_not];omega
 by_cases hl:200<dat.length
 case pos=>
  have HN:Hid (¬ aU.Ok ⟨kind,tok,args,dat⟩):=ax fun h=>by have:=h.aaY;simp only at this;omega
  have x1:decide (0≤dt)=false:=fA aj;clear hd hdd;exact agv
 have z5:decide (200<dat.length)=false:=fA hl;have jQ:=ax (aiJ h1 h2 hs HT.out hd HG.out aj);have ia:Ints w aa args:=hat.args;have HP:Hid (∀(hall: ∀n∈args,xR n) (W:ak),Below w.heap.size w W→aH 85 #[.agg #[ae kind,.slice ta tok.length tc,.slice aa args.length ac,.slice da dat.length dc]] W (abC ⟨kind,tok,args,dat⟩ W)):=
  ax fun hall W hb=>aek ta tc aa da ac dc W h1 h2 hs htl HG.out hall (hat.below hb aA)
 clear hd hat;rcases hc with⟨y1,y2,y3⟩|⟨y1,y2,gp,y3,y4,y5⟩<;>rcases abD with⟨rfl,z1⟩|⟨rfl,z1⟩<;>rcases hdd with x1|⟨x1,x2⟩
 all_goals
  go_enter func47,ntmps47
  go_wp2_with (first|(go_at_call 83;(with_reducible refine(ZA _ h1 h2 hs).mono ?_);rintro e w1 ⟨rfl,hb1⟩;(have bM:ah w1 w.heap.size 36 #[ae kind,.slice ta tok.length tc,.slice aa args.length ac,.slice da dat.length dc]:=(ah.new w _ _).below hb1 aF);(have lM:=bM.lt);obtain⟨m0,m1,m2,m3⟩:=bM.four)|(go_at_call 84;(with_reducible refine(hFS _).mono ?_);rintro e w' ⟨rfl,rfl⟩))
  have axT:Below w.heap.size w w1:=bel;have ia1:Ints w1 aa args:=ia.below axT aA;clear ia
  go_loop [99] (fun i=> ∃k:Nat,k≤args.length∧i=ae k∧∀n∈args.take k,xR n) (fun i=>args.length -(intOf i).toNat)
  case atStart=>exact⟨0,Nat.zero_le _,rfl,by simp⟩
  case round=>
   obtain⟨k,hk,rfl,hall⟩:=hrel;have HA:=ax hall;clear hall;by_cases hlt:k<args.length
   ·rcases ia1.open with h|⟨b,off,rfl,hbl,hc⟩
    ·rw[h]at hlt;simp at hlt
    have hi:(k:Int)<(args.length:Int):=by omega
    have hck:=hc k hlt;obtain⟨x,hx⟩:=aI (args[k]);rw[hx]at hck;have HX:=ax hx;clear hx hc;by_cases c0:x<0
    ·have HN:Hid (¬ aU.Ok ⟨kind,tok,args,dat⟩):=ax fun h=>by have:=h.args _ (bF hlt);rw[HX.out]at this;have:=this.1;omega
     exact Y4
    by_cases c1:4294967295<x
    ·have HN:Hid (¬ aU.Ok ⟨kind,tok,args,dat⟩):=ax fun h=>by have:=h.args _ (bF hlt);rw[HX.out]at this;have:=this.2;omega
     exact Y4
    ·have HA2:Hid (∀n∈args.take (k+1),xR n):=by
      show∀n∈_,_;rw[List.take_succ_eq_append_getElem hlt,HX.out];intro n hn;rcases lW.1 hn with h|h
      ·exact HA.out n h
      ·rw[dU.1 h];exact⟨by omega,by omega⟩
     go_wp2
     go_round
     case rel=>exact⟨k+1,by omega,by go_num,HA2.out⟩
     case measure=>simp[intOf];omega
   ·have hi: ¬ ((k:Int)<(args.length:Int)):=by omega
    have KN:Hid (∀n∈args,xR n):=by
     have:=HA.out;rw[nM aj]at this;exact this
    go_wp2_with (first|(go_at_call 85;(with_reducible refine(HP.out KN.out _ bel).mono ?_);rintro e w2 ⟨pa,pn,pc,rfl,hpn,aB_,hb2⟩))
    go_ret;by_cases hp:pn≤200
    ·exact⟨.inl ⟨jQ.out KN.out aj,uH (jB aj)⟩,bel⟩
    ·exact⟨.inr ⟨fun h=>by have:=h.EO;omega,uH (fA aj)⟩,bel⟩
theorem agz{P:Prop}(h:P:=by
 go_upto_region 10 with fail
 (clear m0 m1 m2 m3 mf ml)
 go_wp2_with (first|(refine gy kN FZ vF ?_)|(refine dw #[ae num,.slice sa1 sec.length fC,ae rt,ae cl,.slice jY lim.length D7,ae rq,ae se,ae ra,ae bu,.slice gQ tk.length fO,.slice fE vh.length fF,ae lv,ae ra,ae bu] kZ vF ?_;intro W' kw gw zw))
 refine anT 6 85 7 8 (v:=ae slot) (v':=ae 0) results200 rfl rfl rfl kw 14 rfl FZ vF rfl ?_;obtain⟨q1,q2,q3,q4,q5⟩:=oR;refine⟨⟨num,sec,sa1,fC,rt,cl,lim,jY,D7,rq,se,ra,bu,xe,gQ,fO,vh,fE,fF,lv⟩,by simp only[Rx.val,hl1.out],ax (by simp only[Rx.key,hk1.out]),⟨q1.aG gw kZ ay,q2.aG gw kZ ay,q3.aG gw kZ ay,fun t ht=>(q4 t ht).aG gw kZ ay,q5.aG gw kZ ay⟩,be.aB gw be.size bQ⟩):P:=h
theorem an0(r:Rx)(kind now slot:Int)(tok:aJ)(ta:az)(tn tc:Nat)(aa:az)(an ac:Nat)(da:az)(dn dc:Nat)(w:ak)(h:y_ w r)(h8:r.tk.length=8)(ht:Sl w 5 1 ta tn tc (tok.map a_))(htn:tn=tok.length)(ht9:tn≤1000)(hch:Ak (r.tk.map Tk.key) r.num tok kind now=(slot,0))(hkd:kind<2∨8<kind):
  aH 200 #[r.val,.agg (aa4 kind ta tn tc aa an ac da dn dc),ae now] w (aa5 r.key slot w):=by
 have hG:=h.tkG aj;obtain⟨num,sec,sa,sc,rt,cl,lim,la,lc,rq,se,ra,bu,tk,ka,kc,vh,va,vc,lv⟩:=r;simp only at h8 hG hch;have H8:=ax h8;have HT:=ax htn;have HC:=ax hch;clear h8 htn hch
 skip
 go_enter func200,ntmps200
 go_upto_region 1 with fail
 obtain⟨R,hR⟩:=aI w.heap.size;refine aW (fun W=>ah W R 85 #[ae num,.slice sa sec.length sc,ae rt,ae cl,.slice la lim.length lc,ae rq,ae se,ae ra,ae bu,.slice ka tk.length kc,.slice va vh.length vc,ae lv,ae ra,ae bu]∧ah W (R+1) 36 (aa4 kind ta tn tc aa an ac da dn dc)∧ah W (R+1+1) 85 QT∧Below w.heap.size w W) ⟨by rw[←hR];exact((ah.new _ _ _).alloc _).alloc _,by rw[←hR];exact(ah.dG _ _ _ _).alloc _,by rw[←hR];exact mr (ah.new _ _ _) aF,bel⟩ ?_;have fQ:w.heap.size≤R:=by omega
 rw[hR];clear hR;rintro W ⟨kR,kM,kZ,be⟩;replace be:=be.mono fQ;have Xq:=hG.below be;have hRW:=h.below be aA;have hTW:=ht.below be aA;have hbt:bI W ta tok:=hTW.row;have hcap:=hTW.cap;(obtain⟨x0,x1,x2,x3,x4,x5,x6,x7,x8,x9,x10,x11,x12,dh,xf,xl⟩:=kR.n14);(obtain⟨m0,m1,m2,m3,mf,ml⟩:=kM.n4);have hCk:=ax (awk HC (apT ka tk tk.length kc num ta tok tn tc kind now W Xq.qG rfl hbt HT.out hcap aj))
 go_upto_region 2 with((go_at_call 220;(with_reducible refine(hCk.out).mono ?_);rintro e w1 ⟨rfl,hb1⟩;((clear x0 x1 x2 x3 x4 x5 x6 x7 x8 x9 x10 x11 x12 dh xf xl);(clear m0 m1 m2 m3 mf ml);clear hCk;replace kR:=kR.below hb1 kR.lt;replace kM:=kM.below hb1 kM.lt;replace kZ:=kZ.below hb1 kZ.lt;(obtain⟨x0,x1,x2,x3,x4,x5,x6,x7,x8,x9,x10,x11,x12,dh,xf,xl⟩:=kR.n14);(obtain⟨m0,m1,m2,m3,mf,ml⟩:=kM.n4))))
 (clear x0 x1 x2 x3 x4 x5 x6 x7 x8 x9 x10 x11 x12 dh xf xl);(clear m0 m1 m2 m3 mf ml);have h1w:=hb1.size;have hR1:=hRW.below hb1 aA;have uY:=be.trans (hb1.mono be.size);clear hb1 hRW hTW hbt Xq h1w be hcap
 go_upto_region 5 with(first|(refine gy kR FZ vF ?_)|(go_at_call 177;(with_reducible refine(aem hR1).mono ?_);rintro e w2 ⟨sa1,fC,jY,D7,xe,gQ,fO,fE,fF,rfl,hk1,hl1,oR,hb2⟩)|(refine dw #[ae num,.slice sa1 sec.length fC,ae rt,ae cl,.slice jY lim.length D7,ae rq,ae se,ae ra,ae bu,.slice gQ tk.length fO,.slice fE vh.length fF,ae lv,ae ra,ae bu] (ah.new _ _ _) vF ?_;intro W2 kw gw zw))
 have iT:=hb2.size;have abH:=uY.size;obtain⟨N,hN⟩:=aI w2.heap.size;refine aW (fun U=>ah U N 85 #[ae num,.slice sa1 sec.length fC,ae rt,ae cl,.slice jY lim.length D7,ae rq,ae se,ae ra,ae bu,.slice gQ tk.length fO,.slice fE vh.length fF,ae lv,ae ra,ae bu]∧ah U R 85 #[ae num,.slice sa sec.length sc,ae rt,ae cl,.slice la lim.length lc,ae rq,ae se,ae ra,ae bu,.slice ka tk.length kc,.slice va vh.length vc,ae lv,ae ra,ae bu]∧ah U (R+1) 36 (aa4 kind ta tn tc aa an ac da dn dc)∧ah U (R+1+1) 85 QT∧iM U w.heap.size ⟨num,sec,sa1,fC,rt,cl,lim,jY,D7,rq,se,ra,bu,xe,gQ,fO,vh,fE,fF,lv⟩∧Below w.heap.size w U) ⟨by rw[←hN];exact kw,((kR.below hb2 kR.lt).alloc _).aB gw PX,((kM.below hb2 kM.lt).alloc _).aB gw (by have:=kM.lt;simp;omega),((kZ.below hb2 kZ.lt).alloc _).aB gw (by have:=kZ.lt;simp;omega),((oR.below ((Below.refl _ _).alloc aA _) aA).aG gw (ah.new _ _ _) ay).mono abH,((uY.trans (hb2.mono abH)).alloc aj _).aB gw cu bQ⟩ ?_;rw[hN];have hZN:R+1+1<N:=by have:=kZ.lt;omega
 clear kR kM kZ oR hb2 kw gw zw iT abH hN uY hR1;rintro U ⟨kN,kR,kM,kZ,oR,be⟩;(obtain⟨m0,m1,m2,m3,mf,ml⟩:=kM.n4);have hif:(decide (2≤kind) && decide (kind≤8))=false:=by rcases hkd with h|h<;>simp<;>omega
 rcases hkd with hkd|hkd
 ·have hq:decide (2≤kind)=false:=fA aj;exact agz
 ·have hq:decide (2≤kind)=true:=jB aj;have hq2:decide (kind≤8)=false:=fA aj;exact agz
theorem aoX(m:aU)(ta:az)(tc:Nat)(aa da:az)(ac dc:Nat)(w:ak)(hok:m.Ok)(hat:qx w m ta tc aa da):
  aH 85 #[.agg #[ae m.kind,.slice ta m.tok.length tc,.slice aa m.args.length ac,.slice da m.dat.length dc]] w (abC m w):=by
 obtain⟨kind,tok,args,dat⟩:=m;obtain⟨tk,fx,gr,lo,hi,dt,hs⟩: ∃tk fx gr lo hi dt,cZ kind=⟨tk,fx,gr,lo,hi,dt⟩:=⟨_,_,_,_,_,_,rfl⟩;have hk:=hok.kind;have ht:(tok.length:Int)=(cZ kind).tok:=hok.tok;have hg:=hok.grp;simp only at hk hg;rw[hs]at hg;rw[ahk hk.1 hk.2]at ht;exact aek ta tc aa da ac dc w hk.1 hk.2 hs (show tok.length≤10 by split at ht<;>omega) hg hok.args hat
theorem apy(m:aU)(ta:az)(tc:Nat)(aa da:az)(ac dc:Nat)(w:ak)(hat:qx w m ta tc aa da)(h1:tn=m.tok.length)(h2:an=m.args.length)(h3:dn=m.dat.length):
  aH 59 #[.agg #[ae m.kind,.slice ta tn tc,.slice aa an ac,.slice da dn dc]] w (EP m w):=by
 have EX: ∀W,Below w.heap.size w W→qx W m ta tc aa da:=fun W h=>hat.below h aA;obtain⟨kind,tok,args,dat⟩:=m;subst h1 h2 h3
 go_enter func59,ntmps59
 go_wp2_with (first|(go_at_call 47;(with_reducible refine(agw ⟨kind,tok,args,dat⟩ ta tc aa da ac dc _ (EX _ bel) rfl rfl rfl).mono ?_);rintro e w1 ⟨(⟨hok,rfl⟩|⟨hok,rfl⟩),hb⟩;(have bM:ah w1 w.heap.size 36 #[ae kind,.slice ta tok.length tc,.slice aa args.length ac,.slice da dat.length dc]:=(ah.new w _ _).below hb aF);obtain⟨m0,m1,m2,m3⟩:=bM.four)|(go_at_call 85;(with_reducible refine(aoX ⟨kind,tok,args,dat⟩ ta tc aa da ac dc _ hok (EX _ bel)).mono ?_);rintro e w2 ⟨pa,pn,pc,rfl,rfl,own,hb2⟩;(have hbs:w.heap.size≤w1.heap.size:=by have:=hb.size;simp at this;omega)))
 ·go_ret2
  exact .inl ⟨hok,pa,_,pc,rfl,rfl,own.mono hbs,bel⟩
 ·go_ret2
  exact .inr ⟨hok,rfl,bel⟩
section
open Classical in
noncomputable def GI(m:aU):aJ:=if m.Ok then fG m.kind m.pay else []
theorem ZV{m:aU}(h:m.Ok):GI m=fG m.kind m.pay:=by unfold GI;exact if_pos h
theorem aiC{m:aU}(h: ¬ m.Ok):GI m= []:=by unfold GI;exact if_neg h
def akv(m:aU)(w:ak)(e:Ending)(w':ak):Prop:= ∃(a:az) (n c:Nat),e= .returned (.slice a n c)∧Hid (n=(GI m).length)∧Own w' w.heap.size 5 1 a n c ((GI m).map a_)∧Below w.heap.size w w'
def ax0(m:aU)(w:ak)(e:Ending)(w':ak):Prop:= ∃(a:az) (n c:Nat) (x:Int),e= .returned (.tuple #[.slice a n c,ae x])∧Hid (n=(GI m).length)∧Own w' w.heap.size 5 1 a n c ((GI m).map a_)∧Below w.heap.size w w'
theorem apz(m:aU)(ta:az)(tc:Nat)(aa da:az)(ac dc:Nat)(w:ak)(hat:qx w m ta tc aa da):
  aH 30 #[.agg #[ae m.kind,.slice ta m.tok.length tc,.slice aa m.args.length ac,.slice da m.dat.length dc]] w (ax0 m w):=by
 have EX: ∀W,Below w.heap.size w W→qx W m ta tc aa da:=fun W h=>hat.below h aA;obtain⟨kind,tok,args,dat⟩:=m
 go_enter func30,ntmps30
 go_wp2_with (first|(go_at_call 59;(with_reducible refine(apy ⟨kind,tok,args,dat⟩ ta tc aa da ac dc _ (EX _ bel) rfl rfl rfl).mono ?_);rintro e w1 (⟨hok,a,n,c,rfl,rfl,own,hb⟩|⟨hok,rfl,hb⟩);(have bM:ah w1 w.heap.size 36 #[ae kind,.slice ta tok.length tc,.slice aa args.length ac,.slice da dat.length dc]:=(ah.new w _ _).below hb aF);obtain⟨m0,m1,m2,m3⟩:=bM.four)|(go_at_call 60;(with_reducible refine(apk kind a (aU.pay ⟨kind,tok,args,dat⟩) c _ UB UB own.dL hok.EO).mono ?_);rintro e w2 ⟨fa,fc,rfl,abe,hb2⟩))
 all_goals(have hz:=hb.size;simp at hz)
 ·refine bodyPost_ret (v:= .tuple #[.slice fa ((aU.pay ⟨kind,tok,args,dat⟩).length+10) fc,ae 0]) (by simp[results,results30,go_sem]) rfl ?_;exact⟨fa,_,fc,0,rfl,ax (by rw[ZV hok];exact(aiR _ _).symm),by rw[ZV hok];exact abe.mono (by have:=hb.size;simp at this;omega),bel⟩
 ·refine bodyPost_ret (v:= .tuple #[.slice none 0 0,ae 6]) (by simp[results,results30,go_sem]) rfl ?_;exact⟨none,0,0,6,rfl,ax (by rw[aiC hok];rfl),by rw[aiC hok];exact Own.nil _ _ _ _,bel⟩
theorem atM(m:aU)(ta:az)(tc:Nat)(aa da:az)(ac dc:Nat)(w:ak)(hat:qx w m ta tc aa da):
  aH 11 #[.agg #[ae m.kind,.slice ta m.tok.length tc,.slice aa m.args.length ac,.slice da m.dat.length dc]] w (akv m w):=by
 have EX: ∀W,Below w.heap.size w W→qx W m ta tc aa da:=fun W h=>hat.below h aA;obtain⟨kind,tok,args,dat⟩:=m
 go_enter func11,ntmps11
 go_wp2_with (go_at_call 30;(with_reducible refine(apz ⟨kind,tok,args,dat⟩ ta tc aa da ac dc _ (EX _ bel)).mono ?_);rintro e w1 ⟨a,n,c,x,rfl,hn,own,hb⟩)
 go_ret;have hz:=hb.size;simp at hz;exact⟨a,n,c,rfl,hn,own.mono aF,bel⟩
end
end Go.Proofs.YtiffpjamngklhaaGreat
