/- Lemmas, part 18. -/
import Derived.Outline
import Derived.Test.YtiffpjamngklhaaGreatP14
namespace Go.Proofs.YtiffpjamngklhaaGreat
set_option linter.all false
set_option maxRecDepth 100000
set_option maxHeartbeats 16000000
open Go.RowKit Tryz
open Go.Sort hiding Below
variable{w w' wr w2:ak}{n i k base size c R J X kd:Nat}{a b':az}{Q:dR}{e:aK}{xs:aP}{l:aJ}{s:Int}{ps:List Ph}{d:Dk}
def Gz(s b:aJ):aJ:=s++b.take (256 -s.length)
def akf(s b:aJ)(g:Bool)(w:ak)(e:Ending)(w':ak):Prop:=
 ∃(a:az) (c:Nat) (n:Nat) (ok:Bool),e= .returned (.tuple #[.agg #[.slice a n c,.bool g],.bool ok])∧n=(Gz s b).length∧ok=decide (s.length+b.length≤256)∧Own w' w.heap.size 5 1 a n c ((Gz s b).map a_)∧Below w.heap.size w w'
theorem aq6(a:az)(s:aJ)(c:Nat)(g:Bool)(ba:az)(b:aJ)(bc:Nat)(w:ak)(hs:bI w a s)(hb:bI w ba b)(h256:s.length≤256)(hcb:b.length≤bc)(hbl:b.length≤1000000):
  aH 70 #[.agg #[.slice a s.length c,.bool g],.slice ba b.length bc] w (akf s b g w):=by
 obtain⟨F,hF⟩: ∃F,F=min b.length (256 -s.length):=⟨_,rfl⟩;have hFi:(if 256 -(s.length:Int)<(b.length:Int)then 256 -(s.length:Int)else(b.length:Int))=(F:Int):=by split<;>omega
 have hFb:F≤b.length:=by omega
 have hFs:s.length+F≤256:=by omega
 have hFc:(F:Int)≤(bc:Int):=by omega
 have htk:b.take F=b.take (256 -s.length):=by
  by_cases h:b.length≤256 -s.length
  ·rw[nM aj,nM h]
  ·rw[show F=256 -s.length by omega]
 have HPL:Hid (Gz s b=s++b.take F):=ax (by unfold Gz;rw[htk]);have hlt:(b.take F).length=F:=by rw[pV];omega
 have XM:=ax hlt;have heq:((F:Int)==(b.length:Int))=decide (s.length+b.length≤256):=by
  rw[Bool.eq_iff_iff];simp;omega
 obtain⟨okb,hok⟩: ∃ok,decide (s.length+b.length≤256)=ok:=⟨_,rfl⟩;rw[hok]at heq;have axA:=ax hok;clear hF htk hlt hok
 go_enter func70,ntmps70
 go_upto_region 1 with fail
 refine aW (fun W=>ah W w.heap.size 105 #[.slice a s.length c,.bool g]∧ah W (w.heap.size+1) 105 #[.slice none 0 0,.bool false]∧w.heap.size+2≤W.heap.size∧Below w.heap.size w W) ⟨(ah.new _ _ _).alloc _,ah.next _ _ _ _,by simp,bel⟩ ?_;rintro W ⟨kS,kR,sz,be⟩;have s0:=kS.cell 0;have s1:=kS.cell 1;have sl:=kS.lt;have hsW:=hs.below be aA;have hbW:=hb.below be aA
 go_wp2_with (first|((with_reducible refine U0 0 (s.length+F) ?_ ?_ ?_ ?_ ?_);(focus rfl);(focus rfl);(focus omega);(focus omega);intro W0 B0 lK z0;(have BL:=(B0.IX (base:=W.heap.size) (n:=s.length+F) aA aF tK).takeB 0 (Nat.zero_le _));(have kS0:=kS.below lK sl);clear s0 s1 sl;(have s0:=kS0.cell 0);(have s1:=kS0.cell 1);(have sl:=kS0.lt))|(at_builtin;refine qN rfl _ _ rfl W.heap.size (some ⟨W.heap.size,0,none⟩) 0 (s.length+F) [] rfl a _ c s rfl BL (hsW.below lK aA) rfl s.length aj aj aj ?_;intro b2 c2 w2 eu di Ar;(have hb2:=Ar W lK);(have uw:=kS.below hb2 kS.lt);clear s0 s1 sl;(have s0:=uw.cell 0);(have s1:=uw.cell 1);(have sl:=uw.lt))|(at_builtin;refine qN rfl _ _ rfl W.heap.size b2 s.length c2 ([]++s) rfl ba F bc (b.take F) rfl eu ((hbW.take F).below hb2 aA) XM.out.symm (s.length+F) rfl aj hb2.size ?_;intro b3 c3 w3 jE vw DX;(have hb3:=DX W hb2);(have OQ:=kS.below hb3 kS.lt);(have jk:=kR.below hb3 kR.lt);clear s0 s1 sl;(have s0:=OQ.cell 0);(have s1:=OQ.cell 1);(have sl:=OQ.lt);(have y0:=jk.cell 0);(have y1:=jk.cell 1);(have yf:=jk.frozen);(have yl:=jk.lt)))
 refine bodyPost_ret (v:= .tuple #[.agg #[.slice b3 (s.length+F) c3,.bool g],.bool okb]) (by simp[results,results70,go_sem,y0,y1]) rfl ?_;have hs3:=be.size;have ob:=jE.dW;refine⟨b3,c3,s.length+F,okb,rfl,by rw[HPL.out,dP,XM.out],axA.out.symm,?_,bel⟩;rw[HPL.out];have o1:Own w3 W.heap.size 5 1 b3 (s.length+F) c3 ((s++b.take F).map a_):=by simpa using jE
 exact((o1.far (fun e=>by have:=ob _ e;simp only at this;omega) _).far (fun e=>by have:=ob _ e;simp only at this;omega) _).mono hs3
theorem atC(lim:Nat)(l:aJ): ∀st:TS,st.keys.length≤lim→(pJ lim l st).keys.length≤lim:=by
 intro st
 induction st using(pJ.induct lim l)with
 |case1 st h ih=>
  intro _;rw[Vl h];refine ih ?_;have:=h.1;rcases Zc st (iC (l.drop st.used))with e|e<;>rw[e]
  ·omega
  ·simp;omega
 |case2 st h=>intro h1;rw[F9 h];exact h1
theorem auT{lim:Nat}{g:Bool}{st:TS}{its:List It}(h:Hid (pJ lim l ⟨0,g,[]⟩=st))(hk:its.map It.key=st.keys):its.length≤lim:=by
 have:=atC lim l ⟨0,g,[]⟩ aF;rw[h.out,←hk,g_]at this;exact this
theorem aql(l m:List It):oz (l++m)=oz l++oz m:=by simp[oz]
theorem Own.aat{cap:Nat}{b:az}(h:Own w base e size b n cap xs){p:Addr}(hp:p.block<base)(u:Value):Own (w.setCell p u) base e size b n cap xs:=
 h.far (fun q=>by have:=h.dW _ q;omega) u
structure cO where
 op:Bool
 dr:Bool
 buf:aJ
 gb:Bool
structure FV(w:ak)(l:aJ)(a:az)(n c:Nat):Prop where
 dL:bI w a l
 len:n=l.length
 cap:n≤c
 nil:a=none→n=0∧c=0
 small:n≤1000000
theorem FV.below{B:Nat}(h:FV w l a n c)(hb:Below B w w')(hB:w.heap.size≤B):FV w' l a n c:=⟨h.dL.below hb hB,h.len,h.cap,h.nil,h.small⟩
def Oa(S:cO)(w:ak)(e:Ending)(w':ak):Prop:=
 ∃(a:az) (c n:Nat),Hid (n=S.buf.length)∧e= .returned (.agg #[.bool S.op,.bool S.dr,.slice a n c,.bool S.gb])∧Own w' w.heap.size 5 1 a n c (S.buf.map a_)∧Below w.heap.size w w'
theorem Ub(o d g:Bool)(l:aJ)(a:az)(n c:Nat)(w:ak)(h:FV w l a n c):
  aH 68 #[.agg #[.bool o,.bool d,.slice a n c,.bool g]] w (Oa ⟨o,d,l,g⟩ w):=by
 go_enter func68,ntmps68
 go_upto_region 1 with fail
 refine aW (fun W=>ah W w.heap.size 107 #[.bool o,.bool d,.slice a n c,.bool g]∧ah W (w.heap.size+1) 107 #[.bool false,.bool false,.slice none 0 0,.bool false]∧w.heap.size+2≤W.heap.size∧Below w.heap.size w W) ⟨(ah.new _ _ _).alloc _,ah.next _ _ _ _,by simp,bel⟩ ?_;rintro W ⟨kS,kR,sz,be⟩;obtain⟨c0,c1,c2,c3⟩:=kS.four';have sl:=kS.lt
 go_wp2_with (go_at_call 71;refine(Ez a n c l _ (h.dL.below be aA) h.len (by have:=h.len;have:=h.small;omega) h.nil).mono ?_;rintro e w1 ⟨a',c',rfl,own,hb1⟩;((have k1:=kS.below hb1 kS.lt);(have k2:=kR.below hb1 kR.lt);clear c0 c1 c2 c3 sl;(obtain⟨c0,c1,c2,c3⟩:=k1.four');(obtain⟨d0,d1,d2,d3⟩:=k2.four');(have f1:=k1.frozen);(have f2:=k2.frozen);(have l1:=k1.lt);(have l2:=k2.lt)))
 refine bodyPost_ret (v:= .agg #[.bool o,.bool d,.slice a' n c',.bool g]) (by simp[results,results68,go_sem,d0,d1,d2,d3]) rfl ?_;exact⟨a',c',n,ax h.len,rfl,Own.mono (base:=W.heap.size) Uy aj,bel⟩
def cO.opn(s:cO):cO:=if s.op then s else⟨true,false,[],false⟩
theorem aq7(o d g:Bool)(l:aJ)(a:az)(n c:Nat)(w:ak)(h:FV w l a n c):
  aH 35 #[.agg #[.bool o,.bool d,.slice a n c,.bool g]] w (Oa (cO.opn ⟨o,d,l,g⟩) w):=by
 go_enter func35,ntmps35
 go_upto_region 1 with fail
 refine aW (fun W=>ah W w.heap.size 107 #[.bool o,.bool d,.slice a n c,.bool g]∧ah W (w.heap.size+1) 107 #[.bool false,.bool false,.slice none 0 0,.bool false]∧w.heap.size+2≤W.heap.size∧Below w.heap.size w W) ⟨(ah.new _ _ _).alloc _,ah.next _ _ _ _,by simp,bel⟩ ?_;rintro W ⟨kS,kR,sz,be⟩;obtain⟨c0,c1,c2,c3⟩:=kS.four';have sl:=kS.lt;cases o with
 |true=>
  go_wp2_with (go_at_call 68;refine(Ub true d g l a n c _ (h.below be aA)).mono ?_;rintro e w1 ⟨a',c',m,hm,rfl,own,hb1⟩;((have k2:=kR.below hb1 kR.lt);(obtain⟨d0,d1,d2,d3⟩:=k2.four');(have f2:=k2.frozen);(have l2:=k2.lt)))
  refine bodyPost_ret (v:= .agg #[.bool true,.bool d,.slice a' m c',.bool g]) (by simp[results,results35,go_sem,d0,d1,d2,d3]) rfl ?_;exact⟨a',c',m,hm,rfl,Own.mono (base:=W.heap.size) Uy aj,bel⟩
 |false=>
  obtain⟨d0,d1,d2,d3⟩:=kR.four';have f2:=kR.frozen;have l2:=kR.lt
  go_wp2_with fail
  refine bodyPost_ret (v:= .agg #[.bool true,.bool false,.slice none 0 0,.bool false]) (by simp[results,results35,go_sem,d0,d1,d2,d3]) rfl ?_;exact⟨none,0,0,ax rfl,rfl,Own.nil _ _ _ _,bel⟩
def cO.rcv(S:cO)(b:aJ):cO:=if S.op then⟨true,S.dr||!decide (S.buf.length+b.length≤256),Gz S.buf b,S.gb⟩else S
def cO.tk(S:cO):TS:=pJ 4 S.buf ⟨0,S.gb,[]⟩
def cO.dG(S:cO):cO:=if S.op then⟨true,false,S.buf.drop S.tk.used,S.tk.qP⟩else S
def cO.inp(S:cO):List Key:=if S.op then(if S.dr then [(15,0,[])]else [])++S.tk.keys else []
def akg(S:cO)(w:ak)(e:Ending)(w':ak):Prop:=
 ∃(T:cO) (a:az) (c n:Nat) (its:List It) (xa:az) (xc m:Nat),Hid (S.dG=T)∧Hid (n=T.buf.length)∧Hid (m=its.length)∧Hid (its.map It.key=S.inp)∧
  e= .returned (.tuple #[.agg #[.bool T.op,.bool T.dr,.slice a n c,.bool T.gb],.agg #[.bool S.op,.slice xa m xc]])∧
  Own w' w.heap.size 5 1 a n c (T.buf.map a_)∧Own w' w.heap.size 128 3 xa m xc (oz its)∧(∀x∈its,Own w' 0 5 1 x.a x.pay.length x.c (x.pay.map a_))∧Below w.heap.size w w'
theorem aqm(a:az)(s:aJ)(n c:Nat)(g:Bool)(ba:az)(b:aJ)(m bc:Nat)(w:ak)(hs:bI w a s)(hn:n=s.length)(hb:bI w ba b)(hm:m=b.length)(h256:n≤256)(hcb:m≤bc)(hbl:m≤1000000):
 aH 70 #[.agg #[.slice a n c,.bool g],.slice ba m bc] w (akf s b g w):=by subst hn hm;exact aq6 a s c g ba b bc w hs hb h256 hcb hbl
theorem apr(a:az)(l:aJ)(n c:Nat)(g0:Bool)(w:ak)(h:FV w l a n c):
  aH 103 #[.agg #[.slice a n c,.bool g0],ae 4] w (VN 4 l g0 w):=by
 obtain⟨hb,rfl,hc,hn,hs⟩:=h;exact aqk a l _ c g0 4 w hb rfl hc aj hn
theorem agh{P:Prop}(h:P:=by
 rw[e1];exact⟨a',c',m',HM',rfl,Own.mono (base:=W.heap.size) (by show Own _ _ _ _ _ _ _ ((Gz l b).map a_);repeat(first|(with_reducible exact own)|(with_reducible refine Own.aat ?_ (by first|(simp;done)|(simp;omega)|omega) _)|(with_reducible refine Own.alloc ?_ _))) aj,bel⟩):P:=h
theorem aoQ(o d g:Bool)(l:aJ)(a:az)(n c:Nat)(ba:az)(b:aJ)(m bc:Nat)(w:ak)(h:FV w l a n c)(hb:bI w ba b)(hm:m=b.length)(h256:n≤256)(hcb:m≤bc)(hbl:m≤1000000):
  aH 37 #[.agg #[.bool o,.bool d,.slice a n c,.bool g],.slice ba m bc] w (Oa (cO.rcv ⟨o,d,l,g⟩ b) w):=by
 have HM:=ax hm;obtain⟨ok,hok⟩:=aI (decide (l.length+b.length≤256));have jQ:=ax hok;clear hm hok
 go_enter func37,ntmps37
 go_upto_region 1 with fail
 refine aW (fun W=>ah W w.heap.size 107 #[.bool o,.bool d,.slice a n c,.bool g]∧ah W (w.heap.size+1) 107 #[.bool false,.bool false,.slice none 0 0,.bool false]∧w.heap.size+2≤W.heap.size∧Below w.heap.size w W) ⟨(ah.new _ _ _).alloc _,ah.next _ _ _ _,by simp,bel⟩ ?_;rintro W ⟨kS,kR,sz,be⟩;obtain⟨c0,c1,c2,c3⟩:=kS.four';have sl:=kS.lt;cases o with
 |false=>
  go_wp2_with (go_at_call 68;refine(Ub false d g l a n c _ (h.below be aA)).mono ?_;rintro e w1 ⟨a',c',m',hm',rfl,own,hb1⟩;((have k2:=kR.below hb1 kR.lt);(obtain⟨d0,d1,d2,d3⟩:=k2.four');(have f2:=k2.frozen);(have l2:=k2.lt)))
  refine bodyPost_ret (v:= .agg #[.bool false,.bool d,.slice a' m' c',.bool g]) (by simp[results,results37,go_sem,d0,d1,d2,d3]) rfl ?_;exact⟨a',c',m',hm',rfl,Own.mono (base:=W.heap.size) Uy aj,bel⟩
 |true=>
  cases ok
  all_goals
   go_wp2_with (go_at_call 70;refine(aqm a l n c g ba b m bc _ (h.dL.below be aA) h.len (hb.below be aA) HM.out h256 hcb hbl).mono ?_;rintro e w1 ⟨a',c',m',ok',rfl,hm',hok',own,hb1⟩;((obtain rfl:=hok'.trans jQ.out);(have HM':=ax hm');clear hm' hok';(have k1:=kS.below hb1 kS.lt);(have k2:=kR.below hb1 kR.lt);clear c0 c1 c2 c3 sl;(obtain⟨c0,c1,c2,c3⟩:=k1.four');(obtain⟨d0,d1,d2,d3⟩:=k2.four');(have f1:=k1.frozen);(have f2:=k2.frozen);(have l1:=k1.lt);(have l2:=k2.lt)))
  ·refine bodyPost_ret (v:= .agg #[.bool true,.bool true,.slice a' m' c',.bool g]) (by simp[results,results37,go_sem,d0,d1,d2,d3,l2]) rfl ?_;have e1:cO.rcv ⟨true,d,l,g⟩ b=⟨true,true,Gz l b,g⟩:=by simp only[cO.rcv,if_true,jQ.out];simp
   exact agh
  ·refine bodyPost_ret (v:= .agg #[.bool true,.bool d,.slice a' m' c',.bool g]) (by simp[results,results37,go_sem,d0,d1,d2,d3,l2]) rfl ?_;have e1:cO.rcv ⟨true,d,l,g⟩ b=⟨true,d,Gz l b,g⟩:=by simp only[cO.rcv,if_true,jQ.out];simp
   exact agh
theorem aiU{ops:Array Oper}{rest:List Oper}{o:Oper}{a:Act}(hgd:o.guard=none)(s x:Operand)(ho:o.op= .call {callee:= .builtin .append,args:= #[s,x],argTypes:= #[125,125]})
  (base:Nat) (b:az) (n cap:Nat) (l:List It) (hs:a.eval s= .slice b n cap) (A:az) (m c:Nat) (k:List It) (hx:a.eval x= .slice A m c)
  (own:Own w base 128 3 b n cap (oz l)) (hr:Row w A (oz k)) (hm:m=k.length) (N:Nat) (hN:N=n+m) (hbig:N≤1000000000) (hbase:base≤w.heap.size)
  (h: ∀b' cap' w',Own w' base 128 3 b' N cap' (oz (l++k))→Grew base w w' b b'→(∀W,Below base W w→Below base W w')→wpList prog ops Q rest (a.put o.dst (.slice b' N cap')) w'):
  wpList prog ops Q (o::rest) a w:=by
 obtain⟨i0,hi,hz0,hz1,hz2⟩:=info_parts Zz;have hone: ∀u∈oz k,u.oneCell'=true:=by
  intro u hu;simp only[oz,List.mem_flatMap]at hu;obtain⟨y,_,hy⟩:=hu;simp only[It.cells,List.mem_cons,o_,or_false]at hy;rcases hy with rfl|rfl|rfl<;>rfl
 refine zL _ hgd s x _ ho base _ i0 _ 3 40 underlying125 hi hz0 hz1 hz2 rfl ay b n cap _ hs A m c hx own (oz k) (by rw[afT,hm];omega) hr hone tK aj hbase ?_;intro b' cap' w' own' g;rw[←hN]at own'⊢;rw[←aql]at own';exact h b' cap' w' own' g (Grew.step own g)
theorem Own.drew{cap:Nat}(h:Own w base e size a n cap xs):Own w.drew base e size a n cap xs:=h.keep fun _ _ _ _=>rfl
theorem aao{Y:ak}{p q:Nat}{C D:aZ}(kR:ah Y p 107 C)(kJ:ah Y q 160 D){cap:Nat}(h:Own Y base e size a n cap xs)(h1:e≠107)(h2:e≠160)(u0 u1 u2 u3 u4 u5:Value):
  Own (((((((Y.setCell ⟨p,0,none⟩ u0).setCell ⟨p,1,none⟩ u1).setCell ⟨p,2,none⟩ u2).setCell ⟨p,3,none⟩ u3).setCell ⟨q,0,none⟩ u4).setCell ⟨q,1,none⟩ u5).drew) base e size a n cap xs:=by
 have a1:=h.pU kR h1;have a2:=h.pU kJ h2;refine Own.drew ?_;refine Own.far ?_ a2 _;refine Own.far ?_ a2 _;refine Own.far ?_ a1 _;refine Own.far ?_ a1 _;refine Own.far ?_ a1 _;exact Own.far h a1 _
def abn:It:=⟨15,0,[],none,0⟩
theorem aww(w:ak)(b:Nat)(h:ah w b 128 #[ae 15,ae 0,.slice none 0 0]):Row w (some ⟨b,0,none⟩) (oz [abn]):=by
 refine .inr ⟨b,0,rfl,h.lt,fun i hi=>?_⟩;have hi':i<3:=hi;rw[dX,h.cell];obtain rfl|rfl|rfl:i=0∨i=1∨i=2:=by omega
 all_goals rfl
theorem aq8(o d g:Bool)(l:aJ)(a:az)(n c:Nat)(w:ak)(h:FV w l a n c):
  aH 72 #[.agg #[.bool o,.bool d,.slice a n c,.bool g]] w (akg ⟨o,d,l,g⟩ w):=by
 go_enter func72,ntmps72
 go_upto_region 1 with fail
 refine aW (fun W=>ah W w.heap.size 107 #[.bool o,.bool d,.slice a n c,.bool g]∧ah W (w.heap.size+1) 107 #[.bool false,.bool false,.slice none 0 0,.bool false]∧ah W (w.heap.size+2) 160 #[.bool false,.slice none 0 0]∧w.heap.size+3=W.heap.size∧Below w.heap.size w W) ⟨((ah.new _ _ _).alloc _).alloc _,(ah.next _ _ _ _).alloc _,by simpa using ah.next (w.alloc (.cells #[.bool o,.bool d,.slice a n c,.bool g] 107)) (.cells #[.bool false,.bool false,.slice none 0 0,.bool false] 107) 160 #[.bool false,.slice none 0 0],by simp,bel⟩ ?_;rintro W ⟨kS,kR,kJ,sz,be⟩;obtain⟨c0,c1,c2,c3⟩:=kS.four';have sl:=kS.lt;have szi:W.heap.size=w.heap.size+3:=sz.symm;have SZ:=ax sz;clear sz szi;cases o with
 |false=>
  go_wp2_with (go_at_call 68;refine(Ub false d g l a n c _ (h.below be aA)).mono ?_;rintro e w1 ⟨a',c',m',hm',rfl,own,hb1⟩;((have k2:=kR.below hb1 kR.lt);(have k3:=kJ.below hb1 kJ.lt);(obtain⟨d0,d1,d2,d3⟩:=k2.four');(have e0:=k3.cell 0);(have e1:=k3.cell 1);(have f2:=k2.frozen);(have f3:=k3.frozen);(have l2:=k2.lt);(have l3:=k3.lt)))
  refine bodyPost_ret (v:= .tuple #[.agg #[.bool false,.bool d,.slice a' m' c',.bool g],.agg #[.bool false,.slice none 0 0]]) (by simp[results,results72,go_sem,d0,d1,d2,d3,e0,e1]) rfl ?_;have hZ:=SZ.out;exact⟨⟨false,d,l,g⟩,a',c',m',[],none,0,0,ax rfl,hm',ax rfl,ax rfl,rfl,Own.mono (base:=W.heap.size) Uy aj,Own.nil _ _ _ _,by simp,bel⟩
 |true=>
  have kI0:=ah.new W 160 #[.bool true,.slice none 0 0];cases d
  all_goals
   go_upto_region 6 with((at_builtin;refine aiU rfl _ _ rfl (W.heap.size+1) none 0 0 [] rfl (some ⟨W.heap.size+1,0,none⟩) 1 1 [abn] rfl (Own.nil _ _ _ _) (aww _ _ (by simpa using ah.next W _ _ _)) rfl 1 rfl aj aF ?_;intro xb xd w1 Ae gr1 BO;(have uY:=BO _ bD);(have kI:=(kI0.alloc (.cells #[ae 15,ae 0,.slice none 0 0] 128)).below uY aj);(have i0:=kI.cell 0);(have i1:=kI.cell 1);(have fI:=kI.frozen);(have lI:=kI.lt);(have uS:Below W.heap.size W w1:=bel)))
  (focus refine aW (fun V=>ah V w.heap.size 107 #[.bool true,.bool false,.slice a n c,.bool g]∧ah V (w.heap.size+1) 107 #[.bool false,.bool false,.slice none 0 0,.bool false]∧ah V (w.heap.size+2) 160 #[.bool false,.slice none 0 0]∧(∃(uP:List It) (xa0:az) (m0 Hr:Nat),ah V W.heap.size 160 #[.bool true,.slice xa0 m0 Hr]∧Hid (m0=uP.length)∧m0≤1∧Hid (uP.map It.key=(if false=true then [(15,0,[])]else []))∧(∀x∈uP,Own V 0 5 1 x.a x.pay.length x.c (x.pay.map a_))∧Own V (W.heap.size+1) 128 3 xa0 m0 Hr (oz uP))∧W.heap.size+1≤V.heap.size∧Below w.heap.size w V) ⟨kS.alloc _,kR.alloc _,kJ.alloc _,⟨[],none,0,0,kI0,ax rfl,by omega,ax rfl,by simp,Own.nil _ _ _ _⟩,by simp,bel⟩ ?_)
  rotate_left
  (focus refine aW (fun V=>ah V w.heap.size 107 #[.bool true,.bool true,.slice a n c,.bool g]∧ah V (w.heap.size+1) 107 #[.bool false,.bool false,.slice none 0 0,.bool false]∧ah V (w.heap.size+2) 160 #[.bool false,.slice none 0 0]∧(∃(uP:List It) (xa0:az) (m0 Hr:Nat),ah V W.heap.size 160 #[.bool true,.slice xa0 m0 Hr]∧Hid (m0=uP.length)∧m0≤1∧Hid (uP.map It.key=(if true=true then [(15,0,[])]else []))∧(∀x∈uP,Own V 0 5 1 x.a x.pay.length x.c (x.pay.map a_))∧Own V (W.heap.size+1) 128 3 xa0 m0 Hr (oz uP))∧W.heap.size+1≤V.heap.size∧Below w.heap.size w V) ⟨(kS.below uS kS.lt).far Zo _,(kR.below uS kR.lt).far Zo _,(kJ.below uS kJ.lt).far Zo _,⟨[abn],xb,1,xd,kI.set 1 _,ax rfl,by omega,ax rfl,fun x hx=>by rw[dU.1 hx];exact Own.nil _ _ _ _,Own.aat Ae aF _⟩,by simp;omega,bel⟩ ?_)
  all_goals
   clear kS kR kJ be c0 c1 c2 c3 sl;rintro V ⟨kS,kR,kJ,⟨uP,xa0,m0,Hr,kI,hm0,hm1,hk0,hp0,BL⟩,sz,be⟩;obtain⟨c0,c1,c2,c3⟩:=kS.four';have sl:=kS.lt;have f1:=kS.frozen
   go_upto_region 9 with((go_at_call 103;refine(apr a l n c g _ (h.below be aA)).mono ?_;rintro e w2 ⟨st,its,xa,xc,ra,rc,hst,rfl,hk,own,pays,EY,hb2⟩;((have k1:=kS.below hb2 kS.lt);clear c0 c1 c2 c3 sl f1;(obtain⟨c0,c1,c2,c3⟩:=k1.four');(have sl:=k1.lt);(have f1:=k1.frozen))))
   have o0:=BL.below hb2 aA;have p0: ∀x∈uP,Own w2 0 5 1 x.a x.pay.length x.c (x.pay.map a_):=fun x hx=>(hp0 x hx).below hb2 aA;have two: ∀(base:Nat) (e:aK) (sz n cp:Nat) (x:az) (xs:aP) (u0 u1 u2:Value),Own w2 base e sz x n cp xs→(w.heap.size<base∨e≠107)→Own ((((w2.setCell ⟨w.heap.size,2,none⟩ u0).setCell ⟨w.heap.size,3,none⟩ u1).setCell ⟨w.heap.size,1,none⟩ u2).alloc (.cells #[.slice ra (l.length -st.used) rc,.bool st.qP] 105)) base e sz x n cp xs:=fun base e sz n cp x xs u0 u1 u2 h hd=>by
    have ne: ∀i,x.map (·.block)≠some (⟨w.heap.size,i,none⟩:Addr).block:=fun i e=>by
     rcases hd with hd|hd
     ·have:=h.dW _ e;simp only at this;omega
     ·exact h.pU k1 hd e
    exact(((h.far (ne 2) _).far (ne 3) _).far (ne 1) _).alloc _
   have kb: ∀(q:Nat) (e:aK) (C:aZ) (u0 u1 u2:Value),ah w2 q e C→q≠w.heap.size→ah ((((w2.setCell ⟨w.heap.size,2,none⟩ u0).setCell ⟨w.heap.size,3,none⟩ u1).setCell ⟨w.heap.size,1,none⟩ u2).alloc (.cells #[.slice ra (l.length -st.used) rc,.bool st.qP] 105)) q e C:=fun q e C u0 u1 u2 h hd=>(((h.far hd _).far hd _).far hd _).alloc _;have hlt:=be.size;refine aW (fun Z=>ah Z w.heap.size 107 #[.bool true,.bool false,.slice ra (l.length -st.used) rc,.bool st.qP]∧ah Z (w.heap.size+1) 107 #[.bool false,.bool false,.slice none 0 0,.bool false]∧ah Z (w.heap.size+2) 160 #[.bool false,.slice none 0 0]∧ah Z W.heap.size 160 #[.bool true,.slice xa0 m0 Hr]∧(∀x∈uP,Own Z 0 5 1 x.a x.pay.length x.c (x.pay.map a_))∧Own Z (W.heap.size+1) 128 3 xa0 m0 Hr (oz uP)∧Own Z V.heap.size 128 3 xa its.length xc (oz its)∧(∀x∈its,Own Z 0 5 1 x.a x.pay.length x.c (x.pay.map a_))∧Own Z V.heap.size 5 1 ra (l.length -st.used) rc ((l.drop st.used).map a_)∧W.heap.size+1≤Z.heap.size∧Below w.heap.size w Z)
    ⟨(((k1.set 2 _).set 3 _).set 1 _).alloc _,kb _ _ _ _ _ _ (kR.below hb2 kR.lt) aj,kb _ _ _ _ _ _ (kJ.below hb2 kJ.lt) aj,kb _ _ _ _ _ _ (kI.below hb2 kI.lt) (by have:=SZ.out;omega),fun x hx=>two _ _ _ _ _ _ _ _ _ _ (p0 x hx) (.inr ay),two _ _ _ _ _ _ _ _ _ _ o0 (.inl (by have:=SZ.out;omega)),two _ _ _ _ _ _ _ _ _ _ own (.inr ay),fun x hx=>two _ _ _ _ _ _ _ _ _ _ (pays x hx) (.inr ay),two _ _ _ _ _ _ _ _ _ _ EY (.inr ay),by simp;have:=hb2.size;omega,bel⟩ ?_
   clear two kb k1 kS kR kJ kI p0 o0 own pays EY c0 c1 c2 c3 sl f1 hb2 BL hp0;rintro Z ⟨kS,kR,kJ,kI,p0,BL,own,pays,EY,sz,be⟩;have i0:=kI.cell 0;have i1:=kI.cell 1;have li:=kI.lt;have fi:=kI.frozen;obtain⟨k4,hst'⟩: ∃q,q=st:=⟨_,rfl⟩;have hil:its.length≤4:=auT hst hk
   go_upto_region 10 with((at_builtin;refine aiU rfl _ _ rfl (W.heap.size+1) xa0 m0 Hr uP rfl xa its.length xc its rfl BL own.row rfl (m0+its.length) rfl aj sz ?_;intro xb xd w3 jE vw DX;(have eH:=DX _ bD);(have MG:=kI.below eH aj);clear i0 i1 li fi;(have i0:=MG.cell 0);(have i1:=MG.cell 1);(have fi:=MG.frozen);(have li:=MG.lt)))
   have XN:=SZ.out;have p3: ∀x∈uP++its,Own w3 0 5 1 x.a x.pay.length x.c (x.pay.map a_):=fun x hx=>by
    rcases lW.1 hx with hx|hx
    ·exact(p0 x hx).grew vw (BL.apart (p0 x hx) ay)
    ·exact(pays x hx).grew vw (BL.apart (pays x hx) ay)
   have r3:=EY.grew vw (BL.apart EY ay);have two: ∀(base:Nat) (e:aK) (sz n cp:Nat) (x:az) (xs:aP) (u0:Value),Own w3 base e sz x n cp xs→(W.heap.size<base∨e≠160)→Own (w3.setCell ⟨W.heap.size,1,none⟩ u0) base e sz x n cp xs:=fun base e sz n cp x xs u0 h hd=>
    h.far (fun e=>by
     rcases hd with hd|hd
     ·have:=h.dW _ e;simp only at this;omega
     ·exact h.pU MG hd e) _
   refine aW (fun Y=>ah Y w.heap.size 107 #[.bool true,.bool false,.slice ra (l.length -st.used) rc,.bool st.qP]∧ah Y (w.heap.size+1) 107 #[.bool false,.bool false,.slice none 0 0,.bool false]∧ah Y (w.heap.size+1+1) 160 #[.bool false,.slice none 0 0]∧ah Y W.heap.size 160 #[.bool true,.slice xb (m0+its.length) xd]∧(∀x∈uP++its,Own Y 0 5 1 x.a x.pay.length x.c (x.pay.map a_))∧Own Y (W.heap.size+1) 128 3 xb (m0+its.length) xd (oz (uP++its))∧Own Y V.heap.size 5 1 ra (l.length -st.used) rc ((l.drop st.used).map a_)∧Below w.heap.size w Y)
    ⟨(kS.below eH aj).far cu _,(kR.below eH aj).far cu _,(kJ.below eH aj).far cu _,MG.set 1 _,fun x hx=>two _ _ _ _ _ _ _ _ (p3 x hx) (.inr ay),two _ _ _ _ _ _ _ _ jE (.inl aj),two _ _ _ _ _ _ _ _ r3 (.inr ay),bel⟩ ?_
   clear two p3 r3 jE vw DX eH MG i0 i1 fi li kS kR kJ kI p0 BL own pays EY be XN;rintro Y ⟨kS,kR,kJ,kI,p3,jE,EY,be⟩;obtain⟨c0,c1,c2,c3⟩:=kS.four';obtain⟨d0,d1,d2,d3⟩:=kR.four';have e0:=kJ.cell 0;have e1:=kJ.cell 1;have i0:=kI.cell 0;have i1:=kI.cell 1;have fR:=kR.frozen;have fJ:=kJ.frozen;have l1:=kS.lt;have l2:=kR.lt;have l3:=kJ.lt;have l4:=kI.lt;have XN:=SZ.out;have n1:w.heap.size+1≠W.heap.size:=by omega
   have n2:w.heap.size+1+1≠W.heap.size:=by omega
   have n3:W.heap.size≠w.heap.size+1:=by omega
   have n4:W.heap.size≠w.heap.size+1+1:=by omega
   clear XN
   go_region
   go_wp2
   refine bodyPost_ret (v:= .tuple #[.agg #[.bool true,.bool false,.slice ra (l.length -st.used) rc,.bool st.qP],.agg #[.bool true,.slice xb (m0+its.length) xd]]) (by simp[results,results72,go_sem,d0,d1,d2,d3,e0,e1]) rfl ?_;have XN:=SZ.out;have hbs:=be.size;exact⟨⟨true,false,l.drop st.used,st.qP⟩,ra,rc,l.length -st.used,uP++its,xb,xd,m0+its.length,ax (by simp only[cO.dG,cO.tk,if_true,hst.out]),ax pW.symm,ax (by rw[dP,hm0.out]),ax (by rw[jg,hk0.out,hk];simp only[cO.inp,cO.tk,if_true,hst.out]),rfl,(aao kR kJ EY ay ay _ _ _ _ _ _).mono aj,(aao kR kJ jE ay ay _ _ _ _ _ _).mono aj,fun x hx=>aao kR kJ (p3 x hx) ay ay _ _ _ _ _ _,bel⟩
def ui(n:Int):aO:=if n=0 then [0,0,0,0]else if n=1 then [0,0,1,0,0,1,1,1]else if n=2 then [0,0,1,0,0,0]else if n=3 then [0,0,0,0,1,0,1,0,0,1,0,1,1,1,1,1]else if n=4 then [1,0,0,1,0,2]else [0,0]
def UX(n:Int)(w:ak)(e:Ending)(w':ak):Prop:=e= .returned (.slice (some ⟨w.heap.size,0,none⟩) (wB n) (wB n))∧(ui n).length=2*wB n∧Ints w' (some ⟨w.heap.size,0,none⟩) (ui n)∧(∀x∈ui n,0≤x∧x≤2)∧Below w.heap.size w w'
theorem UX.mk{n:Int}{m:Nat}(C:aZ)(e:aK)(h0:wB n=m)(h1:C.toList=(ui n).map encI)(h2:(ui n).length=2*m)(h3: ∀x∈ui n,0≤x∧x≤2):UX n w (.returned (.slice (some ⟨w.heap.size,0,none⟩) m m)) (w.alloc (.cells C e)):=by
 subst h0;exact⟨rfl,h2,by unfold Ints;rw[←h1];exact JZ w C e (0,0),h3,(Below.refl _ _).alloc aA _⟩
theorem aq_(n:Int)(w:ak)(h0:0≤n)(h1:n<6):aH 58 #[ae n] w (UX n w):=by
 have hn:n=0∨n=1∨n=2∨n=3∨n=4∨n=5:=by omega
 rcases hn with rfl|rfl|rfl|rfl|rfl|rfl
 all_goals
  go_enter func58,ntmps58
  go_wp2
  go_ret;exact UX.mk _ _ rfl rfl rfl ay
def GG(xs:aO)(ext:Bool)(i k:Nat):Bool:=(i !=k) && ((xs.getD (2*i) 0==xs.getD (2*k) 0)||(xs.getD (2*i+1) 0 !=xs.getD (2*k+1) 0)||(ext && ((i:Int)+k) % 2==1))
def pI(xs:aO)(ext:Bool)(i m:Nat):Int:=((List.range m).map fun k=>if GG xs ext i k then((2 ^ k:Nat):Int)else 0).sum
theorem UY(xs:aO)(ext:Bool)(i m:Nat):pI xs ext i (m+1)=pI xs ext i m+if GG xs ext i m then((2 ^ m:Nat):Int)else 0:=by
 unfold pI;rw[List.range_succ,jg,List.sum_append];simp
theorem ait(xs:aO)(ext:Bool)(i:Nat): ∀m,0≤pI xs ext i m∧pI xs ext i m<((2 ^ m:Nat):Int)
 |0=>by simp[pI]
 |m+1=>by
  have h:=ait xs ext i m;rw[UY,Nat.pow_succ]
  split<;>omega
theorem atD{xs:aO}{ext:Bool}{rv:Int}(h:GG xs ext i k=true)(hr:rv=pI xs ext i k)(hk:k≤7):wrap64 (rv+wrap64 (2 ^ k))=pI xs ext i (k+1):=by
 have hb:=ait xs ext i k;rw[UY,if_pos h,←hr];rw[←hr]at hb;have hk':k=0∨k=1∨k=2∨k=3∨k=4∨k=5∨k=6∨k=7:=by omega
 clear h hr;unfold wrap64;rcases hk' with rfl|rfl|rfl|rfl|rfl|rfl|rfl|rfl<;>simp at hb⊢ <;>omega
theorem auU{xs:aO}{ext:Bool}{rv:Int}(h:GG xs ext i k=false)(hr:rv=pI xs ext i k):rv=pI xs ext i (k+1):=by
 rw[UY,h,hr];simp
def avF(w:ak)(base:Nat)(n:Int)(m:Nat)(v:Value):Prop:= ∃(b c b2 c2:Nat) (ps:List Ph) (cs:aO) (s:Int),
 v= .agg #[.slice (some ⟨b,0,none⟩) m c,.slice (some ⟨b2,0,none⟩) m c2,ae s]∧ps.length=m∧(∀p∈ps,mO p)∧Hid (∀j (h:j<ps.length),ps[j].ring=(ui n).getD (2*j) 0∧ps[j].group=(ui n).getD (2*j+1) 0)∧Hid (∃ext,cs=(List.range m).map fun i=>pI (ui n) ext i m)∧0≤s∧s≤2∧
 Own w base 71 8 (some ⟨b,0,none⟩) m c (jI ps)∧Own w base 3 1 (some ⟨b2,0,none⟩) m c2 (cs.map encI)
def auV(p:Nat)(d:Dk)(k:Nat)(w:ak)(e:Ending)(w':ak):Prop:= ∃v,e= .returned v∧avF w' w.heap.size (nN d.l k 6) (J8 d.l k) v∧dQ w' p d (aiI d.l k)∧w.grownBy w' (some p)
structure wG(p:Nat)(d:Dk)(kd:Nat)(w:ak)(s:Int)(J R X:Nat)(xs:aO)(wr:ak)(i:Nat)(ps:List Ph)(a:az)(c:Nat):Prop where
 len:ps.length=i
 ok: ∀q∈ps,mO q
 sq:Hid (∀j (h:j<ps.length),ps[j].ring=xs.getD (2*j) 0∧ps[j].group=xs.getD (2*j+1) 0)
 xC:ah wr J 69 #[.slice a i c,.slice none 0 0,ae s]
 own:Own wr (J+1) 71 8 a i c (jI ps)
 rU:dQ wr p d kd
 Tv:Ints wr (some ⟨X,0,none⟩) xs
 res:ah wr R 69 #[.slice none 0 0,.slice none 0 0,ae 0]
 grown:w.grownBy wr (some p)
theorem wG.step{p:Nat}{kd':Nat}{xs:aO}{wr':ak}
  (h:wG p d kd w s J R X xs wr i ps a c) (g:wr.grownBy wr' (some p)) (hd:dQ wr' p d kd') (hJ:p<J) (hR:R≠p) (hX:X≠p):wG p d kd' w s J R X xs wr' i ps a c:=
 ⟨h.len,h.ok,h.sq,h.xC.grown g aj,h.own.grown g aj,hd,Row.grown h.Tv g (fun b hb=>by simp at hb;omega),h.res.grown g hR,h.grown.trans g⟩
theorem wG.set1{p:Nat}{xs:aO}{g o:Nat}{v:Value}
  (h:wG p d kd w s J R X xs wr i ps a c) (hp:g≠p) (hJ:g≠J) (hR:g≠R) (hX:g≠X) (hw:w.heap.size≤g) (ho:a.map (·.block)≠some g) (Tz:d.l= []∨∀b,d.a.map (·.block)=some b→b≠g):wG p d kd w s J R X xs (wr.setCell ⟨g,o,none⟩ v) i ps a c:=
 ⟨h.len,h.ok,h.sq,h.xC.far (fun e=>hJ e.symm) _,h.own.far ho _,h.rU.set hp Tz _,Row.far h.Tv (fun e=>hX (by injection e with e;exact e.symm)) _,h.res.far (fun e=>hR e.symm) _,
  ⟨h.grown.os,h.grown.tape,h.grown.output,by simpa [World.setCell]using h.grown.size,fun k hk hne=>(Below.heap_setCell wr ⟨g,o,none⟩ v k Zj).trans (h.grown.block k hk hne)⟩⟩
theorem wG.awy{p:Nat}{kd':Nat}{xs:aO}{wr':ak}{g:Nat}
  (h:wG p d kd w s J R X xs wr i ps a c) (hb:fH wr [(p,p+1),(g,g+1)] wr') (hd:dQ wr' p d kd') (hJ:p<J∧J≠g) (hR:R≠p∧R≠g) (hX:X≠p∧X≠g) (hg:w.heap.size≤g) (ha:a.map (·.block)≠some g):wG p d kd' w s J R X xs wr' i ps a c:=by
 have hne: ∀b,b≠p→b≠g→∀r∈ [(p,p+1),(g,g+1)],¬ (r.1≤b∧b<r.2):=fun b h1 h2 r hr=>by
  simp at hr;rcases hr with rfl|rfl<;>simp only<;>omega
 refine⟨h.len,h.ok,h.sq,hb.blk h.xC (hne J aj hJ.2),h.own.keep fun b e hb1 hlt=>hb.2.2.2.2 b ⟨hlt,hne b aj fun e'=>ha (by rw[e,e'];rfl)⟩,hd,hb.row h.Tv (fun b e=>by simp at e;subst e;exact hne _ hX.1 hX.2),hb.blk h.res (hne R hR.1 hR.2),?_⟩;exact⟨hb.1.trans h.grown.os,hb.2.1.trans h.grown.tape,hb.2.2.1.trans h.grown.output,dA h.grown.size hb.2.2.2.1,fun k hk hkp=>by
  rw[hb.2.2.2.2 k ⟨by have:=h.grown.size;omega,hne k (fun e=>hkp (by rw[e])) aj⟩];exact h.grown.block k hk hkp⟩
theorem wG.push{p:Nat}{xs:aO}{cap':Nat}{o:Obj}(q:Ph)
  (h:wG p d kd w s J R X xs wr i ps a c) (hq:mO q) (hqs:q.ring=xs.getD (2*i) 0∧q.group=xs.getD (2*i+1) 0) (g:Grew (J+1) (wr.alloc o) w' a b') (own:Own w' (J+1) 71 8 b' (i+1) cap' (jI ps++q.ints.map encI))
  (hJ:p<J) (hR:R<J) (hX:X<J) (hw:w.heap.size≤J) (ha:d.l= []∨∀b,d.a.map (·.block)=some b→b<w.heap.size):
  wG p d kd w s J R X xs (w'.setCell ⟨J,0,none⟩ (.slice b' (i+1) cap')) (i+1) (ps++ [q]) b' cap':=by
 have keep: ∀b,b<wr.heap.size→b≤J→w'.heap[b]?=wr.heap[b]?:=fun b hb hbJ=>by
  rw[g.1.block b cu fun e=>by have:=h.own.dW b e.symm;omega];exact Below.heap_alloc wr o b hb
 have hJl:=h.xC.lt;have hne:b'.map (·.block)≠some J:=fun e=>by have:=own.dW J e;omega
 refine⟨by simp[h.len],fun x hx=>?_,?_,?_,?_,?_,?_,?_,?_⟩
 ·rcases lW.1 hx with hx|hx
  ·exact h.ok x hx
  ·rw[dU.1 hx];exact hq
 ·refine ax fun j hj=>?_;have hl:=h.len;rw[dP,List.length_singleton]at hj;rw[List.getElem_append]
  split
  ·exact h.sq.out j _
  ·have e:j=i:=by omega
   subst e;simpa [hl]using hqs
 ·exact ah.set ((keep J hJl aA).trans h.xC) 0 _
 ·rw[an2];exact own.far hne _
 ·refine dQ.set ?_ aj (ha.imp id fun hh b hb=>by have:=hh b hb;omega) _;refine⟨(keep p h.rU.lt aj).trans h.rU.1,?_,h.rU.2.2⟩;rcases ha with ha|ha
  ·exact .inl (by rw[ha];rfl)
  ·exact Row.keep h.rU.2.1 fun b off e hlt=>keep b hlt (by have:=ha b tN;omega)
 ·exact Row.far (Row.keep h.Tv fun b off e hlt=>keep b hlt (by injection e with e;injection e with e;omega)) (fun e=>by simp at e;omega) _
 ·have hr:ah w' R 69 #[.slice none 0 0,.slice none 0 0,ae 0]:=(keep R h.res.lt aj).trans h.res;exact hr.far dD _
 ·have hsz:=h.grown.size;have gs:=g.1.size;simp at gs;refine⟨g.1.os.trans h.grown.os,g.1.tape.trans h.grown.tape,g.1.output.trans h.grown.output,by simp[World.setCell];omega,fun k hk hkp=>?_⟩;exact(Below.heap_setCell w' ⟨J,0,none⟩ _ k Zj).trans ((keep k aj aj).trans (h.grown.block k hk hkp))
theorem agk{P:Prop}(h:P:=by
 intro f lo hi W10 hbr hx hf hk hrg;(try replace hbr:=fH.zero hbr);clear hx;(try simp(decide:=true) only[go_sem]at hf hk);obtain⟨hd10,mg,hmg,k10⟩:=hf;have Jc:=CB.awy hbr hd10 aj aj aj aj oa7;have z10:=hbr.2.2.2.1;go_simp;clear hk hrg hbr e1 e2 hmx;obtain⟨f0,f1,f2,f3,f4,f5,f6,f7⟩:=k10.eight;have j0:=Jc.xC.cell 0;have jf:=Jc.xC.frozen;have o10:=Jc.own;have zj:=Jc.xC.lt;have hi7:i≤7:=by omega
 obtain⟨i0,hi0,hz0,hz1,hz2⟩:=info_parts aqD
 go_wp2_with (first|(at_builtin;refine zL _ rfl _ _ 67 rfl (w3.heap.size+1) 71 i0 _ 8 64 underlying67 hi0 hz0 hz1 hz2 rfl ay a i c (jI ps) rfl (some ⟨W10.heap.size,0,none⟩) 1 1 rfl (o10.alloc _) [encI x,encI y,encI (1+a1),encI mg,encI (1+a2),encI a3,encI wv,encI cv] rfl (JZ _ _ _ _) (by intro u hu;simp at hu;rcases hu with rfl|rfl|rfl|rfl|rfl|rfl|rfl|rfl<;>rfl) tK aj cu ?_;intro b' cap' w11 awz g11;(have jw:=g11.1.size;have jne:(a.map (·.block))≠some w3.heap.size:=fun e=>by have:=o10.dW _ e;omega);have j11:=(Jc.xC.alloc (.cells #[ae x,ae y,ae (1+a1),ae mg,ae (1+a2),ae a3,ae wv,ae cv] 71));have j11':=ah.jT j11 g11 jne;clear j0 jf f0 f1 f2 f3 f4 f5 f6 f7;have j0:=j11'.cell 0;have jf:=j11'.frozen))
 go_roundw
 case rel=>
  refine⟨i+1,ps++ [⟨x,y,1+a1,mg,1+a2,a3,wv,cv⟩],b',cap',by omega,by go_num,?_,by simp[World.setCell]at jw⊢;omega⟩;rw[ahc,HK.out,FB.out];have hm:=hmg.out;exact Jc.push _ ⟨hx,hy,⟨show 1≤1+a1 by omega,show 1+a1≤3 by omega⟩,⟨hm.1,hm.2.1,hm.2.2⟩,⟨show 1≤1+a2 by omega,show 1+a2≤2 by omega⟩,⟨show 0≤a3 by omega,show a3≤2 by omega⟩,hwc⟩ hXY.out g11 awz aj aj aj aj hd.arr
 case measure=>simp[intOf];omega):P:=h
theorem aoo(p:Nat)(w:ak)(d:Dk)(k:Nat)(hd:dQ w p d k):
  aH 28 #[.pointer (some ⟨p,0,none⟩)] w (auV p d k w):=by
 go_enter func28,ntmps28
 have hd0:=hd.alloc (.cells #[.slice none 0 0,.slice none 0 0,ae 0] 69);have hpl:=hd.lt
 go_wp2_with (first|(go_at_call 25;(with_reducible refine(vI p 6 _ d k hd0 aj aj).mono ?_);rintro e w1 ⟨v1,rfl,v10,v11,hv1,hd1,g1⟩)|(go_at_call 58;(with_reducible refine(aq_ _ _ aj aj).mono ?_);rintro e w2 ⟨rfl,hxl,hxi,hxb,bel2⟩;(have hd2:=hd1.below bel2))|(go_at_call 25;(with_reducible refine(vI p 3 _ d (eU d.l k) hd2 aj aj).mono ?_);rintro e w3 ⟨v3,rfl,v30,v31,hv3,hd3,g3⟩))
 have m1:=Yr v1;obtain⟨m,hm⟩:=aI (wB v1);obtain⟨xs,hxs⟩:=aI (ui v1);rw[hxs]at hxl hxi hxb;have HXS:Hid (ui (nN d.l k 6)=xs):=ax (by rw[hv1.out];exact hxs);clear hxs;rw[hm]at m1 hxl⊢;have HM:Hid (J8 d.l k=m):=ax (by unfold J8;rw[hv1.out];exact hm);clear hm hv1 hv3;have z1:=g1.size;have z2:=bel2.size;have z3:=g3.size;simp at z1;have gw:w.grownBy w3 (some p):=((World.grownBy_alloc w _ _).trans g1).trans ((Below.Io bel2 _).trans g3);have q2:w2.heap.size≤w3.heap.size:=z3;have sR:ah w3 w.heap.size 69 #[.slice none 0 0,.slice none 0 0,ae 0]:=by
  have h:=ah.new w 69 #[.slice none 0 0,.slice none 0 0,ae 0];have h1:=ah.grown h g1 aj;exact ah.grown (h1.below bel2 h1.lt) g3 aj
 have sX:Ints w3 (some ⟨w1.heap.size,0,none⟩) xs:=Row.grown hxi g3 (fun b hb=>by simp at hb;omega);have zX:w1.heap.size<w3.heap.size:=by
  rcases Ints.open sX with h|⟨b,off,e,hlt,_⟩
  ·rw[h]at hxl;simp at hxl;omega
  ·injection e with e
   injection e with e1 _ _
   omega
 go_loopw [22] (fun t wr=> ∃(i:Nat) (ps:List Ph) (a:az) (c:Nat),i≤m∧t=ae i∧wG p d (iter (IL d.l) i (eU d.l (eU d.l k))) w v3 w3.heap.size w.heap.size w1.heap.size xs wr i ps a c∧w3.heap.size<wr.heap.size) (fun t _=>m -(intOf t).toNat)
 case atStart=>exact⟨0,[],none,0,by omega,rfl,⟨rfl,by simp,ax (fun j h=>absurd h aF),ah.new _ _ _,Own.nil _ _ _ _,hd3.alloc _,Ints.alloc sX _,sR.alloc _,gw.trans (World.grownBy_alloc _ _ _)⟩,by simp⟩
 case round=>
  obtain⟨i,ps,a,c,hi,rfl,hJ,hsz⟩:=hrel;by_cases hlt:i<m
  ·obtain⟨x,y,hx,hy,hXY,hc0,hc1⟩: ∃x y,(0≤x∧x≤2)∧(0≤y∧y≤2)∧Hid (x=xs.getD (2*i) 0∧y=xs.getD (2*i+1) 0)∧wr.cell? ⟨w1.heap.size,i*2,none⟩=some (ae x)∧wr.cell? ⟨w1.heap.size,i*2+1,none⟩=some (ae y):=by
    rcases Ints.open hJ.Tv with h|⟨b,off,e,_,hc⟩
    ·rw[h]at hxl;simp at hxl;omega
    ·injection e with e
     injection e with e1 e2 _
     subst e1 e2;have a1:=hc (i*2) aj;have a2:=hc (i*2+1) aj;rw[dX]at a1 a2;exact⟨xs[i*2]' aj,xs[i*2+1]' aj,hxb _ (bF _),hxb _ (bF _),ax ⟨by rw[show 2*i=i*2 by omega,eG,d_ aj];rfl,by rw[show 2*i+1=i*2+1 by omega,eG,d_ aj];rfl⟩,a1,a2⟩
   go_wp2
   obtain⟨K0,hK0⟩: ∃K,iter (IL d.l) i (eU d.l (eU d.l k))=K:=⟨_,rfl⟩;have HK:=ax hK0;rw[hK0]at hJ;clear hK0;obtain⟨a1,h1⟩: ∃x,nN d.l K0 3=x:=⟨_,rfl⟩;obtain⟨a2,h2⟩: ∃x,nN d.l (eU d.l K0) 2=x:=⟨_,rfl⟩;obtain⟨a3,h3⟩: ∃x,nN d.l (eU d.l (eU d.l K0)) 3=x:=⟨_,rfl⟩;have b1:=Gf d.l K0 (n:=3) aj;have b2:=Gf d.l (eU d.l K0) (n:=2) aj;have b3:=Gf d.l (eU d.l (eU d.l K0)) (n:=3) aj;rw[h1]at b1;rw[h2]at b2;rw[h3]at b3;have H1:=ax h1;have H2:=ax h2;have H3:=ax h3;clear h1 h2 h3;obtain⟨g6,hg6⟩: ∃g,wr.heap.size=g:=⟨_,rfl⟩;refine aW (fun W=>wG p d K0 w v3 w3.heap.size w.heap.size w1.heap.size xs W i ps a c∧ah W g6 144 #[ae x,ae y]∧g6<W.heap.size) ⟨hJ.step (World.grownBy_alloc _ _ _) (hJ.rU.alloc _) aj aj aj,by rw[←hg6];exact ah.new _ _ _,by simp;omega⟩ ?_;rintro W ⟨hJ,k6,l6⟩;simp only[hg6];clear hc0 hc1;have s6:w3.heap.size<g6:=by omega
   clear hg6;apply uG [(p,(p+1))] 13 125 [some 26,some 27,some 28,some 29,some 30,some 31,some 32,some 33,some 34,some 35,some 36,some 7,none] [⟨[13],[],[],[]⟩,⟨[0,13],[0],[0],[]⟩,⟨[13],[],[],[]⟩,⟨[2,13],[2],[2],[]⟩,⟨[13],[],[],[]⟩,⟨[4,13],[4,13],[4,13],[13]⟩,⟨[13],[],[],[]⟩,⟨[4,5,6,13],[5,6,13],[5,6],[13]⟩,⟨[13],[],[],[]⟩,⟨[4,5,6,7,8,13],[7,8,13],[7,8],[13]⟩,⟨[0,1,2,3,4,5,6,7,8,9,13],[1,3,5,7,9],[1,3,9],[]⟩,⟨[13],[],[],[]⟩,⟨[0,1,2,3,4,5,6,7,8,9,10,11,13],[10,11],[10,11],[11]⟩,⟨[],[],[],[]⟩] [0,1,2,3,4,5,6,7,8,9,10,11,12] [9,12] [bC,bC,bC,bC,bC,(fun f lo hi v b0 b1 W=>dQ W p d (eU d.l K0)),bC,(fun f lo hi v b0 b1 W=>dQ W p d (eU d.l (eU d.l K0))),bC,(fun f lo hi v b0 b1 W=>dQ W p d (eU d.l (eU d.l (eU d.l K0)))),bC,(fun f lo hi v b0 b1 W=> ∃b,v= .pointer (some ⟨b,0,none⟩)∧b0≤b∧b<b1∧ah W b 71 #[ae 0,ae 0,ae 0,ae 0,ae 0,ae 0,ae 0,ae 0]),(fun f lo hi v b0 b1 W=> ∃b,f 11= .pointer (some ⟨b,0,none⟩)∧lo (11)≤b∧b<hi (11)∧ah W b 71 #[ae x,ae y,ae (1+a1),ae 0,ae (1+a2),ae a3,ae 0,ae 0]),(fun f lo hi v b0 b1 W=>(b0=p∧b1=(p+1))∧dQ W p d K0)] [bG _,bG _,bG _,bG _,bG _,(fun v=>v=ae (1+a1)),bG _,(fun v=>v=ae (1+a2)),bG _,(fun v=>v=ae a3),bG _,dM,dM]
   ·kernel_rfl
   ·kernel_rfl
   ·rfl
   ·rfl
   rotate_left 2
   refine⟨?pX,?pY,?p_,?qh,?qi,?qj,?qm,?rF,?vN,?xW,?z_,?Dl,?Gm,trivial⟩
   all_goals try(intro f lo hi w hb hx hf hk hrg R hR;(try replace hb:=fH.zero hb);(try simp(decide:=true) only[go_sem]at hf hk))
   case hx=>exact⟨⟨by omega,by have:=hJ.rU.lt;omega⟩,by simp,trivial⟩
   case hX=>exact⟨fun _ _ _ _=>⟨⟨rfl,rfl⟩,hJ.rU⟩,trivial⟩
   case pX=>go_simp;exact hR _ _ (bK rfl rfl bD rfl)
   case pY=>
    have e:=(hb.blk k6 cu).cell 0;go_simp;exact hR _ _ (bK rfl rfl bD rfl)
   case p_=>go_simp;exact hR _ _ (bK rfl rfl bD rfl)
   case qh=>
    have e:=(hb.blk k6 cu).cell 1;go_simp;exact hR _ _ (bK rfl rfl bD rfl)
   case qi=>go_simp;exact hR _ _ (bK rfl rfl bD rfl)
   case qj=>go_simp;(with_reducible refine(CQ p 1 3 _ d K0 hf.2 aj aj aj).mono ?_);rintro e w' ⟨v,rfl,v0,v1,hv,hd',g'⟩;obtain rfl:=hv.out.symm.trans H1.out;exact⟨_,rfl,hR _ _ (PL PW rfl (A_ g' (dU.2 rfl) (fU.get _ _ hx 0 _ rfl).1 (fU.get _ _ hx 0 _ rfl).2) hd')⟩
   case qm=>go_simp;exact hR _ _ (bK rfl rfl bD rfl)
   case rF=>go_simp;(with_reducible refine(CQ p 1 2 _ d (eU d.l K0) hf aj aj aj).mono ?_);rintro e w' ⟨v,rfl,v0,v1,hv,hd',g'⟩;obtain rfl:=hv.out.symm.trans H2.out;exact⟨_,rfl,hR _ _ (PL PW rfl (A_ g' (dU.2 rfl) (fU.get _ _ hx 0 _ rfl).1 (fU.get _ _ hx 0 _ rfl).2) hd')⟩
   case vN=>go_simp;exact hR _ _ (bK rfl rfl bD rfl)
   case xW=>go_simp;(with_reducible refine(vI p 3 _ d (eU d.l (eU d.l K0)) hf aj aj).mono ?_);rintro e w' ⟨v,rfl,v0,v1,hv,hd',g'⟩;obtain rfl:=hv.out.symm.trans H3.out;exact⟨_,rfl,hR _ _ (PL PW rfl (A_ g' (dU.2 rfl) (fU.get _ _ hx 0 _ rfl).1 (fU.get _ _ hx 0 _ rfl).2) hd')⟩
   case z_=>go_simp;exact hR _ _ (bK rfl rfl bD rfl)
   case Dl=>
    go_simp;refine hR _ _ (iU rfl bel ?_)
    (try simp(decide:=true) only[go_sem])
    exact⟨_,rfl,Nat.le_refl _,by simp,ah.new _ _ _⟩
   case Gm=>
    obtain⟨b,h1,h2,h3,h4⟩:=hf;have e0:=h4.cell 0;have e1:=h4.cell 1;have e2:=h4.cell 2;have e3:=h4.cell 3;have e4:=h4.cell 4;have e5:=h4.cell 5;have e6:=h4.cell 6;have e7:=h4.cell 7;have fz:=h4.frozen;go_simp;refine hR _ _ (vH rfl rfl (Touch.aaS _ (dU.2 rfl) h2 h3 _ _ _ _ _ _ _ _) ?_)
    (try simp(decide:=true) only[go_sem])
    exact⟨b,h1,h2,h3,h4.aaS _ _ _ _ _ _ _ _⟩
   case hcl=>
    refine⟨bH,bH,bH,bH,bH,?ai8,bH,?NK,bH,?ajg,bH,?VA,?VD,?aiV,trivial⟩
    all_goals first
     |exact fun f lo hi v b0 b1 w w' h hs hB hown hU hX=>dQ.closed h hJ.rU (fun _ b _ h1 h2=>hB b ⟨h1,fun r hr=>by simp at hr;subst hr;simp only;omega⟩) (hX 0 _ rfl aF p aA (rD _))|(intro f lo hi v b0 b1 w w' hp _ _ hown _ _;obtain⟨b,h1,h2,h3,h4⟩:=hp;exact⟨b,h1,h2,h3,(hown b h2 h3).trans h4⟩)|(intro f lo hi v b0 b1 w w' hp _ _ _ hown _;obtain⟨b,h1,h2,h3,h4⟩:=hp;exact⟨b,h1,h2,h3,(hown 11 aF b h2 h3).trans h4⟩)
     |exact fun f lo hi v b0 b1 w w' h hs hB hown hU hX=>⟨h.1,dQ.closed h.2 hJ.rU (fun _ b _ h1 h2=>hB b ⟨h1,fun r hr=>by simp at hr;subst hr;simp only;omega⟩) (hown p yQ yQ)⟩
   intro f lo hi W7 hbr hx hf hk hrg;(try replace hbr:=fH.zero hbr);clear hx;(try simp(decide:=true) only[go_sem]at hf hk);obtain⟨hd7,b7,h7,b7a,b7b,k7⟩:=hf;have Hw:=hbr.one;have zbo:=Hw.size;have hJ7:=hJ.step Hw hd7 aj aj aj;have s7:g6<b7:=by have:=hrg.out 11 aF;omega
   have oa7:a.map (·.block)≠some b7:=fun e=>by
    have h1:=hJ.own.lt' b7 e;have h2:=hrg.out 11 aF;omega
   have O8:d.l= []∨∀b,d.a.map (·.block)=some b→b≠b7:=hd.arr.imp id fun h b hb=>by have:=h b hb;omega
   obtain⟨K3,hK3⟩: ∃K,eU d.l (eU d.l (eU d.l K0))=K:=⟨_,rfl⟩;rw[hK3]at hd7 hJ7;have D9:=ax hK3;clear hK3 hbr hJ k6 l6;obtain⟨c4,h4⟩: ∃x,nN d.l K3 3=x:=⟨_,rfl⟩;have b4:=Gf d.l K3 (n:=3) aj;rw[h4]at b4;have H4:=ax h4;clear h4;go_simp;clear hk;have l7:=k7.lt;by_cases hc:c4=2
   ·subst hc;obtain⟨a5,h5⟩: ∃x,nN d.l (eU d.l K3) 2=x:=⟨_,rfl⟩;obtain⟨a6,h6⟩: ∃x,nN d.l (eU d.l (eU d.l K3)) 2=x:=⟨_,rfl⟩;have b5:=Gf d.l (eU d.l K3) (n:=2) aj;have b6:=Gf d.l (eU d.l (eU d.l K3)) (n:=2) aj;rw[h5]at b5;rw[h6]at b6;have H5:=ax h5;have H6:=ax h6;clear h5 h6
    go_wp2_with (first|(go_at_call 25;(with_reducible refine(vI p 3 _ d K3 hd7 aj aj).mono ?_);rintro e w8 ⟨v,rfl, -, -,hv,hd8,g8⟩;(obtain rfl:=hv.out.symm.trans H4.out;have k8:=k7.grown g8 aj;have hJ8:=hJ7.step g8 hd8 aj aj aj))|(go_at_call 27;(with_reducible refine(CQ p 1 2 _ d _ hd8 aj aj aj).mono ?_);rintro e w9 ⟨v,rfl, -, -,hv,hd9,g9⟩;(obtain rfl:=hv.out.symm.trans H5.out;have k9:=k8.grown g9 aj;have CB:=hJ8.step g9 hd9 aj aj aj))|(go_at_call 27;(with_reducible refine(CQ p 1 2 _ d _ hd9 aj aj aj).mono ?_);rintro e w10 ⟨v,rfl, -, -,hv,hd10,g10⟩;(obtain rfl:=hv.out.symm.trans H6.out;have k10:=k9.grown g10 aj;have Jc:=CB.step g10 hd10 aj aj aj;have e6:=k10.cell 6;have e7:=k10.cell 7;have fz:=k10.frozen)))
    refine aW (fun W=> ∃wv cv KK,((wv=0∧cv=0)∨(1≤wv∧wv≤2∧1≤cv∧cv≤2))∧Hid (IL d.l K0=eU d.l KK)∧wG p d KK w v3 w3.heap.size w.heap.size w1.heap.size xs W i ps a c∧ah W b7 71 #[ae x,ae y,ae (1+a1),ae 0,ae (1+a2),ae a3,ae wv,ae cv])
     ⟨_,_,_,.inr ⟨by omega,by omega,by omega,by omega⟩,ax (by unfold IL;simp only[D9.out];rw[if_pos H4.out]),(Jc.set1 aj aj aj aj aj oa7 O8).set1 aj aj aj aj aj oa7 O8,(k10.set 6 _).set 7 _⟩ ?_
    rintro W9 ⟨wv,cv,KK,hwc,FB,CB,k9⟩;obtain⟨a7,Eh⟩: ∃x,nN d.l KK 4=x:=⟨_,rfl⟩;have Me:=Gf d.l KK (n:=4) aj;rw[Eh]at Me;have H7:=ax Eh;clear Eh;have e1:IntKind.i64.wrap (wv+cv)=wv+cv:=by rw[IntKind.wrap_i64];omega
    obtain⟨mx,hmx⟩: ∃mx,(if 1+a1<wv+cv then wv+cv else 1+a1)=mx:=⟨_,rfl⟩;have bmx:1+a1≤mx∧wv+cv≤mx∧mx≤4:=by rw[←hmx];split<;>omega
    have e2:IntKind.i64.wrap (mx+a7)=mx+a7:=by rw[IntKind.wrap_i64];omega
    apply uG [(p,(p+1)),(b7,(b7+1))] 13 125 [some 46,some 47,some 48,some 49,some 50,some 51,some 52,some 53,some 54,some 55,some 56,some 57,none] [⟨[13,14],[],[],[]⟩,⟨[0,13,14],[0,14],[0,14],[]⟩,⟨[13,14],[],[],[]⟩,⟨[2,13,14],[2,14],[2,14],[]⟩,⟨[13,14],[],[],[]⟩,⟨[4,13,14],[4,14],[4,14],[]⟩,⟨[2,3,4,5,13,14],[3,5],[3,5],[]⟩,⟨[0,1,2,3,4,5,6,13,14],[1,6],[1,6],[]⟩,⟨[13,14],[],[],[]⟩,⟨[8,13,14],[8,13],[8,13],[13]⟩,⟨[0,1,2,3,4,5,6,7,8,9,13,14],[7,9],[7,9],[]⟩,⟨[0,1,2,3,4,5,6,7,8,9,10,13,14],[],[],[]⟩,⟨[0,1,2,3,4,5,6,7,8,9,10,11,13,14],[10,11,14],[10,11,14],[14]⟩,⟨[],[],[],[]⟩,⟨[],[],[],[]⟩] [0,1,2,3,4,5,6,7,8,9,10,11,12] [9,12] [bC,bC,bC,bC,bC,bC,bC,bC,bC,(fun f lo hi v b0 b1 W=>dQ W p d (eU d.l KK)),bC,bC,(fun f lo hi v b0 b1 W=> ∃mg,Hid (1+a1≤mg∧wv+cv≤mg∧mg≤7)∧ah W b7 71 #[ae x,ae y,ae (1+a1),ae mg,ae (1+a2),ae a3,ae wv,ae cv]),(fun f lo hi v b0 b1 W=>(b0=p∧b1=(p+1))∧dQ W p d KK),(fun f lo hi v b0 b1 W=>(b0=b7∧b1=(b7+1))∧ah W b7 71 #[ae x,ae y,ae (1+a1),ae 0,ae (1+a2),ae a3,ae wv,ae cv])] [bG _,bG _,bG _,bG _,bG _,bG _,bG _,bG _,bG _,(fun v=>v=ae a7),bG _,bG _,dM]
    ·kernel_rfl
    ·kernel_rfl
    ·rfl
    ·rfl
    rotate_left 2
    refine⟨?Kq,?Kr,?Ku,?Kv,?Kw,?Ky,?Kz,?KA,?Qx,?Qy,?avG,?avH,?avI,trivial⟩
    all_goals try(intro f lo hi w hb hx hf hk hrg R hR;(try replace hb:=fH.zero hb);(try simp(decide:=true) only[go_sem]at hf hk))
    case hx=>exact⟨⟨by omega,by have:=CB.rU.lt;omega⟩,by simp;omega,⟨by omega,k9.lt⟩,by simp,trivial⟩
    case hX=>exact⟨fun _ _ _ _=>⟨⟨rfl,rfl⟩,CB.rU⟩,fun _ _ _ _=>⟨⟨rfl,rfl⟩,k9⟩,trivial⟩
    case Kq=>go_simp;exact hR _ _ (bK rfl rfl bD rfl)
    case Kr=>
     obtain⟨-,kb⟩:=hf;have e:=kb.cell 2;go_simp;exact hR _ _ (bK rfl rfl bD rfl)
    case Ku=>go_simp;exact hR _ _ (bK rfl rfl bD rfl)
    case Kv=>
     obtain⟨-,kb⟩:=hf;have e:=kb.cell 6;go_simp;exact hR _ _ (bK rfl rfl bD rfl)
    case Kw=>go_simp;exact hR _ _ (bK rfl rfl bD rfl)
    case Ky=>
     obtain⟨-,kb⟩:=hf;have e:=kb.cell 7;go_simp;exact hR _ _ (bK rfl rfl bD rfl)
    case Kz|KA=>go_simp;exact hR _ _ (bK rfl rfl bD rfl)
    case Qx=>go_simp;exact hR _ _ (bK rfl rfl bD rfl)
    case Qy=>go_simp;(with_reducible refine(vI p 4 _ d KK hf.2 aj aj).mono ?_);rintro e w' ⟨v,rfl,v0,v1,hv,hd',g'⟩;obtain rfl:=hv.out.symm.trans H7.out;exact⟨_,rfl,hR _ _ (PL PW rfl (A_ g' (dU.2 rfl) (fU.get _ _ hx 0 _ rfl).1 (fU.get _ _ hx 0 _ rfl).2) hd')⟩
    case avG|avH=>go_simp;exact hR _ _ (bK rfl rfl bD rfl)
    case avI=>
     obtain⟨-,kb⟩:=hf;have e:=kb.cell 3;have fz:=kb.frozen 3;go_simp;refine hR _ _ (vH rfl rfl (Touch.set _ (dU.2 rfl) (tY (fU.get _ _ hx 1 _ rfl).1) (by rw[(fU.get _ _ hx 1 _ rfl).2];exact rD _) 3 _) ?_)
     (try simp(decide:=true) only[go_sem])
     exact⟨_,ax aj,kb.set 3 _⟩
    case hcl=>
     refine⟨bH,bH,bH,bH,bH,bH,bH,bH,bH,?av6,bH,bH,?aBE,?aBF,?aBG,trivial⟩
     all_goals first
      |exact fun f lo hi v b0 b1 w w' h hs hB hown hU hX=>dQ.closed h CB.rU (fun hl b hq h1 h2=>hB b ⟨h1,fun r hr=>by simp at hr;rcases hr with rfl|rfl<;>simp only<;>first|omega|(have:=O8.resolve_left hl b hq;omega)⟩) (hX 0 _ rfl aF p aA (rD _))
      |exact fun f lo hi v b0 b1 w w' h hs hB hown hU hX=>⟨h.1,dQ.closed h.2 CB.rU (fun hl b hq h1 h2=>hB b ⟨h1,fun r hr=>by simp at hr;rcases hr with rfl|rfl<;>simp only<;>first|omega|(have:=O8.resolve_left hl b hq;omega)⟩) (hown p yQ yQ)⟩
      |exact fun f lo hi v b0 b1 w w' h hs hB hown hU hX=>⟨h.choose,h.choose_spec.1,(hX 1 _ rfl aF b7 aA (rD _)).trans h.choose_spec.2⟩
      |exact fun f lo hi v b0 b1 w w' h hs hB hown hU hX=>⟨h.1,(hown b7 yQ yQ).trans h.2⟩
    exact agk
   ·have hcb:(c4==2)=false:=by rw[iL];exact hc
    go_wp2_with (first|(go_at_call 25;(with_reducible refine(vI p 3 _ d K3 hd7 aj aj).mono ?_);rintro e w8 ⟨v,rfl, -, -,hv,hd8,g8⟩;(obtain rfl:=hv.out.symm.trans H4.out;have k8:=k7.grown g8 aj;have hJ8:=hJ7.step g8 hd8 aj aj aj)))
    refine aW (fun W=> ∃wv cv KK,((wv=0∧cv=0)∨(1≤wv∧wv≤2∧1≤cv∧cv≤2))∧Hid (IL d.l K0=eU d.l KK)∧wG p d KK w v3 w3.heap.size w.heap.size w1.heap.size xs W i ps a c∧ah W b7 71 #[ae x,ae y,ae (1+a1),ae 0,ae (1+a2),ae a3,ae wv,ae cv])
     ⟨0,0,_,.inl ⟨rfl,rfl⟩,ax (by unfold IL;simp only[D9.out];rw[if_neg (by rw[H4.out];exact hc)]),hJ8,k8⟩ ?_
    rintro W9 ⟨wv,cv,KK,hwc,FB,CB,k9⟩;obtain⟨a7,Eh⟩: ∃x,nN d.l KK 4=x:=⟨_,rfl⟩;have Me:=Gf d.l KK (n:=4) aj;rw[Eh]at Me;have H7:=ax Eh;clear Eh;have e1:IntKind.i64.wrap (wv+cv)=wv+cv:=by rw[IntKind.wrap_i64];omega
    obtain⟨mx,hmx⟩: ∃mx,(if 1+a1<wv+cv then wv+cv else 1+a1)=mx:=⟨_,rfl⟩;have bmx:1+a1≤mx∧wv+cv≤mx∧mx≤4:=by rw[←hmx];split<;>omega
    have e2:IntKind.i64.wrap (mx+a7)=mx+a7:=by rw[IntKind.wrap_i64];omega
    apply uG [(p,(p+1)),(b7,(b7+1))] 13 125 [some 46,some 47,some 48,some 49,some 50,some 51,some 52,some 53,some 54,some 55,some 56,some 57,none] [⟨[13,14],[],[],[]⟩,⟨[0,13,14],[0,14],[0,14],[]⟩,⟨[13,14],[],[],[]⟩,⟨[2,13,14],[2,14],[2,14],[]⟩,⟨[13,14],[],[],[]⟩,⟨[4,13,14],[4,14],[4,14],[]⟩,⟨[2,3,4,5,13,14],[3,5],[3,5],[]⟩,⟨[0,1,2,3,4,5,6,13,14],[1,6],[1,6],[]⟩,⟨[13,14],[],[],[]⟩,⟨[8,13,14],[8,13],[8,13],[13]⟩,⟨[0,1,2,3,4,5,6,7,8,9,13,14],[7,9],[7,9],[]⟩,⟨[0,1,2,3,4,5,6,7,8,9,10,13,14],[],[],[]⟩,⟨[0,1,2,3,4,5,6,7,8,9,10,11,13,14],[10,11,14],[10,11,14],[14]⟩,⟨[],[],[],[]⟩,⟨[],[],[],[]⟩] [0,1,2,3,4,5,6,7,8,9,10,11,12] [9,12] [bC,bC,bC,bC,bC,bC,bC,bC,bC,(fun f lo hi v b0 b1 W=>dQ W p d (eU d.l KK)),bC,bC,(fun f lo hi v b0 b1 W=> ∃mg,Hid (1+a1≤mg∧wv+cv≤mg∧mg≤7)∧ah W b7 71 #[ae x,ae y,ae (1+a1),ae mg,ae (1+a2),ae a3,ae wv,ae cv]),(fun f lo hi v b0 b1 W=>(b0=p∧b1=(p+1))∧dQ W p d KK),(fun f lo hi v b0 b1 W=>(b0=b7∧b1=(b7+1))∧ah W b7 71 #[ae x,ae y,ae (1+a1),ae 0,ae (1+a2),ae a3,ae wv,ae cv])] [bG _,bG _,bG _,bG _,bG _,bG _,bG _,bG _,bG _,(fun v=>v=ae a7),bG _,bG _,dM]
    ·kernel_rfl
    ·kernel_rfl
    ·rfl
    ·rfl
    rotate_left 2
    refine⟨?aaz,?aaA,?aaB,?aaC,?aaD,?aaE,?aaF,?aaG,?awC,?awD,?avJ,?avK,?avL,trivial⟩
    all_goals try(intro f lo hi w hb hx hf hk hrg R hR;(try replace hb:=fH.zero hb);(try simp(decide:=true) only[go_sem]at hf hk))
    case hx=>exact⟨⟨by omega,by have:=CB.rU.lt;omega⟩,by simp;omega,⟨by omega,k9.lt⟩,by simp,trivial⟩
    case hX=>exact⟨fun _ _ _ _=>⟨⟨rfl,rfl⟩,CB.rU⟩,fun _ _ _ _=>⟨⟨rfl,rfl⟩,k9⟩,trivial⟩
    case aaz=>go_simp;exact hR _ _ (bK rfl rfl bD rfl)
    case aaA=>
     obtain⟨-,kb⟩:=hf;have e:=kb.cell 2;go_simp;exact hR _ _ (bK rfl rfl bD rfl)
    case aaB=>go_simp;exact hR _ _ (bK rfl rfl bD rfl)
    case aaC=>
     obtain⟨-,kb⟩:=hf;have e:=kb.cell 6;go_simp;exact hR _ _ (bK rfl rfl bD rfl)
    case aaD=>go_simp;exact hR _ _ (bK rfl rfl bD rfl)
    case aaE=>
     obtain⟨-,kb⟩:=hf;have e:=kb.cell 7;go_simp;exact hR _ _ (bK rfl rfl bD rfl)
    case aaF|aaG=>go_simp;exact hR _ _ (bK rfl rfl bD rfl)
    case awC=>go_simp;exact hR _ _ (bK rfl rfl bD rfl)
    case awD=>go_simp;(with_reducible refine(vI p 4 _ d KK hf.2 aj aj).mono ?_);rintro e w' ⟨v,rfl,v0,v1,hv,hd',g'⟩;obtain rfl:=hv.out.symm.trans H7.out;exact⟨_,rfl,hR _ _ (PL PW rfl (A_ g' (dU.2 rfl) (fU.get _ _ hx 0 _ rfl).1 (fU.get _ _ hx 0 _ rfl).2) hd')⟩
    case avJ|avK=>go_simp;exact hR _ _ (bK rfl rfl bD rfl)
    case avL=>
     obtain⟨-,kb⟩:=hf;have e:=kb.cell 3;have fz:=kb.frozen 3;go_simp;refine hR _ _ (vH rfl rfl (Touch.set _ (dU.2 rfl) (tY (fU.get _ _ hx 1 _ rfl).1) (by rw[(fU.get _ _ hx 1 _ rfl).2];exact rD _) 3 _) ?_)
     (try simp(decide:=true) only[go_sem])
     exact⟨_,ax aj,kb.set 3 _⟩
    case hcl=>
     refine⟨bH,bH,bH,bH,bH,bH,bH,bH,bH,?aBV,bH,bH,?aBH,?aBI,?aBJ,trivial⟩
     all_goals first
      |exact fun f lo hi v b0 b1 w w' h hs hB hown hU hX=>dQ.closed h CB.rU (fun hl b hq h1 h2=>hB b ⟨h1,fun r hr=>by simp at hr;rcases hr with rfl|rfl<;>simp only<;>first|omega|(have:=O8.resolve_left hl b hq;omega)⟩) (hX 0 _ rfl aF p aA (rD _))
      |exact fun f lo hi v b0 b1 w w' h hs hB hown hU hX=>⟨h.1,dQ.closed h.2 CB.rU (fun hl b hq h1 h2=>hB b ⟨h1,fun r hr=>by simp at hr;rcases hr with rfl|rfl<;>simp only<;>first|omega|(have:=O8.resolve_left hl b hq;omega)⟩) (hown p yQ yQ)⟩
      |exact fun f lo hi v b0 b1 w w' h hs hB hown hU hX=>⟨h.choose,h.choose_spec.1,(hX 1 _ rfl aF b7 aA (rD _)).trans h.choose_spec.2⟩
      |exact fun f lo hi v b0 b1 w w' h hs hB hown hU hX=>⟨h.1,(hown b7 yQ yQ).trans h.2⟩
    exact agk
  ·have him:i=m:=by omega
   subst him;clear hi;obtain⟨K9,hK9⟩: ∃K,iter (IL d.l) i (eU d.l (eU d.l k))=K:=⟨_,rfl⟩;rw[hK9]at hJ;have HK9:=ax hK9;clear hK9;have j0:=hJ.xC.cell 0
   go_wp2_with (first|(go_at_call 25;(with_reducible refine(vI p 4 _ d _ hJ.rU aj aj).mono ?_);rintro e w12 ⟨v12,rfl, -, -,aB6,Q4,g12⟩;(have DN:=hJ.step g12 Q4 aj aj aj;clear j0;have j0:=DN.xC.cell 0)))
   have zw:=hJ.xC.lt;have z12:=g12.size;obtain⟨B0,hB0⟩: ∃B,w12.heap.size=B:=⟨_,rfl⟩;have jl:=DN.xC.lt;obtain⟨ga,rfl,ga1,ga2⟩:=DN.own.open_ aj;have hlen:=DN.len;have XT:=DN.sq;obtain⟨ext,aB7⟩: ∃b,(v12==3)=b:=⟨_,rfl⟩
   go_loopw [71] (fun t wr=> ∃(i2:Nat) (cs:aO) (a2:az) (c2:Nat),i2≤i∧t=ae i2∧cs.length=i2∧Hid (cs=(List.range i2).map fun j=>pI xs ext j i)∧ah wr w3.heap.size 69 #[.slice (some ⟨ga,0,none⟩) i c,.slice a2 i2 c2,ae v3]∧Own wr B0 3 1 a2 i2 c2 (cs.map encI)∧w12.grownBy wr (some w3.heap.size)) (fun t _=>i -(intOf t).toNat)
   case atStart=>exact⟨0,[],none,0,by omega,rfl,rfl,ax rfl,DN.xC,Own.nil _ _ _ _,World.grownBy.refl _ _⟩
   case round=>
    obtain⟨i2,cs,a2,c2,hi2,rfl,hcs,hCS,kj,eu,di⟩:=hrel;obtain⟨wo,rfl⟩: ∃wo:ak,wo=wr:=⟨_,rfl⟩;have szo:=di.size;by_cases hlt2:i2<i
    ·have AB:Row wo (some ⟨ga,0,none⟩) (jI ps):=Row.keep DN.own.row fun b off e hlt=>di.block b hlt fun e'=>by
      injection e with e
      injection e with e
      injection e' with e'
      omega
     obtain⟨p0,p1,p2,p3,p4,p5,p6,p7⟩:=zS AB i2 aj;have j0:=kj.cell 0;have jl2:=kj.lt;have gal:ga<wo.heap.size:=by omega
     go_wp2
     clear p0 p1 p2 p3 p4 p5 p6 p7 j0;obtain⟨C,hC⟩: ∃C:aZ,C= #[ae ps[i2].ring,ae ps[i2].group,ae ps[i2].qy,ae ps[i2].qA,ae ps[i2].mV,ae ps[i2].red,ae ps[i2].walk,ae ps[i2].clear_]:=⟨_,rfl⟩;have HC:=ax hC;have C0:C[0]?=some (ae ps[i2].ring):=by rw[hC];rfl
     have C1:C[1]?=some (ae ps[i2].group):=by rw[hC];rfl
     obtain⟨x0,hx0⟩: ∃x,ps[i2].ring=x:=⟨_,rfl⟩;obtain⟨x1,hx1⟩: ∃x,ps[i2].group=x:=⟨_,rfl⟩;rw[hx0]at C0;rw[hx1]at C1;have DW:=ax C0;have Lu:=ax C1;have HX0:=ax hx0;have OU:=ax hx1;clear C0 C1 hx0 hx1 hC
     go_loopw [79,11] (fun t r wr=> ∃(k2:Nat) (rv:Int),k2≤i∧t=ae k2∧r=ae rv∧Hid (rv=pI xs ext i2 k2)∧Below wo.heap.size wo wr∧ah wr wo.heap.size 71 C) (fun t _ _=>i -(intOf t).toNat)
     case atStart=>exact⟨0,0,by omega,rfl,rfl,ax rfl,bel,by rw[HC.out];exact ah.new _ _ _⟩
     case round=>
      obtain⟨k2,rv,hk2,rfl,rfl,TB,Hw,k10⟩:=hrel;have szr:=Hw.size;have TC:=kj.below Hw jl2;have l10:=k10.lt;by_cases hlt3:k2<i
      ·obtain⟨q0,q1,q2,q3,q4,q5,q6,q7⟩:=zS (AB.below Hw aA) k2 aj;have f0:=(k10.cell 0).trans DW.out;have f1:=(k10.cell 1).trans Lu.out;obtain⟨q,hq⟩:=aI (ps[k2]);have HE:Hid (GG xs ext i2 k2=((i2 !=k2) && ((x0==q.ring)||(x1 !=q.group)||(ext && ((i2:Int)+k2) % 2==1)))):=ax (by
        have h1:=XT.out i2 aj;have h2:=XT.out k2 aj;rw[hq]at h2;unfold GG;rw[←h1.1,←h1.2,←h2.1,←h2.2,HX0.out,OU.out])
       rw[hq]at q0 q1 q2 q3 q4 q5 q6 q7;clear hq;by_cases hik:i2=k2
       ·subst hik
        go_wp2
        go_roundw
        case rel=>exact⟨i2+1,rv,by omega,by go_num,rfl,ax (by rw[UY,TB.out];simp[GG]),bel,k10.alloc _⟩
        case measure=>simp[intOf];omega
       ·have aB8:((i2:Int)==(k2:Int))=false:=by rw[iL];omega
        go_wp2
        all_goals
         refine⟨⟨_,_,_,ae ((k2:Int)+1),⟨k2+1,by omega,by go_num,_,rfl,ax ?_,bel,k10.alloc _⟩,rfl,rfl,rfl,rfl⟩,by simp[intOf];omega⟩;have hne:(i2 !=k2)=true:=by simpa using hik
         have he:=HE.out;rw[hne,Bool.true_and]at he;refine Eq.trans ?_ (congrArg (fun b=>pI xs b i2 (k2+1)) (show ext=_ by first|rfl|assumption|(rw[←Bool.not_eq_true];assumption)));have hy:GG xs ext i2 k2=true→wrap64 (rv+wrap64 (2 ^ k2))=pI xs ext i2 (k2+1):=fun h=>atD h TB.out aj;have hn:GG xs ext i2 k2=false→rv=pI xs ext i2 (k2+1):=fun h=>auU h TB.out;rw[he]at hy hn;clear he HE TB XT k10 TC f0 f1 q0 q1 q2 q3 q4 q5 q6 q7 Hw DW Lu HX0 OU HC
         try simp only[show ext=true by assumption]at hy hn⊢
         try simp only[show ext=false by(rw[←Bool.not_eq_true];assumption)]at hy hn⊢
         simp only[beq_iff_eq,bne_iff_ne,ne_eq,iL,Bool.true_and,Bool.false_and,Bool.or_false,Bool.or_eq_true,Bool.or_eq_false_iff,bne_eq_false_iff_eq,decide_eq_true_eq,decide_eq_false_iff_not,not_true_eq_false,false_and,false_or,true_and]at*
         first|(exact hy aj)|(exact hn aj)
      ·have kj0:=TC.cell 0;have GK:=TC.cell 1;have kjf:=TC.frozen;have o2:=eu.below Hw aA;have hi7:i2≤7:=by omega
       obtain⟨i0,hi0,hz0,hz1,hz2⟩:=info_parts Nr;have z2':=di.size
       go_wp2_with (first|(at_builtin;(refine zL _ rfl _ _ 22 rfl B0 3 i0 _ 1 8 underlying22 hi0 hz0 hz1 hz2 rfl ay a2 i2 c2 (cs.map encI) rfl (some ⟨wr.heap.size,0,none⟩) 1 1 rfl (o2.alloc _) [encI rv] rfl (JZ _ _ _ _) (Bg [rv]) tK aj dm ?_);intro b' cap' w21 ajh g21;(have axG:a2.map (·.block)≠some w3.heap.size:=fun e=>(by have:=o2.dW _ e;omega);have j21:=ah.jT (TC.alloc (.cells #[ae rv] 3)) g21 axG);(clear kj0 GK kjf;have GK:=j21.cell 1;have kjf:=j21.frozen)))
       go_roundw
       case rel=>
        have h:=ajh.far (p:=⟨w3.heap.size,1,none⟩) (fun e=>by have:=ajh.dW _ e;simp only at this;omega) (.slice b' (i2+1) cap');rw[show cs.map encI++ [encI rv]=(cs++ [rv]).map encI by rw[jg];rfl]at h;exact⟨_,_,_,_,_,ae ((i2:Int)+1),⟨i2+1,by omega,by go_num,cs++ [rv],by simp[hcs],ax (by rw[hCS.out,List.range_succ,jg,TB.out,show k2=i by omega];rfl),b',cap',j21.set 1 _,h,(grown_fresh ((di.trans (Below.Io Hw _)).trans (World.grownBy_alloc _ _ _)) g21.1 (fun k hk=>by have:=o2.dW k hk;omega)).trans (grownBy_set _ _ _ _)⟩,rfl,rfl,rfl,rfl,rfl,rfl⟩
       case measure=>first|(simp[intOf];omega)|(trace_state;omega)
    ·obtain rfl:i2=i:=by omega
     obtain⟨gb,rfl,gb1,gb2⟩:=eu.open_ aj;have kj0:=kj.cell 0;have GK:=kj.cell 1;have kj2:=kj.cell 2;have kr:=DN.res.grown di aj;have r0:=kr.cell 0;have r1:=kr.cell 1;have r2:=kr.cell 2;have rf:=kr.frozen;have rl:=kr.lt;have zj2:=kj.lt
     go_wp2
     refine bodyPost_ret (v:= .agg #[.slice (some ⟨ga,0,none⟩) i2 c,.slice (some ⟨gb,0,none⟩) i2 c2,ae v3]) (by simp[results,results28,go_sem,r0,r1,r2]) rfl ?_;have hset:wo.grownBy (((wo.setCell ⟨w.heap.size,0,none⟩ (.slice (some ⟨ga,0,none⟩) i2 c)).setCell ⟨w.heap.size,1,none⟩ (.slice (some ⟨gb,0,none⟩) i2 c2)).setCell ⟨w.heap.size,2,none⟩ (ae v3)) (some w.heap.size):=((grownBy_set _ _ _ _).trans (grownBy_set _ _ _ _)).trans (grownBy_set _ _ _ _);refine⟨_,rfl,⟨ga,c,gb,c2,ps,cs,v3,by rw[HM.out],by rw[HM.out];exact hlen,DN.ok,by rw[HXS.out];exact XT,by rw[HXS.out,HM.out];exact ax ⟨ext,hCS.out⟩,by omega,by omega,?_,?_⟩,?_,?_⟩
     ·rw[HM.out];have h1:Own wo (w3.heap.size+1) 71 8 (some ⟨ga,0,none⟩) i2 c (jI ps):=DN.own.keep fun b e hb hlt=>di.block b hlt fun e'=>by
       injection e' with e'
       injection e with e
       omega
      exact(h1.grown hset aj).mono aj
     ·rw[HM.out];exact(eu.grown hset aj).mono aj
     ·have hdw:dQ wo p d (eU d.l K9):=by
       refine⟨(di.block p Q4.lt CV).trans Q4.1,?_,Q4.2.2⟩;rcases hd.arr with ha|ha
       ·exact .inl (by rw[ha];rfl)
       ·exact Row.keep Q4.2.1 fun b off e hlt=>di.block b hlt fun e'=>by
         injection e' with e'
         have:=ha b tN;omega
      have hR:d.l= []∨∀b,d.a.map (·.block)=some b→b≠w.heap.size:=hd.arr.imp id fun h b hb=>by have:=h b hb;omega
      have:=((hdw.set (o:=0) (g:=w.heap.size) aj hR (.slice (some ⟨ga,0,none⟩) i2 c)).set (o:=1) (g:=w.heap.size) aj hR (.slice (some ⟨gb,0,none⟩) i2 c2)).set (o:=2) (g:=w.heap.size) aj hR (ae v3);unfold aiI;rw[HM.out,HK9.out];exact this
     ·have Lj:w.grownBy w12 (some p):=DN.grown;refine⟨?_,?_,?_,?_,?_⟩
      ·exact hset.os.trans (di.os.trans Lj.os)
      ·exact hset.tape.trans (di.tape.trans Lj.tape)
      ·exact hset.output.trans (di.output.trans Lj.output)
      ·exact dA Lj.size (dA di.size hset.size)
      ·intro b hb hne;rw[hset.block b (by have:=Lj.size;omega) CV,di.block b (by have:=Lj.size;omega) CV];exact Lj.block b hb hne
def aji(n:Int)(ext:Bool):aO:=(List.range (wB n)).map fun i=>pI (ui n) ext i (wB n)
def gX(xs:aO):Nat→Nat
 |0=>0
 |i+1=>gX xs i|||2 ^ (xs.getD (2*i+1) 0).toNat
def akk(n:Int)(ext:Bool):Bool:=
 let l:=aji n ext
 let m:=wB n
 let xs:=ui n
 (l.all fun x=>decide (0≤x) && decide (x<2 ^ m)) && ((List.range m).all fun i=>!(rG (l.getD i 0) i)) && ((List.range m).all fun i=>(List.range m).all fun j=>rG (l.getD i 0) j==rG (l.getD j 0) i) &&
 ((List.range m).all fun i=>(List.range m).all fun j=>!(i !=j && (xs.getD (2*i) 0==xs.getD (2*j) 0||xs.getD (2*i+1) 0 !=xs.getD (2*j+1) 0))||jR l i j) &&
 ((List.range m).all fun i=>decide (xs.getD (2*i) 0≤1)) && (gX xs m==1||gX xs m==3||gX xs m==7)
theorem auW: ∀n:Fin 6,∀ext:Bool,akk (n.val:Int) ext=true:=by decide+kernel
theorem ajj{xs:aO}(h: ∀j (h:j<ps.length),ps[j].ring=xs.getD (2*j) 0∧ps[j].group=xs.getD (2*j+1) 0): ∀i,i≤ps.length→gS ps i=gX xs i
 |0,_=>rfl
 |i+1,hi=>by
  simp only[gS,gX];rw[ajj h i aj,d_ aj];simp only[(h i aj).2]
theorem ase{n:Int}{cs:aO}(h0:0≤n)(h6:n<6)(hm:ps.length=wB n)(hok: ∀p∈ps,mO p)(Ei: ∀j (h:j<ps.length),ps[j].ring=(ui n).getD (2*j) 0∧ps[j].group=(ui n).getD (2*j+1) 0)
  (hcs: ∃ext,cs=(List.range (wB n)).map fun i=>pI (ui n) ext i (wB n)):uJ ps cs:=by
 obtain⟨ext,hcs⟩:=hcs;have hb:=Yr n;have hc:=auW ⟨n.toNat,by omega⟩ ext;simp only[Int.toNat_of_nonneg h0]at hc;have hl:cs.length=wB n:=by rw[hcs];simp
 have hcs':aji n ext=cs:=hcs.symm;unfold akk at hc;simp only[hcs',Bool.and_eq_true,List.all_eq_true,List.mem_range]at hc;obtain⟨⟨⟨⟨⟨c1,c2⟩,c3⟩,c4⟩,c5⟩,c6⟩:=hc;have gd: ∀i (hi:i<cs.length),cs.getD i 0=cs[i]:=fun i hi=>by simp[eG,hi]
 refine⟨hok,fun p hp=>?_,by omega,⟨by omega,fun x hx=>?_,fun i hi=>?_,fun i hi j hj=>?_⟩,?_,fun i hi j hj hij hr=>?_⟩
 ·obtain⟨i,hi,rfl⟩:=List.getElem_of_mem hp;rw[(Ei i hi).1];simpa using c5 i aj
 ·have:=c1 x hx;rw[hl];simpa using this
 ·have:=c2 i aj;rw[gd i hi]at this;simpa using this
 ·have:=c3 i aj j aj;rw[gd i hi,gd j hj]at this;simpa using this
 ·rw[ajj Ei _ aA,hm];simpa [or_assoc]using c6
 ·have:=c4 i aj j aj;rw[←(Ei i hi).1,←(Ei i hi).2,←(Ei j hj).1,←(Ei j hj).2]at this;have h2:(i !=j && (ps[i].ring==ps[j].ring||ps[i].group !=ps[j].group))=true:=by
   simp only[Bool.and_eq_true,bne_iff_ne,ne_eq,Bool.or_eq_true,beq_iff_eq];exact⟨hij,hr⟩
  rw[h2]at this;simpa using this
theorem _root_.Go.World.grownBy.ahy{w3:ak}{p:Nat}{b:az}(h:w.grownBy w2 (some p))(g:Grew w.heap.size w2 w3 b b')(hb: ∀k,b.map (·.block)=some k→w.heap.size≤k):w.grownBy w3 (some p):=
 ⟨g.1.os.trans h.os,g.1.tape.trans h.tape,g.1.output.trans h.output,dA h.size g.1.size,fun k hk hne=>(g.1.block k (jL hk h.size) (fun e=>by have:=hb k e.symm;omega)).trans (h.block k hk hne)⟩
theorem _root_.Go.World.grownBy.agS{p:Nat}(h:w.grownBy w2 (some p))(o:Obj):w.grownBy (w2.alloc o) (some p):=
 ⟨h.os,h.tape,h.output,by have:=h.size;simp;omega,fun k hk hne=>(Below.heap_alloc w2 o k (jL hk h.size)).trans (h.block k hk hne)⟩
theorem _root_.Go.World.grownBy.ZM{p g o:Nat}{v:Value}(h:w.grownBy w2 (some p))(hg:w.heap.size≤g):w.grownBy (w2.setCell ⟨g,o,none⟩ v) (some p):=
 ⟨h.os,h.tape,h.output,by simpa [World.setCell]using h.size,fun k hk hne=>(Below.heap_setCell w2 ⟨g,o,none⟩ v k Zj).trans (h.block k hk hne)⟩
theorem dQ.ajk{W0:ak}{p k0:Nat}{b:az}(h:dQ w p d k)(h0:dQ W0 p d k0)(g:Grew base w w' b b')(hs:W0.heap.size≤w.heap.size)(hb: ∀k,b.map (·.block)=some k→W0.heap.size≤k):dQ w' p d k:=by
 have hp:=h0.lt;exact h.closed h0 (fun _ x _ h1 _=>g.1.block x aj (fun e=>by have:=hb x e.symm;omega)) (g.1.block p aj (fun e=>by have:=hb p e.symm;omega))
def Q5(n:Int)(k:Nat):Int:=bits .xor .u8 (n/2 ^ (8*k) % 256) (29*(k:Int)+7)
def Q7(n:Int)(k:Nat):UInt8:=UInt8.ofNat (Q5 n k).toNat
def BM(n:Int)(k:Nat):aJ:=(List.range k).map (Q7 n)
theorem asf(n:Int)(k:Nat):Q5 n k=((Q7 n k).toNat:Int):=by
 have h: ∃x:Nat,Q5 n k=((x % 256:Nat):Int):=by
  unfold Q5;exact⟨(BitVec.ofInt 8 (n/2 ^ (8*k) % 256) ^^^ BitVec.ofInt 8 (29*(k:Int)+7)).toNat,by
   show IntKind.u8.wrap _=_;have e: ∀x:Int,IntKind.u8.wrap x=x % 256:=fun x=>by simp[IntKind.wrap,IntKind.signed,IntKind.bits]
   rw[e];rfl⟩
 obtain⟨x,hx⟩:=h;unfold Q7;rw[hx];simp;omega
theorem ZN(n:Int)(k:Nat):(BM n k).length=k:=by simp[BM]
theorem asg(n:Int)(k:Nat):BM n (k+1)=BM n k++ [Q7 n k]:=by simp[BM,List.range_succ]
theorem ash(n:Int)(w:ak)(h0:0≤n)(h1:n≤1000000000000):
  aH 14 #[ae n] w fun e w'=> ∃a c,e= .returned (.slice a 8 c)∧Own w' w.heap.size 5 1 a 8 c ((BM n 8).map a_)∧Below w.heap.size w w':=by
 go_enter func14,ntmps14
 go_wp2
 go_loopw [3,5] (fun s i wr=> ∃(k:Nat) (a:az) (c:Nat),k≤8∧i=ae k∧s= .slice a k c∧Own wr w.heap.size 5 1 a k c ((BM n k).map a_)∧Below w.heap.size w wr) (fun _ i _=>8 -(intOf i).toNat)
 case atStart=>exact⟨0,none,0,by omega,rfl,rfl,Own.nil _ _ _ _,Below.refl _ _⟩
 case round=>
  obtain⟨k,a,c,hk,rfl,rfl,own,bel⟩:=hrel;by_cases hlt:k<8
  ·have hz:=bel.size
   go_wp2_with (first|(at_builtin;refine J_ rfl _ _ rfl w.heap.size a k c (BM n k) rfl (Q7 n k) (Q5 n k) rfl own (asf n k) (k+1) rfl aj hz ?_;intro b3 c3 w3 jE vw DX;(have eH:=DX w bel)))
   go_roundw
   case rel=>exact⟨k+1,b3,c3,by omega,by go_num,rfl,by rw[asg];exact jE,eH⟩
   case measure=>simp[intOf];omega
  ·obtain rfl:k=8:=by omega
   go_wp2
   go_ret;exact⟨a,c,rfl,own,bel⟩
theorem an1{P:Program}{id:Nat}{a:Act}{l:List Oper}(s:Nat)(S tl:b_)(fin:List (Nat × b_))(jh:List (List (Nat × b_) × Nat))(hm:P.follows .mixedOrders=true)(hB:V9 .any l.toArray s S tl fin jh=true)
  (D:ak→Prop) (hD:D {w with drawn:=w.drawn+1})
  (h:yX P l.toArray D (fun a' w'=>wpList P l.toArray (fun e a2 w2=>e= .normal∧Q .normal a2 w2) (l.getD s default::dV l tl) a' w') (dV l (fin.map Prod.fst)) (jh.map fun q=>(dV l (q.1.map Prod.fst),l.getD q.2 default)) a w.drew):(Code.region id l.toArray true).wp P Q a w:=by
 simp only[V9,Bool.and_eq_true,decide_eq_true_eq]at hB;obtain⟨⟨⟨⟨⟨hsel,hsz⟩,hS⟩,hlen⟩,hall⟩,hgo⟩:=hB;have hin: ∀i∈tl,i<l.length:=fun i hi=>by have:=List.all_eq_true.1 hall i hi;simpa using this
 have inv0:HeadInv .any l.toArray l.toArray.size (Array.replicate l.toArray.size false):=
  ⟨by simp,fun j oj _ hl=>M_,fun t _ ht=>getD_in Nh (getD_replicate_false _ _)⟩
 refine Code.wp_mono (Q:=fun e a w=>e= .normal∧Q .normal a w) JR ?_;have hO: ¬ LetsOut (fun e a w=>e= .normal∧Q .normal a w):=fun⟨_,_,q⟩=>by cases q.1
 have hQ: ∀c a w,¬ (fun e a w=>e=Exit.normal∧Q .normal a w) (.panic c) a w:=fun c a w hq=>by cases hq.1
 have H:=Us (P:=P) (Q:=fun e a w=>e= .normal∧Q .normal a w) (D:=D) (md:= .any) hO hQ hsel hS hsz tl hin fin jh _ a _ hD inv0 (fun t _=>getD_replicate_false _ _) hgo h;rw[hlen]at H;exact wp_region_any hm (PO _ _ _ _ H)
end Go.Proofs.YtiffpjamngklhaaGreat
