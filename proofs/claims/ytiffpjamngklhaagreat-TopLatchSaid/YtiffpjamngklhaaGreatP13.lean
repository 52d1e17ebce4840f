/- Lemmas, part 13. -/
import Derived.Shelf.RegionOpen
import Derived.OwnWalkIn
import Derived.TacticsInMore
import Derived.LoopNIn
import Derived.LoopIn
import Derived.Deep.DeepCutAuto
import Derived.Outline
import Derived.Test.YtiffpjamngklhaaGreatP06
import Derived.Test.YtiffpjamngklhaaGreatP08
namespace Go.Proofs.YtiffpjamngklhaaGreat
set_option linter.all false
set_option maxRecDepth 100000
set_option maxHeartbeats 16000000
open Go.RowKit Tryz
open Go.Sort hiding Below
variable{w:ak}{i base size N:Nat}{a xb:az}{Q:dR}{e:aK}{xs:aP}{l:aJ}{o:Oper}{ops:Array Oper}{rest:List Oper}{g0:Bool}{ag:Int}
section
theorem ap7(b:Bool):NF (.bool b)=some b:=rfl
attribute [go_sem] ap7
theorem ap8(i v k t:Int)(la:az)(ln lc nb:Nat)(q:Int)(w:ak)(hc:w.cell? ⟨nb,0,none⟩=some (ae q))(hl:nb<w.heap.size):
  aH 257 #[.agg #[ae i,ae v,ae k,ae t,.slice la ln lc],.pointer (some ⟨nb,0,none⟩)] w fun e w'=>e= .returned (.bool (i !=q))∧Below w.heap.size w w':=by
 go_enter func257,ntmps257
 go_wp2
 all_goals
  exact Ul
theorem ap9(i v k t:Int)(la:az)(ln lc nb:Nat)(q:Int)(w:ak)(hc:w.cell? ⟨nb,0,none⟩=some (ae q))(hl:nb<w.heap.size):
  aH 181 #[.agg #[ae i,ae v,ae k,ae t,.slice la ln lc],.pointer (some ⟨nb,0,none⟩)] w fun e w'=>e= .returned (.bool (decide (q≤t)))∧Below w.heap.size w w':=by
 go_enter func181,ntmps181
 go_wp2
 all_goals
  exact Ul
theorem ath(i v k t:Int)(la:az)(ln lc:Nat)(w:ak):
  aH 205 #[.agg #[ae i,ae v,ae k,ae t,.slice la ln lc]] w fun e w'=>e= .returned (.bool true)∧Below w.heap.size w w':=by
 go_enter func205,ntmps205
 go_wp2
 all_goals
  go_ret;exact⟨rfl,bel⟩
theorem arR(j p f t s:Int)(nb:Nat)(q:Int)(w:ak)(hc:w.cell? ⟨nb,0,none⟩=some (ae q))(hl:nb<w.heap.size):
  aH 191 #[aaH j p f t s,.pointer (some ⟨nb,0,none⟩)] w fun e w'=>e= .returned (.bool (j==q))∧Below w.heap.size w w':=by
 go_enter func191,ntmps191
 go_wp2
 all_goals
  exact Ul
def IP(l:List Rk)(p:Rk→Bool)(w:ak)(e:Ending)(w':ak):Prop:=
 ∃(n:Nat) (xa:az) (xc:Nat) (l2:List Rq),e= .returned (.slice xa n xc)∧Hid (l2.map Rq.key=l.filter p)∧Hid (n=l2.length)∧gq w' w.heap.size l2 xa xc∧Below w.heap.size w w'
def Vf(q:Int)(r:Rk):Bool:=r.1 !=q
def NC(q:Int)(r:Rk):Bool:=decide (q≤r.2.2.2.1)
def V8(_:Int)(_:Rk):Bool:=true
structure KW(r:Rq):Prop where
 n:r.dH.length≤10000
 nil:r.a=none→r.c=0
theorem YQ{l:List Rq}(h:i<l.length)(p:Rk→Bool){x:Rq}(hx:l[i]=x):((l.take (i+1)).map Rq.key).filter p=((l.take i).map Rq.key).filter p++(if p x.key then [x.key]else []):=by
 subst hx;rw[←List.take_append_getElem h,jg,List.filter_append];congr 1;simp only[mF,oH,List.filter_cons,List.filter_nil]
theorem afH{P:Prop}(h:P:=by
 obtain⟨v0,v1,v2,v3,v4,vf,Ru⟩:=zB.five;cases bv with
 |false=>
  go_wp2_with fail
  go_roundw
  case rel=>exact⟨i+1,m,xa,xc,l2,rfl,by go_num,by omega,by omega,hm,ax (by rw[HXB.out];simp),LZ,be2⟩
  case measure=>simp[intOf];omega
 |true=>
  go_wp2_with (first|(go_at_call 198;refine(aoN id jG cls ji la lg.length lc lg _ hg2 rfl aj HGN.out).mono ?_;rintro e w3 ⟨ya,yn,yc,rfl,hyn,own,hb3⟩;((have L6:=LZ.below hb3);(have eH:Below w.heap.size w w3:=bel);(have HAP:=ax (show∀r∈l2,Apart r.a ya from fun r hr k ha hb=>by(have h1:=(LZ.dH r hr).lt' k ha);(have h2:=own.dW k hb);omega))))|(at_builtin;refine avf rfl _ _ rfl w.heap.size xa m xc l2 rfl hm.out id jG cls ji lg ya yn yc hyn.out w3.heap.size rfl (ah.new _ _ _) (L6.alloc _) (by have:=hb3.size;simp;omega) ((own.mono aj).alloc _) HAP.out aj ?_;intro xb xd w5 il5 g5 sU))
  have jS:=sU _ (eH.alloc eH.size _);go_roundw
  case rel=>exact⟨i+1,m+1,xb,xd,_,rfl,by go_num,by omega,by omega,ax (by simp[hm.out]),ax (by rw[HXB.out,jg];rfl),il5,jS⟩
  case measure=>simp[intOf];omega):P:=h
theorem YR{P:Prop}(h:P:=by
 obtain rfl:i=l.length:=by omega
 go_wp2_with fail
 go_ret;exact⟨m,xa,xc,l2,rfl,ax (by rw[hk.out,List.take_length]),hm,il,be⟩):P:=h
theorem afI{P:Prop}(h:P:=by
 rw[hbv];have LZ:=il.below hb2;have hg2:=hg.below hb2 aA;have zB:=kV.below hb2 vl;have be2:Below w.heap.size w w2:=bel;have hs2:=be2.size;clear hbv v0 v1 v2 v3 v4 vf cc cl hb2 il hg kc be;exact afH):P:=h
theorem aBz(a:az)(l:List Rq)(n c nb:Nat)(q:Int)(w:ak)(h:sS w a l)(hn:n=l.length)(l9:n≤10000)(hl: ∀r∈l,KW r)(hc:ah w nb 3 #[ae q]):
  aH 180 #[.slice a n c,.func (.func 257) #[] #[.pointer (some ⟨nb,0,none⟩)]] w (IP (l.map Rq.key) (Vf q) w):=by
 subst hn
 go_enter func180,ntmps180
 go_wp2
 go_loopw [5,10] (fun s5 s10 wr=> ∃(i m:Nat) (xa:az) (xc:Nat) (l2:List Rq),s5= .slice xa m xc∧s10=ae i∧i≤l.length∧m≤i∧Hid (m=l2.length)∧Hid (l2.map Rq.key=((l.take i).map Rq.key).filter (Vf q))∧gq wr w.heap.size l2 xa xc∧Below w.heap.size w wr) (fun _ s _=>l.length -(intOf s).toNat)
 case atStart=>exact⟨0,0,none,0,[],rfl,rfl,by omega,by omega,ax rfl,ax rfl,gq.nil _ _,bel⟩
 case round=>
  obtain⟨i,m,xa,xc,l2,rfl,rfl,hi,hmi,hm,hk,il,be⟩:=hrel;by_cases hlt:i<l.length
  ·have kx:(i:Int)<(l.length:Int):=by omega
   obtain⟨ba,oa,rfl⟩:=h.open aj;have hr:=h.below be aA;obtain⟨x0,x1,x2,x3,x4,xb⟩:=J5 hr.row i hlt;have hg:=hr.dH _ (bF hlt);have hgl:=hl _ (bF hlt);obtain⟨x,hx⟩:=aI (l[i]);have HX:=ax (YQ hlt (Vf q) hx);rw[hx]at x0 x1 x2 x3 x4 hg hgl;clear hx hr;obtain⟨id,jG,cls,ji,lg,la,lc⟩:=x;obtain⟨SG,hgn⟩:=hgl;simp only at x0 x1 x2 x3 x4 hg SG hgn;have HGN:=ax hgn;clear hgn;have kc:=hc.below be hc.lt
   go_upto_region 5 with fail
   obtain⟨V,hV⟩:=aI wr.heap.size;refine aW (fun Y=>ah Y V 139 #[ae id,ae jG,ae cls,ae ji,.slice la lg.length lc]∧Row Y la (eQ lg)∧gq Y w.heap.size l2 xa xc∧Below w.heap.size w Y∧ah Y nb 3 #[ae q]) ⟨by rw[←hV];exact ah.new _ _ _,hg.alloc _,il.alloc _,bel,kc.alloc _⟩ ?_;rw[hV];clear hV hg be x0 x1 x2 x3 x4 xb il kc;rintro Y ⟨kV,hg,il,be,kc⟩;obtain⟨v0,v1,v2,v3,v4,vf,vl⟩:=kV.five;have cc:=kc.cell 0;have cl:=kc.lt
   go_upto_if 16 with((go_at_call 257;refine(ap8 id jG cls ji la lg.length lc nb q _ cc cl).mono ?_;rintro e w2 ⟨rfl,hb2⟩))
   obtain⟨bv,hbv⟩: ∃bv:Bool,(id !=q)=bv:=⟨_,rfl⟩;have HXB:Hid (((l.take (i+1)).map Rq.key).filter (Vf q)=l2.map Rq.key++(if bv then [(id,jG,cls,ji,lg)]else [])):=ax Zh;exact afI
  ·exact YR
theorem ap_(a:az)(l:List Rq)(n c nb:Nat)(q:Int)(w:ak)(h:sS w a l)(hn:n=l.length)(l9:n≤10000)(hl: ∀r∈l,KW r)(hc:ah w nb 3 #[ae q]):
  aH 180 #[.slice a n c,.func (.func 181) #[] #[.pointer (some ⟨nb,0,none⟩)]] w (IP (l.map Rq.key) (NC q) w):=by
 subst hn
 go_enter func180,ntmps180
 go_wp2
 go_loopw [5,10] (fun s5 s10 wr=> ∃(i m:Nat) (xa:az) (xc:Nat) (l2:List Rq),s5= .slice xa m xc∧s10=ae i∧i≤l.length∧m≤i∧Hid (m=l2.length)∧Hid (l2.map Rq.key=((l.take i).map Rq.key).filter (NC q))∧gq wr w.heap.size l2 xa xc∧Below w.heap.size w wr) (fun _ s _=>l.length -(intOf s).toNat)
 case atStart=>exact⟨0,0,none,0,[],rfl,rfl,by omega,by omega,ax rfl,ax rfl,gq.nil _ _,bel⟩
 case round=>
  obtain⟨i,m,xa,xc,l2,rfl,rfl,hi,hmi,hm,hk,il,be⟩:=hrel;by_cases hlt:i<l.length
  ·have kx:(i:Int)<(l.length:Int):=by omega
   obtain⟨ba,oa,rfl⟩:=h.open aj;have hr:=h.below be aA;obtain⟨x0,x1,x2,x3,x4,xb⟩:=J5 hr.row i hlt;have hg:=hr.dH _ (bF hlt);have hgl:=hl _ (bF hlt);obtain⟨x,hx⟩:=aI (l[i]);have HX:=ax (YQ hlt (NC q) hx);rw[hx]at x0 x1 x2 x3 x4 hg hgl;clear hx hr;obtain⟨id,jG,cls,ji,lg,la,lc⟩:=x;obtain⟨SG,hgn⟩:=hgl;simp only at x0 x1 x2 x3 x4 hg SG hgn;have HGN:=ax hgn;clear hgn;have kc:=hc.below be hc.lt
   go_upto_region 5 with fail
   obtain⟨V,hV⟩:=aI wr.heap.size;refine aW (fun Y=>ah Y V 139 #[ae id,ae jG,ae cls,ae ji,.slice la lg.length lc]∧Row Y la (eQ lg)∧gq Y w.heap.size l2 xa xc∧Below w.heap.size w Y∧ah Y nb 3 #[ae q]) ⟨by rw[←hV];exact ah.new _ _ _,hg.alloc _,il.alloc _,bel,kc.alloc _⟩ ?_;rw[hV];clear hV hg be x0 x1 x2 x3 x4 xb il kc;rintro Y ⟨kV,hg,il,be,kc⟩;obtain⟨v0,v1,v2,v3,v4,vf,vl⟩:=kV.five;have cc:=kc.cell 0;have cl:=kc.lt
   go_upto_if 16 with((go_at_call 181;refine(ap9 id jG cls ji la lg.length lc nb q _ cc cl).mono ?_;rintro e w2 ⟨rfl,hb2⟩))
   obtain⟨bv,hbv⟩: ∃bv:Bool,(decide (q≤ji))=bv:=⟨_,rfl⟩;have HXB:Hid (((l.take (i+1)).map Rq.key).filter (NC q)=l2.map Rq.key++(if bv then [(id,jG,cls,ji,lg)]else [])):=ax Zh;exact afI
  ·exact YR
theorem ati(a:az)(l:List Rq)(n c:Nat)(w:ak)(h:sS w a l)(hn:n=l.length)(l9:n≤10000)(hl: ∀r∈l,KW r):
  aH 180 #[.slice a n c,.func (.func 205) #[] #[]] w (IP (l.map Rq.key) (V8 0) w):=by
 subst hn
 go_enter func180,ntmps180
 go_wp2
 go_loopw [5,10] (fun s5 s10 wr=> ∃(i m:Nat) (xa:az) (xc:Nat) (l2:List Rq),s5= .slice xa m xc∧s10=ae i∧i≤l.length∧m≤i∧Hid (m=l2.length)∧Hid (l2.map Rq.key=((l.take i).map Rq.key).filter (V8 0))∧gq wr w.heap.size l2 xa xc∧Below w.heap.size w wr) (fun _ s _=>l.length -(intOf s).toNat)
 case atStart=>exact⟨0,0,none,0,[],rfl,rfl,by omega,by omega,ax rfl,ax rfl,gq.nil _ _,bel⟩
 case round=>
  obtain⟨i,m,xa,xc,l2,rfl,rfl,hi,hmi,hm,hk,il,be⟩:=hrel;by_cases hlt:i<l.length
  ·have kx:(i:Int)<(l.length:Int):=by omega
   obtain⟨ba,oa,rfl⟩:=h.open aj;have hr:=h.below be aA;obtain⟨x0,x1,x2,x3,x4,xb⟩:=J5 hr.row i hlt;have hg:=hr.dH _ (bF hlt);have hgl:=hl _ (bF hlt);obtain⟨x,hx⟩:=aI (l[i]);have HX:=ax (YQ hlt (V8 0) hx);rw[hx]at x0 x1 x2 x3 x4 hg hgl;clear hx hr;obtain⟨id,jG,cls,ji,lg,la,lc⟩:=x;obtain⟨SG,hgn⟩:=hgl;simp only at x0 x1 x2 x3 x4 hg SG hgn;have HGN:=ax hgn;clear hgn
   skip
   go_upto_region 5 with fail
   obtain⟨V,hV⟩:=aI wr.heap.size;refine aW (fun Y=>ah Y V 139 #[ae id,ae jG,ae cls,ae ji,.slice la lg.length lc]∧Row Y la (eQ lg)∧gq Y w.heap.size l2 xa xc∧Below w.heap.size w Y) ⟨by rw[←hV];exact ah.new _ _ _,hg.alloc _,il.alloc _,bel⟩ ?_;rw[hV];clear hV hg be x0 x1 x2 x3 x4 xb il;rintro Y ⟨kV,hg,il,be⟩;obtain⟨v0,v1,v2,v3,v4,vf,vl⟩:=kV.five
   skip
   skip
   go_upto_if 16 with((go_at_call 205;refine(ath id jG cls ji la lg.length lc _).mono ?_;rintro e w2 ⟨rfl,hb2⟩))
   obtain⟨bv,hbv⟩: ∃bv:Bool,true=bv:=⟨_,rfl⟩;have HXB:Hid (((l.take (i+1)).map Rq.key).filter (V8 0)=l2.map Rq.key++(if bv then [(id,jG,cls,ji,lg)]else [])):=ax Zh;rw[hbv];have LZ:=il.below hb2;have hg2:=hg.below hb2 aA;have zB:=kV.below hb2 vl;have be2:Below w.heap.size w w2:=bel;have hs2:=be2.size;clear hbv v0 v1 v2 v3 v4 vf hb2 il hg be;exact afH
  ·exact YR
end
def axf(n:Nat)(P:Nat→Prop)(w:ak)(e:Ending)(w':ak):Prop:=
 ∃r:Int,e= .returned (ae r)∧Hid ((r= -1∧∀k,k<n→¬ P k)∨∃i:Nat,i<n∧r=i∧P i∧∀k,k<i→¬ P k)∧Below w.heap.size w w'
theorem aoO(a:az)(l:List Lg)(n c nb:Nat)(q:Int)(w:ak)(h:Row w a (eQ l))(hn:n=l.length)(l9:n≤10000)(hc:ah w nb 3 #[ae q]):
  aH 190 #[.slice a n c,.func (.func 191) #[] #[.pointer (some ⟨nb,0,none⟩)]] w (axf l.length (fun i=> ∃h:i<l.length,l[i].ju=q) w):=by
 subst hn
 go_enter func190,ntmps190
 go_wp2
 go_loopw [8] (fun s8 wr=> ∃i:Nat,s8=ae i∧i≤l.length∧Hid (∀k,k<i→¬∃h:k<l.length,l[k].ju=q)∧Below w.heap.size w wr) (fun s _=>l.length -(intOf s).toNat)
 case atStart=>exact⟨0,rfl,by omega,ax fun k h=>by omega,bel⟩
 case round=>
  obtain⟨i,rfl,hi,ho,be⟩:=hrel;by_cases hlt:i<l.length
  ·have kx:(i:Int)<(l.length:Int):=by omega
   obtain⟨ba,oa,rfl⟩:=h.Z8 aj;obtain⟨x0,x1,x2,x3,x4,xb⟩:=J4 (h.below be aA) i hlt;obtain⟨x,hx⟩:=aI (l[i]);rw[hx]at x0 x1 x2 x3 x4;have HX:=ax hx;clear hx;obtain⟨ju,ph,fr,fB,si⟩:=x;simp only at x0 x1 x2 x3 x4;have kc:=hc.below be hc.lt;have cc:=kc.cell 0;have cl:=kc.lt
   go_upto_if 16 with((go_at_call 191;refine(arR ju ph fr fB si nb q _ cc cl).mono ?_;rintro e w2 ⟨rfl,hb2⟩))
   by_cases hq:ju=q
   ·subst hq
    go_wp2_with fail
    go_ret;exact⟨i,rfl,ax (.inr ⟨i,hlt,rfl,⟨hlt,by rw[HX.out]⟩,ho.out⟩),bel⟩
   ·have zq:(ju==q)=false:=by rw[iL];exact hq
    have HQ:=ax hq;clear hq
    go_wp2_with fail
    go_roundw
    case rel=>exact⟨i+1,by go_num,by omega,ax fun k hk=>by
     by_cases e:k=i
     ·subst e;rintro⟨h1,h2⟩;rw[HX.out]at h2;exact HQ.out h2
     ·exact ho.out k aj,bel⟩
    case measure=>simp[intOf];omega
  ·obtain rfl:i=l.length:=by omega
   go_wp2_with fail
   go_ret;exact⟨-1,rfl,ax (.inl ⟨rfl,ho.out⟩),be⟩
theorem IP.mono{l:List Rk}{p:Rk→Bool}{w1 w':ak}{e:Ending}(h:IP l p w1 e w')(hb:Below w.heap.size w w1):IP l p w e w':=by
 obtain⟨n,xa,xc,l2,h1,h2,h3,h4,h5⟩:=h;exact⟨n,xa,xc,l2,h1,h2,h3,h4.mono hb.size,hb.trans (h5.mono hb.size)⟩
theorem aoh(a:az)(l:List Rq)(n c:Nat)(q:Int)(w:ak)(h:sS w a l)(hn:n=l.length)(l9:n≤10000)(hl: ∀r∈l,KW r):
  aH 160 #[.slice a n c,ae q] w (IP (l.map Rq.key) (NC q) w):=by
 have HN:=ax hn;clear hn
 go_enter func160,ntmps160
 go_wp2_with (go_at_call 180;refine(ap_ a l n c w.heap.size q _ (h.alloc _) HN.out l9 hl (ah.new _ _ _)).mono ?_;rintro e w2 ⟨m,xa,xc,l2,rfl,hk,hm,il,hb2⟩)
 go_ret;exact IP.mono ⟨m,xa,xc,l2,rfl,hk,hm,il,hb2⟩ bel
theorem anD(a:az)(l:List Rq)(n c:Nat)(w:ak)(h:sS w a l)(hn:n=l.length)(l9:n≤10000)(hl: ∀r∈l,KW r):
  aH 183 #[.slice a n c] w (av7 l n w):=by
 have HN:=ax hn;clear hn;have K:Hid (∀W,sS W a l→aH 180 #[.slice a n c,.func (.func 205) #[] #[]] W fun e w'=> ∃(xa:az) (xc:Nat) (l2:List Rq),e= .returned (.slice xa n xc)∧Hid (l2.map Rq.key=l.map Rq.key)∧Hid (n=l2.length)∧gq w' W.heap.size l2 xa xc∧Below W.heap.size W w'):=ax fun W h=>by
  refine(ati a l n c W h HN.out l9 hl).mono ?_;rintro e w' ⟨m,xa,xc,l2,rfl,hk,hm,il,hb⟩;have hk2:l2.map Rq.key=l.map Rq.key:=by rw[hk.out];exact List.filter_eq_self.2 fun _ _=>rfl
  have hm2:m=n:=by
   have:=congrArg List.length hk2;simp at this;rw[hm.out,this,HN.out]
  subst hm2;exact⟨xa,xc,l2,rfl,ax hk2,hm,il,hb⟩
 go_enter func183,ntmps183
 go_wp2_with (go_at_call 180;refine(K.out _ h).mono ?_;rintro e w2 ⟨xa,xc,l2,rfl,hk,hm,il,hb2⟩)
 go_ret;exact⟨xa,xc,l2,rfl,hk,hm,il,hb2⟩
theorem aqY:(prog.info? 297).map (fun i=>(i.zero,i.size,i.bytes))=some (some (.agg #[ae 0,ae 0,ae 0,ae 0,ae 0]),5,40):=by kernel_rfl
theorem avw{a:Act}(hgd:o.guard=none)(s x:Operand)(ho:o.op= .call {callee:= .builtin .append,args:= #[s,x],argTypes:= #[250,250]})
  (B:Nat) (xa:az) (n xc:Nat) (l:List Lg) (hs:a.eval s= .slice xa n xc) (hn:n=l.length) (j p f t s5:Int) (X:Nat) (hx:a.eval x= .slice (some ⟨X,0,none⟩) 1 1) (hX:ah w X 297 #[ae j,ae p,ae f,ae t,ae s5])
  (own:Own w B 297 5 xa n xc (eQ l)) (hB:B≤w.heap.size) (hbig:n≤1000000)
  (h: ∀xb xd w',Own w' B 297 5 xb (n+1) xd (eQ (l++ [⟨j,p,f,t,s5⟩]))→Grew B w w' xa xb→(∀W,Below B W w→Below B W w')→wpList prog ops Q rest (a.put o.dst (.slice xb (n+1) xd)) w'):wpList prog ops Q (o::rest) a w:=by
 obtain⟨i0,hi,hz0,hz1,hz2⟩:=info_parts aqY;have hr:Row w (some ⟨X,0,none⟩) (Lg.cells ⟨j,p,f,t,s5⟩):= .inr ⟨X,0,rfl,hX.lt,fun i hi=>by
  rw[dX,hX.cell];have:i=0∨i=1∨i=2∨i=3∨i=4:=by simp[Lg.cells]at hi;omega
  rcases this with rfl|rfl|rfl|rfl|rfl<;>rfl⟩
 refine zL _ hgd s x _ ho B _ i0 _ 5 40 underlying250 hi hz0 hz1 hz2 rfl ay xa n xc _ hs (some ⟨X,0,none⟩) 1 1 hx own (Lg.cells ⟨j,p,f,t,s5⟩) rfl hr (by simp[Lg.cells,Value.oneCell']) tK aj hB ?_;intro xb xd w' own' gr;exact h xb xd w' (by rw[aeo];simpa [eQ]using own') gr (Grew.step own gr)
def I9(ag j:Int)(r:Rk):List Lg:=
 match r.2.2.2.2.find? fun g=>decide (g.ju=j)with
 |none=> []
 |some g=>if g.si= -1 then []else [⟨ag,r.1,g.ph,r.2.2.1,g.si⟩]
def FK(ag j:Int)(l:List Rk):List Lg:=l.flatMap (I9 ag j)
theorem auH{j:Int}{r:Rk}{lg:List Lg}(e:r.2.2.2.2=lg)(h: ∀k,k<lg.length→¬∃h:k<lg.length,lg[k].ju=j):I9 ag j r= []:=by
 unfold I9;rw[e,List.find?_eq_none.2];intro x hx;obtain⟨k,hk,rfl⟩:=List.mem_iff_getElem.1 hx;have:=h k hk;simpa using fun e=>this ⟨hk,e⟩
theorem auI{lg:List Lg}{j:Int}{k:Nat}(hP: ∃h:k<lg.length,lg[k].ju=j)(ho: ∀i,i<k→¬∃h:i<lg.length,lg[i].ju=j): ∃h:k<lg.length,(lg.find? fun g=>decide (g.ju=j))=some lg[k]:=by
 obtain⟨h,e⟩:=hP;refine⟨h,?_⟩;rw[List.find?_eq_some_iff_getElem];refine⟨by simpa using e,k,h,rfl,fun i hi=>?_⟩;have:=ho i hi;simpa using fun e=>this ⟨by omega,e⟩
theorem atj{j:Int}{l:List Rq}(h:i<l.length):FK ag j ((l.take (i+1)).map Rq.key)=FK ag j ((l.take i).map Rq.key)++I9 ag j l[i].key:=by
 rw[←List.take_append_getElem h,jg];simp[FK]
def ClR(k:List Lg)(w:ak)(e:Ending)(w':ak):Prop:=
 ∃(xa:az) (n xc:Nat),e= .returned (.slice xa n xc)∧Hid (n=k.length)∧Own w' w.heap.size 297 5 xa n xc (eQ k)∧Below w.heap.size w w'
theorem afJ{P:Prop}(h:P:=by
 go_wp2_with fail
 go_roundw
 case rel=>exact⟨i+1,m,ca,cc,rfl,by go_num,by omega,by omega,ax (by rw[HX.out,Au.out,iK];exact hmk.out),by rw[HX.out,Au.out,iK];exact eu,RJ⟩
 case measure=>simp[intOf];omega):P:=h
theorem aoi(a:az)(l:List Rq)(n c:Nat)(ag j:Int)(w:ak)(h:sS w a l)(hn:n=l.length)(l9:n≤1000)(hl: ∀r∈l,r.dH.length≤10000):
  aH 167 #[.slice a n c,ae ag,ae j] w (ClR (FK ag j (l.map Rq.key)) w):=by
 subst hn
 go_enter func167,ntmps167
 go_upto_region 2 with fail
 obtain⟨V,hV⟩:=aI w.heap.size;refine aW (fun Y=>ah Y V 3 #[ae j]∧sS Y a l∧Below V w Y∧V≤Y.heap.size) ⟨by rw[←hV];exact ah.new _ _ _,h.alloc _,by rw[←hV];exact bel,by rw[←hV];simp⟩ ?_;rw[hV];clear h;rintro Y ⟨kV,h,be,hY⟩
 go_wp2_with fail
 go_loopw [7,14] (fun s7 s14 wr=> ∃(i m:Nat) (ca:az) (cc:Nat),s7= .slice ca m cc∧s14=ae i∧i≤l.length∧m≤i∧Hid (m=(FK ag j ((l.take i).map Rq.key)).length)∧Own wr Y.heap.size 297 5 ca m cc (eQ (FK ag j ((l.take i).map Rq.key)))∧Below Y.heap.size Y wr) (fun _ s _=>l.length -(intOf s).toNat)
 case atStart=>exact⟨0,0,none,0,rfl,rfl,by omega,by omega,ax rfl,Own.nil _ _ _ _,bel⟩
 case round=>
  obtain⟨i,m,ca,cc,rfl,rfl,hi,hm,hmk,own,bw⟩:=hrel;by_cases hlt:i<l.length
  ·obtain⟨ba,oa,rfl⟩:=h.open aj;have hr:=h.below bw aA;obtain⟨x0,x1,x2,x3,x4,xb⟩:=J5 hr.row i hlt;have hg:=hr.dH _ (bF hlt);have hgl:=hl _ (bF hlt);have HX:=ax (atj (ag:=ag) (j:=j) hlt);obtain⟨x,hx⟩:=aI (l[i]);rw[hx]at x0 x1 x2 x3 x4 hg hgl HX;clear hx hr;obtain⟨id,jG,cls,ji,lg,la,lc⟩:=x;simp only at x0 x1 x2 x3 x4 hg hgl;have kx:(i:Int)<(l.length:Int):=by omega
   have kVr:=kV.below bw kV.lt;have hbw:=bw.size;obtain⟨kl,hkl⟩:=aI (FK ag j ((l.take i).map Rq.key));rw[hkl]at HX own hmk;clear hkl
   go_upto_region 5 with fail
   obtain⟨X,hX⟩:=aI wr.heap.size;refine aW (fun Z=>ah Z X 139 #[ae id,ae jG,ae cls,ae ji,.slice la lg.length lc]∧Row Z la (eQ lg)∧Own Z Y.heap.size 297 5 ca m cc (eQ kl)∧ah Z V 3 #[ae j]∧Below Y.heap.size Y Z) ⟨by rw[←hX];exact ah.new _ _ _,hg.alloc _,own.alloc _,kVr.alloc _,bel⟩ ?_;have hYX:Y.heap.size≤X:=by omega
   rw[hX];clear hX hbw x0 x1 x2 x3 x4 xb hg own kVr bw;rintro Z ⟨kX,hg,own,zB,bz⟩;obtain⟨v0,v1,v2,v3,v4,vf,vl⟩:=kX.five
   go_upto_region 6 with((go_at_call 190;refine(aoO la lg lg.length lc V j _ hg rfl aj zB).mono ?_;rintro e w2 ⟨r,rfl,hr,hb2⟩;((have um:=kX.below hb2 vl);clear v0 v1 v2 v3 v4 vf vl;(obtain⟨v0,v1,v2,v3,v4,vf,vl⟩:=um.five))))
   have eu:=own.below hb2 aA;have hg2:=hg.below hb2 aA;have RJ:Below Y.heap.size Y w2:=bel;have hs2:=RJ.size;clear hb2 bz hg own zB kX;rcases hr.out with⟨rfl,hno⟩|⟨k,hk,rfl,hP,ho⟩
   ·have Au:=ax (auH (ag:=ag) (r:=Rq.key ⟨id,jG,cls,ji,lg,la,lc⟩) rfl hno);clear hno;exact afJ
   ·obtain⟨hk',hf⟩:=auI hP ho;have HF:=ax hf;clear hf hP ho;obtain⟨lb,lo',rfl⟩:=hg2.Z8 aj;obtain⟨y0,y1,y2,y3,y4,yl⟩:=J4 hg2 k hk';obtain⟨z,hz⟩:=aI (lg[k]);rw[hz]at y0 y1 y2 y3 y4 HF;clear hz;obtain⟨ju,ph,fr,fB,si⟩:=z;simp only at y0 y1 y2 y3 y4;have kz: ¬ ((k:Int)<0):=by omega
    have kl2:(k:Int)<(lg.length:Int):=by omega
    by_cases hs:si= -1
    ·subst hs;have Au:Hid (I9 ag j (Rq.key ⟨id,jG,cls,ji,lg,some ⟨lb,lo',none⟩,lc⟩)= []):=ax (by unfold I9;rw[show(Rq.key ⟨id,jG,cls,ji,lg,some ⟨lb,lo',none⟩,lc⟩).2.2.2.2=lg from rfl,HF.out];rfl);exact afJ
    ·have Au:Hid (I9 ag j (Rq.key ⟨id,jG,cls,ji,lg,some ⟨lb,lo',none⟩,lc⟩)= [⟨ag,id,ph,cls,si⟩]):=ax (by unfold I9;rw[show(Rq.key ⟨id,jG,cls,ji,lg,some ⟨lb,lo',none⟩,lc⟩).2.2.2.2=lg from rfl,HF.out];simp only;rw[if_neg hs];rfl);have zs:(si== -1)=false:=by rw[iL];exact hs
     go_upto_region 8 with fail
     obtain⟨L,hL⟩:=aI w2.heap.size;refine aW (fun U=>ah U L 187 #[ae ju,ae ph,ae fr,ae fB,ae si]∧ah U X 139 #[ae id,ae jG,ae cls,ae ji,.slice (some ⟨lb,lo',none⟩) lg.length lc]∧Own U Y.heap.size 297 5 ca m cc (eQ kl)∧Below Y.heap.size Y U) ⟨by rw[←hL];exact ah.new _ _ _,um.alloc _,eu.alloc _,bel⟩ ?_;rw[hL];clear hL eu RJ um v0 v1 v2 v3 v4 vf vl y0 y1 y2 y3 y4 yl hg2 hs2;rintro U ⟨kL,kX,own,bu⟩;obtain⟨v0,v1,v2,v3,v4,vf,vl⟩:=kX.five;obtain⟨u0,u1,u2,u3,u4,uf,ul⟩:=kL.five;have hsu:=bu.size
     go_wp2_with ((at_builtin;refine avw rfl _ _ rfl Y.heap.size ca m cc kl rfl hmk.out ag id ph cls si U.heap.size rfl (ah.new _ _ _) (own.alloc _) cu aj ?_;intro xb xd w7 sJ g7 GM))
     go_roundw
     case rel=>exact⟨i+1,m+1,xb,xd,rfl,by go_num,by omega,by omega,ax (by rw[HX.out,Au.out,dP,←hmk.out];rfl),by rw[HX.out,Au.out];exact sJ,GM _ bel⟩
     case measure=>simp[intOf];omega
  ·obtain rfl:i=l.length:=by omega
   go_wp2_with fail
   go_ret;rw[List.take_length]at hmk own;rw[←hV]at be hY;exact⟨ca,m,cc,rfl,hmk,own.mono hY,bel⟩
section
open Go.RowKit Go.Sort Go.Shelf
attribute [local go_sem] Oper.semAt_some
theorem aio{rc rk:Int}{rp:aJ}{rn:Nat}{ro:Bool}(h:Hid (iC l=⟨rc,rk,rp,rn,ro⟩))(a:az)(n c:Nat)(w:ak)(hb:bI w a l)(hn:n=l.length)(hl:l.length≤9223372036854775807)(hc:l.length≤c):
  aH 152 #[.slice a n c] w fun e w'=> ∃a' c',e= .returned (.tuple #[.agg #[ae rc,ae rk,.slice a' rp.length c'],ae rn,.bool ro])∧Own w' w.heap.size 5 1 a' rp.length c' (rp.map a_)∧Below w.heap.size w w':=by
 subst hn;have:=aqh a l c w hb hl hc;rw[h.out]at this;exact this
structure jd where
 it:It
 size:Nat
def jd.pr(x:jd):PR:=⟨x.it.code,x.it.kind,x.it.pay,x.size,true⟩
def jd.vals(x:jd):aZ:= #[.agg #[ae x.it.code,ae x.it.kind,.slice x.it.a x.it.pay.length x.it.c],ae (x.size:Int)]
def tZ(l:List jd):Nat:=(l.map jd.size).sum
theorem Ih(l:List jd)(x:jd):tZ (l++ [x])=tZ l+x.size:=by simp[tZ]
def NH(l:aJ)(pre:List jd)(x:jd):Prop:=iC (l.drop (tZ pre))=x.pr∧tZ pre+x.size≤l.length∧1≤x.size
inductive Chain(l:aJ):List jd→Prop
 |nil:Chain l []
 |snoc {pre:List jd} {x:jd}:Chain l pre→NH l pre x→Chain l (pre++ [x])
theorem Chain.le{pre:List jd}(h:Chain l pre):tZ pre≤l.length:=by
 cases h with
 |nil=>simp[tZ]
 |snoc _ hx=>rw[Ih];exact hx.2.1
def aws(l:aJ)(pre:List jd)(x:jd)(W:ak):Prop:=Chain l pre∧NH l pre x∧Own W 0 5 1 x.it.a x.it.pay.length x.it.c (x.it.pay.map a_)
def sliceLen:Value→Nat
 |.slice _ n _=>n
 |_=>0
theorem add_block(x:Addr)(n:Nat):(x.add n).block=x.block:=by unfold Addr.add;split<;>rfl
theorem ZK{pa:az}{p:aJ}{pc T:Nat}(hb:bI w pa p)(hc:p.length≤pc)(hT:T≤p.length)(hnil:pa=none→p.length=0∧pc=0):bI w (if pc=T then pa else Option.map (fun x=>x.add T) pa) (p.drop T)∧((if pc=T then pa else Option.map (fun x=>x.add T) pa)=none→p.length -T=0∧pc -T=0):=by
 by_cases h:pc=T
 ·rw[if_pos h];exact⟨by rw[List.drop_eq_nil_of_le aj];exact bI.nil _ _,fun _=>by omega⟩
 ·rw[if_neg h];cases pa with
  |none=>have:=hnil rfl;omega
  |some ad=>
   refine⟨?_,fun h=>by simp at h⟩;rcases hb.open with rfl|⟨b,off,e,_,_⟩
   ·simp;exact bI.nil _ _
   ·injection e with e
    subst e;have:=hb.drop T;have hadd:(⟨b,off,none⟩:Addr).add T=⟨b,off+T,none⟩:=by unfold Addr.add;split<;>simp_all
    simpa [hadd]using this
theorem agO(n:Nat)(hn:1≤n)(a:az)(l:aJ)(c Bn n₀:Nat)(w:ak)(hB:Bn<w.heap.size)(hc:w.cell? ⟨Bn,0,none⟩=some (.slice a l.length c))(hb:bI w a l)(hcap:l.length≤c)(hl:l.length≤9223372036854775807)
  (hn₀:n₀≤w.heap.size) (ha:l≠ []→∀k,a.map (·.block)=some k→k<n₀):
  QP Fence.wide n prog 151 #[.pointer (some ⟨Bn,0,none⟩)] jd.vals (aws l) (Below n₀) (fun xs=>Chain l xs∧(iC (l.drop (tZ xs))).ok=false) (fun pre=>Chain l pre) w:=fun L J Jx W hW hJ hJx hY h0=>by
 refine callsIn_of_wp func151 rfl trivial ?_ rfl;simp only[ntmps151,List.size_toArray,jJ,List.length_nil,Nat.reduceAdd,Nat.reduceSub,Array.replicate_succ,Array.replicate_zero,List.push_toArray,List.append_toArray,List.nil_append,List.cons_append];have cB:W.cell? ⟨Bn,0,none⟩=some (.slice a l.length c):=(hW.cell (p:=⟨Bn,0,none⟩) hB).trans hc;have hbW:bI W a l:=hb.below hW aA
 gi_wp2
 gi_loopw [3] (fun s wr=> ∃(pre:List jd) (r:aJ) (ra:az) (rc:Nat),s= .slice ra r.length rc∧r.length≤rc∧Chain l pre∧r=l.drop (tZ pre)∧(r≠ []→∀k,ra.map (·.block)=some k→k<n₀)∧bI wr ra r∧J pre wr∧W.heap.size≤wr.heap.size) (fun s _=>sliceLen s)
 case atStart=>exact⟨[],l,a,c,rfl,hcap,.nil,rfl,ha,hbW,h0,Nat.le_refl _⟩
 case round=>
  obtain⟨pre,r,ra,rc,rfl,hrc,hch,hr,hra,hbr,hJ0,hWs⟩:=hrel;obtain⟨q,hq⟩:=aI (iC r);obtain⟨qc,qk,qp,qn,qo⟩:=q;have HQ:=ax hq;have HR:=ax hr;have hrl:r.length≤9223372036854775807:=by rw[hr,pW];omega
  clear hq hr;cases qo with
  |false=>
   gi_wp2_with (refine⟨trivial,?_⟩;gi_at_call 152;refine(callsIn_wide.2 (aio HQ ra _ rc _ hbr rfl hrl hrc)).mono ?_;rintro e w2 ⟨a2,c2,rfl,b2,hb2⟩)
   refine⟨fun _ h=>(by cases h),?_⟩
   gi_wp2
   refine bodyPost_ret (results_none rfl _ _ _) rfl ?_;refine⟨⟨_,rfl⟩,.inl ⟨pre,⟨hch,by rw[←HR.out,HQ.out]⟩,?_⟩⟩;exact hJ _ _ _ none hJ0 (((hb2.mono aA).alloc hb2.size _).Io none) PZ
  |true=>
   have hsz:=afQ (l:=r) (by rw[HQ.out]);rw[HQ.out]at hsz;simp only at hsz;have HX: ∀a2 c2,NH l pre ⟨⟨qc,qk,qp,a2,c2⟩,qn⟩:=fun a2 c2=>⟨by rw[←HR.out,HQ.out];rfl,by have:=hch.le;have e:=congrArg List.length HR.out;rw[pW]at e;simp only;omega,hsz.1⟩;obtain⟨rb,hrb⟩: ∃rb,(if rc=qn then ra else Option.map (fun x=>x.add qn) ra)=rb:=⟨_,rfl⟩;have HJ:=ax hJ0;clear hJ0
   gi_wp2_with (refine⟨trivial,?_⟩;gi_at_call 152;refine(callsIn_wide.2 (aio HQ ra _ rc _ hbr rfl hrl hrc)).mono ?_;rintro e w2 ⟨a2,c2,rfl,b2,hb2⟩;(obtain⟨fn,tmps,assign,body,hy,hR⟩:=hY pre ⟨⟨qc,qk,qp,a2,c2⟩,qn⟩ (w2.alloc (.cells #[ae qc,ae qk,.slice a2 qp.length c2] 128)) (hJ _ _ _ none HJ.out ((hb2.alloc hb2.size _).Io none) PZ) ⟨hch,HX a2 c2,(b2.alloc _).mono (Nat.zero_le _)⟩);(dsimp only[jd.vals]at hy))
   refine hR.mono ?_;have abh:r≠ []:=fun e=>by subst e;simp at hsz;omega
   have hnil:ra=none→r.length=0∧rc=0:=fun h=>by subst h;have:=Row.of_none _ hbr;simp at this;subst this;simp at hsz;omega
   rintro e W3 (⟨rfl,hJ3,hk3⟩|⟨rfl,hJx3⟩)
   ·have hb3:bI W3 ra r:=hbr.keep fun b off e hlt=>by
     have e0:ra.map (·.block)=some b:=by rw[e];rfl
     exact(hk3.block b (hra abh b e0)).trans ((Below.heap_alloc w2 _ b (jL hlt hb2.size)).trans (hb2.block b hlt))
    have hrest:=ZK hb3 hrc hsz.2 hnil;rw[hrb]at hrest;have s3:=hk3.size;simp at s3;have s2:=hb2.size;have q0:(0:Int)≤(qn:Int):=by omega
    have q1:(qn:Int)≤(r.length:Int):=by omega
    have HRB:=ax hrb;have hld:(r.drop qn).length=r.length -qn:=pW
    gi_wp2
    go_roundw
    case rel=>exact⟨pre++ [⟨⟨qc,qk,qp,a2,c2⟩,qn⟩],r.drop qn,rb,rc -qn,by rw[hld],by omega,hch.snoc (HX a2 c2),by rw[Ih,HR.out,List.drop_drop],fun _ k hk=>by
     rw[←HRB.out]at hk
     split at hk
     ·exact hra abh k hk
     ·cases abj:ra with
      |none=>rw[abj]at hk;simp at hk
      |some ad=>rw[abj]at hk;exact hra abh k (by rw[abj];simpa [add_block]using hk),hrest.1,hJ3,by omega⟩
    case measure=>simp[sliceLen];omega
   ·gi_wp2
    refine bodyPost_ret (results_none rfl _ _ _) rfl ?_;exact⟨⟨_,rfl⟩,.inr ⟨_,hch.snoc (HX a2 c2),hJx3⟩⟩
end
section
open Go.RowKit Go.Sort Go.Shelf
attribute [local go_sem] Oper.semAt_some
theorem aeB(a:az)(n c:Nat)(w:ak):aH 116 #[.slice a n c] w fun e w'=>e= .returned (.func (.func 151) #[] #[.pointer (some ⟨w.heap.size,0,none⟩)])∧w'=w.alloc (.cells #[.slice a n c] 30):=by
 go_enter func116,ntmps116
 go_wp2
 go_ret;exact⟨rfl,rfl⟩
theorem avD(k:Int)(w:ak):aH 80 #[ae k] w fun e w'=>e= .returned (.bool false)∧w'=w:=by
 go_enter func80,ntmps80
 go_wp2
 go_ret;exact⟨rfl,rfl⟩
theorem aam(lim:Nat)(k:Int)(nb:Nat){b:Bool}(hb:Hid (decide ((lim:Int)≤k)=b))(w:ak)(hc:w.cell? ⟨nb,0,none⟩=some (ae (lim:Int))):aH 135 #[ae k,.pointer (some ⟨nb,0,none⟩)] w fun e w'=>e= .returned (.bool b)∧w'=w:=by
 go_enter func135,ntmps135
 go_wp2
 go_ret;exact⟨uH hb.out,rfl⟩
theorem Zz:(prog.info? 128).map (fun i=>(i.zero,i.size,i.bytes))=some (some (.agg #[ae 0,ae 0,.slice none 0 0]),3,40):=by kernel_rfl
theorem Pm{F:Fence}{P:Program}{a:Act}(hgd:o.guard=none)(s x:Operand)(t:aK)
  (ho:o.op= .call {callee:= .builtin .append,args:= #[s,x],argTypes:= #[t,t]})
  (base:Nat) (e:aK) (i:TypeInfo) (z:Value) (size bytes:Nat) (ht:P.underlying t=some (.slice e)) (hi:P.info? e=some i) (hz:i.zero=some z)
  (hsize:i.size=size) (hby:i.bytes=bytes) (hzs:z.cells.size=size) (hsz:0<size)
  (b:az) (n cap:Nat) (xs:aP) (hs:a.eval s= .slice b n cap) (A:az) (m c:Nat) (hx:a.eval x= .slice A m c)
  (hown:Own w base e size b n cap xs) (news:aP) (hl:news.length=m*size) (hr:Row w A news) (h1: ∀u∈news,u.oneCell'=true)
  (h63:n+m≤maxLen) (hbytes:(n+m)*bytes≤140737488355328) (hbase:base≤w.heap.size)
  (h: ∀b' cap' w',Own w' base e size b' (n+m) cap' (xs++news)→Grew base w w' b b'→wpListIn F N P ops Q rest (a.put o.dst (.slice b' (n+m) cap')) w'):wpListIn F N P ops Q (o::rest) a w:=by
 refine wpListIn_plain hgd fun K hK=>?_;obtain⟨b',cap',w',hrun,h2,h3⟩:=aen (P:=P) w base t o.type e i z size bytes ht hi hz hsize hby hzs hsz b n cap xs hown A m c news hl hr h1 h63 hbytes hbase;unfold Oper.wpIn;refine⟨?_,?_⟩
 ·simp[Oper.about,ho,resolve,Target.leads,Sem.run_pure]
 ·rw[Oper.semAt_plain F _ _ (by rw[ho];intro c hc';cases hc')];simp[execOp,ho,resolve,invoke,builtin,hs,hx,hrun,Result.andThen];exact hK _ _ (h b' cap' w' h2 h3)
section
variable{W W':ak}{row:Option Nat}
theorem Own.apart{b1 b2:Nat}{t:aK}{s1 s2 n1 n2 c1 c2:Nat}{b:az}{ys:aP}(h:Own W b1 e s1 a n1 c1 xs)(k:Own W b2 t s2 b n2 c2 ys)(hne:e≠t):Apart a b:=by
 intro q ha hb;rcases h.2 with⟨hv,_⟩|⟨g',c,cur,hv,_,hgc,_⟩
 ·injection hv with hv;rw[hv]at ha;simp at ha
 ·injection hv with hv
  rw[hv]at ha;simp at ha;subst ha;rcases k.2 with⟨hv2,_⟩|⟨g2,c',cur',hv2,_,axt,_⟩
  ·injection hv2 with hv2;rw[hv2]at hb;simp at hb
  ·injection hv2 with hv2
   rw[hv2]at hb;simp at hb;subst hb;rw[axt]at hgc;injection hgc with hgc
   injection hgc with _ hgc
   exact hne hgc.symm
end
def iY(g0:Bool)(pre:List jd):TS:=pre.foldl (fun st x=>t_ st x.pr) ⟨0,g0,[]⟩
theorem PQ(g0:Bool)(pre:List jd)(x:jd):iY g0 (pre++ [x])=t_ (iY g0 pre) x.pr:=by simp[iY]
theorem Ux(g0:Bool)(pre:List jd):(iY g0 pre).used=tZ pre:=by
 suffices h: ∀st:TS,(pre.foldl (fun st x=>t_ st x.pr) st).used=st.used+tZ pre by
  have:=h ⟨0,g0,[]⟩;unfold iY;rw[this];simp
 induction pre with
 |nil=>intro st;simp[tZ]
 |cons x l ih=>intro st;rw[List.foldl_cons,ih,Zb];simp[tZ,jd.pr];omega
structure xu(w:ak)(a:az)(n c:Nat)(g0:Bool)(fv:Value)(U G B:Nat)(u:Nat)(g:Bool)(its:List It)(xa:az)(xc:Nat)(W:ak):Prop where
 kS:ah W w.heap.size 105 #[.slice a n c,.bool g0]
 kF:ah W (w.heap.size+1) 175 #[fv]
 kR:ah W (w.heap.size+1+1) 105 #[.slice none 0 0,.bool false]
 kI:ah W (w.heap.size+1+1+1) 125 #[.slice xa its.length xc]
 kU:ah W U 3 #[ae (u:Int)]
 kG:ah W G 4 #[.bool g]
 own:Own W B 128 3 xa its.length xc (oz its)
 pays: ∀x∈its,Own W 0 5 1 x.a x.pay.length x.c (x.pay.map a_)
 bel:Below w.heap.size w W
 sz:B≤W.heap.size
structure SS(w:ak)(U G B:Nat):Prop where
 ug:U≠G
 u:w.heap.size+4≤U
 g:w.heap.size+4≤G
 ub:U<B
 gb:G<B
section
variable{w:ak}{a:az}{n c:Nat}{g0:Bool}{fv:Value}{U G B:Nat}{u:Nat}{g:Bool}{its:List It}{xa:az}{xc:Nat}{W W':ak}
theorem xu.turn{row:Option Nat}(h:xu w a n c g0 fv U G B u g its xa xc W)
  (hg:W.grownBy W' row) (hr: ∀r,row=some r→w.heap.size≤r∧∃o:Obj,W.heap[r]?=some o∧o.isCells=false):xu w a n c g0 fv U G B u g its xa xc W':=
 have hr2: ∀r,row=some r→∃o:Obj,W.heap[r]?=some o∧o.isCells=false:=fun r e=>(hr r e).2
 ⟨h.kS.turn hg hr2,h.kF.turn hg hr2,h.kR.turn hg hr2,h.kI.turn hg hr2,h.kU.turn hg hr2,h.kG.turn hg hr2,h.own.turn hg hr2,fun x hx=>(h.pays x hx).turn hg hr2,h.bel.grown hg h.bel.size (fun k hk=>(hr k hk).1),dA h.sz hg.size⟩
theorem xu.QW(h:xu w a n c g0 fv U G B u g its xa xc W)(k:SS w U G B)(v:Nat){z:Int}(hz:z=v):xu w a n c g0 fv U G B v g its xa xc (W.setCell ⟨U,0,none⟩ (ae z)):=by
 subst hz;have k1:=k.u;have k2:=k.ug;have k3:=k.ub;exact⟨h.kS.far dD _,h.kF.far dD _,h.kR.far dD _,h.kI.far dD _,h.kU.set 0 _,h.kG.far dD _,h.own.far ag4 _,fun x hx=>(h.pays x hx).far ((h.pays x hx).pU h.kU ay) _,h.bel.setCell dD _,by simpa [World.setCell]using h.sz⟩
theorem xu.Wi(h:xu w a n c g0 fv U G B u g its xa xc W)(k:SS w U G B)(v:Bool):xu w a n c g0 fv U G B u v its xa xc (W.setCell ⟨G,0,none⟩ (.bool v)):=by
 have k1:=k.g;have k2:=k.ug;have k3:=k.gb;exact⟨h.kS.far dD _,h.kF.far dD _,h.kR.far dD _,h.kI.far dD _,h.kU.far dD _,h.kG.set 0 _,h.own.far ag4 _,fun x hx=>(h.pays x hx).far ((h.pays x hx).pU h.kG ay) _,h.bel.setCell dD _,by simpa [World.setCell]using h.sz⟩
theorem xu.alloc(h:xu w a n c g0 fv U G B u g its xa xc W)(o:Obj):xu w a n c g0 fv U G B u g its xa xc (W.alloc o):=
 ⟨h.kS.alloc o,h.kF.alloc o,h.kR.alloc o,h.kI.alloc o,h.kU.alloc o,h.kG.alloc o,h.own.alloc o,fun x hx=>(h.pays x hx).alloc o,h.bel.alloc h.bel.size o,by have:=h.sz;simp;omega⟩
theorem xu.push(h:xu w a n c g0 fv U G B u g its xa xc W)(k:SS w U G B){x:It}{xd:Nat}(hN:N=its.length+1)(own:Own W' B 128 3 xb N xd (oz its++x.cells))(gr:Grew B W W' xa xb)(hp:Own W 0 5 1 x.a x.pay.length x.c (x.pay.map a_)):
  xu w a n c g0 fv U G B u g (its++ [x]) xb xd (W'.setCell ⟨w.heap.size+1+1+1,0,none⟩ (.slice xb N xd)):=by
 subst hN;have k1:=k.u;have k2:=k.g;have k3:=k.ub;have k4:=k.gb;have hl:(its++ [x]).length=its.length+1:=by simp
 have ob:=h.own.dW;have ne: ∀q,q<B→xa.map (·.block)≠some q:=fun q hq e=>by have:=ob q e;omega
 have pw: ∀y∈its++ [x],Own W 0 5 1 y.a y.pay.length y.c (y.pay.map a_):=fun y hy=>by
  rcases lW.1 hy with hy|hy
  ·exact h.pays y hy
  ·rw[dU.1 hy];exact hp
 have ib:=own.dW;have kI':=h.kI.jT gr (ne _ aj);refine⟨(h.kS.jT gr (ne _ aj)).far dD _,(h.kF.jT gr (ne _ aj)).far dD _,(h.kR.jT gr (ne _ aj)).far dD _,by rw[hl];exact kI'.set 0 _,(h.kU.jT gr (ne _ aj)).far dD _,(h.kG.jT gr (ne _ aj)).far dD _,?_,fun y hy=>?_,?_,by have:=h.sz;have:=gr.1.size;simp[World.setCell];omega⟩
 ·rw[hl,aok];exact own.far (fun e=>by have:=ib _ e;simp only at this;omega) _
 ·have hy':=(pw y hy).grew gr (h.own.apart (pw y hy) ay);exact hy'.far (hy'.pU kI' ay) _
 ·exact(h.bel.grown gr.1 h.bel.size (fun q hq=>by have:=ob q hq;omega)).setCell dD _
theorem MW{n cap:Nat}(own:Own W base e size xa n cap xs)(gr:Grew base W W' xa xb):KeepsOthers W W':=
 ⟨gr.1.size,fun q o hq ho=>(gr.1.block q (lX.1 hq).1 (fun e=>by
  rcases own.2 with⟨hv,_⟩|⟨g',c',cur,hv,_,hgc,_⟩
  ·injection hv with hv;rw[hv]at e;simp at e
  ·injection hv with hv
   rw[hv]at e;simp at e;subst e;rw[hgc]at hq;cases hq;cases ho)).trans hq⟩
end
def SV(w:ak)(a:az)(l:aJ)(c:Nat)(g0:Bool)(fv:Value)(U G B:Nat)(ok:TS→Prop)(pre:List jd)(W:ak):Prop:=
 (ok (iY g0 pre)∧Chain l pre)∧∃its xa xc,xu w a l.length c g0 fv U G B (tZ pre) (iY g0 pre).qP its xa xc W∧its.map It.key=(iY g0 pre).keys
theorem Vm{c:Nat}{fv:Value}{U G B B':Nat}{ok:TS→Prop}(hB:w.heap.size≤B'):OwnFrom B' (SV w a l c g0 fv U G B ok):=by
 rintro pre W W' row ⟨ho,its,xa,xc,h,hk⟩ hg hr;exact⟨ho,its,xa,xc,h.turn hg (fun r e=>⟨dA hB (hr r e).1,(hr r e).2⟩),hk⟩
def VN(lim:Nat)(l:aJ)(g0:Bool)(w:ak)(e:Ending)(w':ak):Prop:=
 ∃(st:TS) (its:List It) (xa:az) (xc:Nat) (ra:az) (rc:Nat),Hid (pJ lim l ⟨0,g0,[]⟩=st)∧e= .returned (.tuple #[.agg #[.slice ra (l.length -st.used) rc,.bool st.qP],.slice xa its.length xc])∧its.map It.key=st.keys∧
  Own w' w.heap.size 128 3 xa its.length xc (oz its)∧(∀x∈its,Own w' 0 5 1 x.a x.pay.length x.c (x.pay.map a_))∧Own w' w.heap.size 5 1 ra (l.length -st.used) rc ((l.drop st.used).map a_)∧Below w.heap.size w w'
theorem Own.VO{n cap:Nat}(h:Own w base e size a n cap xs){q:Nat}(hq:q<base):a.map (·.block)≠some q:=fun e=>by have:=h.dW q e;omega
theorem aeN{pre:List jd}(h:Chain l pre):(iY g0 pre).keys.length≤tZ pre:=by
 induction h with
 |nil=>simp[iY]
 |snoc hc hx ih=>
  rw[PQ,Ih];have:=hx.2.2;rcases Zc (iY g0 _) (jd.pr _)with e|e<;>rw[e]
  ·omega
  ·rw[dP];simp;omega
theorem aip{pre:List jd}{x:jd}{lim:Nat}(hx:NH l pre x)(hl:(iY g0 pre).keys.length<lim):pJ lim l (iY g0 pre)=pJ lim l (iY g0 (pre++ [x])):=by
 have e:iC (l.drop (iY g0 pre).used)=x.pr:=by rw[Ux];exact hx.1
 rw[Vl ⟨hl,by rw[e];rfl⟩,e,PQ]
theorem auR{pre:List jd}{x:jd}(h2:x.it.code=2)(hg:(iY g0 pre).qP=true):(iY g0 (pre++ [x])).qP=true∧(iY g0 (pre++ [x])).keys=(iY g0 pre).keys:=by
 rw[PQ];unfold t_ jd.pr;simp[h2,hg]
theorem ahx{pre:List jd}{x:jd}(h2:x.it.code=2)(hg:(iY g0 pre).qP=false):(iY g0 (pre++ [x])).qP=true∧(iY g0 (pre++ [x])).keys=(iY g0 pre).keys++ [x.it.key]:=by
 rw[PQ];unfold t_ jd.pr;simp[h2,hg,PR.key,It.key]
theorem U6{pre:List jd}{x:jd}{b:Bool}(h2:x.it.code≠2)(hb:decide (x.it.code=7∨x.it.code=4)=b):(iY g0 (pre++ [x])).qP=b∧(iY g0 (pre++ [x])).keys=(iY g0 pre).keys++ [x.it.key]:=by
 rw[PQ];unfold t_ jd.pr;simp only[if_neg h2,PR.key,It.key];exact⟨hb,trivial⟩
theorem afX{P:Prop}(h:P:=by
 have OV:=ax (show decide ((lim:Int)≤(its.length:Int)+1)=false from fA aj)
 gi_wp2_with (first|(gi_at_builtin;refine Pm rfl _ _ _ rfl (wc.heap.size+1) 128 i0 _ 3 40 underlying125 hi hz0 hz1 hz2 rfl ay xa its.length xc _ rfl (some ⟨W.heap.size,0,none⟩) 1 1 rfl (lJ.own.alloc _) [ae q1,ae q2,.slice q4 q3.length q5] rfl hrow hone hmx hby hsz2 ?_;intro xb xd w6 jK jq;(have D_:=fun q (hq:q<wc.heap.size+1)=>lJ.own.VO hq);(have yK:=(lJ.kI.alloc _).jT jq (D_ _ aj));(have L9:=(lJ.kF.alloc _).jT jq (D_ _ aj));(have v0:=yK.cell 0);(have v1:=yK.frozen 0);(have v2:=L9.cell 0);(have v3:=yK.lt);(have FO:=(lJ.alloc (.cells #[ae q1,ae q2,.slice q4 q3.length q5] 128)).push hN (x:=⟨q1,q2,q3,q4,q5⟩) rfl jK jq (K_.alloc _)))|(refine⟨trivial,?_⟩;gi_at_call 80;refine(CallsIn.inRound L (callsIn_wide.2 (avD _ _))).mono ?_;rintro e w' ⟨rfl,rfl⟩))
 exact⟨by simpa using L_ jq,SX jq,⟨⟨jQ.out.trans OW.out,by rw[su.out];exact hlm⟩,OX.out.snoc Fj.out⟩,_,xb,xd,by rw[Ih,HS.out,FN.out.1];exact FO,by rw[FN.out.2,jg,HK.out];rfl⟩):P:=h
theorem afY{P:Prop}(h:P:=by
 have:=JZ ((W.setCell ⟨U,0,none⟩ (ae ((S:Int)+(q6:Int)))).setCell ⟨G,0,none⟩ (.bool true)) #[ae q1,ae q2,.slice q4 q3.length q5] 128 (0,0);simpa [World.setCell]using this):P:=h
theorem Uu{P:Prop}(h:P:=by
 have:=lJ.sz;simp only[World.size_alloc];omega):P:=h
theorem afZ{P:Prop}(h:P:=by
 have DL:=hov.far (p:=⟨U,0,none⟩) (hov.pU tk.kU ay) (ae ((S:Int)+(q6:Int)));have xe:=tk.QW hN (S+q6) (z:=(S:Int)+(q6:Int)) aj;have K_:=DL.far (p:=⟨G,0,none⟩) (DL.pU xe.kG ay) (.bool true);have lJ:=xe.Wi hN true;have hrow:Row (((W.setCell ⟨U,0,none⟩ (ae ((S:Int)+(q6:Int)))).setCell ⟨G,0,none⟩ (.bool true)).alloc (.cells #[ae q1,ae q2,.slice q4 q3.length q5] 128)) (some ⟨W.heap.size,0,none⟩) [ae q1,ae q2,.slice q4 q3.length q5]:=by
  exact afY
 have hsz2:wc.heap.size+1≤(((W.setCell ⟨U,0,none⟩ (ae ((S:Int)+(q6:Int)))).setCell ⟨G,0,none⟩ (.bool true)).alloc (.cells #[ae q1,ae q2,.slice q4 q3.length q5] 128)).heap.size:=by
  exact Uu
 have Mc:Below w.heap.size W (((W.setCell ⟨U,0,none⟩ (ae ((S:Int)+(q6:Int)))).setCell ⟨G,0,none⟩ (.bool true)).alloc (.cells #[ae q1,ae q2,.slice q4 q3.length q5] 128)):=(((Below.refl _ W).setCell dD _).setCell dD _).alloc UG _;have SX:=fun {xb:az} {xd:Nat} {w6:ak} (jq:Grew (wc.heap.size+1) (((W.setCell ⟨U,0,none⟩ (ae ((S:Int)+(q6:Int)))).setCell ⟨G,0,none⟩ (.bool true)).alloc (.cells #[ae q1,ae q2,.slice q4 q3.length q5] 128)) w6 xa xb)=>(Mc.grown jq.1 Uz UA).setCell (p:=⟨w.heap.size+1+1+1,0,none⟩) dD (.slice xb (its.length+1) xd);have L_:=fun {xb:az} {xd:Nat} {w6:ak} (jq:Grew (wc.heap.size+1) (((W.setCell ⟨U,0,none⟩ (ae ((S:Int)+(q6:Int)))).setCell ⟨G,0,none⟩ (.bool true)).alloc (.cells #[ae q1,ae q2,.slice q4 q3.length q5] 128)) w6 xa xb)=>((((KeepsOthers.setCell W ⟨U,0,none⟩ (ae ((S:Int)+(q6:Int)))).trans (KeepsOthers.setCell _ ⟨G,0,none⟩ (.bool true))).trans ((KeepsOthers.alloc _ (.cells #[ae q1,ae q2,.slice q4 q3.length q5] 128)).trans ((MW (lJ.own.alloc _) jq).trans (KeepsOthers.setCell _ ⟨w.heap.size+1+1+1,0,none⟩ (.slice xb (its.length+1) xd)))))).from (wc.heap.size+1)
 have hkl:(iY g0 (pre++ [⟨⟨q1,q2,q3,q4,q5⟩,q6⟩])).keys.length=its.length+1:=by rw[FN.out.2,←HK.out];simp
 have su:=ax hkl;clear hkl;by_cases hlm:its.length+1<lim
 ·exact afX
 ·exact absurd hlm aj):P:=h
theorem af0{P:Prop}(h:P:=by
 have hne:l≠ []:=fun e=>hne (by rw[e];simp);rw[←hrb]at hk'
 split at hk'
 ·exact ha hne k hk'
 ·cases ha':a with
  |none=>rw[ha']at hk';simp at hk'
  |some ad=>rw[ha']at hk';exact ha hne k (by rw[ha'];simpa [add_block]using hk')):P:=h
theorem YV{P:Prop}(h:P:=by
 obtain⟨a',c',h1,h2⟩:=h;exact⟨a',c',h1,(hX 0 _ rfl aF _ aA (rD _)).trans h2⟩):P:=h
theorem YW{P:Prop}(h:P:=by
 obtain⟨a',c',h1,own,lt⟩:=h;exact⟨a',c',h1,own.keep fun b hb hl _=>hown b hl (lt b Nj),lt⟩):P:=h
theorem YX{P:Prop}(h:P:=by
 obtain⟨⟨rfl,rfl⟩,kb⟩:=h;exact⟨⟨rfl,rfl⟩,(hown _ aA (rD _)).trans kb⟩):P:=h
theorem YY{P:Prop}(h:P:=by
 rw[h4]at h4';injection h4' with e1 _ e2
 exact⟨e1,e2⟩):P:=h
theorem af1{P:Prop}(h:P:=by
 rintro D pre W hD ⟨hch,hpn⟩ ⟨⟨⟨hok, -⟩, -⟩,its,xa,xc,tk,hk⟩ hK;have hst:pJ lim l ⟨0,g0,[]⟩=iY g0 pre:=hok.trans (F9 (fun h=>by have:=h.2;rw[Ux,hpn]at this;cases this));obtain⟨S,hS⟩:=aI (tZ pre);obtain⟨bg,hbg⟩:=aI ((iY g0 pre).qP);have hle:=hch.le;have hus:=Ux g0 pre;rw[hS]at hle hus;rw[hS,hbg]at tk;have HST:=ax hst;have SY:=ax hus;have JB:=ax hbg;have HKK:=ax hk;have HD:=ax hK;have hbW:=hb.below tk.bel aA;have hnil:a=none→l.length=0∧c=0:=hnil0;have hrest:=ZK hbW hcap hle hnil;obtain⟨rb,hrb⟩: ∃rb,(if c=S then a else Option.map (fun x=>x.add S) a)=rb:=⟨_,rfl⟩;rw[hrb]at hrest;have rbb:l.drop S≠ []→∀k,rb.map (·.block)=some k→k<w.heap.size:=fun hne k hk'=>by
  exact af0
 have hld:(l.drop S).length=l.length -S:=pW;have S9:=ax hld;have q0:(0:Int)≤(S:Int):=by omega
 have q1:(S:Int)≤(l.length:Int):=by omega
 have nu:=hN.u;have ng:=hN.g;clear hS hbg hst hus hk hld hok hK
 go_wp2
 apply uG [((w.heap.size+1+1),(w.heap.size+1+1+1))] 10 45 [some 37,some 38,some 39,some 40,some 41,some 42,some 43,some 44,none,some 5] [⟨[10],[],[],[]⟩,⟨[0,10],[0],[0],[]⟩,⟨[10],[],[],[]⟩,⟨[0,1,2,10],[1,2],[1,2],[]⟩,⟨[0,1,2,3,10],[3],[3],[]⟩,⟨[10],[],[],[]⟩,⟨[0,1,2,3,4,5,10],[4,5],[4,5],[]⟩,⟨[10],[],[],[]⟩,⟨[0,1,2,3,4,5,6,10],[4,6,10],[4,6,10],[10]⟩,⟨[0,1,2,3,4,5,6,7,8,10],[7],[7],[]⟩,⟨[],[],[],[]⟩] [0,1,2,3,4,5,6,7,8,9] [4,8,7,9] [bC,bC,bC,bC,(fun f lo hi v b0 b1 W=> ∃a' c',v= .slice a' (l.length -S) c'∧Own W b0 5 1 a' (l.length -S) c' ((l.drop S).map a_)∧∀x,a'.map (·.block)=some x→x<b1),bC,(fun f lo hi v b0 b1 W=>v= .agg #[f 4,.bool bg]),bC,(fun f lo hi v b0 b1 W=> ∃a' c',f 4= .slice a' (l.length -S) c'∧ah W (w.heap.size+1+1) 105 #[.slice a' (l.length -S) c',.bool bg]),bC,(fun f lo hi v b0 b1 W=>(b0=(w.heap.size+1+1)∧b1=(w.heap.size+1+1+1))∧ah W (w.heap.size+1+1) 105 #[.slice none 0 0,.bool false])] [bG _,bG _,bG _,bG _,dM,bG _,dM,bG _,dM,bG _]
 ·kernel_rfl
 ·kernel_rfl
 ·rfl
 ·rfl
 rotate_left 2
 refine⟨?pX,?pY,?p_,?qh,?qi,?qj,?qm,?rF,?vN,?xW,trivial⟩
 all_goals try(intro f lo hi w hb hx hf hk hrg R hR;(try replace hb:=fH.zero hb);(try simp(decide:=true) only[go_sem]at hf hk))
 case hx=>exact⟨⟨by omega,by have:=tk.kR.lt;omega⟩,by simp,trivial⟩
 case hX=>exact⟨fun _ _ _ _=>⟨⟨rfl,rfl⟩,tk.kR⟩,trivial⟩
 case pX=>go_simp;exact hR _ _ (bK rfl rfl bD rfl)
 case pY=>
  have e:=(hb.blk tk.kS dm).cell 0;go_simp;exact hR _ _ (bK rfl rfl bD rfl)
 case p_=>
  have e:=(hb.blk tk.kU dm).cell 0;go_simp;exact hR _ _ (bK rfl rfl bD rfl)
 case qh=>go_simp;exact hR _ _ (bK rfl rfl bD rfl)
 case qi=>
  go_simp;have bw:bI w rb (l.drop S):=by
   by_cases hne:l.drop S= []
   ·rw[hne];exact bI.nil _ _
   ·exact hb.row (show Row _ _ _ from hrest.1) Ze
  refine(Ez rb (l.length -S) (c -S) (l.drop S) _ bw S9.out.symm (by have:=S9.out;omega) hrest.2).mono ?_;rintro e w' ⟨a',c',rfl,own',hb'⟩;exact⟨_,rfl,hR _ _ (iU rfl hb' ⟨a',c',rfl,own',own'.lt'⟩)⟩
 case qj=>
  have e:=(hb.blk tk.kG dm).cell 0;go_simp;exact hR _ _ (bK rfl rfl bD rfl)
 case qm=>
  obtain⟨a',c',h4, -⟩:=hf;go_simp;refine hR _ _ (iU rfl bD ?_)
  (try simp(decide:=true) only[go_sem])
  rw[h4]
 case rF=>
  have e:=(hb.blk tk.kI dm).cell 0;go_simp;exact hR _ _ (bK rfl rfl bD rfl)
 case vN=>
  obtain⟨⟨a',c',h4,own4,lt4⟩,h6, -,kb⟩:=hf;rw[h4]at h6;have e0:=kb.cell 0;have e1:=kb.cell 1;have fz:=kb.frozen;have p1:lo 10=_:=(fU.get _ _ hx 0 _ rfl).1;have p2:hi 10=_:=(fU.get _ _ hx 0 _ rfl).2;go_simp;refine hR _ _ (vH rfl rfl ((Touch.set w (dU.2 rfl) (tY p1) Eu 0 _).trans (Touch.set _ (dU.2 rfl) (tY p1) Eu 1 _)) ?_)
  (try simp(decide:=true) only[go_sem])
  exact⟨a',c',h4,(kb.set 0 _).set 1 _⟩
 case xW=>go_simp;exact hR _ _ (bK rfl rfl bD rfl)
 case hcl=>
  refine⟨bH,bH,bH,bH,?awl,bH,?VJ,bH,?NL,bH,?Vz,trivial⟩
  all_goals first
   |exact fun f lo hi v b0 b1 w w' h hs hB hown hU hX=>by
     exact YW
   |exact fun f lo hi v b0 b1 w w' h hs hB hown hU hX=>by
     exact YV
   |exact fun f lo hi v b0 b1 w w' h hs hB hown hU hX=>by
     exact YX
   |exact fun _ _ _ _ _ _ _ _ h _ _ _ _ _=>h
 intro f lo hi W7 hbr hx hf hk hrg;(try replace hbr:=fH.zero hbr);clear hx;(try simp(decide:=true) only[go_sem]at hf hk);obtain⟨⟨a',c',h4,own4, -⟩,a2,c2,h4',k8⟩:=hf;obtain⟨rfl,rfl⟩:a'=a2∧c'=c2:=by
  exact YY
 have hr4:=hrg.out 4 aF;have hrg4:W.heap.size≤lo 4:=hr4.1;have bs:=tk.bel.size;have hDl:D<W.heap.size:=(lX.1 HD.out).1;simp only[World.size_alloc]at hD;have hout: ∀q,q<W.heap.size→q≠w.heap.size+1+1→W7.heap[q]?=W.heap[q]?:=fun q h1 h2=>hbr.2.2.2.2 q ⟨h1,fun r hr=>by simp at hr;subst hr;simp only;omega⟩;have hD7:W7.heap[D]?=some (.deferred (some [])):=(hout D hDl aj).trans HD.out;have La:Below w.heap.size w W7:=⟨hbr.1.trans tk.bel.os,hbr.2.1.trans tk.bel.tape,hbr.2.2.1.trans tk.bel.output,dA bs hbr.2.2.2.1,fun q hq=>(hout q aj aj).trans (tk.bel.block q hq)⟩;have sJ:=tk.own.keep (w':=W7) fun q _ h1 h2=>hout q h2 aj;have aaP: ∀x∈its,Own W7 0 5 1 x.a x.pay.length x.c (x.pay.map a_):=fun x hx=>(tk.pays x hx).keep fun q hq h1 h2=>hout q h2 (fun e=>(tk.pays x hx).pU tk.kR ay (by rw[hq,←e];rfl));have hput:=grownBy_putObj' W7 D (.deferred none);have hrow: ∀r,some D=some r→∃o:Obj,W7.heap[r]?=some o∧o.isCells=false:=fun r e=>by cases e;exact⟨_,hD7,rfl⟩
 have k9:=k8.turn hput hrow;have y0:=k9.cell 0;have y1:=k9.cell 1;clear hout hrg hbr h4' hr4;go_simp;clear hk h4
 go_wp2
 rw[Exit.noGoto_ret];refine⟨by simp,.inl ⟨_,_,rfl,run_takeDeferred hD7,?_⟩⟩;refine⟨.tuple #[.agg #[.slice a' (l.length -S) c',.bool bg],.slice xa its.length xc],by simp[results,results79,go_sem,y0,y1],?_⟩;refine⟨iY g0 pre,its,xa,xc,a',c',HST,by rw[SY.out,JB.out],HKK.out,(sJ.turn hput hrow).mono aj,fun x hx=>(aaP x hx).turn hput hrow,by rw[SY.out];exact(own4.turn hput hrow).mono (by have:=hrg4;omega),La.grown hput (by have:=La.size;omega) (fun r e=>by cases e;omega)⟩):P:=h
theorem af2{P:Prop}(h:P:=by
 rintro D cd pre W hD -⟨rfl,⟨hst,hch⟩,its,xa,xc,tk,hk⟩ hK;obtain⟨S,hS⟩:=aI (tZ pre);obtain⟨bg,hbg⟩:=aI ((iY g0 pre).qP);have hle:=hch.le;have hus:=Ux g0 pre;rw[hS]at hle hus;rw[hS,hbg]at tk;have HST:=ax hst;have SY:=ax hus;have JB:=ax hbg;have HKK:=ax hk;have HD:=ax hK;have hbW:=hb.below tk.bel aA;have hnil:a=none→l.length=0∧c=0:=hnil0;have hrest:=ZK hbW hcap hle hnil;obtain⟨rb,hrb⟩: ∃rb,(if c=S then a else Option.map (fun x=>x.add S) a)=rb:=⟨_,rfl⟩;rw[hrb]at hrest;have rbb:l.drop S≠ []→∀k,rb.map (·.block)=some k→k<w.heap.size:=fun hne k hk'=>by
  exact af0
 have hld:(l.drop S).length=l.length -S:=pW;have S9:=ax hld;have q0:(0:Int)≤(S:Int):=by omega
 have q1:(S:Int)≤(l.length:Int):=by omega
 have nu:=hN.u;have ng:=hN.g;clear hS hbg hst hus hk hld hK;refine wpIn_wide.2 ?_
 go_wp2
 apply uG [((w.heap.size+1+1),(w.heap.size+1+1+1))] 10 45 [some 37,some 38,some 39,some 40,some 41,some 42,some 43,some 44,none,some 5] [⟨[10],[],[],[]⟩,⟨[0,10],[0],[0],[]⟩,⟨[10],[],[],[]⟩,⟨[0,1,2,10],[1,2],[1,2],[]⟩,⟨[0,1,2,3,10],[3],[3],[]⟩,⟨[10],[],[],[]⟩,⟨[0,1,2,3,4,5,10],[4,5],[4,5],[]⟩,⟨[10],[],[],[]⟩,⟨[0,1,2,3,4,5,6,10],[4,6,10],[4,6,10],[10]⟩,⟨[0,1,2,3,4,5,6,7,8,10],[7],[7],[]⟩,⟨[],[],[],[]⟩] [0,1,2,3,4,5,6,7,8,9] [4,8,7,9] [bC,bC,bC,bC,(fun f lo hi v b0 b1 W=> ∃a' c',v= .slice a' (l.length -S) c'∧Own W b0 5 1 a' (l.length -S) c' ((l.drop S).map a_)∧∀x,a'.map (·.block)=some x→x<b1),bC,(fun f lo hi v b0 b1 W=>v= .agg #[f 4,.bool bg]),bC,(fun f lo hi v b0 b1 W=> ∃a' c',f 4= .slice a' (l.length -S) c'∧ah W (w.heap.size+1+1) 105 #[.slice a' (l.length -S) c',.bool bg]),bC,(fun f lo hi v b0 b1 W=>(b0=(w.heap.size+1+1)∧b1=(w.heap.size+1+1+1))∧ah W (w.heap.size+1+1) 105 #[.slice none 0 0,.bool false])] [bG _,bG _,bG _,bG _,dM,bG _,dM,bG _,dM,bG _]
 ·kernel_rfl
 ·kernel_rfl
 ·rfl
 ·rfl
 rotate_left 2
 refine⟨?Kq,?Kr,?Ku,?Kv,?Kw,?Ky,?Kz,?KA,?Qx,?Qy,trivial⟩
 all_goals try(intro f lo hi w hb hx hf hk hrg R hR;(try replace hb:=fH.zero hb);(try simp(decide:=true) only[go_sem]at hf hk))
 case hx=>exact⟨⟨by omega,by have:=tk.kR.lt;omega⟩,by simp,trivial⟩
 case hX=>exact⟨fun _ _ _ _=>⟨⟨rfl,rfl⟩,tk.kR⟩,trivial⟩
 case Kq=>go_simp;exact hR _ _ (bK rfl rfl bD rfl)
 case Kr=>
  have e:=(hb.blk tk.kS dm).cell 0;go_simp;exact hR _ _ (bK rfl rfl bD rfl)
 case Ku=>
  have e:=(hb.blk tk.kU dm).cell 0;go_simp;exact hR _ _ (bK rfl rfl bD rfl)
 case Kv=>go_simp;exact hR _ _ (bK rfl rfl bD rfl)
 case Kw=>
  go_simp;have bw:bI w rb (l.drop S):=by
   by_cases hne:l.drop S= []
   ·rw[hne];exact bI.nil _ _
   ·exact hb.row (show Row _ _ _ from hrest.1) Ze
  refine(Ez rb (l.length -S) (c -S) (l.drop S) _ bw S9.out.symm (by have:=S9.out;omega) hrest.2).mono ?_;rintro e w' ⟨a',c',rfl,own',hb'⟩;exact⟨_,rfl,hR _ _ (iU rfl hb' ⟨a',c',rfl,own',own'.lt'⟩)⟩
 case Ky=>
  have e:=(hb.blk tk.kG dm).cell 0;go_simp;exact hR _ _ (bK rfl rfl bD rfl)
 case Kz=>
  obtain⟨a',c',h4, -⟩:=hf;go_simp;refine hR _ _ (iU rfl bD ?_)
  (try simp(decide:=true) only[go_sem])
  rw[h4]
 case KA=>
  have e:=(hb.blk tk.kI dm).cell 0;go_simp;exact hR _ _ (bK rfl rfl bD rfl)
 case Qx=>
  obtain⟨⟨a',c',h4,own4,lt4⟩,h6, -,kb⟩:=hf;rw[h4]at h6;have e0:=kb.cell 0;have e1:=kb.cell 1;have fz:=kb.frozen;have p1:lo 10=_:=(fU.get _ _ hx 0 _ rfl).1;have p2:hi 10=_:=(fU.get _ _ hx 0 _ rfl).2;go_simp;refine hR _ _ (vH rfl rfl ((Touch.set w (dU.2 rfl) (tY p1) Eu 0 _).trans (Touch.set _ (dU.2 rfl) (tY p1) Eu 1 _)) ?_)
  (try simp(decide:=true) only[go_sem])
  exact⟨a',c',h4,(kb.set 0 _).set 1 _⟩
 case Qy=>go_simp;exact hR _ _ (bK rfl rfl bD rfl)
 case hcl=>
  refine⟨bH,bH,bH,bH,?aBT,bH,?aBU,bH,?aiZ,bH,?avc,trivial⟩
  all_goals first
   |exact fun f lo hi v b0 b1 w w' h hs hB hown hU hX=>by
     exact YW
   |exact fun f lo hi v b0 b1 w w' h hs hB hown hU hX=>by
     exact YV
   |exact fun f lo hi v b0 b1 w w' h hs hB hown hU hX=>by
     exact YX
   |exact fun _ _ _ _ _ _ _ _ h _ _ _ _ _=>h
 intro f lo hi W7 hbr hx hf hk hrg;(try replace hbr:=fH.zero hbr);clear hx;(try simp(decide:=true) only[go_sem]at hf hk);obtain⟨⟨a',c',h4,own4, -⟩,a2,c2,h4',k8⟩:=hf;obtain⟨rfl,rfl⟩:a'=a2∧c'=c2:=by
  exact YY
 have hr4:=hrg.out 4 aF;have hrg4:W.heap.size≤lo 4:=hr4.1;have bs:=tk.bel.size;have hDl:D<W.heap.size:=(lX.1 HD.out).1;simp only[World.size_alloc]at hD;have hout: ∀q,q<W.heap.size→q≠w.heap.size+1+1→W7.heap[q]?=W.heap[q]?:=fun q h1 h2=>hbr.2.2.2.2 q ⟨h1,fun r hr=>by simp at hr;subst hr;simp only;omega⟩;have hD7:W7.heap[D]?=some (.deferred (some [])):=(hout D hDl aj).trans HD.out;have La:Below w.heap.size w W7:=⟨hbr.1.trans tk.bel.os,hbr.2.1.trans tk.bel.tape,hbr.2.2.1.trans tk.bel.output,dA bs hbr.2.2.2.1,fun q hq=>(hout q aj aj).trans (tk.bel.block q hq)⟩;have sJ:=tk.own.keep (w':=W7) fun q _ h1 h2=>hout q h2 aj;have aaP: ∀x∈its,Own W7 0 5 1 x.a x.pay.length x.c (x.pay.map a_):=fun x hx=>(tk.pays x hx).keep fun q hq h1 h2=>hout q h2 (fun e=>(tk.pays x hx).pU tk.kR ay (by rw[hq,←e];rfl));have hput:=grownBy_putObj' W7 D (.deferred none);have hrow: ∀r,some D=some r→∃o:Obj,W7.heap[r]?=some o∧o.isCells=false:=fun r e=>by cases e;exact⟨_,hD7,rfl⟩
 have k9:=k8.turn hput hrow;have y0:=k9.cell 0;have y1:=k9.cell 1;clear hout hrg hbr h4' hr4;go_simp;clear hk h4
 go_wp2
 rw[Exit.noGoto_ret];refine⟨by simp,.inl ⟨_,_,rfl,run_takeDeferred hD7,?_⟩⟩;refine⟨.tuple #[.agg #[.slice a' (l.length -S) c',.bool bg],.slice xa its.length xc],by simp[results,results79,go_sem,y0,y1],?_⟩;refine⟨iY g0 pre,its,xa,xc,a',c',HST,by rw[SY.out,JB.out],HKK.out,(sJ.turn hput hrow).mono aj,fun x hx=>(aaP x hx).turn hput hrow,by rw[SY.out];exact(own4.turn hput hrow).mono (by have:=hrg4;omega),La.grown hput (by have:=La.size;omega) (fun r e=>by cases e;omega)⟩):P:=h
theorem af4{P:Prop}(h:P:=by
 go_region
 ·go_wp2_with fail
  go_meet
  exact⟨W4.heap.size,W4.heap.size+1,rfl,rfl,(ah.new W4 _ _).alloc _,by have:=ah.new (W4.alloc (.cells #[ae 0] 3)) 4 #[.bool g0];simp only[World.size_alloc]at this;exact this,by omega,by omega,by omega,bel⟩
 ·go_wp2_with fail
  go_meet
  exact⟨W4.heap.size+1,W4.heap.size,rfl,rfl,by have:=ah.new (W4.alloc (.cells #[.bool g0] 4)) 3 #[ae 0];simp only[World.size_alloc]at this;exact this,(ah.new W4 _ _).alloc _,by omega,by omega,by omega,bel⟩):P:=h
theorem af5{P:Prop}(h:P:=by
 have FN:=ax (auR (g0:=g0) (pre:=pre) (x:=⟨⟨q1,q2,q3,q4,q5⟩,q6⟩) e2 JB.out);clear e2
 gi_wp2
 exact⟨(KeepsOthers.setCell _ _ _).from _,(Below.refl _ W).setCell dD _,⟨⟨jQ.out.trans OW.out,by rw[FN.out.2];exact OA.out⟩,OX.out.snoc Fj.out⟩,its,xa,xc,by rw[Ih,HS.out,FN.out.1];exact tk.QW hN (S+q6) aj,by rw[FN.out.2];exact HK.out⟩):P:=h
theorem af6{P:Prop}(h:P:=by
 rintro L pre ⟨⟨q1,q2,q3,q4,q5⟩,q6⟩ W K ⟨hi,its,xa,xc,tk,hk⟩ ⟨hch,hnx,hov⟩ hK;simp only[jd.vals]at hov⊢
 gi_wp2
 exact hK _ _ ((KeepsOthers.alloc _ _).from _) ((Below.refl _ W).alloc tk.bel.size _) ⟨hi,its,xa,xc,tk.alloc _,hk⟩ ⟨⟨hnx,hov.alloc _⟩,W.heap.size,tk.sz,ah.new _ _ _,rfl⟩):P:=h
theorem af7{P:Prop}(h:P:=by
 have:=JZ ((W.setCell ⟨U,0,none⟩ (ae ((S:Int)+(q6:Int)))).setCell ⟨G,0,none⟩ (.bool false)) #[ae q1,ae q2,.slice q4 q3.length q5] 128 (0,0);simpa [World.setCell]using this):P:=h
theorem YZ{P:Prop}(h:P:=by
 rcases hb.open with h|⟨b,off,rfl,hlt,_⟩
 ·exact absurd h hne
 ·simp at hk;omega):P:=h
theorem af8{P:Prop}(h:P:=by
 have FN:=ax (U6 (g0:=g0) (pre:=pre) (x:=⟨⟨q1,q2,q3,q4,q5⟩,q6⟩) e2 e7);exact afZ):P:=h
theorem atB(a:az)(l:aJ)(c:Nat)(g0:Bool)(w:ak)(hb:bI w a l)(hcap:l.length≤c)(hl:l.length≤1000000000)(hnil0:a=none→l.length=0∧c=0)(lim:Nat)(hlim:l.length<lim):aH 79 #[.agg #[.slice a l.length c,.bool g0],.func (.func 80) #[] #[]] w (VN lim l g0 w):=by
 have ha:l≠ []→∀k,a.map (·.block)=some k→k<w.heap.size:=fun hne k hk=>by
  exact YZ
 refine callsIn_wide.1 (callsIn_of_wp_marks (n:=6) func79 rfl trivial (wpIn_wide.2 ?_) rfl);simp only[ntmps79,List.size_toArray,jJ,List.length_nil,Nat.reduceAdd,Nat.reduceSub,Array.replicate_succ,Array.replicate_zero,List.push_toArray,List.append_toArray,List.nil_append,List.cons_append]
 go_wp2
 go_step3
 go_upto_region 2 with fail
 refine aW (fun W=>ah W w.heap.size 105 #[.slice a l.length c,.bool g0]∧ah W (w.heap.size+1) 175 #[.func (.func 80) #[] #[]]∧ah W (w.heap.size+1+1) 105 #[.slice none 0 0,.bool false]∧ah W (w.heap.size+1+1+1) 125 #[.slice none 0 0]∧W.heap.size=w.heap.size+4∧Below w.heap.size w W) ⟨?_,?_,?_,?_,by simp,bel⟩ ?_
 ·exact(((ah.new w _ _).alloc _).alloc _).alloc _
 ·have:=((ah.new (w.alloc (.cells #[.slice a l.length c,.bool g0] 105)) 175 #[.func (.func 80) #[] #[]]).alloc (.cells #[.slice none 0 0,.bool false] 105)).alloc (.cells #[.slice none 0 0] 125);simpa using this
 ·have:=(ah.new ((w.alloc (.cells #[.slice a l.length c,.bool g0] 105)).alloc (.cells #[.func (.func 80) #[] #[]] 175)) 105 #[.slice none 0 0,.bool false]).alloc (.cells #[.slice none 0 0] 125);simpa using this
 ·have:=ah.new (((w.alloc (.cells #[.slice a l.length c,.bool g0] 105)).alloc (.cells #[.func (.func 80) #[] #[]] 175)).alloc (.cells #[.slice none 0 0,.bool false] 105)) 125 #[.slice none 0 0];simpa using this
 rintro W4 ⟨kS,kF,kR,kI,z4,be4⟩;have c0:=kS.cell 0;have c1:=kS.cell 1;have cl:=kS.lt;have HZ:=ax z4;clear z4
 go_cut [7,8] from 11 to 12 (fun s7 s8 wx=> ∃U G:Nat,s7= .pointer (some ⟨U,0,none⟩)∧s8= .pointer (some ⟨G,0,none⟩)∧ah wx U 3 #[ae 0]∧ah wx G 4 #[.bool g0]∧U≠G∧W4.heap.size≤U∧W4.heap.size≤G∧Below W4.heap.size W4 wx)
 case first=>
  exact af4
 case rest=>
  obtain⟨U,G,rfl,rfl,kU,kG,hUG,hU,hG,hbw⟩:=hcut;have Md:=kS.below hbw cl;have s0:=Md.cell 0;have sl:=Md.lt
  go_wp2_with fail
  go_step3
  go_wp2_with (go_at_call 116;refine(aeB _ _ _ _).mono ?_;rintro e w' ⟨rfl,rfl⟩)
  have z4:=HZ.out;have sb:=hbw.size;have lU:=kU.lt;have lG:=kG.lt;have kF1:=kF.below hbw kF.lt;have nH:=kR.below hbw kR.lt;have kI1:=kI.below hbw kI.lt;have lK:Below w.heap.size w (wc.alloc (.cells #[.slice a l.length c] 30)):=bel;have hN:SS w U G (wc.heap.size+1):=⟨hUG,by omega,by omega,by omega,by omega⟩;refine(wpIn_wide (n:=6)).1 ?_;refine JV (F:=Fence.wide) rfl aj (gf:=151) (lb:= #[.pointer (some ⟨wc.heap.size,0,none⟩)]) rfl trivial (enters_of func151 bP rfl)
   (agO 5 aj a l c wc.heap.size w.heap.size (wc.alloc (.cells #[.slice a l.length c] 30)) aF ((ah.new wc _ _).cell 0) (hb.below lK aA) hcap aj lK.size ha) belowK_t (belowK_b lK.size) bD (fun _=>rfl)
   (SV w a l c g0 (.func (.func 80) #[] #[]) U G (wc.heap.size+1) (fun st=>pJ lim l ⟨0,g0,[]⟩=pJ lim l st∧st.keys.length<lim))
   (fun cd pre W=>cd= .exit 0∧SV w a l c g0 (.func (.func 80) #[] #[]) U G (wc.heap.size+1) (fun st=>pJ lim l ⟨0,g0,[]⟩=st) pre W)
   (Vm lK.size) (fun cd=>OwnFrom.and (ownFrom_pure _ _) (Vm lK.size))
   ⟨⟨⟨rfl,by simp[iY];omega⟩,.nil⟩,[],none,0,⟨Md.alloc _,kF1.alloc _,nH.alloc _,kI1.alloc _,kU.alloc _,kG.alloc _,Own.nil _ _ _ _,by simp,lK,by simp⟩,rfl⟩
   (fun pre x a' W=>(NH l pre x∧Own W 0 5 1 x.it.a x.it.pay.length x.it.c (x.it.pay.map a_))∧∃Bx,wc.heap.size+1≤Bx∧ah W Bx 128 #[ae x.it.code,ae x.it.kind,.slice x.it.a x.it.pay.length x.it.c]∧
    a'={tmps:= #[.agg #[.slice a l.length c,.bool g0],.func (.func 80) #[] #[],.pointer (some ⟨w.heap.size,0,none⟩),.pointer (some ⟨w.heap.size+1,0,none⟩),.pointer (some ⟨w.heap.size+1+1,0,none⟩),.slice none 0 0,.pointer (some ⟨w.heap.size+1+1+1,0,none⟩),.pointer (some ⟨U,0,none⟩),.pointer (some ⟨G,0,none⟩),.pointer (some ⟨Bx,0,none⟩),ae (x.size:Int),u11,u12,.pointer (some ⟨w.heap.size,0,none⟩),.slice a l.length c,.func (.func 151) #[] #[.pointer (some ⟨wc.heap.size,0,none⟩)],.agg #[ae x.it.code,ae x.it.kind,.slice x.it.a x.it.pay.length x.it.c],ae (x.size:Int),undef,undef,undef,undef,undef,undef,undef,undef,undef,undef,undef,undef,undef,undef,undef,undef,undef,undef,undef,undef,undef,undef,undef,undef,undef,undef,undef],defers:= []})
   (by
    rintro pre x a' _ W W' row ⟨⟨h1,h2⟩,Bx,h3,h4,h5⟩ hg hr;have hr2: ∀r,row=some r→∃o:Obj,W.heap[r]?=some o∧o.isCells=false:=fun r e=>(hr r e).2;exact⟨⟨h1,h2.turn hg hr2⟩,Bx,h3,h4.turn hg hr2,h5⟩) ?assign ?body ?done ?stop
  case assign=>
   exact af6
  case body=>
   rintro L pre ⟨⟨q1,q2,q3,q4,q5⟩,q6⟩ a' W hL hrec ⟨⟨⟨hok,Lc⟩,hch⟩,its,xa,xc,tk,hk⟩ ⟨⟨hnx,hov⟩,Bx,hBx,kX,rfl⟩;simp only at hov kX;have x0:=kX.cell 0;have x1:=kX.cell 1;have x2:=kX.cell 2;have xl:=kX.lt;have u0:=tk.kU.cell 0;have u1:=tk.kU.frozen 0;have g0':=tk.kG.cell 0;have g1:=tk.kG.frozen 0;have i0:=tk.kI.cell 0;have i1:=tk.kI.frozen 0;have f0:=tk.kF.cell 0;obtain⟨S,hS⟩:=aI (tZ pre);have HS:=ax hS;rw[hS]at u0 tk;have hle:=hnx.2.1;have hit:its.length≤S:=by
    have:=aeN (g0:=g0) hch;rw[←hk,g_,hS]at this;exact this
   rw[hS]at hle;simp only at hle;have hsI:(S:Int)+(q6:Int)≤9223372036854775807:=by omega
   obtain⟨bg,hbg⟩:=aI ((iY g0 pre).qP);have JB:=ax hbg;rw[hbg]at g0' tk;have OW:=ax (aip (g0:=g0) (lim:=lim) hnx Lc);have Fj:=ax hnx;have OX:=ax hch;have jQ:=ax hok;have HK:=ax hk;have OA:=ax Lc;obtain⟨i0,hi,hz0,hz1,hz2⟩:=info_parts Zz;have hone: ∀u∈([ae q1,ae q2,.slice q4 q3.length q5]:aP),u.oneCell'=true:=by simp[Value.oneCell']
   have hmx:its.length+1≤maxLen:=by simp only[maxLen];omega
   have hby:(its.length+1)*40≤140737488355328:=by omega
   have axu:its.length+1≤l.length:=by have:=hnx.2.2;simp only at this;omega
   clear hS hbg hnx hch hok hk hle Lc;by_cases b2:(q1==2)=true
   ·have e2:q1=2:=by simpa using b2
    cases bg with
    |true=>
     exact af5
    |false=>
     have FN:=ax (ahx (g0:=g0) (pre:=pre) (x:=⟨⟨q1,q2,q3,q4,q5⟩,q6⟩) e2 JB.out);clear e2;exact afZ
   ·have e2:q1≠2:=by simpa using b2
    have b2':(q1==2)=false:=by simpa using b2
    clear b2;by_cases b7:(q1==7)=true
    ·have e7:decide (q1=7∨q1=4)=true:=jB (.inl (by simpa using b7));exact af8
    ·have Me:(q1==7)=false:=by simpa using b7
     clear b7;by_cases b4:(q1==4)=true
     ·have e7:decide (q1=7∨q1=4)=true:=jB (.inr (by simpa using b4));exact af8
     ·have b4':(q1==4)=false:=by simpa using b4
      have e7:decide (q1=7∨q1=4)=false:=fA (by simp at Me b4';omega);clear b4;have FN:=ax (U6 (g0:=g0) (pre:=pre) (x:=⟨⟨q1,q2,q3,q4,q5⟩,q6⟩) e2 e7);have DL:=hov.far (p:=⟨U,0,none⟩) (hov.pU tk.kU ay) (ae ((S:Int)+(q6:Int)));have xe:=tk.QW hN (S+q6) (z:=(S:Int)+(q6:Int)) aj;have K_:=DL.far (p:=⟨G,0,none⟩) (DL.pU xe.kG ay) (.bool false);have lJ:=xe.Wi hN false;have hrow:Row (((W.setCell ⟨U,0,none⟩ (ae ((S:Int)+(q6:Int)))).setCell ⟨G,0,none⟩ (.bool false)).alloc (.cells #[ae q1,ae q2,.slice q4 q3.length q5] 128)) (some ⟨W.heap.size,0,none⟩) [ae q1,ae q2,.slice q4 q3.length q5]:=by
       exact af7
      have hsz2:wc.heap.size+1≤(((W.setCell ⟨U,0,none⟩ (ae ((S:Int)+(q6:Int)))).setCell ⟨G,0,none⟩ (.bool false)).alloc (.cells #[ae q1,ae q2,.slice q4 q3.length q5] 128)).heap.size:=by
       exact Uu
      have Mc:Below w.heap.size W (((W.setCell ⟨U,0,none⟩ (ae ((S:Int)+(q6:Int)))).setCell ⟨G,0,none⟩ (.bool false)).alloc (.cells #[ae q1,ae q2,.slice q4 q3.length q5] 128)):=(((Below.refl _ W).setCell dD _).setCell dD _).alloc UG _;have SX:=fun {xb:az} {xd:Nat} {w6:ak} (jq:Grew (wc.heap.size+1) (((W.setCell ⟨U,0,none⟩ (ae ((S:Int)+(q6:Int)))).setCell ⟨G,0,none⟩ (.bool false)).alloc (.cells #[ae q1,ae q2,.slice q4 q3.length q5] 128)) w6 xa xb)=>(Mc.grown jq.1 Uz UA).setCell (p:=⟨w.heap.size+1+1+1,0,none⟩) dD (.slice xb (its.length+1) xd);have L_:=fun {xb:az} {xd:Nat} {w6:ak} (jq:Grew (wc.heap.size+1) (((W.setCell ⟨U,0,none⟩ (ae ((S:Int)+(q6:Int)))).setCell ⟨G,0,none⟩ (.bool false)).alloc (.cells #[ae q1,ae q2,.slice q4 q3.length q5] 128)) w6 xa xb)=>((((KeepsOthers.setCell W ⟨U,0,none⟩ (ae ((S:Int)+(q6:Int)))).trans (KeepsOthers.setCell _ ⟨G,0,none⟩ (.bool false))).trans ((KeepsOthers.alloc _ (.cells #[ae q1,ae q2,.slice q4 q3.length q5] 128)).trans ((MW (lJ.own.alloc _) jq).trans (KeepsOthers.setCell _ ⟨w.heap.size+1+1+1,0,none⟩ (.slice xb (its.length+1) xd)))))).from (wc.heap.size+1)
      have hkl:(iY g0 (pre++ [⟨⟨q1,q2,q3,q4,q5⟩,q6⟩])).keys.length=its.length+1:=by rw[FN.out.2,←HK.out];simp
      have su:=ax hkl;clear hkl;by_cases hlm:its.length+1<lim
      ·exact afX
      ·exact absurd hlm aj
  case done=>
   exact af1
  case stop=>
   exact af2
end
section
open Go.RowKit Go.Sort Go.Shelf
attribute [local go_sem] Oper.semAt_some
theorem af9{P:Prop}(h:P:=by
 have OV:=ax (show decide ((lim:Int)≤(its.length:Int)+1)=false from fA aj)
 gi_wp2_with (first|(gi_at_builtin;refine Pm rfl _ _ _ rfl (wc.heap.size+1) 128 i0 _ 3 40 underlying125 hi hz0 hz1 hz2 rfl ay xa its.length xc _ rfl (some ⟨W.heap.size,0,none⟩) 1 1 rfl (lJ.own.alloc _) [ae q1,ae q2,.slice q4 q3.length q5] rfl hrow hone hmx hby hsz2 ?_;intro xb xd w6 jK jq;(have D_:=fun q (hq:q<wc.heap.size+1)=>lJ.own.VO hq);(have yK:=(lJ.kI.alloc _).jT jq (D_ _ aj));(have L9:=(lJ.kF.alloc _).jT jq (D_ _ aj));(have v0:=yK.cell 0);(have v1:=yK.frozen 0);(have v2:=L9.cell 0);(have v3:=yK.lt);(have FO:=(lJ.alloc (.cells #[ae q1,ae q2,.slice q4 q3.length q5] 128)).push hN (x:=⟨q1,q2,q3,q4,q5⟩) rfl jK jq (K_.alloc _)))|(refine⟨trivial,?_⟩;gi_at_call 135;refine(CallsIn.inRound L (callsIn_wide.2 (aam lim _ nb OV _ ((FO.bel.cell (p:=⟨nb,0,none⟩) hnb).trans hnc)))).mono ?_;rintro e w' ⟨rfl,rfl⟩))
 exact⟨by simpa using L_ jq,SX jq,⟨⟨jQ.out.trans OW.out,by rw[su.out];exact hlm⟩,OX.out.snoc Fj.out⟩,_,xb,xd,by rw[Ih,HS.out,FN.out.1];exact FO,by rw[FN.out.2,jg,HK.out];rfl⟩):P:=h
theorem af_{P:Prop}(h:P:=by
 have DL:=hov.far (p:=⟨U,0,none⟩) (hov.pU tk.kU ay) (ae ((S:Int)+(q6:Int)));have xe:=tk.QW hN (S+q6) (z:=(S:Int)+(q6:Int)) aj;have K_:=DL.far (p:=⟨G,0,none⟩) (DL.pU xe.kG ay) (.bool true);have lJ:=xe.Wi hN true;have hrow:Row (((W.setCell ⟨U,0,none⟩ (ae ((S:Int)+(q6:Int)))).setCell ⟨G,0,none⟩ (.bool true)).alloc (.cells #[ae q1,ae q2,.slice q4 q3.length q5] 128)) (some ⟨W.heap.size,0,none⟩) [ae q1,ae q2,.slice q4 q3.length q5]:=by
  exact afY
 have hsz2:wc.heap.size+1≤(((W.setCell ⟨U,0,none⟩ (ae ((S:Int)+(q6:Int)))).setCell ⟨G,0,none⟩ (.bool true)).alloc (.cells #[ae q1,ae q2,.slice q4 q3.length q5] 128)).heap.size:=by
  exact Uu
 have Mc:Below w.heap.size W (((W.setCell ⟨U,0,none⟩ (ae ((S:Int)+(q6:Int)))).setCell ⟨G,0,none⟩ (.bool true)).alloc (.cells #[ae q1,ae q2,.slice q4 q3.length q5] 128)):=(((Below.refl _ W).setCell dD _).setCell dD _).alloc UG _;have SX:=fun {xb:az} {xd:Nat} {w6:ak} (jq:Grew (wc.heap.size+1) (((W.setCell ⟨U,0,none⟩ (ae ((S:Int)+(q6:Int)))).setCell ⟨G,0,none⟩ (.bool true)).alloc (.cells #[ae q1,ae q2,.slice q4 q3.length q5] 128)) w6 xa xb)=>(Mc.grown jq.1 Uz UA).setCell (p:=⟨w.heap.size+1+1+1,0,none⟩) dD (.slice xb (its.length+1) xd);have L_:=fun {xb:az} {xd:Nat} {w6:ak} (jq:Grew (wc.heap.size+1) (((W.setCell ⟨U,0,none⟩ (ae ((S:Int)+(q6:Int)))).setCell ⟨G,0,none⟩ (.bool true)).alloc (.cells #[ae q1,ae q2,.slice q4 q3.length q5] 128)) w6 xa xb)=>((((KeepsOthers.setCell W ⟨U,0,none⟩ (ae ((S:Int)+(q6:Int)))).trans (KeepsOthers.setCell _ ⟨G,0,none⟩ (.bool true))).trans ((KeepsOthers.alloc _ (.cells #[ae q1,ae q2,.slice q4 q3.length q5] 128)).trans ((MW (lJ.own.alloc _) jq).trans (KeepsOthers.setCell _ ⟨w.heap.size+1+1+1,0,none⟩ (.slice xb (its.length+1) xd)))))).from (wc.heap.size+1)
 have hkl:(iY g0 (pre++ [⟨⟨q1,q2,q3,q4,q5⟩,q6⟩])).keys.length=its.length+1:=by rw[FN.out.2,←HK.out];simp
 have su:=ax hkl;clear hkl;by_cases hlm:its.length+1<lim
 ·exact af9
 ·have OV:=ax (show decide ((lim:Int)≤(its.length:Int)+1)=true from jB aj)
  gi_wp2_with (first|(gi_at_builtin;refine Pm rfl _ _ _ rfl (wc.heap.size+1) 128 i0 _ 3 40 underlying125 hi hz0 hz1 hz2 rfl ay xa its.length xc _ rfl (some ⟨W.heap.size,0,none⟩) 1 1 rfl (lJ.own.alloc _) [ae q1,ae q2,.slice q4 q3.length q5] rfl hrow hone hmx hby hsz2 ?_;intro xb xd w6 jK jq;(have D_:=fun q (hq:q<wc.heap.size+1)=>lJ.own.VO hq);(have yK:=(lJ.kI.alloc _).jT jq (D_ _ aj));(have L9:=(lJ.kF.alloc _).jT jq (D_ _ aj));(have v0:=yK.cell 0);(have v1:=yK.frozen 0);(have v2:=L9.cell 0);(have v3:=yK.lt);(have FO:=(lJ.alloc (.cells #[ae q1,ae q2,.slice q4 q3.length q5] 128)).push hN (x:=⟨q1,q2,q3,q4,q5⟩) rfl jK jq (K_.alloc _)))|(refine⟨trivial,?_⟩;gi_at_call 135;refine(CallsIn.inRound L (callsIn_wide.2 (aam lim _ nb OV _ ((FO.bel.cell (p:=⟨nb,0,none⟩) hnb).trans hnc)))).mono ?_;rintro e w' ⟨rfl,rfl⟩))
  exact⟨by simpa using L_ jq,rfl,⟨by rw[jQ.out,OW.out];exact F9 (fun h=>by have:=h.1;rw[su.out]at this;omega),OX.out.snoc Fj.out⟩,_,xb,xd,by rw[Ih,HS.out,FN.out.1];exact FO,by rw[FN.out.2,jg,HK.out];rfl⟩):P:=h
theorem aga{P:Prop}(h:P:=by
 have FN:=ax (U6 (g0:=g0) (pre:=pre) (x:=⟨⟨q1,q2,q3,q4,q5⟩,q6⟩) e2 e7);exact af_):P:=h
theorem ar_(a:az)(l:aJ)(c:Nat)(g0:Bool)(w:ak)(hb:bI w a l)(hcap:l.length≤c)(hl:l.length≤1000000000)(hnil0:a=none→l.length=0∧c=0)(lim:Nat)(hlim:0<lim)(nb:Nat)(hnb:nb<w.heap.size)(hnc:w.cell? ⟨nb,0,none⟩=some (ae (lim:Int))):aH 79 #[.agg #[.slice a l.length c,.bool g0],.func (.func 135) #[] #[.pointer (some ⟨nb,0,none⟩)]] w (VN lim l g0 w):=by
 have ha:l≠ []→∀k,a.map (·.block)=some k→k<w.heap.size:=fun hne k hk=>by
  exact YZ
 refine callsIn_wide.1 (callsIn_of_wp_marks (n:=6) func79 rfl trivial (wpIn_wide.2 ?_) rfl);simp only[ntmps79,List.size_toArray,jJ,List.length_nil,Nat.reduceAdd,Nat.reduceSub,Array.replicate_succ,Array.replicate_zero,List.push_toArray,List.append_toArray,List.nil_append,List.cons_append]
 go_wp2
 go_step3
 go_upto_region 2 with fail
 refine aW (fun W=>ah W w.heap.size 105 #[.slice a l.length c,.bool g0]∧ah W (w.heap.size+1) 175 #[.func (.func 135) #[] #[.pointer (some ⟨nb,0,none⟩)]]∧ah W (w.heap.size+1+1) 105 #[.slice none 0 0,.bool false]∧ah W (w.heap.size+1+1+1) 125 #[.slice none 0 0]∧W.heap.size=w.heap.size+4∧Below w.heap.size w W) ⟨?_,?_,?_,?_,by simp,bel⟩ ?_
 ·exact(((ah.new w _ _).alloc _).alloc _).alloc _
 ·have:=((ah.new (w.alloc (.cells #[.slice a l.length c,.bool g0] 105)) 175 #[.func (.func 135) #[] #[.pointer (some ⟨nb,0,none⟩)]]).alloc (.cells #[.slice none 0 0,.bool false] 105)).alloc (.cells #[.slice none 0 0] 125);simpa using this
 ·have:=(ah.new ((w.alloc (.cells #[.slice a l.length c,.bool g0] 105)).alloc (.cells #[.func (.func 135) #[] #[.pointer (some ⟨nb,0,none⟩)]] 175)) 105 #[.slice none 0 0,.bool false]).alloc (.cells #[.slice none 0 0] 125);simpa using this
 ·have:=ah.new (((w.alloc (.cells #[.slice a l.length c,.bool g0] 105)).alloc (.cells #[.func (.func 135) #[] #[.pointer (some ⟨nb,0,none⟩)]] 175)).alloc (.cells #[.slice none 0 0,.bool false] 105)) 125 #[.slice none 0 0];simpa using this
 rintro W4 ⟨kS,kF,kR,kI,z4,be4⟩;have c0:=kS.cell 0;have c1:=kS.cell 1;have cl:=kS.lt;have HZ:=ax z4;clear z4
 go_cut [7,8] from 11 to 12 (fun s7 s8 wx=> ∃U G:Nat,s7= .pointer (some ⟨U,0,none⟩)∧s8= .pointer (some ⟨G,0,none⟩)∧ah wx U 3 #[ae 0]∧ah wx G 4 #[.bool g0]∧U≠G∧W4.heap.size≤U∧W4.heap.size≤G∧Below W4.heap.size W4 wx)
 case first=>
  exact af4
 case rest=>
  obtain⟨U,G,rfl,rfl,kU,kG,hUG,hU,hG,hbw⟩:=hcut;have Md:=kS.below hbw cl;have s0:=Md.cell 0;have sl:=Md.lt
  go_wp2_with fail
  go_step3
  go_wp2_with (go_at_call 116;refine(aeB _ _ _ _).mono ?_;rintro e w' ⟨rfl,rfl⟩)
  have z4:=HZ.out;have sb:=hbw.size;have lU:=kU.lt;have lG:=kG.lt;have kF1:=kF.below hbw kF.lt;have nH:=kR.below hbw kR.lt;have kI1:=kI.below hbw kI.lt;have lK:Below w.heap.size w (wc.alloc (.cells #[.slice a l.length c] 30)):=bel;have hN:SS w U G (wc.heap.size+1):=⟨hUG,by omega,by omega,by omega,by omega⟩;refine(wpIn_wide (n:=6)).1 ?_;refine JV (F:=Fence.wide) rfl aj (gf:=151) (lb:= #[.pointer (some ⟨wc.heap.size,0,none⟩)]) rfl trivial (enters_of func151 bP rfl)
   (agO 5 aj a l c wc.heap.size w.heap.size (wc.alloc (.cells #[.slice a l.length c] 30)) aF ((ah.new wc _ _).cell 0) (hb.below lK aA) hcap aj lK.size ha) belowK_t (belowK_b lK.size) bD (fun _=>rfl)
   (SV w a l c g0 (.func (.func 135) #[] #[.pointer (some ⟨nb,0,none⟩)]) U G (wc.heap.size+1) (fun st=>pJ lim l ⟨0,g0,[]⟩=pJ lim l st∧st.keys.length<lim))
   (fun cd pre W=>cd= .exit 0∧SV w a l c g0 (.func (.func 135) #[] #[.pointer (some ⟨nb,0,none⟩)]) U G (wc.heap.size+1) (fun st=>pJ lim l ⟨0,g0,[]⟩=st) pre W)
   (Vm lK.size) (fun cd=>OwnFrom.and (ownFrom_pure _ _) (Vm lK.size))
   ⟨⟨⟨rfl,by simp[iY];omega⟩,.nil⟩,[],none,0,⟨Md.alloc _,kF1.alloc _,nH.alloc _,kI1.alloc _,kU.alloc _,kG.alloc _,Own.nil _ _ _ _,by simp,lK,by simp⟩,rfl⟩
   (fun pre x a' W=>(NH l pre x∧Own W 0 5 1 x.it.a x.it.pay.length x.it.c (x.it.pay.map a_))∧∃Bx,wc.heap.size+1≤Bx∧ah W Bx 128 #[ae x.it.code,ae x.it.kind,.slice x.it.a x.it.pay.length x.it.c]∧
    a'={tmps:= #[.agg #[.slice a l.length c,.bool g0],.func (.func 135) #[] #[.pointer (some ⟨nb,0,none⟩)],.pointer (some ⟨w.heap.size,0,none⟩),.pointer (some ⟨w.heap.size+1,0,none⟩),.pointer (some ⟨w.heap.size+1+1,0,none⟩),.slice none 0 0,.pointer (some ⟨w.heap.size+1+1+1,0,none⟩),.pointer (some ⟨U,0,none⟩),.pointer (some ⟨G,0,none⟩),.pointer (some ⟨Bx,0,none⟩),ae (x.size:Int),u11,u12,.pointer (some ⟨w.heap.size,0,none⟩),.slice a l.length c,.func (.func 151) #[] #[.pointer (some ⟨wc.heap.size,0,none⟩)],.agg #[ae x.it.code,ae x.it.kind,.slice x.it.a x.it.pay.length x.it.c],ae (x.size:Int),undef,undef,undef,undef,undef,undef,undef,undef,undef,undef,undef,undef,undef,undef,undef,undef,undef,undef,undef,undef,undef,undef,undef,undef,undef,undef,undef],defers:= []})
   (by
    rintro pre x a' _ W W' row ⟨⟨h1,h2⟩,Bx,h3,h4,h5⟩ hg hr;have hr2: ∀r,row=some r→∃o:Obj,W.heap[r]?=some o∧o.isCells=false:=fun r e=>(hr r e).2;exact⟨⟨h1,h2.turn hg hr2⟩,Bx,h3,h4.turn hg hr2,h5⟩) ?assign ?body ?done ?stop
  case assign=>
   exact af6
  case body=>
   rintro L pre ⟨⟨q1,q2,q3,q4,q5⟩,q6⟩ a' W hL hrec ⟨⟨⟨hok,Lc⟩,hch⟩,its,xa,xc,tk,hk⟩ ⟨⟨hnx,hov⟩,Bx,hBx,kX,rfl⟩;simp only at hov kX;have x0:=kX.cell 0;have x1:=kX.cell 1;have x2:=kX.cell 2;have xl:=kX.lt;have u0:=tk.kU.cell 0;have u1:=tk.kU.frozen 0;have g0':=tk.kG.cell 0;have g1:=tk.kG.frozen 0;have i0:=tk.kI.cell 0;have i1:=tk.kI.frozen 0;have f0:=tk.kF.cell 0;obtain⟨S,hS⟩:=aI (tZ pre);have HS:=ax hS;rw[hS]at u0 tk;have hle:=hnx.2.1;have hit:its.length≤S:=by
    have:=aeN (g0:=g0) hch;rw[←hk,g_,hS]at this;exact this
   rw[hS]at hle;simp only at hle;have hsI:(S:Int)+(q6:Int)≤9223372036854775807:=by omega
   obtain⟨bg,hbg⟩:=aI ((iY g0 pre).qP);have JB:=ax hbg;rw[hbg]at g0' tk;have OW:=ax (aip (g0:=g0) (lim:=lim) hnx Lc);have Fj:=ax hnx;have OX:=ax hch;have jQ:=ax hok;have HK:=ax hk;have OA:=ax Lc;obtain⟨i0,hi,hz0,hz1,hz2⟩:=info_parts Zz;have hone: ∀u∈([ae q1,ae q2,.slice q4 q3.length q5]:aP),u.oneCell'=true:=by simp[Value.oneCell']
   have hmx:its.length+1≤maxLen:=by simp only[maxLen];omega
   have hby:(its.length+1)*40≤140737488355328:=by omega
   have axu:its.length+1≤l.length:=by have:=hnx.2.2;simp only at this;omega
   clear hS hbg hnx hch hok hk hle Lc;by_cases b2:(q1==2)=true
   ·have e2:q1=2:=by simpa using b2
    cases bg with
    |true=>
     exact af5
    |false=>
     have FN:=ax (ahx (g0:=g0) (pre:=pre) (x:=⟨⟨q1,q2,q3,q4,q5⟩,q6⟩) e2 JB.out);clear e2;exact af_
   ·have e2:q1≠2:=by simpa using b2
    have b2':(q1==2)=false:=by simpa using b2
    clear b2;by_cases b7:(q1==7)=true
    ·have e7:decide (q1=7∨q1=4)=true:=jB (.inl (by simpa using b7));exact aga
    ·have Me:(q1==7)=false:=by simpa using b7
     clear b7;by_cases b4:(q1==4)=true
     ·have e7:decide (q1=7∨q1=4)=true:=jB (.inr (by simpa using b4));exact aga
     ·have b4':(q1==4)=false:=by simpa using b4
      have e7:decide (q1=7∨q1=4)=false:=fA (by simp at Me b4';omega);clear b4;have FN:=ax (U6 (g0:=g0) (pre:=pre) (x:=⟨⟨q1,q2,q3,q4,q5⟩,q6⟩) e2 e7);have DL:=hov.far (p:=⟨U,0,none⟩) (hov.pU tk.kU ay) (ae ((S:Int)+(q6:Int)));have xe:=tk.QW hN (S+q6) (z:=(S:Int)+(q6:Int)) aj;have K_:=DL.far (p:=⟨G,0,none⟩) (DL.pU xe.kG ay) (.bool false);have lJ:=xe.Wi hN false;have hrow:Row (((W.setCell ⟨U,0,none⟩ (ae ((S:Int)+(q6:Int)))).setCell ⟨G,0,none⟩ (.bool false)).alloc (.cells #[ae q1,ae q2,.slice q4 q3.length q5] 128)) (some ⟨W.heap.size,0,none⟩) [ae q1,ae q2,.slice q4 q3.length q5]:=by
       exact af7
      have hsz2:wc.heap.size+1≤(((W.setCell ⟨U,0,none⟩ (ae ((S:Int)+(q6:Int)))).setCell ⟨G,0,none⟩ (.bool false)).alloc (.cells #[ae q1,ae q2,.slice q4 q3.length q5] 128)).heap.size:=by
       exact Uu
      have Mc:Below w.heap.size W (((W.setCell ⟨U,0,none⟩ (ae ((S:Int)+(q6:Int)))).setCell ⟨G,0,none⟩ (.bool false)).alloc (.cells #[ae q1,ae q2,.slice q4 q3.length q5] 128)):=(((Below.refl _ W).setCell dD _).setCell dD _).alloc UG _;have SX:=fun {xb:az} {xd:Nat} {w6:ak} (jq:Grew (wc.heap.size+1) (((W.setCell ⟨U,0,none⟩ (ae ((S:Int)+(q6:Int)))).setCell ⟨G,0,none⟩ (.bool false)).alloc (.cells #[ae q1,ae q2,.slice q4 q3.length q5] 128)) w6 xa xb)=>(Mc.grown jq.1 Uz UA).setCell (p:=⟨w.heap.size+1+1+1,0,none⟩) dD (.slice xb (its.length+1) xd);have L_:=fun {xb:az} {xd:Nat} {w6:ak} (jq:Grew (wc.heap.size+1) (((W.setCell ⟨U,0,none⟩ (ae ((S:Int)+(q6:Int)))).setCell ⟨G,0,none⟩ (.bool false)).alloc (.cells #[ae q1,ae q2,.slice q4 q3.length q5] 128)) w6 xa xb)=>((((KeepsOthers.setCell W ⟨U,0,none⟩ (ae ((S:Int)+(q6:Int)))).trans (KeepsOthers.setCell _ ⟨G,0,none⟩ (.bool false))).trans ((KeepsOthers.alloc _ (.cells #[ae q1,ae q2,.slice q4 q3.length q5] 128)).trans ((MW (lJ.own.alloc _) jq).trans (KeepsOthers.setCell _ ⟨w.heap.size+1+1+1,0,none⟩ (.slice xb (its.length+1) xd)))))).from (wc.heap.size+1)
      have hkl:(iY g0 (pre++ [⟨⟨q1,q2,q3,q4,q5⟩,q6⟩])).keys.length=its.length+1:=by rw[FN.out.2,←HK.out];simp
      have su:=ax hkl;clear hkl;by_cases hlm:its.length+1<lim
      ·exact af9
      ·have OV:=ax (show decide ((lim:Int)≤(its.length:Int)+1)=true from jB aj)
       gi_wp2_with (first|(gi_at_builtin;refine Pm rfl _ _ _ rfl (wc.heap.size+1) 128 i0 _ 3 40 underlying125 hi hz0 hz1 hz2 rfl ay xa its.length xc _ rfl (some ⟨W.heap.size,0,none⟩) 1 1 rfl (lJ.own.alloc _) [ae q1,ae q2,.slice q4 q3.length q5] rfl hrow hone hmx hby hsz2 ?_;intro xb xd w6 jK jq;(have D_:=fun q (hq:q<wc.heap.size+1)=>lJ.own.VO hq);(have yK:=(lJ.kI.alloc _).jT jq (D_ _ aj));(have L9:=(lJ.kF.alloc _).jT jq (D_ _ aj));(have v0:=yK.cell 0);(have v1:=yK.frozen 0);(have v2:=L9.cell 0);(have v3:=yK.lt);(have FO:=(lJ.alloc (.cells #[ae q1,ae q2,.slice q4 q3.length q5] 128)).push hN (x:=⟨q1,q2,q3,q4,q5⟩) rfl jK jq (K_.alloc _)))|(refine⟨trivial,?_⟩;gi_at_call 135;refine(CallsIn.inRound L (callsIn_wide.2 (aam lim _ nb OV _ ((FO.bel.cell (p:=⟨nb,0,none⟩) hnb).trans hnc)))).mono ?_;rintro e w' ⟨rfl,rfl⟩))
       exact⟨by simpa using L_ jq,rfl,⟨by rw[jQ.out,OW.out];exact F9 (fun h=>by have:=h.1;rw[su.out]at this;omega),OX.out.snoc Fj.out⟩,_,xb,xd,by rw[Ih,HS.out,FN.out.1];exact FO,by rw[FN.out.2,jg,HK.out];rfl⟩
  case done=>
   exact af1
  case stop=>
   exact af2
end
end Go.Proofs.YtiffpjamngklhaaGreat
