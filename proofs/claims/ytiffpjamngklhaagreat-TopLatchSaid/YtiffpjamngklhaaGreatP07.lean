/- Lemmas, part 07. -/
import Derived.Deep.DeepCutAuto
import Derived.Outline
import Derived.Test.YtiffpjamngklhaaGreatP06
namespace Go.Proofs.YtiffpjamngklhaaGreat
set_option linter.all false
set_option maxRecDepth 100000
set_option maxHeartbeats 16000000
open Go.RowKit Tryz
open Go.Sort hiding Below
variable{w:ak}{n:Nat}{t:aK}{l:aJ}{gr dt fx:Int}
theorem Pv(n:Int)(h0:0≤n)(h1:n≤4294967295){L:Nat}(hL:Hid (L=(dI n.toNat).length))(w:ak):aH 172 #[ae n] w fun e w'=> ∃a cap,e= .returned (.tuple #[.slice a L cap,ae 0])∧Own w' w.heap.size 5 1 a L cap ((dI n.toNat).map a_)∧Below w.heap.size w w':=
 (aew n w).mono fun e w' h=>by
  rcases h with⟨_,_,a,L',cap,h1,h2,h3,h4⟩|⟨h,_⟩
  ·rw[hL.out];subst h2;exact⟨a,cap,h1,h3,h4⟩
  ·exact absurd ⟨h0,h1⟩ h
theorem aeH(n:Int)(h: ¬ xR n)(w:ak):aH 172 #[ae n] w fun e w'=>e= .returned (.tuple #[.slice none 0 0,ae 8])∧Below w.heap.size w w':=
 (aew n w).mono fun e w' h'=>by
  rcases h' with⟨h0,h1,_⟩|⟨_,h1,h2⟩
  ·exact absurd ⟨h0,h1⟩ h
  ·exact⟨h1,h2⟩
theorem A8{k tk lo hi:Int}(w:ak)(h1:1≤k)(h2:k≤22)(hs:cZ k=⟨tk,fx,gr,lo,hi,dt⟩):aH 81 #[ae k] w fun e w'=>e= .returned (.tuple #[.agg #[ae tk,ae fx,ae gr,ae lo,ae hi,ae dt],.bool true])∧Below w.heap.size w w':=by
 have:=apG k w h1 h2;rw[hs]at this;exact this
theorem aey{tk lo hi g:Int}(n:Nat)(w:ak)(hs:KF ⟨tk,fx,gr,lo,hi,dt⟩)(hA:n≤1000000)(hg:iD ⟨tk,fx,gr,lo,hi,dt⟩ n)(hgn:Hid (mY ⟨tk,fx,gr,lo,hi,dt⟩ n=g)):
  aH 171 #[.agg #[ae tk,ae fx,ae gr,ae lo,ae hi,ae dt],ae n] w fun e w'=>e= .returned (.tuple #[ae g,.bool true])∧Below w.heap.size w w':=
 (aeG _ n w hs hA).mono fun e w' ⟨g',he,hg',hb⟩=>⟨by rw[he,hg' hg,hgn.out,jB hg],hb⟩
theorem aox{tk lo hi:Int}(n:Nat)(w:ak)(hs:KF ⟨tk,fx,gr,lo,hi,dt⟩)(hA:n≤1000000)(hg: ¬ iD ⟨tk,fx,gr,lo,hi,dt⟩ n):
  aH 171 #[.agg #[ae tk,ae fx,ae gr,ae lo,ae hi,ae dt],ae n] w fun e w'=> ∃g,e= .returned (.tuple #[ae g,.bool false])∧Below w.heap.size w w':=
 (aeG _ n w hs hA).mono fun e w' ⟨g',he,_,hb⟩=>⟨g',by rw[he,fA hg],hb⟩
structure qx(w:ak)(m:aU)(ta:az)(tc:Nat)(aa da:az):Prop where
 tok:bI w ta m.tok
 args:Ints w aa m.args
 dat:bI w da m.dat
 nil:ta=none→m.tok.length=0∧tc=0
 len:m.tok.length≤1000000∧m.args.length≤1000000∧m.dat.length≤1000000
def EP(m:aU)(w:ak)(e:Ending)(w':ak):Prop:=
 (m.Ok∧∃a n c,e= .returned (.tuple #[.slice a n c,ae 0])∧n=m.pay.length∧Own w' w.heap.size 5 1 a n c (m.pay.map a_)∧Below w.heap.size w w')∨
 (¬ m.Ok∧e= .returned (.tuple #[.slice none 0 0,ae 6])∧Below w.heap.size w w')
theorem ah.four{g:Nat}{a b c d:Value}(h:ah w g t #[a,b,c,d]):w.cell? ⟨g,0,none⟩=some a∧w.cell? ⟨g,1,none⟩=some b∧w.cell? ⟨g,2,none⟩=some c∧w.cell? ⟨g,3,none⟩=some d:=⟨h.cell 0,h.cell 1,h.cell 2,h.cell 3⟩
theorem ah.x_{g:Nat}{a b c d e f:Value}(h:ah w g t #[a,b,c,d,e,f]):w.cell? ⟨g,0,none⟩=some a∧w.cell? ⟨g,1,none⟩=some b∧w.cell? ⟨g,2,none⟩=some c∧w.cell? ⟨g,3,none⟩=some d∧w.cell? ⟨g,4,none⟩=some e∧w.cell? ⟨g,5,none⟩=some f:=⟨h.cell 0,h.cell 1,h.cell 2,h.cell 3,h.cell 4,h.cell 5⟩
section
variable(kind:Int)(tok:aJ)(args:aO)(dat:aJ)(ta aa da:az)(tc ac dc:Nat)(w:ak)
theorem Uo{P:Prop}(h:P:=by
 exact bodyPost_ret (v:= .tuple #[.slice none 0 0,ae 6]) (by simp[results,results149,go_sem]) rfl (.inr ⟨HN.out,rfl,bel⟩)):P:=h
theorem an3(hk:kind<1∨22<kind):aH 149 #[.agg #[ae kind,.slice ta tok.length tc,.slice aa args.length ac,.slice da dat.length dc]] w (EP ⟨kind,tok,args,dat⟩ w):=by
 have HN:=ax (show ¬ aU.Ok ⟨kind,tok,args,dat⟩ from fun h=>by have:=h.kind;simp only at this;omega)
 go_enter func149,ntmps149
 go_wp2_with (first|(go_at_call 81;(with_reducible refine(aep kind _ hk).mono ?_);rintro e w1 ⟨rfl,hb1⟩))
 exact Uo
theorem afd{P:Prop}(h:P:=by
 go_enter func149,ntmps149
 go_wp2_with (first|(go_at_call 81;(with_reducible refine(A8 _ h1 h2 hs).mono ?_);rintro e w1 ⟨rfl,hb1⟩;(have bM:ah w1 w.heap.size 36 #[ae kind,.slice ta tok.length tc,.slice aa args.length ac,.slice da dat.length dc]:=(ah.new w _ _).below hb1 aF);(have lM:=bM.lt);obtain⟨m0,m1,m2,m3⟩:=bM.four))
 exact Uo):P:=h
theorem an4{tk lo hi:Int}(h1:1≤kind)(h2:kind≤22)(hs:cZ kind=⟨tk,fx,gr,lo,hi,dt⟩)(ht:(tok.length:Int)≠tk):aH 149 #[.agg #[ae kind,.slice ta tok.length tc,.slice aa args.length ac,.slice da dat.length dc]] w (EP ⟨kind,tok,args,dat⟩ w):=by
 have HN:=ax (show ¬ aU.Ok ⟨kind,tok,args,dat⟩ from fun h=>by have:=h.tok;simp only[hs]at this;omega);have z1:((tok.length:Int) !=tk)=true:=by rw[bne_iff_ne];exact ht
 clear ht;exact afd
theorem an5{tk lo hi:Int}(h1:1≤kind)(h2:kind≤22)(hs:cZ kind=⟨tk,fx,gr,lo,hi,dt⟩)(ht:(tok.length:Int)=tk)(hd:dt≠ -1)(hd2:(dat.length:Int)≠dt):aH 149 #[.agg #[ae kind,.slice ta tok.length tc,.slice aa args.length ac,.slice da dat.length dc]] w (EP ⟨kind,tok,args,dat⟩ w):=by
 have HN:=ax (show ¬ aU.Ok ⟨kind,tok,args,dat⟩ from fun h=>by have:=h.dat;simp only[hs]at this;omega);have z1:((tok.length:Int) !=tk)=false:=by rw[ht];exact bne_self_eq_false tk
 have z2:(dt != -1)=true:=by rw[bne_iff_ne];exact hd
 have z3:((dat.length:Int) !=dt)=true:=by rw[bne_iff_ne];exact hd2
 clear ht hd hd2;exact afd
theorem Ql(h:dt= -1∨(n:Int)=dt):(dt= -1∧(dt != -1)=false)∨(dt≠ -1∧(dt != -1)=true∧((n:Int) !=dt)=false):=by
 by_cases e:dt= -1
 ·exact .inl ⟨e,by rw[e];rfl⟩
 ·refine .inr ⟨e,by rw[bne_iff_ne];exact e,?_⟩;rw[←h.resolve_left e];exact bne_self_eq_false _
theorem an6{tk lo hi:Int}(h1:1≤kind)(h2:kind≤22)(hs:cZ kind=⟨tk,fx,gr,lo,hi,dt⟩)(ht:(tok.length:Int)=tk)(hd:dt= -1∨(dat.length:Int)=dt)(hA:args.length≤1000000)(hg: ¬ iD ⟨tk,fx,gr,lo,hi,dt⟩ args.length):aH 149 #[.agg #[ae kind,.slice ta tok.length tc,.slice aa args.length ac,.slice da dat.length dc]] w (EP ⟨kind,tok,args,dat⟩ w):=by
 have HN:=ax (show ¬ aU.Ok ⟨kind,tok,args,dat⟩ from fun h=>by have:=h.grp;simp only[hs]at this;exact hg this);have z1:((tok.length:Int) !=tk)=false:=by rw[ht];exact bne_self_eq_false tk
 have sh:=CX kind;rw[hs]at sh;rcases Ql hd with⟨rfl,z2⟩|⟨_,z2,z3⟩
 all_goals
  clear ht hd
  go_enter func149,ntmps149
  go_wp2_with (first|(go_at_call 81;(with_reducible refine(A8 _ h1 h2 hs).mono ?_);rintro e w1 ⟨rfl,hb1⟩;(have bM:ah w1 w.heap.size 36 #[ae kind,.slice ta tok.length tc,.slice aa args.length ac,.slice da dat.length dc]:=(ah.new w _ _).below hb1 aF);(have lM:=bM.lt);obtain⟨m0,m1,m2,m3⟩:=bM.four)|(go_at_call 171;(with_reducible refine(aox _ _ sh hA hg).mono ?_);rintro e w2 ⟨gg,rfl,hb2⟩;(have zC:ah w2 w.heap.size 36 #[ae kind,.slice ta tok.length tc,.slice aa args.length ac,.slice da dat.length dc]:=(bM.alloc _).below hb2 cu);(have bS2:ah w2 w1.heap.size 177 _:=(ah.new w1 _ _).below hb2 aF);(have Om:=zC.lt);(have BP:=bS2.lt);(have QM:Below w.heap.size w w2:=bel);obtain⟨p0,p1,p2,p3⟩:=zC.four))
  exact Uo
theorem an7{tk lo hi:Int}(h1:1≤kind)(h2:kind≤22)(hs:cZ kind=⟨tk,fx,gr,lo,hi,dt⟩)(ht:(tok.length:Int)=tk)(hd:dt= -1∨(dat.length:Int)=dt)(hA:args.length≤1000000)(hg:iD ⟨tk,fx,gr,lo,hi,dt⟩ args.length)(hdl:200<dat.length):aH 149 #[.agg #[ae kind,.slice ta tok.length tc,.slice aa args.length ac,.slice da dat.length dc]] w (EP ⟨kind,tok,args,dat⟩ w):=by
 have HN:=ax (show ¬ aU.Ok ⟨kind,tok,args,dat⟩ from fun h=>by have:=h.aaY;simp only at this;omega);have z1:((tok.length:Int) !=tk)=false:=by rw[ht];exact bne_self_eq_false tk
 have sh:=CX kind;rw[hs]at sh;obtain⟨g,hgn⟩: ∃g,Hid (mY ⟨tk,fx,gr,lo,hi,dt⟩ args.length=g):=⟨_,ax rfl⟩;rcases Ql hd with⟨rfl,z2⟩|⟨_,z2,z3⟩
 all_goals
  clear ht hd
  go_enter func149,ntmps149
  go_wp2_with (first|(go_at_call 81;(with_reducible refine(A8 _ h1 h2 hs).mono ?_);rintro e w1 ⟨rfl,hb1⟩;(have bM:ah w1 w.heap.size 36 #[ae kind,.slice ta tok.length tc,.slice aa args.length ac,.slice da dat.length dc]:=(ah.new w _ _).below hb1 aF);(have lM:=bM.lt);obtain⟨m0,m1,m2,m3⟩:=bM.four)|(go_at_call 171;(with_reducible refine(aey _ _ sh hA hg hgn).mono ?_);rintro e w2 ⟨rfl,hb2⟩;(have zC:ah w2 w.heap.size 36 #[ae kind,.slice ta tok.length tc,.slice aa args.length ac,.slice da dat.length dc]:=(bM.alloc _).below hb2 cu);(have bS2:ah w2 w1.heap.size 177 _:=(ah.new w1 _ _).below hb2 aF);(have Om:=zC.lt);(have BP:=bS2.lt);(have QM:Below w.heap.size w w2:=bel);obtain⟨p0,p1,p2,p3⟩:=zC.four))
  exact Uo
theorem Own.ajq{w:ak}{base cap:Nat}{e:aK}{a:az}(h:Own w base e 1 a n cap (l.map a_)):n=l.length:=by
 have:=h.1;simp at this;omega
theorem afe(s:jZ)(g:Int)(k:Nat):(((k:Int)==s.fix)=true∧decide (0<s.grp)=true∧fP s g k=dI g.toNat)∨(((k:Int)==s.fix)=true∧decide (0<s.grp)=false∧fP s g k= [])∨(((k:Int)==s.fix)=false∧fP s g k= []):=by
 unfold fP;by_cases h1:(k:Int)=s.fix
 ·by_cases h2:0<s.grp
  ·exact .inl ⟨by rw[beq_iff_eq];exact h1,jB h2,by rw[if_pos ⟨h1,h2⟩]⟩
  ·exact .inr (.inl ⟨by rw[beq_iff_eq];exact h1,fA h2,by rw[if_neg (fun h=>h2 h.2)]⟩)
 ·exact .inr (.inr ⟨by rw[iL];exact h1,by rw[if_neg (fun h=>h1 h.1)]⟩)
theorem ahH{m:aU}{w w2 w6:ak}{b:az}{cap:Nat}(hp:m.pay=l++m.dat)(hok:m.pay.length≤200→m.Ok)(own:Own w6 w2.heap.size 5 1 b n cap ((l++m.dat).map a_))(h02:w.heap.size≤w2.heap.size)(hb:Below w.heap.size w w6):
  (n≤200→EP m w (.returned (.tuple #[.slice b n cap,ae 0])) w6)∧(200<n→EP m w (.returned (.tuple #[.slice none 0 0,ae 6])) w6):=by
 have hn:=own.ajq;rw[←hp]at own hn;exact⟨fun h=> .inl ⟨hok aj,b,n,cap,rfl,hn,own.mono h02,hb⟩,fun h=> .inr ⟨fun h'=>by have:=h'.EO;omega,rfl,hb⟩⟩
theorem Zv{kind:Int}{tok:aJ}{args:aO}{dat:aJ}{s:jZ}{g:Int}(hs:cZ kind=s)(hgn:mY s args.length=g)(h:l=tok++mi (cZ kind) g 0 args):aU.pay ⟨kind,tok,args,dat⟩=l++dat:=by
 subst h;unfold aU.pay;simp only[hs,hgn]
theorem aiJ{kind:Int}{tok:aJ}{args:aO}{dat:aJ}{s:jZ}(h1:1≤kind)(h2:kind≤22)(hs:cZ kind=s)(ht:(tok.length:Int)=s.tok)(hd:s.dat= -1∨(dat.length:Int)=s.dat)(hg:iD s args.length)(hdl:dat.length≤200)(hall: ∀n∈args,xR n)(hp:(aU.pay ⟨kind,tok,args,dat⟩).length≤200):aU.Ok ⟨kind,tok,args,dat⟩:=
 ⟨⟨h1,h2⟩,by simp only[hs];exact ht,by simp only[hs];exact hd,by simp only[hs];exact hg,hdl,hall,hp⟩
theorem aff{P:Prop}(h:P:=by
 exact bodyPost_ret (v:= .tuple #[.slice none 0 0,ae 6]) (by simp[results,results149,go_sem]) rfl (.inr ⟨Au.out,rfl,ajr⟩)):P:=h
theorem anJ{tk lo hi:Int}(h1:1≤kind)(h2:kind≤22)(hs:cZ kind=⟨tk,fx,gr,lo,hi,dt⟩)(ht:(tok.length:Int)=tk)(hd:dt= -1∨(dat.length:Int)=dt)(hA:args.length≤1000000)(hg:iD ⟨tk,fx,gr,lo,hi,dt⟩ args.length)(hdl:dat.length≤200)
  (hat:qx w ⟨kind,tok,args,dat⟩ ta tc aa da):aH 149 #[.agg #[ae kind,.slice ta tok.length tc,.slice aa args.length ac,.slice da dat.length dc]] w (EP ⟨kind,tok,args,dat⟩ w):=by
 have z1:((tok.length:Int) !=tk)=false:=by rw[ht];exact bne_self_eq_false tk
 have sh:=CX kind;rw[hs]at sh;obtain⟨g,hgn⟩: ∃g,Hid (mY ⟨tk,fx,gr,lo,hi,dt⟩ args.length=g):=⟨_,ax rfl⟩;obtain⟨g0,g1⟩:=U_ sh hg;rw[hgn.out]at g0 g1;obtain⟨gL,Jj⟩: ∃gL,Hid (gL=(dI g.toNat).length):=⟨_,ax rfl⟩;have gl:gL≤1:=by rw[Jj.out,Ey aj];simp
 have tl:tok.length≤10:=by have:=sh.tok;simp only at this;omega
 have HS:=ax hs;have HT:=ax ht;have HD:=ax hd;have HG:=ax hg;obtain⟨bt,ba,bd,hnil,_⟩:=hat;simp only at bt ba bd hnil;have z5:decide (200<dat.length)=false:=fA aj;have jQ:=ax (aiJ h1 h2 hs ht hd hg hdl);rcases Ql hd with⟨rfl,z2⟩|⟨_,z2,z3⟩
 all_goals
  clear ht hd
  go_enter func149,ntmps149
  go_wp2_with (first|(go_at_call 81;(with_reducible refine(A8 _ h1 h2 hs).mono ?_);rintro e w1 ⟨rfl,hb1⟩;(have bM:ah w1 w.heap.size 36 #[ae kind,.slice ta tok.length tc,.slice aa args.length ac,.slice da dat.length dc]:=(ah.new w _ _).below hb1 aF);(have lM:=bM.lt);obtain⟨m0,m1,m2,m3⟩:=bM.four)|(go_at_call 171;(with_reducible refine(aey _ _ sh hA hg hgn).mono ?_);rintro e w2 ⟨rfl,hb2⟩;(have zC:ah w2 w.heap.size 36 #[ae kind,.slice ta tok.length tc,.slice aa args.length ac,.slice da dat.length dc]:=(bM.alloc _).below hb2 cu);(have bS2:ah w2 w1.heap.size 177 _:=(ah.new w1 _ _).below hb2 aF);(have Om:=zC.lt);(have BP:=bS2.lt);(have QM:Below w.heap.size w w2:=bel);obtain⟨p0,p1,p2,p3⟩:=zC.four)|(go_at_call 71;(with_reducible refine(ah7 ta _ tc tok _ (bt.below QM aA) rfl aj hnil).mono ?_);rintro e w3 ⟨pa,pc,rfl,jE,hb3⟩;(have bM3:=zC.below hb3 Om);(have BQ:=bS2.below hb3 BP);obtain⟨r0,r1,r2,r3⟩:=bM3.four))
  go_loopw [65,7] (fun i v wr=> ∃(k:Nat) (l:aJ) (b:az) (N cap:Nat),k≤args.length∧i=ae k∧v= .slice b N cap∧Own wr w2.heap.size 5 1 b N cap (l.map a_)∧Below w2.heap.size w2 wr∧N≤10+6*k∧l++mi (cZ kind) g k (args.drop k)=tok++mi (cZ kind) g 0 args∧∀n∈args.take k,xR n) (fun i _ _=>args.length+1 -(intOf i).toNat)
  case atStart=>exact⟨0,tok,_,_,_,Nat.zero_le _,rfl,rfl,jE,hb3,by omega,rfl,by simp⟩
  case round=>
   obtain⟨k,l,b,N,cap,hk,rfl,rfl,own,hbel,hN,hl,hall⟩:=hrel;have HL:=ax hl;have HA:=ax hall;clear hl hall;have c1:(k:Int)<(args.length:Int)+1:=by omega
   have fM: ∀W,Below w2.heap.size w2 W→ah W w.heap.size 36 #[ae kind,.slice ta tok.length tc,.slice aa args.length ac,.slice da dat.length dc]:=fun W h=>zC.below h Om;have fS: ∀W,Below w2.heap.size w2 W→ah W w1.heap.size 177 _:=fun W h=>bS2.below h BP;have Ry:=fM _ hbel;have Rz:=fS _ hbel;have lMr:=Ry.lt;have lSr:=Rz.lt;obtain⟨u0,u1,u2,u3⟩:=Ry.four;obtain⟨v0,v1,v2,v3,v4,v5⟩:=Rz.x_;have Oo:Hid ((((k:Int)==fx)=true∧decide (0<gr)=true∧fP (cZ kind) g k=dI g.toNat)∨(((k:Int)==fx)=true∧decide (0<gr)=false∧fP (cZ kind) g k= [])∨(((k:Int)==fx)=false∧fP (cZ kind) g k= [])):=by
    have:=afe (cZ kind) g k;show _∨_;rw[hs]at this⊢;exact this
   have fW: ∀W,Below w2.heap.size w2 W→Below w.heap.size w W:=fun W h=>bel;have VX:=fW _ hbel;by_cases hkA:k=args.length
   ·have y1:((k:Int)==(args.length:Int))=true:=by rw[beq_iff_eq];omega
    have HE:Hid (l++fP (cZ kind) g k=tok++mi (cZ kind) g 0 args):=by
     show _=_;rw[←HL.out,hkA,List.drop_length];rfl
    have KN:Hid (∀n∈args,xR n):=by
     have:=HA.out;rw[hkA,List.take_length]at this;exact this
    clear hkA;rcases Oo.out with⟨x1,x2,x3⟩|⟨x1,x2,x3⟩|⟨x1,x3⟩
    ·have HC:=ax x3;clear x3;by_cases hfin:200<N+gL+dat.length
     all_goals
      go_wp2_with (first|(go_at_call 172;(with_reducible refine(Pv g g0 aj Jj _).mono ?_);rintro e w4 ⟨xa,xc,rfl,QN,hb4⟩;(have IY:Below w2.heap.size w2 w4:=bel);(have bx:=QN.dL);(have own4:=own.below hb4 aA))|(at_builtin;refine qN rfl _ _ rfl w2.heap.size _ _ cap l rfl xa _ xc (dI g.toNat) rfl own4 bx Jj.out _ rfl aj IY.size ?_;intro b5 cap5 w5 jF g5 sU;(have nP:=sU w2 IY);rw[←HC.out]at jF;(have GL:=fM _ nP);obtain⟨m0,m1,m2,m3⟩:=GL.four;(have Gv:Below w.heap.size w w5:=bel))|(at_builtin;refine qN rfl _ _ rfl w2.heap.size _ _ _ (l++fP (cZ kind) g k) rfl da _ _ dat rfl jF (bd.below Gv aA) rfl _ rfl aj nP.size ?_;intro b6 cap6 w6 jK g6 LG;(have wO:=LG w2 nP)))
      have FF:=ahH (m:=⟨kind,tok,args,dat⟩) (w:=w) (Zv HS.out hgn.out HE.out) (jQ.out KN.out) jK QM.size bel
      first
       |exact bodyPost_ret (v:= .tuple #[.slice none 0 0,ae 6]) (by simp[results,results149,go_sem]) rfl (FF.2 aj)
       |exact bodyPost_ret (v:= .tuple #[.slice b6 _ cap6,ae 0]) (by simp[results,results149,go_sem]) rfl (FF.1 aj)
    all_goals
     have HC:=ax x3;clear x3;have jF:=own;have E5:l.map a_=(l++fP (cZ kind) g k).map a_:=by rw[HC.out,iK]
     rw[E5]at jF;clear E5;have nP:=hbel;have Gv:=VX;by_cases hfin:200<N+dat.length
     all_goals
      go_wp2_with (first|(at_builtin;refine qN rfl _ _ rfl w2.heap.size _ _ _ (l++fP (cZ kind) g k) rfl da _ _ dat rfl jF (bd.below Gv aA) rfl _ rfl aj nP.size ?_;intro b6 cap6 w6 jK g6 LG;(have wO:=LG w2 nP)))
      have FF:=ahH (m:=⟨kind,tok,args,dat⟩) (w:=w) (Zv HS.out hgn.out HE.out) (jQ.out KN.out) jK QM.size bel
      first
       |exact bodyPost_ret (v:= .tuple #[.slice none 0 0,ae 6]) (by simp[results,results149,go_sem]) rfl (FF.2 aj)
       |exact bodyPost_ret (v:= .tuple #[.slice b6 _ cap6,ae 0]) (by simp[results,results149,go_sem]) rfl (FF.1 aj)
   ·have hlt:k<args.length:=by omega
    have y1:((k:Int)==(args.length:Int))=false:=by rw[iL];omega
    rcases ba.open with rfl|⟨ab,aaZ,rfl,hbl,hc⟩
    ·simp at hlt
    obtain⟨x,hx⟩:=aI (args[k]);have fX: ∀W,Below w.heap.size w W→W.cell? ⟨ab,aaZ+k,none⟩=some (ae x):=fun W h=>by rw[(VE h).1 ab _ hbl,hc k hlt,hx]
    have cxr:=fX _ VX;by_cases hxo:xR x
    ·obtain⟨x0,x1⟩:=hxo;obtain⟨xL,hxL⟩: ∃xL,Hid (xL=(dI x.toNat).length):=⟨_,ax rfl⟩;have xl:xL≤5:=by rw[hxL.out];exact F8 aj
     have HE2:Hid ((l++fP (cZ kind) g k)++dI x.toNat++mi (cZ kind) g (k+1) (args.drop (k+1))=tok++mi (cZ kind) g 0 args):=by
      show _=_;rw[←HL.out,List.drop_eq_getElem_cons hlt,hx];simp[mi]
     have HA2:Hid (∀n∈args.take (k+1),xR n):=by
      show∀n∈_,_;rw[List.take_succ_eq_append_getElem hlt,hx];intro n hn;rcases lW.1 hn with h|h
      ·exact HA.out n h
      ·rw[dU.1 h];exact⟨x0,x1⟩
     clear hx hc;rcases Oo.out with⟨q1,q2,q3⟩|⟨q1,q2,q3⟩|⟨q1,q3⟩
     ·have HC:=ax q3;clear q3
      go_wp2_with (first|(go_at_call 172;(with_reducible refine(Pv g g0 aj Jj _).mono ?_);rintro e w4 ⟨xa,xc,rfl,QN,hb4⟩;(have IY:Below w2.heap.size w2 w4:=bel);(have bx:=QN.dL);(have own4:=own.below hb4 aA))|(at_builtin;refine qN rfl _ _ rfl w2.heap.size _ _ cap l rfl xa _ xc (dI g.toNat) rfl own4 bx Jj.out _ rfl aj IY.size ?_;intro b5 cap5 w5 jF g5 sU;(have nP:=sU w2 IY);rw[←HC.out]at jF;(have GL:=fM _ nP);obtain⟨m0,m1,m2,m3⟩:=GL.four;(have Gv:Below w.heap.size w w5:=bel);(have cx5:=fX _ Gv))|(go_at_call 172;(with_reducible refine(Pv x x0 x1 hxL _).mono ?_);rintro e w6 ⟨ya,yc,rfl,KO,hb6⟩;(have jK:=jF.below hb6 aA);(have KP:=KO.dL);(have wO:Below w2.heap.size w2 w6:=bel))|(at_builtin;refine qN rfl _ _ rfl w2.heap.size _ _ _ (l++fP (cZ kind) g k) rfl ya _ _ (dI x.toNat) rfl jK KP hxL.out _ rfl aj wO.size ?_;intro b7 aa0 w7 sJ g7 GM;(have KQ:=GM w2 wO)))
      go_roundw
      case rel=>exact⟨k+1,(l++fP (cZ kind) g k)++dI x.toNat,_,_,_,by omega,by go_num,rfl,sJ,KQ,by omega,HE2.out,HA2.out⟩
      case measure=>simp[intOf];omega
     all_goals
      have HC:=ax q3;clear q3;have jF:=own;have E5:l.map a_=(l++fP (cZ kind) g k).map a_:=by rw[HC.out,iK]
      rw[E5]at jF;clear E5;have nP:=hbel;have Gv:=VX
      go_wp2_with (first|(go_at_call 172;(with_reducible refine(Pv x x0 x1 hxL _).mono ?_);rintro e w6 ⟨ya,yc,rfl,KO,hb6⟩;(have jK:=jF.below hb6 aA);(have KP:=KO.dL);(have wO:Below w2.heap.size w2 w6:=bel))|(at_builtin;refine qN rfl _ _ rfl w2.heap.size _ _ _ (l++fP (cZ kind) g k) rfl ya _ _ (dI x.toNat) rfl jK KP hxL.out _ rfl aj wO.size ?_;intro b7 aa0 w7 sJ g7 GM;(have KQ:=GM w2 wO)))
      go_roundw
      case rel=>exact⟨k+1,(l++fP (cZ kind) g k)++dI x.toNat,_,_,_,by omega,by go_num,rfl,sJ,KQ,by omega,HE2.out,HA2.out⟩
      case measure=>simp[intOf];omega
    ·have Au:Hid (¬ aU.Ok ⟨kind,tok,args,dat⟩):=ax fun h=>hxo (hx▸h.args _ (bF hlt));clear hx hc;rcases Oo.out with⟨q1,q2,q3⟩|⟨q1,q2,q3⟩|⟨q1,q3⟩
     ·have HC:=ax q3;clear q3
      go_wp2_with (first|(go_at_call 172;(with_reducible refine(Pv g g0 aj Jj _).mono ?_);rintro e w4 ⟨xa,xc,rfl,QN,hb4⟩;(have IY:Below w2.heap.size w2 w4:=bel);(have bx:=QN.dL);(have own4:=own.below hb4 aA))|(at_builtin;refine qN rfl _ _ rfl w2.heap.size _ _ cap l rfl xa _ xc (dI g.toNat) rfl own4 bx Jj.out _ rfl aj IY.size ?_;intro b5 cap5 w5 jF g5 sU;(have nP:=sU w2 IY);rw[←HC.out]at jF;(have GL:=fM _ nP);obtain⟨m0,m1,m2,m3⟩:=GL.four;(have Gv:Below w.heap.size w w5:=bel);(have cx5:=fX _ Gv))|(go_at_call 172;(with_reducible refine(aeH x hxo _).mono ?_);rintro e w6 ⟨rfl,hb6⟩;(have ajr:Below w.heap.size w w6:=bel)))
      exact aff
     all_goals
      have HC:=ax q3;clear q3;have jF:=own;have E5:l.map a_=(l++fP (cZ kind) g k).map a_:=by rw[HC.out,iK]
      rw[E5]at jF;clear E5;have nP:=hbel;have Gv:=VX
      go_wp2_with (first|(go_at_call 172;(with_reducible refine(aeH x hxo _).mono ?_);rintro e w6 ⟨rfl,hb6⟩;(have ajr:Below w.heap.size w w6:=bel)))
      exact aff
theorem agF(m:aU)(ta:az)(tc:Nat)(aa da:az)(ac dc:Nat)(w:ak)(hat:qx w m ta tc aa da){tn an dn:Nat}(h1:tn=m.tok.length)(h2:an=m.args.length)(h3:dn=m.dat.length):
  aH 149 #[.agg #[ae m.kind,.slice ta tn tc,.slice aa an ac,.slice da dn dc]] w (EP m w):=by
 obtain⟨kind,tok,args,dat⟩:=m;subst h1 h2 h3;by_cases hk:kind<1∨22<kind
 ·exact an3 kind tok args dat ta aa da tc ac dc w hk
 obtain⟨⟨tk,fx,gr,lo,hi,dt⟩,hs⟩: ∃s,cZ kind=s:=⟨_,rfl⟩;by_cases ht:(tok.length:Int)=tk
 case neg=>exact an4 kind tok args dat ta aa da tc ac dc w aj aj hs ht
 by_cases hd:dt= -1∨(dat.length:Int)=dt
 case neg=>exact an5 kind tok args dat ta aa da tc ac dc w aj aj hs ht (fun h=>hd (.inl h)) (fun h=>hd (.inr h))
 by_cases hg:iD ⟨tk,fx,gr,lo,hi,dt⟩ args.length
 case neg=>exact an6 kind tok args dat ta aa da tc ac dc w aj aj hs ht hd hat.len.2.1 hg
 by_cases hdl:200<dat.length
 ·exact an7 kind tok args dat ta aa da tc ac dc w aj aj hs ht hd hat.len.2.1 hg hdl
 ·exact anJ kind tok args dat ta aa da tc ac dc w aj aj hs ht hd hat.len.2.1 hg aj hat
end
theorem qx.below{w':ak}{m:aU}{ta:az}{tc:Nat}{aa da:az}{B:Nat}(h:qx w m ta tc aa da)(hb:Below B w w')(hB:w.heap.size≤B):qx w' m ta tc aa da:=
 ⟨h.tok.below hb hB,h.args.below hb hB,h.dat.below hb hB,h.nil,h.len⟩
end Go.Proofs.YtiffpjamngklhaaGreat
