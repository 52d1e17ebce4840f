/- Lemmas, part 05. -/
import Derived.Deep.RegionLaw
import Derived.Deep.DeepCutAuto
import Derived.Outline
import Derived.Test.YtiffpjamngklhaaGreatProg
import Derived.Deep.CutBlock
import Derived.WalkSpells
import Derived.Test.YtiffpjamngklhaaGreatP03
namespace Go.Proofs.YtiffpjamngklhaaGreat
set_option linter.all false
set_option maxRecDepth 100000
set_option maxHeartbeats 16000000
open Go.RowKit Tryz
open Go.Sort hiding Below
variable{w W W':ak}{B n i k base size off N xc b1 acc:Nat}{t e:aK}{a xa:az}{Q:dR}{xs:aP}{l:aJ}{o:Oper}{ops:Array Oper}{rest:List Oper}{now:Int}
theorem Own.take{cap:Nat}(h:Own w base e 1 a n cap xs)(k:Nat)(hk:k≤n):Own w base e 1 a k cap (xs.take k):=by
 have hn:n*1=xs.length:=h.1.symm;refine⟨by rw[pV];omega,?_⟩;rcases h.2 with⟨hv,h0⟩|⟨g,c,cur,hv,hb,hg,hnc,hm,hs,ht⟩
 ·injection hv with h1 h2 h3
  exact .inl ⟨by rw[h1,h3];congr;omega,by omega⟩
 ·injection hv with h1 h2 h3
  refine .inr ⟨g,c,cur,by rw[h1,h3],hb,hg,by omega,hm,hs,?_⟩;rw[←ht,List.take_take];congr 1;omega
theorem Own.takeB{cap:Nat}(h:Own w base e 1 a n cap (l.map a_))(k:Nat)(hk:k≤n):Own w base e 1 a k cap ((l.take k).map a_):=by
 rw[List.map_take];exact h.take k hk
structure Lg where
 ju:Int
 ph:Int
 fr:Int
 fB:Int
 si:Int
@[reducible] def aaH(j p f t s:Int):Value:= .agg #[ae j,ae p,ae f,ae t,ae s]
def Lg.cells(l:Lg):aP:= [ae l.ju,ae l.ph,ae l.fr,ae l.fB,ae l.si]
def eQ(l:List Lg):aP:=l.flatMap Lg.cells
theorem PD: ∀l:List Lg,(eQ l).length=l.length*5
 |[]=>rfl
 |v::l=>by
  have:=PD l;simp only[eQ,List.flatMap_cons,dP,jJ]at this⊢;rw[this];simp[Lg.cells];omega
theorem aeo(l m:List Lg):eQ (l++m)=eQ l++eQ m:=by simp[eQ]
theorem apB(l:List Lg): ∀u∈eQ l,u.oneCell'=true:=by
 intro u hu;simp only[eQ,List.mem_flatMap]at hu;obtain⟨y,_,hy⟩:=hu;simp only[Lg.cells,List.mem_cons,o_,or_false]at hy;rcases hy with rfl|rfl|rfl|rfl|rfl<;>rfl
theorem ae0: ∀(l:List Lg) (i:Nat) (h:i<l.length) (j:Nat) (_:j<5),(eQ l)[5*i+j]?=(l[i]).cells[j]?
 |p::l,0,_,j,hj=>by
  simp only[eQ,List.flatMap_cons];rw[Nat.mul_zero,dX,List.getElem?_append_left (by simp[Lg.cells];omega)];rfl
 |p::l,i+1,h,j,hj=>by
  have:=ae0 l i oq j hj;simp only[eQ,List.flatMap_cons]at this⊢;rw[List.getElem?_append_right (by simp[Lg.cells];omega)];simp only[List.getElem_cons_succ];rw[←this];congr 1;simp[Lg.cells];omega
theorem ae1{P:Prop}(h:P:=by
 exact⟨key 0 aj _ rfl,key 1 aj _ rfl,key 2 aj _ rfl,key 3 aj _ rfl,key 4 aj _ rfl,hlt⟩):P:=h
theorem J4{g:Nat}{l:List Lg}(h:Row w (some ⟨g,off,none⟩) (eQ l))(x:Nat)(hx:x<l.length):
  w.cell? ⟨g,off+x*5,none⟩=some (ae l[x].ju)∧w.cell? ⟨g,off+x*5+1,none⟩=some (ae l[x].ph)∧w.cell? ⟨g,off+x*5+2,none⟩=some (ae l[x].fr)∧w.cell? ⟨g,off+x*5+3,none⟩=some (ae l[x].fB)∧w.cell? ⟨g,off+x*5+4,none⟩=some (ae l[x].si)∧g<w.heap.size:=by
 have hl:=PD l;rcases h with h|⟨b,off',e,hlt,hc⟩
 ·rw[h]at hl;simp at hl;omega
 ·injection e with e
  injection e with e1 e2 _
  subst e1 e2;have key: ∀j,j<5→∀v,(l[x].cells)[j]?=some v→w.cell? ⟨g,off+x*5+j,none⟩=some v:=fun j hj v hv=>by
   have q0:5*x+j<(eQ l).length:=by omega
   have:=hc (5*x+j) q0;rw[show off+x*5+j=off+(5*x+j)by omega,this];have q:=ae0 l x hx j hj;rw[hv,d_ q0]at q;exact q
  exact ae1
theorem Row.Z8{l:List Lg}(h:Row w a (eQ l))(hl:0<l.length): ∃b off,a=some ⟨b,off,none⟩:=by
 rcases h with h0|⟨b,off,e,_⟩
 ·have:=PD l;rw[h0]at this;simp at this;omega
 ·exact⟨b,off,e⟩
structure Rq where
 id:Int
 jG:Int
 cls:Int
 ji:Int
 dH:List Lg
 a:az
 c:Nat
abbrev Rk:=Int × Int × Int × Int × List Lg
def Rq.key(r:Rq):Rk:=(r.id,r.jG,r.cls,r.ji,r.dH)
def Rq.cells(r:Rq):aP:= [ae r.id,ae r.jG,ae r.cls,ae r.ji,.slice r.a r.dH.length r.c]
def uI(l:List Rq):aP:=l.flatMap Rq.cells
theorem Yz: ∀l:List Rq,(uI l).length=l.length*5
 |[]=>rfl
 |v::l=>by
  have:=Yz l;simp only[uI,List.flatMap_cons,dP,jJ]at this⊢;rw[this];simp[Rq.cells];omega
theorem ae2: ∀(l:List Rq) (i:Nat) (h:i<l.length) (j:Nat) (_:j<5),(uI l)[5*i+j]?=(l[i]).cells[j]?
 |p::l,0,_,j,hj=>by
  simp only[uI,List.flatMap_cons];rw[Nat.mul_zero,dX,List.getElem?_append_left (by simp[Rq.cells];omega)];rfl
 |p::l,i+1,h,j,hj=>by
  have:=ae2 l i oq j hj;simp only[uI,List.flatMap_cons]at this⊢;rw[List.getElem?_append_right (by simp[Rq.cells];omega)];simp only[List.getElem_cons_succ];rw[←this];congr 1;simp[Rq.cells];omega
theorem J5{g:Nat}{l:List Rq}(h:Row w (some ⟨g,off,none⟩) (uI l))(x:Nat)(hx:x<l.length):
  w.cell? ⟨g,off+x*5,none⟩=some (ae l[x].id)∧w.cell? ⟨g,off+x*5+1,none⟩=some (ae l[x].jG)∧w.cell? ⟨g,off+x*5+2,none⟩=some (ae l[x].cls)∧w.cell? ⟨g,off+x*5+3,none⟩=some (ae l[x].ji)∧w.cell? ⟨g,off+x*5+4,none⟩=some (.slice l[x].a l[x].dH.length l[x].c)∧g<w.heap.size:=by
 have hl:=Yz l;rcases h with h|⟨b,off',e,hlt,hc⟩
 ·rw[h]at hl;simp at hl;omega
 ·injection e with e
  injection e with e1 e2 _
  subst e1 e2;have key: ∀j,j<5→∀v,(l[x].cells)[j]?=some v→w.cell? ⟨g,off+x*5+j,none⟩=some v:=fun j hj v hv=>by
   have q0:5*x+j<(uI l).length:=by omega
   have:=hc (5*x+j) q0;rw[show off+x*5+j=off+(5*x+j)by omega,this];have q:=ae2 l x hx j hj;rw[hv,d_ q0]at q;exact q
  exact ae1
theorem Row.aua{l:List Rq}(h:Row w a (uI l))(hl:0<l.length): ∃b off,a=some ⟨b,off,none⟩:=by
 rcases h with h0|⟨b,off,e,_⟩
 ·have:=Yz l;rw[h0]at this;simp at this;omega
 ·exact⟨b,off,e⟩
structure sS(w:ak)(a:az)(l:List Rq):Prop where
 row:Row w a (uI l)
 dH: ∀r∈l,Row w r.a (eQ r.dH)
structure gq(W:ak)(B:Nat)(l:List Rq)(xa:az)(xc:Nat):Prop where
 own:Own W B 139 5 xa l.length xc (uI l)
 dH: ∀r∈l,Own W B 187 5 r.a r.dH.length r.c (eQ r.dH)
 ap: ∀i j (hj:j<l.length) (hi:i<j),Apart l[i].a l[j].a
section
variable{w w' W W':ak}{B:Nat}{a:az}{l:List Rq}{xa:az}{xc:Nat}
theorem sS.below(h:sS w a l)(hb:Below B w w')(hB:w.heap.size≤B):sS w' a l:=⟨h.row.below hb hB,fun r hr=>(h.dH r hr).below hb hB⟩
theorem sS.alloc(h:sS w a l)(o:Obj):sS (w.alloc o) a l:=⟨h.row.alloc o,fun r hr=>(h.dH r hr).alloc o⟩
theorem sS.open(h:sS w a l)(hl:0<l.length): ∃b off,a=some ⟨b,off,none⟩:=h.row.aua hl
theorem gq.keep(h:gq W B l xa xc)(hb: ∀b,b<W.heap.size→W'.heap[b]?=W.heap[b]?):gq W' B l xa xc:=
 ⟨h.own.keep fun b _ _ hl=>hb b hl,fun v hv=>(h.dH v hv).keep fun b _ _ hl=>hb b hl,h.ap⟩
theorem gq.below(h:gq W B l xa xc)(hb:Below W.heap.size W W'):gq W' B l xa xc:=h.keep fun b hl=>hb.block b hl
theorem gq.alloc(h:gq W B l xa xc)(o:Obj):gq (W.alloc o) B l xa xc:=h.keep fun b hl=>Below.heap_alloc _ _ b hl
theorem gq.Oj(h:gq W B l xa xc):sS W xa l:=⟨h.own.row,fun r hr=>(h.dH r hr).row⟩
theorem gq.nil(W:ak)(B:Nat):gq W B [] none 0:=⟨Own.nil _ _ _ _,by simp,fun i j hj=>by simp at hj⟩
theorem gq.mono(h:gq W B l xa xc){B':Nat}(hB:B'≤B):gq W B' l xa xc:=⟨h.own.mono hB,fun r hr=>(h.dH r hr).mono hB,h.ap⟩
end
theorem gq.push{l:List Rq}{xb:az}{xd:Nat}(h:gq W B l xa xc){x:Rq}(hN:N=l.length+1)(own:Own W' B 139 5 xb N xd (uI l++x.cells))(gr:Grew B W W' xa xb)(hp:Own W B 187 5 x.a x.dH.length x.c (eQ x.dH))(hap: ∀r∈l,Apart r.a x.a):gq W' B (l++ [x]) xb xd:=by
 subst hN;have pw: ∀y∈l++ [x],Own W B 187 5 y.a y.dH.length y.c (eQ y.dH):=fun y hy=>by
  rcases lW.1 hy with hy|hy
  ·exact h.dH y hy
  ·rw[dU.1 hy];exact hp
 have e:uI (l++ [x])=uI l++x.cells:=by simp[uI]
 refine⟨by rw[e,dP];exact own,fun y hy=>(pw y hy).grew gr (h.own.Vt (pw y hy) ay),fun i j hj hi=>?_⟩;simp at hj;by_cases hjl:j<l.length
 ·rw[List.getElem_append_left aj,List.getElem_append_left hjl];exact h.ap i j hjl hi
 ·have:j=l.length:=by omega
  subst this;rw[List.getElem_append_left aj];simpa using hap _ (bF hi)
theorem asC:(prog.info? 187).map (fun i=>(i.zero,i.size,i.bytes))=some (some (.agg #[ae 0,ae 0,ae 0,ae 0,ae 0]),5,40):=by kernel_rfl
theorem asD:(prog.info? 139).map (fun i=>(i.zero,i.size,i.bytes))=some (some (.agg #[ae 0,ae 0,ae 0,ae 0,.slice none 0 0]),5,56):=by kernel_rfl
theorem avf{a:Act}(hgd:o.guard=none)(s x:Operand)(ho:o.op= .call {callee:= .builtin .append,args:= #[s,x],argTypes:= #[86,86]})
  (B:Nat) (xa:az) (n xc:Nat) (l:List Rq) (hs:a.eval s= .slice xa n xc) (hn:n=l.length) (i v k t:Int) (lg:List Lg) (la:az) (ln lc:Nat) (hln:ln=lg.length) (X:Nat) (hx:a.eval x= .slice (some ⟨X,0,none⟩) 1 1) (hX:ah w X 139 #[ae i,ae v,ae k,ae t,.slice la ln lc])
  (il:gq w B l xa xc) (hB:B≤w.heap.size) (hp:Own w B 187 5 la ln lc (eQ lg)) (hap: ∀r∈l,Apart r.a la) (hbig:n≤1000000)
  (h: ∀xb xd w',gq w' B (l++ [⟨i,v,k,t,lg,la,lc⟩]) xb xd→Grew B w w' xa xb→(∀W,Below B W w→Below B W w')→wpList prog ops Q rest (a.put o.dst (.slice xb (n+1) xd)) w'):wpList prog ops Q (o::rest) a w:=by
 subst hn hln;obtain⟨i0,hi,hz0,hz1,hz2⟩:=info_parts asD;have hr:Row w (some ⟨X,0,none⟩) (Rq.cells ⟨i,v,k,t,lg,la,lc⟩):= .inr ⟨X,0,rfl,hX.lt,fun i hi=>by
  rw[dX,hX.cell];have:i=0∨i=1∨i=2∨i=3∨i=4:=by simp[Rq.cells]at hi;omega
  rcases this with rfl|rfl|rfl|rfl|rfl<;>rfl⟩
 refine zL _ hgd s x _ ho B _ i0 _ 5 56 underlying86 hi hz0 hz1 hz2 rfl ay xa l.length xc _ hs (some ⟨X,0,none⟩) 1 1 hx il.own (Rq.cells ⟨i,v,k,t,lg,la,lc⟩) rfl hr (by simp[Rq.cells,Value.oneCell']) tK aj hB ?_;intro xb xd w' own' gr;exact h xb xd w' (il.push (x:=⟨i,v,k,t,lg,la,lc⟩) rfl own' gr hp hap) gr (Grew.step il.own gr)
def Qz(f t s now:Int):Int:=if f≤now∧now≤t then(if s= -1 then now else s)else -1
def Z9(j p f t now:Int):Bool:=decide ((0≤j∧j<4∧0≤p∧p<8)∧0≤now∧now≤1073741824∧0≤f∧f≤t∧t≤600)
def Qk(j p f t now:Int):Value:=
 if Z9 j p f t now=true then .tuple #[.agg #[ae j,ae p,ae (now+f),ae (now+t),ae (-1)],ae 0]
 else .tuple #[.agg #[ae 0,ae 0,ae 0,ae 0,ae 0],ae 8]
theorem aqH{j p f t:Int}(h:(0≤j∧j<4∧0≤p∧p<8)∧0≤now∧now≤1073741824∧0≤f∧f≤t∧t≤600):Qk j p f t now= .tuple #[.agg #[ae j,ae p,ae (now+f),ae (now+t),ae (-1)],ae 0]:=by
 rw[Qk,if_pos (by unfold Z9;exact jB h)]
theorem aru{j p f t:Int}(h: ¬ ((0≤j∧j<4∧0≤p∧p<8)∧0≤now∧now≤1073741824∧0≤f∧f≤t∧t≤600)):Qk j p f t now= .tuple #[.agg #[ae 0,ae 0,ae 0,ae 0,ae 0],ae 8]:=by
 rw[Qk,if_neg (by unfold Z9;rw[fA h];decide)]
theorem ao0(j p:Int)(w:ak):aH 274 #[ae j,ae p] w fun e w'=>e= .returned (.bool (decide (0≤j) && decide (j<4) && decide (0≤p) && decide (p<8)))∧w=w':=by
 go_enter func274,ntmps274
 go_wp2
 all_goals
  go_ret;exact⟨uH agY,rfl⟩
theorem Ul{P:Prop}(h:P:=by
 go_ret;exact⟨uH agY,bel⟩):P:=h
theorem ae3(j p f t s now:Int)(w:ak):aH 206 #[.agg #[ae j,ae p,ae f,ae t,ae s],ae now] w fun e w'=>e= .returned (.bool (decide (f≤now) && decide (now≤t)))∧Below w.heap.size w w':=by
 go_enter func206,ntmps206
 go_wp2
 all_goals
  exact Ul
theorem aBy(j p f t now:Int)(w:ak):aH 252 #[ae j,ae p,ae f,ae t,ae now] w fun e w'=>e= .returned (Qk j p f t now)∧Below w.heap.size w w':=by
 go_enter func252,ntmps252
 go_wp2_with (first|(go_at_call 274;refine(ao0 _ _ _).mono ?_;rintro e w' ⟨rfl,rfl⟩))
 all_goals first|(refine bodyPost_ret (v:= .tuple #[.agg #[ae j,ae p,ae (now+f),ae (now+t),ae (-1)],ae 0]) ?_ rfl ⟨?_,?_⟩;(focus(simp[results,results252,go_sem];done));(focus(rw[aqH aj]));exact bel)|(refine bodyPost_ret (v:= .tuple #[.agg #[ae 0,ae 0,ae 0,ae 0,ae 0],ae 8]) ?_ rfl ⟨?_,?_⟩;(focus(simp[results,results252,go_sem];done));(focus(rw[aru aj]));exact bel)
theorem apC(j p f t s now:Int)(w:ak):aH 184 #[.agg #[ae j,ae p,ae f,ae t,ae s],ae now] w fun e w'=>e= .returned (.agg #[ae j,ae p,ae f,ae t,ae (Qz f t s now)])∧Below w.heap.size w w':=by
 go_enter func184,ntmps184
 go_wp2_with (first|(go_at_call 206;refine(ae3 _ _ _ _ _ _ _).mono ?_;rintro e w1 ⟨rfl,hb⟩;(obtain⟨hc,hf,hz⟩:=VE hb)))
 all_goals first|(refine bodyPost_ret (v:= .agg #[ae j,ae p,ae f,ae t,ae now]) ?_ rfl ⟨?_,?_⟩;(focus(simp[results,results184,go_sem,hc];done));(focus(unfold Qz;first|(simp_all;done)|(simp_all;intros;omega)|(repeat(first|rw[if_pos aj]|rw[if_neg aj]))));exact bel)|(refine bodyPost_ret (v:= .agg #[ae j,ae p,ae f,ae t,ae s]) ?_ rfl ⟨?_,?_⟩;(focus(simp[results,results184,go_sem,hc];done));(focus(unfold Qz;first|(simp_all;done)|(simp_all;intros;omega)|(repeat(first|rw[if_pos aj]|rw[if_neg aj]))));exact bel)|(refine bodyPost_ret (v:= .agg #[ae j,ae p,ae f,ae t,ae (-1)]) ?_ rfl ⟨?_,?_⟩;(focus(simp[results,results184,go_sem,hc];done));(focus(unfold Qz;first|(simp_all;done)|(simp_all;intros;omega)|(repeat(first|rw[if_pos aj]|rw[if_neg aj]))));exact bel)
def av7(l:List Rq)(n:Nat)(w:ak)(e:Ending)(w':ak):Prop:=
 ∃(xa:az) (xc:Nat) (l2:List Rq),e= .returned (.slice xa n xc)∧Hid (l2.map Rq.key=l.map Rq.key)∧Hid (n=l2.length)∧gq w' w.heap.size l2 xa xc∧Below w.heap.size w w'
theorem Own.past{cap g:Nat}{cs:aZ}(h:Own w base e size a n cap xs)(k:ah w g t cs)(hne:e≠t):a.map (·.block)≠some g:=by
 intro q;rcases h.2 with⟨hv,_⟩|⟨g',c',cur,hv,_,hh,_⟩
 ·injection hv with ha _ _
  rw[ha]at q;cases q
 ·injection hv with ha _ _
  rw[ha]at q;injection q with q
  simp only at q;subst q;unfold ah at k;rw[hh]at k;injection k with k
  injection k with _ ht
  exact hne ht
theorem Own.av8{cap g:Nat}{cs:aZ}(h:Own w base e size a n cap xs)(k:ah w g t cs)(hne:e≠t)(v0 v1 v2 v3 v4:Value):Own (((((w.setCell ⟨g,0,none⟩ v0).setCell ⟨g,1,none⟩ v1).setCell ⟨g,2,none⟩ v2).setCell ⟨g,3,none⟩ v3).setCell ⟨g,4,none⟩ v4) base e size a n cap xs:=by
 have q:=h.past k hne;exact((((h.far (p:=⟨g,0,none⟩) q _).far (p:=⟨g,1,none⟩) q _).far (p:=⟨g,2,none⟩) q _).far (p:=⟨g,3,none⟩) q _).far (p:=⟨g,4,none⟩) q _
def NU(l:List Rq)(a:az)(b1:Nat):Prop:=(∀x,a.map (·.block)=some x→x<b1)∧∀r∈l,∀x,r.a.map (·.block)=some x→x<b1
theorem gq.rlt{l:List Rq}(h:gq W B l xa xc):NU l xa W.heap.size:=⟨h.own.lt',fun r hr=>(h.dH r hr).lt'⟩
theorem gq.Gi{l:List Rq}(h:gq W B l xa xc)(hl:NU l xa b1)(hb: ∀b,B≤b→b<b1→W'.heap[b]?=W.heap[b]?):gq W' B l xa xc:=
 ⟨h.own.keep fun b e hB _=>hb b hB (hl.1 b tN),fun v hv=>(h.dH v hv).keep fun b e hB _=>hb b hB (hl.2 v hv b tN),h.ap⟩
def Lg.mark(now:Int)(l:Lg):Lg:=⟨l.ju,l.ph,l.fr,l.fB,Qz l.fr l.fB l.si now⟩
def Rq.mark(now:Int)(r:Rq):Rq:={r with dH:=r.dH.map (Lg.mark now)}
def VF(l:List Rk)(now:Int):List Rk:=l.map fun r=>(r.1,r.2.1,r.2.2.1,r.2.2.2.1,r.2.2.2.2.map (Lg.mark now))
theorem asE(l:List Rq)(now:Int):(l.map (Rq.mark now)).map Rq.key=VF (l.map Rq.key) now:=by
 simp[VF,Rq.key,Rq.mark,Function.comp_def]
theorem ae4: ∀(l:List Lg) (j:Nat) (_:j<l.length) (y:Lg),eQ (l.set j y)=(((((eQ l).set (j*5) (ae y.ju)).set (j*5+1) (ae y.ph)).set (j*5+2) (ae y.fr)).set (j*5+3) (ae y.fB)).set (j*5+4) (ae y.si)
 |p::l,0,_,y=>by simp[eQ,Lg.cells]
 |p::l,j+1,h,y=>by
  have:=ae4 l j oq y;simp only[eQ,List.flatMap_cons,lh]at this⊢;rw[this];have e: ∀k,(j+1)*5+k=j*5+k+5:=fun k=>by omega
  rw[show(j+1)*5=j*5+5 by omega];simp only[Lg.cells,List.cons_append,List.nil_append,show∀k,j*5+5+k=(j*5+k)+1+1+1+1+1 from fun k=>by omega,show j*5+5=j*5+1+1+1+1+1 by omega,lh]
theorem ao1{l:List Rq}(hi:i<l.length){r:Rq}(hr:r.cells=l[i].cells):uI (l.set i r)=uI l:=by
 have e: ∀m:List Rq,uI m=(m.map Rq.cells).flatten:=fun m=>by simp[uI,List.flatMap]
 rw[e,e,List.map_set,hr];congr 1;rw[show l[i].cells=(l.map Rq.cells)[i]' P5 by simp,List.set_getElem_self]
theorem gq.avg{l:List Rq}(h:gq W B l xa xc)(hi:i<l.length){g:Nat}(hg:l[i].a=some ⟨g,0,none⟩){j:Nat}(hj:j<l[i].dH.length)(y:Lg):
  gq (((((W.setCell ⟨g,j*5,none⟩ (ae y.ju)).setCell ⟨g,j*5+1,none⟩ (ae y.ph)).setCell ⟨g,j*5+2,none⟩ (ae y.fr)).setCell ⟨g,j*5+3,none⟩ (ae y.fB)).setCell ⟨g,j*5+4,none⟩ (ae y.si)) B (l.set i {l[i]with dH:=l[i].dH.set j y}) xa xc:=by
 have far: ∀{e:aK} {n cap:Nat} {b:az} {xs:aP},Own W B e 5 b n cap xs→b.map (·.block)≠some g→Own (((((W.setCell ⟨g,j*5,none⟩ (ae y.ju)).setCell ⟨g,j*5+1,none⟩ (ae y.ph)).setCell ⟨g,j*5+2,none⟩ (ae y.fr)).setCell ⟨g,j*5+3,none⟩ (ae y.fB)).setCell ⟨g,j*5+4,none⟩ (ae y.si)) B e 5 b n cap xs:=fun o q=>((((o.far (p:=⟨g,_,none⟩) q _).far (p:=⟨g,_,none⟩) q _).far (p:=⟨g,_,none⟩) q _).far (p:=⟨g,_,none⟩) q _).far (p:=⟨g,_,none⟩) q _;have hgb:(l[i].a).map (·.block)=some g:=by rw[hg];rfl
 refine⟨?_,?_,?_⟩
 ·rw[ao1 hi (by simp[Rq.cells]),iQ];exact far h.own fun e=>h.own.Vt (h.dH _ (bF hi)) ay g e hgb
 ·intro r hr;obtain⟨k,hk,rfl⟩:=List.mem_iff_getElem.1 hr;rw[iQ]at hk;by_cases e:k=i
  ·subst e;rw[List.getElem_set_self];simp only[iQ];have o:=h.dH _ (bF hi);rw[hg]at o⊢;rw[ae4 _ _ hj];exact((((o.set _ _).set _ _).set _ _).set _ _).set _ _
  ·rw[List.getElem_set_ne aj];refine far (h.dH _ (bF hk)) fun q=>?_;rcases Nat.lt_or_gt_of_ne e with e|e
   ·exact h.ap k i hi e g q hgb
   ·exact h.ap i k hk e g hgb q
 ·intro a b hb hab;rw[iQ]at hb;have e: ∀k (hk:k<l.length),((l.set i {l[i]with dH:=l[i].dH.set j y})[k]'(by simpa using hk)).a=l[k].a:=fun k hk=>by
   by_cases e:k=i
   ·subst e;rw[List.getElem_set_self]
   ·rw[List.getElem_set_ne aj]
  rw[e a aj,e b hb];exact h.ap a b hb hab
def av9(l:List Rk)(now:Int)(n:Nat)(w:ak)(e:Ending)(w':ak):Prop:=
 ∃(xa:az) (xc:Nat) (l2:List Rq),e= .returned (.slice xa n xc)∧Hid (l2.map Rq.key=VF l now)∧Hid (n=l2.length)∧gq w' w.heap.size l2 xa xc∧Below w.heap.size w w'
theorem aub{l2 l:List Rq}(h:l2.map Rq.key=l.map Rq.key)(hl: ∀r∈l,r.dH.length≤N): ∀r∈l2,r.dH.length≤N:=fun r hr=>by
 have:r.key∈l.map Rq.key:=by rw[←h];exact List.mem_map_of_mem hr
 obtain⟨q,hq,e⟩:=List.mem_map.1 this;have e2:q.dH=r.dH:=congrArg (fun k:Rk=>k.2.2.2.2) e;rw[←e2];exact hl q hq
theorem NU.set{l:List Rq}{X X':Rq}(h:NU (l.set i X) a b1)(e:X'.a=X.a):NU (l.set i X') a b1:=by
 refine⟨h.1,fun r hr=>?_⟩;obtain⟨k,hk,rfl⟩:=List.mem_iff_getElem.1 hr;rw[iQ]at hk;have h2:=h.2 ((l.set i X)[k]'(by rw[iQ];exact hk)) (bF _);by_cases q:k=i
 ·subst q;rw[List.getElem_set_self]at h2⊢;rw[e];exact h2
 ·rw[List.getElem_set_ne aj]at h2⊢;exact h2
theorem fH.aqI{Z:ak}{g:Nat}(h:fH Z [(g,g+1)] W)(hb:Below B w Z)(hB:B=w.heap.size)(hg:B≤g):Below B w W:=
 ⟨h.1.trans hb.os,h.2.1.trans hb.tape,h.2.2.1.trans hb.output,dA hb.size h.2.2.2.1,fun k hk=>(h.2.2.2.2 k ⟨by have:=hb.size;omega,fun r hr=>by simp at hr;subst hr;simp only;omega⟩).trans (hb.block k hk)⟩
section
variable{α:Type}(f:α→α)(l:List α)
def nO(j:Nat):List α:=(l.take j).map f++l.drop j
theorem ahh:nO f l 0=l:=by simp[nO]
theorem ahE:nO f l l.length=l.map f:=by simp[nO]
theorem Iq(j:Nat):(nO f l j).length=l.length:=by simp[nO];omega
theorem U1(j:Nat)(h:j<l.length):(nO f l j)[j]'(by rw[Iq];exact h)=l[j]:=by
 have h1:((l.take j).map f).length=j:=by simp;omega
 simp only[nO];rw[List.getElem_append_right aj];have e:j+(j -((l.take j).map f).length)=j:=by omega
 simp only[List.getElem_drop,e]
theorem asF{l:List α}(h:i<l.length){x:α}(hx:l[i]=x):l=l.set i x:=by subst hx;exact(List.set_getElem_self _).symm
theorem ahF(j:Nat)(h:j<l.length):(nO f l j).set j (f l[j])=nO f l (j+1):=by
 have h1:((l.take j).map f).length=j:=by simp;omega
 unfold nO;rw[List.set_append_right _ _ aj,h1,Nat.sub_self,←List.take_append_getElem h,jg,uM,List.drop_eq_getElem_cons h];rfl
end
def dI(n:Nat):aJ:=if h:n<128 then [UInt8.ofNat n]else UInt8.ofNat (n % 128+128)::dI (n/128)
termination_by n
decreasing_by omega
theorem Ey(h:n<128):dI n= [UInt8.ofNat n]:=by rw[dI,dif_pos h]
theorem J6(h:128≤n):dI n=UInt8.ofNat (n % 128+128)::dI (n/128):=by rw[dI,dif_neg aj]
theorem U2(n:Nat):1≤(dI n).length:=by
 by_cases h:n<128
 ·rw[Ey h];simp
 ·rw[J6 aj];simp
theorem asJ(k:Nat): ∀n,n<128 ^ (k+1)→(dI n).length≤k+1:=by
 induction k with
 |zero=>intro n h;rw[Ey oq];simp
 |succ k ih=>
  intro n h;by_cases h1:n<128
  ·rw[Ey h1];simp
  ·rw[J6 aj];have:=ih (n/128) (by rw[Nat.div_lt_iff_lt_mul aj];rw[←Nat.pow_succ];exact h);simp;omega
theorem F8(h:n≤4294967295):(dI n).length≤5:=asJ 4 n aj
def EK(n:Int):Int:=if 0≤n∧n≤4294967295 then((dI n.toNat).length:Int)else 0
def wW:aJ→Nat→Nat→Option (Nat × Nat)
 |[],_,_=>none
 |x::l,i,acc=>if i=5 then none else if 128≤x.toNat then wW l (i+1) (acc+x.toNat % 128*128 ^ i)
  else if 4294967295<acc+x.toNat*128 ^ i∨(0<i∧x.toNat=0)then none else some (acc+x.toNat*128 ^ i,i+1)
def BC(l:aJ):Option (Nat × Nat):=wW l 0 0
theorem ZG{x:UInt8}(hi:i≠5)(hx:128≤x.toNat):wW (x::l) i acc=wW l (i+1) (acc+x.toNat % 128*128 ^ i):=by
 rw[wW,if_neg hi,if_pos hx]
theorem ahG:wW l 5 acc=none:=by
 cases l with
 |nil=>rfl
 |cons x l=>rw[wW,if_pos rfl]
theorem Z_{x:UInt8}(hx:x.toNat<128)(h:4294967295<acc+x.toNat*128 ^ i∨(0<i∧x.toNat=0)):wW (x::l) i acc=none:=by
 rw[wW];by_cases hi:i=5
 ·rw[if_pos hi]
 ·rw[if_neg hi,if_neg aj,if_pos h]
theorem ZZ{x:UInt8}(hi:i≠5)(hx:x.toNat<128)(h: ¬ (4294967295<acc+x.toNat*128 ^ i∨(0<i∧x.toNat=0))):wW (x::l) i acc=some (acc+x.toNat*128 ^ i,i+1):=by
 rw[wW,if_neg hi,if_neg aj,if_neg h]
theorem aBB(i:Nat): ∀acc x,acc<128 ^ i→x<128→(i=0∨x≠0)→(dI (acc+x*128 ^ i)).length=i+1:=by
 induction i with
 |zero=>intro acc x h1 h2 _;rw[Ey (by simp at h1⊢;omega)];simp
 |succ i ih=>
  intro acc x h1 h2 h3;have hx:x≠0:=by rcases h3 with h|h;omega;exact h
  have hp:0<128 ^ i:=Nat.pow_pos aj;have h128:128≤acc+x*128 ^ (i+1):=by
   rw[Nat.pow_succ];have:1*(128 ^ i*128)≤x*(128 ^ i*128):=Nat.mul_le_mul_right _ aj;omega
  have hd:(acc+x*128 ^ (i+1))/128=acc/128+x*128 ^ i:=by
   rw[Nat.pow_succ,←Nat.mul_assoc,Nat.add_mul_div_right _ _ aj]
  rw[J6 h128,jJ,hd,ih (acc/128) x (by rw[Nat.div_lt_iff_lt_mul aj,←Nat.pow_succ];exact h1) h2 (.inr hx)]
theorem auc(m:aJ): ∀n i acc,acc<128 ^ i→acc+n*128 ^ i≤4294967295→(0<i→n≠0)→wW (dI n++m) i acc=some (acc+n*128 ^ i,i+(dI n).length):=by
 intro n
 induction n using Nat.strongRecOn with
 |ind n ih=>
  intro i acc h1 h2 h3;have hp:0<128 ^ i:=Nat.pow_pos aj;have hi:i≠5:=by
   rintro rfl;have:1*128 ^ 5≤n*128 ^ 5:=Nat.mul_le_mul_right _ (by have:=h3 aj;omega);omega
  by_cases h:n<128
  ·rw[Ey h];have hn:(UInt8.ofNat n).toNat=n:=by simp;omega
   rw[List.singleton_append,ZZ hi (by rw[hn];exact h) (by rw[hn];omega),hn];simp
  ·rw[J6 aj];have hn:(UInt8.ofNat (n % 128+128)).toNat=n % 128+128:=by simp;omega
   rw[List.cons_append,ZG hi (by rw[hn];omega),hn];have e1:(n % 128+128) % 128=n % 128:=by omega
   have e2:acc+n % 128*128 ^ i+n/128*128 ^ (i+1)=acc+n*128 ^ i:=by
    rw[Nat.pow_succ,Nat.mul_comm (128 ^ i) 128,←Nat.mul_assoc,Nat.add_assoc,←Nat.add_mul];congr 2;omega
   rw[e1,ih (n/128) aj (i+1) _ ?_ (by rw[e2];exact h2) aj,e2]
   ·simp;omega
   ·rw[Nat.pow_succ];have:n % 128*128 ^ i≤127*128 ^ i:=Nat.mul_le_mul_right _ aj;omega
theorem asK(h:n≤4294967295)(m:aJ):BC (dI n++m)=some (n,(dI n).length):=by
 have:=auc m n 0 0 aF oq aj;simpa [BC]using this
theorem asL: ∀l i acc v k,acc<128 ^ i→wW l i acc=some (v,k)→∃n j,v=acc+n*128 ^ i∧k=i+j∧(0<i→n≠0)∧v≤4294967295∧j≤l.length∧l.take j=dI n:=by
 intro l
 induction l with
 |nil=>intro i acc v k _ h;simp[wW]at h
 |cons x l ih=>
  intro i acc v k h1 h;have hp:0<128 ^ i:=Nat.pow_pos aj;by_cases hi:i=5
  ·subst hi;rw[ahG]at h;cases h
  by_cases hx:128≤x.toNat
  ·rw[ZG hi hx]at h;have hlt:acc+x.toNat % 128*128 ^ i<128 ^ (i+1):=by
    rw[Nat.pow_succ];have:x.toNat % 128*128 ^ i≤127*128 ^ i:=Nat.mul_le_mul_right _ aj;omega
   obtain⟨n,j,e1,e2,e3,e4,e5,e6⟩:=ih (i+1) _ v k hlt h;have hn:n≠0:=e3 aj;have hxl:=x.toNat_lt;refine⟨x.toNat % 128+n*128,j+1,?_,by omega,by omega,e4,by simpa using e5,?_⟩
   ·rw[e1,Nat.pow_succ,Nat.add_mul,Nat.mul_comm (128 ^ i) 128,←Nat.mul_assoc,Nat.add_assoc]
   ·rw[J6 aj,List.take_succ_cons,e6];have a1:(x.toNat % 128+n*128) % 128=x.toNat % 128:=by omega
    have a2:(x.toNat % 128+n*128)/128=n:=by omega
    rw[a1,a2];congr 1;apply UInt8.toNat_inj.1;simp;omega
  ·by_cases hb:4294967295<acc+x.toNat*128 ^ i∨(0<i∧x.toNat=0)
   ·rw[Z_ aj hb]at h;cases h
   ·rw[ZZ hi aj hb]at h;injection h with h
    injection h with h2 h3
    refine⟨x.toNat,1,h2.symm,h3.symm,by omega,by omega,by simp,?_⟩;rw[Ey aj];simp
theorem ahj{v:Nat}(h:BC l=some (v,k)):v≤4294967295∧k≤l.length∧l.take k=dI v∧k=(dI v).length:=by
 obtain⟨n,j,e1,e2,_,e4,e5,e6⟩:=asL l 0 0 v k aF h;simp at e1 e2;subst e1 e2;refine⟨e4,e5,e6,?_⟩;rw[←e6];simp;omega
structure jZ where
 tok:Int
 fix:Int
 grp:Int
 lo:Int
 hi:Int
 dat:Int
def NV(k:Int):Int:=if k=2 then 3 else if k=20 then 4 else if k=4∨k=13∨k=14∨k=15 then 2 else if k=3∨k=5∨k=8∨k=10∨k=11∨k=22 then 1 else 0
def cZ(k:Int):jZ:=
 if k=6 then⟨10,3,4,1,3,0⟩else if k=7 then⟨10,1,2,1,3,0⟩else if k=16 then⟨0,1,0,0,0,10⟩else if k=17∨k=21 then⟨0,1,0,0,0, -1⟩
 else if k=18 then⟨0,1,3,0,16,0⟩else if k=19 then⟨0,0,2,0,4,0⟩else⟨if k≤12 then 10 else 0,NV k,0,0,0,0⟩
def jZ.agg(s:jZ):Value:= .agg #[ae s.tok,ae s.fix,ae s.grp,ae s.lo,ae s.hi,ae s.dat]
def jZ.ajo(s:jZ):Value:= .agg #[ae s.fix,ae s.grp,ae s.lo,ae s.hi,ae s.dat]
structure KF(s:jZ):Prop where
 tok:s.tok=0∨s.tok=10
 fix:0≤s.fix∧s.fix≤4
 grp:0≤s.grp∧s.grp≤4
 lo:0≤s.lo∧s.lo≤1
 hi:s.lo≤s.hi∧s.hi≤16∧(s.grp=0→s.hi=0)
 dat:s.dat= -1∨s.dat=0∨s.dat=10
theorem CX(k:Int):KF (cZ k):=by
 have fb:0≤NV k∧NV k≤4:=by unfold NV;repeat' split<;>omega
 unfold cZ
 repeat' split
 all_goals constructor<;>simp only<;>first|omega|(simp;done)|(repeat' split)<;>omega
theorem ahk{k:Int}(h1:1≤k)(h2:k≤22):(cZ k).tok=if k≤12 then 10 else 0:=by
 unfold cZ
 repeat' split
 all_goals first|rfl|(simp only;omega)|(exfalso;omega)
structure aU where
 kind:Int
 tok:aJ
 args:aO
 dat:aJ
def xR(n:Int):Prop:=0≤n∧n≤4294967295
instance(n:Int):Decidable (xR n):=by unfold xR;exact inferInstance
def mY(s:jZ)(A:Int):Int:=if s.grp=0 then 0 else(A -s.fix)/s.grp
def iD(s:jZ)(A:Int):Prop:=if s.grp=0 then A=s.fix else s.fix≤A∧(A -s.fix) % s.grp=0∧s.lo≤(A -s.fix)/s.grp∧(A -s.fix)/s.grp≤s.hi
instance(s:jZ)(A:Int):Decidable (iD s A):=by unfold iD;exact inferInstance
def fP(s:jZ)(g:Int)(i:Nat):aJ:=if(i:Int)=s.fix∧0<s.grp then dI g.toNat else []
def mi(s:jZ)(g:Int):Nat→aO→aJ
 |i,[]=>fP s g i
 |i,n::l=>fP s g i++(dI n.toNat++mi s g (i+1) l)
def aU.pay(m:aU):aJ:=m.tok++mi (cZ m.kind) (mY (cZ m.kind) m.args.length) 0 m.args++m.dat
structure aU.Ok(m:aU):Prop where
 kind:1≤m.kind∧m.kind≤22
 tok:(m.tok.length:Int)=(cZ m.kind).tok
 dat:(cZ m.kind).dat= -1∨(m.dat.length:Int)=(cZ m.kind).dat
 grp:iD (cZ m.kind) m.args.length
 aaY:m.dat.length≤200
 args: ∀n∈m.args,xR n
 EO:m.pay.length≤200
theorem U_{s:jZ}{A:Int}(hs:KF s)(h:iD s A):0≤mY s A∧mY s A≤16:=by
 have h1:=hs.lo;have h2:=hs.hi;unfold iD at h;unfold mY
 split
 ·omega
 ·rename_i hg;rw[if_neg hg]at h;omega
theorem agE(n:Int)(w:ak):aH 153 #[ae n] w fun e w'=>e= .returned (ae (EK n))∧w=w':=by
 by_cases h:0≤n∧n≤4294967295
 ·obtain⟨h1,h2⟩:=h;have HV:=ax (show EK n=((dI n.toNat).length:Int)by rw[EK,if_pos ⟨h1,h2⟩]);have H5:=F8 (n:=n.toNat) aj
  go_enter func153,ntmps153
  go_wp2
  go_loop [0,3] (fun m s=> ∃k j:Nat,(k:Int)≤4294967295∧m=ae k∧s=ae j∧j+(dI k).length=1+(dI n.toNat).length) (fun m _=>(intOf m).toNat)
  case atStart=>exact⟨n.toNat,1,by omega,by rw[Int.toNat_of_nonneg h1],rfl,rfl⟩
  case round=>
   obtain⟨k,j,hk,rfl,rfl,hj⟩:=hrel;have hp:=U2 k;by_cases hlt:128≤k
   ·have hs:(dI k).length=(dI (k/128)).length+1:=by rw[J6 hlt];rfl
    have hjl:j≤5:=by omega
    have HJ:=ax hj;have HS:=ax hs;clear hj hs hp H5
    go_wp2
    go_round
    case rel=>exact⟨k/128,j+1,by omega,by go_num,by go_num,by have:=HJ.out;have:=HS.out;omega⟩
    case measure=>simp[intOf];omega
   ·have he:(dI k).length=1:=by rw[Ey aj];rfl
    have HE:Hid (j=(dI n.toNat).length):=by show j=_;omega
    clear hj he hp H5
    go_wp2
    go_ret;exact⟨yT (by rw[HV.out,HE.out]),rfl⟩
 ·have HV:=ax (show EK n=0 by rw[EK,if_neg h]);by_cases h1:n<0
  all_goals
   go_enter func153,ntmps153
   go_wp2
   go_ret;exact⟨yT (by rw[HV.out]),rfl⟩
theorem asN(k:Nat):bits .or .u8 ((k:Int) % 128) 128=((UInt8.ofNat (k % 128+128)).toNat:Int):=by
 have hh: ∀j:Fin 128,bits .or .u8 (j.val:Int) 128=((UInt8.ofNat (j.val+128)).toNat:Int):=by decide+kernel
 have:=hh ⟨k % 128,by omega⟩;simpa using this
theorem arz(k:Nat)(h:k<128):(k:Int)=((UInt8.ofNat k).toNat:Int):=by simp;omega
def ajp(n:Int)(w:ak)(e:Ending)(w':ak):Prop:=
 (0≤n∧n≤4294967295∧∃a L cap,e= .returned (.tuple #[.slice a L cap,ae 0])∧L=(dI n.toNat).length∧Own w' w.heap.size 5 1 a L cap ((dI n.toNat).map a_)∧Below w.heap.size w w')∨
 (¬ (0≤n∧n≤4294967295)∧e= .returned (.tuple #[.slice none 0 0,ae 8])∧Below w.heap.size w w')
theorem afa{P:Prop}(h:P:=by
 go_wp2_with (first|(at_builtin;refine J_ rfl _ _ rfl w.heap.size _ _ cap l rfl (UInt8.ofNat k) _ rfl own (arz k aj) (N+1) rfl aj hbel.size ?_;intro b' cap' w1 own' g1 BO))
 go_ret2
 have hfin:l++ [UInt8.ofNat k]=dI n.toNat:=by rw[←HL.out,Ey aj]
 rw[hfin]at own';exact .inl ⟨h1,h2,b',N+1,cap',rfl,by rw[←hfin];simp[HN.out],own',BO w hbel⟩):P:=h
theorem afb{P:Prop}(h:P:=by
 go_roundw
 case rel=>exact⟨k/128,l++ [UInt8.ofNat (k % 128+128)],b',N+1,cap',by omega,by go_num,rfl,own',BO w hbel,by simp[HN.out],by rw[uM,←HL.out,J6 hlt];rfl⟩
 case measure=>simp[intOf];omega):P:=h
theorem aew(n:Int)(w:ak):aH 172 #[ae n] w (ajp n w):=by
 by_cases h:0≤n∧n≤4294967295
 ·obtain⟨h1,h2⟩:=h;have H5:=F8 (n:=n.toNat) aj;have hmk: ∀w:ak,(Instr.makeSlice 30 (ae 0) (ae 5)).run prog w= .ok (.slice (some ⟨w.heap.size,0,none⟩) 0 5) (w.alloc (.cells #[.int .u8 0,.int .u8 0,.int .u8 0,.int .u8 0,.int .u8 0] 5)):=fun _=>by kernel_rfl
  go_enter func172,ntmps172
  go_wp2
  go_loopw [0,4] (fun m v wr=> ∃(k:Nat) (l:aJ) (b:az) (N cap:Nat),(k:Int)≤4294967295∧m=ae k∧v= .slice b N cap∧Own wr w.heap.size 5 1 b N cap (l.map a_)∧Below w.heap.size w wr∧N=l.length∧l++dI k=dI n.toNat) (fun m _ _=>(intOf m).toNat)
  case atStart=>exact⟨n.toNat,[],_,0,5,by omega,by rw[Int.toNat_of_nonneg h1],rfl,Qb w _ _ 1 5 rfl ay,bel,rfl,rfl⟩
  case round=>
   obtain⟨k,l,b,N,cap,hk,rfl,rfl,own,hbel,hN,hl⟩:=hrel;have hlen:l.length+(dI k).length≤5:=by rw[←hl,dP]at H5;exact H5
   have hN5:N≤5:=by omega
   have HL:=ax hl;have HN:=ax hN;clear hl hlen hN;by_cases hlt:128≤k
   ·have ha:bits .and .i64 (k:Int) 127=((k % 128:Nat):Int):=by
     rw[show(127:Int)=((127:Nat):Int) from rfl,atX k 127 aj aj];exact congrArg _ (Nat.and_two_pow_sub_one_eq_mod k 7)
    go_wp2_with (first|(at_builtin;refine J_ rfl _ _ rfl w.heap.size _ _ cap l rfl (UInt8.ofNat (k % 128+128)) _ rfl own (asN k) (N+1) rfl aj hbel.size ?_;intro b' cap' w1 own' g1 BO))
    exact afb
   ·exact afa
 ·by_cases h1:n<0
  all_goals
   go_enter func172,ntmps172
   go_wp2
   go_ret2
   exact .inr ⟨h,rfl,bel⟩
theorem asO{n:Int}(h: ¬ (0≤n∧n≤4294967295)):EK n=0:=by rw[EK,if_neg h]
theorem arA{n:Int}(h1:0≤n)(h2:n≤4294967295):EK n=((dI n.toNat).length:Int):=by rw[EK,if_pos ⟨h1,h2⟩]
theorem asP(k:Nat):((k:Int) % 128+128) % 256=((UInt8.ofNat (k % 128+128)).toNat:Int):=by simp
theorem arB(k:Nat):(k:Int) % 128+128=((UInt8.ofNat (k % 128+128)).toNat:Int):=by simp;omega
theorem ao3(n:Int)(w:ak):aH 118 #[ae n] w (ajp n w):=by
 by_cases h:0≤n∧n≤4294967295
 ·obtain⟨h1,h2⟩:=h;have H5:=F8 (n:=n.toNat) aj;have hz:(EK n==0)=false:=by rw[arA h1 h2,iL];have:=U2 n.toNat;omega
  go_enter func118,ntmps118
  go_wp2_with (first|(go_at_call 153;refine(agE _ _).mono ?_;rintro e w' ⟨rfl,rfl⟩))
  go_loopw [0,4] (fun m v wr=> ∃(k:Nat) (l:aJ) (b:az) (N cap:Nat),(k:Int)≤4294967295∧m=ae k∧v= .slice b N cap∧Own wr w.heap.size 5 1 b N cap (l.map a_)∧Below w.heap.size w wr∧N=l.length∧l++dI k=dI n.toNat) (fun m _ _=>(intOf m).toNat)
  case atStart=>exact⟨n.toNat,[],none,0,0,by omega,by rw[Int.toNat_of_nonneg h1],rfl,Own.nil _ _ _ _,bel,rfl,rfl⟩
  case round=>
   obtain⟨k,l,b,N,cap,hk,rfl,rfl,own,hbel,hN,hl⟩:=hrel;have hlen:l.length+(dI k).length≤5:=by rw[←hl,dP]at H5;exact H5
   have hN5:N≤5:=by omega
   have HL:=ax hl;have HN:=ax hN;clear hl hlen hN;by_cases hlt:128≤k
   ·go_wp2_with (first|(at_builtin;refine J_ rfl _ _ rfl w.heap.size _ _ cap l rfl (UInt8.ofNat (k % 128+128)) _ rfl own (by first|exact asP k|exact arB k) (N+1) rfl aj hbel.size ?_;intro b' cap' w1 own' g1 BO))
    exact afb
   ·exact afa
 ·have hz:=asO h
  go_enter func118,ntmps118
  go_wp2_with (first|(go_at_call 153;refine(agE _ _).mono ?_;rintro e w' ⟨rfl,rfl⟩))
  go_ret2
  exact .inr ⟨h,rfl,bel⟩
theorem avi(x:UInt8):bits .and .u8 (x.toNat:Int) 127=((x.toNat % 128:Nat):Int):=by
 have:=x.toNat_lt;rw[show(127:Int)=((127:Nat):Int) from rfl,u8_and_nat _ _ aj aj];exact congrArg _ (Nat.and_two_pow_sub_one_eq_mod x.toNat 7)
theorem avj(acc m k:Nat)(h:acc<128 ^ k)(hb:acc+m*128 ^ k<9223372036854775808):bits .or .i64 (acc:Int) ((m*128 ^ k:Nat):Int)=((acc+m*128 ^ k:Nat):Int):=by
 rw[aiF _ _ aj aj];have e:(128:Nat) ^ k=2 ^ (7*k):=by rw[Nat.pow_mul]
 rw[e]at h⊢;congr 1;rw[Nat.mul_comm m,Nat.or_comm,Nat.add_comm];exact(Nat.two_pow_add_eq_or_of_lt h m).symm
theorem asQ{x:Nat}(h:acc<128 ^ k):acc+x % 128*128 ^ k<128 ^ (k+1):=by
 rw[Nat.pow_succ];have:x % 128*128 ^ k≤127*128 ^ k:=Nat.mul_le_mul_right _ aj;omega
theorem aud(h:k≤4):128 ^ (k+1)≤34359738368:=by
 calc 128 ^ (k+1)≤128 ^ 5:=Nat.pow_le_pow_right aj aj
  _=34359738368:=by decide
theorem arC(x:UInt8)(h:acc<128 ^ k)(hk:k≤4): ∃M A:Nat,((x.toNat:Int) % 128*2 ^ (7*k)=(M:Int))∧(M:Int)≤34359738368∧bits .or .i64 (acc:Int) (M:Int)=(A:Int)∧Hid (A=acc+x.toNat % 128*128 ^ k)∧Hid (A<128 ^ (k+1)):=by
 have h1:=asQ (x:=x.toNat) h;have h2:=aud hk;refine⟨x.toNat % 128*128 ^ k,acc+x.toNat % 128*128 ^ k,?_,by omega,avj _ _ _ h aj,rfl,h1⟩;have e:(2:Int) ^ (7*k)=((128 ^ k:Nat):Int):=by
  rw[Int.pow_mul];simp
 rw[e];simp
def QL(l:aJ):Value:=match BC l with
 |some (v,k)=> .tuple #[ae v,ae k,ae 0]
 |none=> .tuple #[ae 0,ae 0,ae 6]
theorem Zu{v:Nat}(h:BC l=some (v,k)):QL l= .tuple #[ae v,ae k,ae 0]:=by rw[QL,h]
theorem P7(h:BC l=none):QL l= .tuple #[ae 0,ae 0,ae 6]:=by rw[QL,h]
theorem Un{P:Prop}(h:P:=by
 go_wp2
 refine bodyPost_ret (v:= .tuple #[ae 0,ae 0,ae 6]) (by simp[results,results117,go_sem]) rfl ⟨by rw[HF.out],rfl⟩):P:=h
theorem afc{P:Prop}(h:P:=by
 go_wp2
 refine bodyPost_ret (v:= .tuple #[ae A,ae (k+1),ae 0]) (by simp[results,results117,go_sem]) rfl ⟨by rw[HF.out];rfl,rfl⟩):P:=h
theorem aex(a:az)(l:aJ)(n cap:Nat)(w:ak)(hb:bI w a l)(hn:n=l.length)(hl:l.length≤9223372036854775807):
  aH 117 #[.slice a n cap] w fun e w'=>e= .returned (QL l)∧w=w':=by
 subst hn
 go_enter func117,ntmps117
 go_wp2
 go_loop [5,10] (fun s i=> ∃k acc:Nat,k≤l.length∧k≤5∧i=ae k∧s=ae acc∧acc<128 ^ k∧wW (l.drop k) k acc=BC l) (fun _ i=>6 -(intOf i).toNat)
 case atStart=>exact⟨0,0,by omega,by omega,rfl,rfl,by simp,rfl⟩
 case round=>
  obtain⟨k,acc,hk,hk5,rfl,rfl,hacc,hv⟩:=hrel;have HV:=ax hv;have HA:=ax hacc;clear hv hacc;by_cases hlt:k<l.length
  ·rcases hb.open with rfl|⟨b,off,rfl,hbl,hc⟩
   ·simp at hlt
   have hc0:=hc k hlt;clear hc;obtain⟨x,hx⟩: ∃x:UInt8,l[k]=x:=⟨_,rfl⟩;rw[hx]at hc0;have HD:=ax (show l.drop k=x::l.drop (k+1)by rw[←hx];exact List.drop_eq_getElem_cons hlt);clear hx;have hx1:(x.toNat:Int)<256:=by have:=x.toNat_lt;omega
   by_cases h5:k=5
   ·have h5':((k:Int)==5)=true:=by rw[beq_iff_eq];omega
    have HF:=ax (P7 (l:=l) (by rw[←HV.out,h5,ahG]));clear h5;exact Un
   ·have h5':((k:Int)==5)=false:=by rw[iL];omega
    have hk4:k≤4:=by omega
    obtain⟨M,A,fm,hM,fo,HA1,HA2⟩:=arC x HA.out hk4;have fa:=avi x;by_cases c1:128≤(x.toNat:Int)
    ·go_wp2
     go_round
     case rel=>exact⟨k+1,A,by omega,by omega,by go_num,rfl,HA2.out,by rw[←HV.out,HD.out,ZG h5 aj,←HA1.out]⟩
     case measure=>simp[intOf];omega
    ·have hxm:x.toNat % 128=x.toNat:=by omega
     by_cases c2:4294967295<(A:Int)
     ·have HF:=ax (P7 (l:=l) (by rw[←HV.out,HD.out,Z_ aj (.inl (by have:=HA1.out;rw[hxm]at this;omega))]));clear hxm;exact Un
     ·by_cases c3:0<k
      ·by_cases c4:x.toNat=0
       ·have c4':((x.toNat:Int)==0)=true:=by rw[beq_iff_eq];omega
        have HF:=ax (P7 (l:=l) (by rw[←HV.out,HD.out,Z_ aj (.inr ⟨c3,c4⟩)]));clear hxm c4;exact Un
       ·have c4':((x.toNat:Int)==0)=false:=by rw[iL];omega
        have HF:=ax (Zu (l:=l) (v:=A) (k:=k+1) ag0);clear hxm c4;exact afc
      ·have HF:=ax (Zu (l:=l) (v:=A) (k:=k+1) ag0);clear hxm;exact afc
  ·have HF:=ax (P7 (l:=l) (by rw[←HV.out,List.drop_eq_nil_of_le aj,wW]));exact Un
def auf(l:List Tk)(n:Nat)(w:ak)(e:Ending)(w':ak):Prop:=
 ∃(xa:az) (xc:Nat) (l2:List Tk),e= .returned (.slice xa n xc)∧Hid (l2.map Tk.key=l.map Tk.key)∧Hid (n=l2.length)∧lL w' w.heap.size l2 xa xc∧Below w.heap.size w w'
theorem awf{a:Act}(hgd:o.guard=none)(s x:Operand)(ho:o.op= .call {callee:= .builtin .append,args:= #[s,x],argTypes:= #[80,80]})
  (base:Nat) (b:az) (n cap:Nat) (k:List Tk) (hs:a.eval s= .slice b n cap) (A:az) (m c:Nat) (l:List Tk) (hx:a.eval x= .slice A m c) (own:Own w base 260 6 b n cap (jP k)) (hr:Row w A (jP l)) (hm:m=l.length) (hbase:base≤w.heap.size) (hbig:n+m≤1000000)
  (h: ∀b' cap' w',Own w' base 260 6 b' (n+m) cap' (jP (k++l))→Grew base w w' b b'→wpList prog ops Q rest (a.put o.dst (.slice b' (n+m) cap')) w'):wpList prog ops Q (o::rest) a w:=by
 obtain⟨i0,hi,hz0,hz1,hz2⟩:=info_parts ahL;refine zL _ hgd s x _ ho base _ i0 _ 6 64 underlying80 hi hz0 hz1 hz2 rfl ay b n cap _ hs A m c hx own (jP l) (by rw[MQ,hm]) hr (apI l) tK aj hbase ?_;intro b' cap' w' own' g;exact h b' cap' w' (by rw[aoa];exact own') g
theorem as6(a:az)(n c:Nat)(l:List Tk)(w:ak)(hb:Row w a (jP l))(hn:n=l.length)(hl:n≤100000)(ha:a=none→c=0):
  aH 157 #[.slice a n c] w fun e w'=> ∃(a':az) (c':Nat),e= .returned (.slice a' n c')∧Own w' w.heap.size 260 6 a' n c' (jP l)∧Below w.heap.size w w':=by
 have HN:=ax hn;clear hn;have hnil:=fun(w:ak) (a:az) (n c:Nat)=>Lib.run_eql_slice_nil (P:=prog) w 80 260 a n c 0 0 underlying80;cases a with
 |none=>
  obtain rfl:=ha rfl;have h0:=hb.of_none;have hl0:l= []:=by
   have:=MQ l;rw[h0]at this;exact Gp (by simp at this;omega)
  subst hl0;obtain rfl:n=0:=HN.out
  go_enter func157,ntmps157
  go_wp2
  go_ret;exact⟨none,0,rfl,Own.nil _ _ _ _,Below.refl _ _⟩
 |some ad=>
  go_enter func157,ntmps157
  go_wp2_with ((at_builtin;refine awf rfl _ _ rfl w.heap.size (some ⟨w.heap.size,0,none⟩) 0 0 [] rfl (some ad) n c l rfl (Qb _ #[] _ 6 0 rfl (by simp[maxLen])) (hb.alloc _) HN.out aF aj ?_;intro b' cap' w3 jE g3;rw[dX]at jE⊢))
  go_ret;exact⟨_,_,rfl,by simpa using jE,Grew.below (Below.alloc bD aA _) g3 PV⟩
theorem aeJ: ∀(l:List Tk) (j:Nat) (h:j<l.length) (y:Tk) (c:Nat) (v:Value) (_:c<6) (_:y.cells=l[j].cells.set c v),jP (l.set j y)=(jP l).set (j*6+c) v
 |p::l,0,_,y,c,v,hc,e=>by
  simp only[jP,jX,List.flatMap_cons,List.getElem_cons_zero]at e⊢;rw[e,Nat.zero_mul,dX,List.set_append_left _ _ UJ]
 |p::l,j+1,h,y,c,v,hc,e=>by
  have:=aeJ l j oq y c v hc (by simpa using e);simp only[jP,List.flatMap_cons,lh]at this⊢;rw[this,List.set_append_right _ _ UJ];congr 2;simp[Tk.cells];omega
def ai4(t:Tk):Prop:=(t.a=none→t.sec.length=0∧t.c=0)∧t.sec.length≤100000
theorem aui{α:Type}(l2 r:List α)(x y:α):(l2++x::r).set l2.length y=l2++ [y]++r:=by simp
theorem apJ(a:az)(l:List Tk)(n c:Nat)(w:ak)(h:DY w a l)(hn:n=l.length)(l9:n≤1000)(hnil:a=none→c=0)(hl: ∀t∈l,ai4 t):
  aH 195 #[.slice a n c] w (auf l n w):=by
 have HN:=ax hn;clear hn
 go_enter func195,ntmps195
 go_upto_region 2 with((go_at_call 157;refine(as6 a n c l _ h.row HN.out aj hnil).mono ?_;rintro e w2 ⟨xa,xc,rfl,own,hb⟩))
 go_wp2_with fail
 go_loopw [9] (fun s9 wr=> ∃(i:Nat) (l2:List Tk),s9=ae i∧i≤n∧Hid (l2.length=i)∧Hid (l2.map Tk.key=(l.take i).map Tk.key)∧Own wr w.heap.size 260 6 xa n xc (jP (l2++l.drop i))∧(∀t∈l2,Own wr w.heap.size 5 1 t.a t.sec.length t.c (t.sec.map a_))∧Below w.heap.size w wr) (fun s _=>n -(intOf s).toNat)
 case atStart=>exact⟨0,[],rfl,by omega,ax rfl,ax rfl,by simpa using own,by simp,hb⟩
 case round=>
  clear own hb;obtain⟨i,l2,rfl,hi,h2,hk,own,secs,be⟩:=hrel;by_cases hlt:i<n
  ·have hil:i<l.length:=by rw[←HN.out];exact hlt
   have kx:(i:Int)<(n:Int):=by omega
   have hdr:l.drop i=l[i]::l.drop (i+1):=List.drop_eq_getElem_cons hil;have yZ:=(h.below be aA).sec _ (bF hil);have hok:=hl _ (bF hil);have Ff:=ax (show(l.take (i+1)).map Tk.key=(l.take i).map Tk.key++ [l[i].key]by rw[←List.take_append_getElem hil,jg];rfl);obtain⟨x,hx⟩:=aI (l[i]);rw[hx]at hdr yZ hok Ff;rw[hdr]at own;clear hx hdr;obtain⟨g,rfl,gB, -⟩:=own.open_ aj;have hi2:i<(l2++x::l.drop (i+1)).length:=by rw[dP,h2.out];simp
   have hxi:(l2++x::l.drop (i+1))[i]=x:=by
    have e:=h2.out;rw[List.getElem_append_right aj];simp[e]
   obtain⟨-,x1, -, -, -, -,xl⟩:=EC own.row i hi2;rw[hxi]at x1;simp only[dX]at x1;obtain⟨us,sec,par,rt,cl,un,la,lc⟩:=x;obtain⟨hok1,hok2⟩:=hok;simp only at x1 yZ hok1 hok2;have HXI:=ax hxi;have HOWN:=ax own;have HI2:=ax hi2;clear hxi own
   go_wp2_with (go_at_call 71;refine(Ez la sec.length lc sec _ yZ rfl aj hok1).mono ?_;rintro e w4 ⟨ob,oc,rfl,awR,hb4⟩;((have own4:=HOWN.out.keep (w':=w4) fun b _ _ hl=>hb4.block b hl);(obtain⟨-,z1, -, -, -, -,zl⟩:=EC own4.row i HI2.out);(simp only[dX]at z1);(have zf:=own4.frozen)))
   have e:=h2.out;have aa1:=own4.set (i*6+1) (.slice ob sec.length oc);rw[←aeJ _ i HI2.out ⟨us,sec,par,rt,cl,un,ob,oc⟩ 1 (.slice ob sec.length oc) ay (by rw[HXI.out];rfl)]at aa1;have hset:(l2++⟨us,sec,par,rt,cl,un,la,lc⟩::l.drop (i+1)).set i ⟨us,sec,par,rt,cl,un,ob,oc⟩=l2++ [⟨us,sec,par,rt,cl,un,ob,oc⟩]++l.drop (i+1):=by rw[←e];exact aui _ _ _ _
   rw[hset]at aa1;have far: ∀{m cap:Nat} {b:az} {xs:aP},Own w4 w.heap.size 5 1 b m cap xs→Own (w4.setCell ⟨g,i*6+1,none⟩ (.slice ob sec.length oc)) w.heap.size 5 1 b m cap xs:=fun o=>o.far (p:=⟨g,_,none⟩) (fun q=>own4.Vt o ay g rfl q) _;have be4:Below w.heap.size w w4:=bel;go_roundw
   case rel=>exact⟨i+1,l2++ [⟨us,sec,par,rt,cl,un,ob,oc⟩],by go_num,by omega,ax (by simp[e]),ax (by rw[jg,hk.out,Ff.out];rfl),aa1,fun t ht=>by
    rcases lW.1 ht with q|q
    ·exact far ((secs t q).keep fun b _ _ hl=>hb4.block b hl)
    ·rw[dU.1 q];exact far (awR.mono be.size),be4.grown (grownBy_set _ g _ _) be4.size bQ⟩
   case measure=>simp[intOf];omega
  ·obtain rfl:i=n:=by omega
   have HD:Hid (l.drop i= []):=ax (List.drop_of_length_le (by rw[←HN.out];omega));rw[HD.out,iK]at own
   go_wp2_with fail
   go_ret;exact⟨xa,xc,l2,rfl,ax (by rw[hk.out,HN.out,List.take_length]),ax h2.out.symm,⟨by rw[h2.out];exact own,secs⟩,be⟩
def rG(x:Int)(i:Nat):Bool:=decide (x.toNat/2 ^ i % 2=1)
structure Qo(l:aO):Prop where
 n:l.length≤8
 r: ∀x∈l,0≤x∧x<256
def jR(l:aO)(p q:Int):Bool:=decide (0≤p) && (decide (0≤q) && (decide (p<l.length) && (decide (q<l.length) && rG (l.getD p.toNat 0) q.toNat)))
theorem aun{x:Int}(h0:0≤x)(h1:x<256)(hi:i<8):(bits .and .i64 (x/2 ^ i) 1==1)=rG x i:=by
 have hh: ∀x:Fin 256,∀i:Fin 8,(bits .and .i64 ((x.val:Int)/2 ^ i.val) 1==1)=rG (x.val:Int) i.val:=by decide+kernel
 have:=hh ⟨x.toNat,by omega⟩ ⟨i,hi⟩;simpa [Int.toNat_of_nonneg h0]using this
theorem avl{l:aO}{p q:Int}(h: ¬ (0≤p∧0≤q∧p<l.length∧q<l.length)):jR l p q=false:=by
 unfold jR;by_cases h1:0≤p
 ·by_cases h2:0≤q
  ·by_cases h3:p<l.length
   ·by_cases h4:q<l.length
    ·exact absurd ⟨h1,h2,h3,h4⟩ h
    ·simp[h4]
   ·simp[h3]
  ·simp[h2]
 ·simp[h1]
theorem avm{l:aO}{j:Nat}(hi:i<l.length)(hj:j<l.length):jR l i j=rG l[i] j:=by
 simp[jR,hi,hj]
theorem EE{g:Nat}{l:aO}(h:Ints w (some ⟨g,off,none⟩) l)(x:Nat)(hx:x<l.length):w.cell? ⟨g,off+x,none⟩=some (ae l[x])∧g<w.heap.size:=by
 rcases h with h0|⟨b,o,e,hlt,hc⟩
 ·simp at h0;rw[h0]at hx;simp at hx
 ·injection e with e
  injection e with e1 e2 _
  subst e1 e2;have:=hc x (by simpa using hx);rw[List.getElem_map]at this;exact⟨this,hlt⟩
theorem P9{l:aO}(h:Ints w a l)(hl:0<l.length): ∃b off,a=some ⟨b,off,none⟩:=by
 rcases h with h0|⟨b,off,e,_⟩
 ·simp at h0;rw[h0]at hl;simp at hl
 ·exact⟨b,off,e⟩
theorem MN(a:az)(l:aO)(n c:Nat)(p q:Int)(w:ak)(h:Ints w a l)(hn:n=l.length)(ho:Qo l):
  aH 154 #[.slice a n c,ae p,ae q] w fun e w'=>e= .returned (.bool (jR l p q))∧w=w':=by
 subst hn;by_cases hin:0≤p∧0≤q∧p<l.length∧q<l.length
 ·obtain⟨h1,h2,h3,h4⟩:=hin;obtain⟨i,rfl⟩: ∃i:Nat,p=i:=⟨p.toNat,by omega⟩;obtain⟨j,rfl⟩: ∃j:Nat,q=j:=⟨q.toNat,by omega⟩;have hi:i<l.length:=by omega
  have hj:j<l.length:=by omega
  have h8:=ho.n;obtain⟨b,off,rfl⟩:=P9 h aj;obtain⟨x0,xl⟩:=EE h i hi;have hb:=aun (ho.r _ (bF hi)).1 (ho.r _ (bF hi)).2 (i:=j) aj;rw[avm hi hj];obtain⟨x,hx⟩:=aI (l[i]);rw[hx]at x0 hb⊢;clear hx
  go_enter func154,ntmps154
  go_wp2_with fail
  go_ret;exact⟨rfl,rfl⟩
 ·rw[avl hin]
  go_enter func154,ntmps154
  go_wp2_with fail
  all_goals
   go_ret;exact⟨rfl,rfl⟩
@[reducible] def NP(l r b:Int):Value:= .agg #[ae l,ae r,ae b]
theorem as8(r b:Int)(w:ak):aH 125 #[ae r,ae b] w fun e w'=>e= .returned (NP b r b)∧Below w.heap.size w w':=by
 go_enter func125,ntmps125
 go_wp2_with fail
 refine bodyPost_ret (v:=NP b r b) (by simp[results,results125,go_sem]) rfl ?_;exact⟨rfl,bel⟩
theorem arF(l r b:Int)(w:ak)(h1:0≤l∧l≤1000)(h2:0≤r∧r≤1000):aH 179 #[NP l r b] w fun e w'=>e= .returned (NP (if l+r≤b then l+r else b) r b)∧Below w.heap.size w w':=by
 by_cases hb:l+r≤b
 ·rw[if_pos hb];have hb2: ¬ b<l+r:=by omega
  go_enter func179,ntmps179
  go_wp2_with fail
  refine bodyPost_ret (v:=NP (l+r) r b) (by simp[results,results179,go_sem]) rfl ?_;exact⟨rfl,bel⟩
 ·rw[if_neg hb];have hb2:b<l+r:=by omega
  go_enter func179,ntmps179
  go_wp2_with fail
  refine bodyPost_ret (v:=NP b r b) (by simp[results,results179,go_sem]) rfl ?_;exact⟨rfl,bel⟩
theorem apL(n a b:Int)(w:ak):aH 89 #[ae n,ae a,ae b] w fun e w'=>e= .returned (.bool (decide (a≤n) && decide (n≤b)))∧w=w':=by
 go_enter func89,ntmps89
 go_wp2_with fail
 all_goals
  go_ret;exact⟨uH (by first|rfl|(simp;done)|(simp;omega)|(rw[Bool.eq_iff_iff];simp;omega)),rfl⟩
theorem aae{x:Int}(h0:0≤x)(h1:x<256)(hi:i<8):bits .and .i64 (x/2 ^ i) 1=if rG x i=true then 1 else 0:=by
 have hh: ∀x:Fin 256,∀i:Fin 8,bits .and .i64 ((x.val:Int)/2 ^ i.val) 1=if rG (x.val:Int) i.val=true then 1 else 0:=by decide+kernel
 have:=hh ⟨x.toNat,by omega⟩ ⟨i,hi⟩;simpa [Int.toNat_of_nonneg h0]using this
structure QC(l:aO):Prop where
 n:1≤l.length∧l.length≤8
 r: ∀x∈l,0≤x∧x<2 ^ l.length
 d: ∀i (hi:i<l.length),rG l[i] i=false
 s: ∀i (hi:i<l.length) j (hj:j<l.length),rG l[i] j=rG l[j] i
theorem QC.rows{l:aO}(h:QC l):Qo l:=⟨h.n.2,fun x hx=>by
 have h1:=h.r x hx;have h2:(2:Int) ^ l.length≤256:=by
  have:(2:Nat) ^ l.length≤2 ^ 8:=Nat.pow_le_pow_right ay h.n.2
  exact_mod_cast this
 omega⟩
theorem aoK(a:az)(l:aO)(n c:Nat)(w:ak)(h:Ints w a l)(hn:n=l.length)(ho:QC l):
  aH 120 #[.slice a n c] w fun e w'=>e= .returned (.bool true)∧Below w.heap.size w w':=by
 subst hn;have h8:=ho.n;have HO:=ax ho;obtain⟨b,off,rfl⟩:=P9 h aj
 go_enter func120,ntmps120
 go_wp2_with fail
 go_loopw [16] (fun s16 wr=> ∃i:Nat,s16=ae i∧i≤l.length∧Below w.heap.size w wr) (fun s _=>l.length -(intOf s).toNat)
 case atStart=>exact⟨0,rfl,by omega,bel⟩
 case round=>
  obtain⟨i,rfl,hi,be⟩:=hrel;by_cases hlt:i<l.length
  ·have ix:(i:Int)<(l.length:Int):=by omega
   have hr:=h.below be aA;obtain⟨x0,xl⟩:=EE hr i hlt;have hx:=HO.out.rows.r _ (bF hlt);have hx2:=(HO.out.r _ (bF hlt)).2;have hbit:=aae hx.1 hx.2 (i:=i) aj;rw[HO.out.d i hlt]at hbit;simp only[Bool.false_eq_true,if_false]at hbit;have hz:l[i]/2 ^ l.length=0:=Int.ediv_eq_zero_of_lt hx.1 hx2;have HS:Hid (∀j (hj:j<l.length),bits .and .i64 (l[i]/2 ^ j) 1=bits .and .i64 (l[j]/2 ^ i) 1):=ax (fun j hj=>by
    have hy:=HO.out.rows.r _ (bF hj);rw[aae hx.1 hx.2 aj,aae hy.1 hy.2 aj,HO.out.s i hlt j hj])
   obtain⟨x,hxe⟩:=aI (l[i]);rw[hxe]at x0 hx hbit hz HS;clear hxe hx2;have hx0: ¬ x<0:=by omega
   go_wp2_with fail
   go_loopw [39] (fun s39 wz=> ∃j:Nat,s39=ae j∧j≤l.length∧Below w.heap.size w wz) (fun s _=>l.length -(intOf s).toNat)
   case atStart=>exact⟨0,rfl,by omega,be⟩
   case round=>
    clear x0 xl hr be;obtain⟨j,rfl,hj,be⟩:=hrel;by_cases hlt2:j<l.length
    ·have jx:(j:Int)<(l.length:Int):=by omega
     have hr:=h.below be aA;obtain⟨y0,yl⟩:=EE hr j hlt2;have hs:=HS.out j hlt2;obtain⟨y,hye⟩:=aI (l[j]);rw[hye]at y0 hs;obtain⟨v,hv⟩:=aI (bits .and .i64 (y/2 ^ i) 1);rw[hv]at hs;clear hye
     go_upto_region 11 with fail
     go_quiet (fail)
     go_wp2_with fail
     go_roundw
     case rel=>exact⟨j+1,by go_num,by omega,bel⟩
     case measure=>simp[intOf];omega
    ·obtain rfl:j=l.length:=by omega
     go_wp2_with fail
     go_roundw
     case rel=>exact⟨i+1,by go_num,by omega,be⟩
     case measure=>simp[intOf];omega
  ·obtain rfl:i=l.length:=by omega
   go_wp2_with fail
   go_ret;exact⟨rfl,be⟩
theorem MO{n a b:Int}(w:ak)(h1:a≤n)(h2:n≤b):aH 89 #[ae n,ae a,ae b] w fun e w'=>e= .returned (.bool true)∧w=w':=by
 have:=apL n a b w;rw[jB h1,jB h2]at this;exact this
theorem apM(p:Ph)(w:ak)(h:mO p)(hr:p.ring≤1):aH 121 #[p.agg] w fun e w'=>e= .returned (.bool true)∧Below w.heap.size w w':=by
 obtain⟨r,g,mn,mx,y,rd,wk,cl⟩:=p;obtain⟨h1,h2,h3,h4,h5,h6,h7⟩:=h;simp only at h1 h2 h3 h4 h5 h6 h7 hr;unfold Ph.agg;simp only;have hwk:(wk==0)=(cl==0):=by
  rcases h7 with⟨rfl,rfl⟩|h7
  ·rfl
  ·have a1:(wk==0)=false:=by rw[iL];omega
   have a2:(cl==0)=false:=by rw[iL];omega
   rw[a1,a2]
 have hs: ¬ mx<wk+cl:=by omega
 have hm: ¬ mx<mn:=by omega
 have hb:0≤wk∧wk≤2∧0≤cl∧cl≤2:=by omega
 clear h7
 go_enter func121,ntmps121
 go_wp2_with (go_at_call 89;refine(MO _ aj aj).mono ?_;rintro e wz ⟨rfl,rfl⟩)
 go_ret;exact⟨uH aF,bel⟩
def Qs(r:Int):Int:=if(bits .and .u32 r 1==1)=true then bits .xor .u32 (r/2) 3988292384 else r/2
def zZ:Nat→Int→Int
 |0,r=>r
 |k+1,r=>zZ k (Qs r)
def EF:Int→aJ→Int
 |r,[]=>r
 |r,x::l=>EF (zZ 8 (bits .xor .u32 r x.toNat)) l
def tX(s:Int)(l:aJ):Int:=bits .xor .u32 4294967295 (EF (bits .xor .u32 4294967295 s) l)
theorem aqe{j:Nat}{r:Int}(hj:j<8)(h:(bits .and .u32 r 1==1)=true):zZ (8 -(j+1)) (bits .xor .u32 (r/2) 3988292384)=zZ (8 -j) r:=by
 rw[show 8 -j=8 -(j+1)+1 by omega,zZ,Qs,if_pos h]
theorem aqZ{j:Nat}{r:Int}(hj:j<8)(h:(bits .and .u32 r 1==1)=false):zZ (8 -(j+1)) (r/2)=zZ (8 -j) r:=by
 rw[show 8 -j=8 -(j+1)+1 by omega,zZ,Qs,if_neg (by simp[h])]
theorem afP{P:Prop}(h:P:=by
 obtain⟨k,x,hk,rfl,rfl,hx⟩:=hrel;have HX:=ax hx;clear hx;by_cases hlt:k<l.length
 ·rcases hb.open with rfl|⟨b,off,rfl,hbl,hc⟩
  ·simp at hlt
  have hc0:=hc k hlt;have HD:=ax (List.drop_eq_getElem_cons hlt);clear hc;have hu:(l[k].toNat:Int)<256:=by have:=l[k].toNat_lt;omega
  go_wp2
  clear hu hc0
  go_loop [5,21] (fun r i=> ∃(j:Nat) (y:Int),j≤8∧i=ae j∧r= .int .u32 y∧zZ (8 -j) y=zZ 8 (bits .xor .u32 x l[k].toNat)) (fun _ i=>8 -(intOf i).toNat)
  case atStart=>exact⟨0,_,Nat.zero_le _,rfl,rfl,rfl⟩
  case round=>
   obtain⟨j,y,hj,rfl,rfl,hy⟩:=hrel;have HY:=ax hy;clear hy;by_cases hj8:j<8
   ·go_wp2
    ·go_round
     case rel=>exact⟨j+1,_,by omega,by go_num,rfl,(aqe hj8 (by assumption)).trans HY.out⟩
     case measure=>simp[intOf];omega
    ·go_round
     case rel=>exact⟨j+1,_,by omega,by go_num,rfl,(aqZ hj8 (by assumption)).trans HY.out⟩
     case measure=>simp[intOf];omega
   ·go_wp2
    go_round
    case rel=>exact⟨k+1,_,by omega,by go_num,rfl,by
     rw[←HX.out,HD.out,EF,←HY.out,show 8 -j=0 by omega,zZ]⟩
    case measure=>simp[intOf];omega
 ·go_wp2
  go_ret;exact⟨yT (by rw[tX,←HX.out,List.drop_eq_nil_of_le aj,EF]),rfl⟩):P:=h
theorem aq0(s:Int)(a:az)(l:aJ)(n cap:Nat)(w:ak)(hb:bI w a l)(hn:n=l.length)(hl:l.length≤9223372036854775807):
  aH 193 #[.int .u32 s,.slice a n cap] w fun e w'=>e= .returned (.int .u32 (tX s l))∧w=w':=by
 subst hn
 go_enter func193,ntmps193
 go_wp2
 go_loop [5,13] (fun r i=> ∃(k:Nat) (x:Int),k≤l.length∧i=ae k∧r= .int .u32 x∧EF x (l.drop k)=EF (bits .xor .u32 4294967295 s) l) (fun _ i=>l.length -(intOf i).toNat)
 case atStart=>exact⟨0,_,Nat.zero_le _,rfl,rfl,rfl⟩
 case round=>
  exact afP
theorem aik(a:az)(l:aJ)(n cap:Nat)(w:ak)(hb:bI w a l)(hn:n=l.length)(hl:l.length≤9223372036854775807):
  aH 174 #[.slice a n cap] w fun e w'=>e= .returned (.int .u32 (tX 0 l))∧w=w':=by
 subst hn
 go_enter func174,ntmps174
 go_wp2_with (go_at_call 193;refine(aq0 0 a l _ cap _ hb rfl hl).mono ?_;rintro e w' ⟨rfl,rfl⟩)
 go_ret;exact⟨rfl,rfl⟩
theorem aoj(s:Int)(a:az)(l:aJ)(n cap:Nat)(w:ak)(hb:bI w a l)(hn:n=l.length)(hl:l.length≤9223372036854775807):
  aH 61 #[.int .u32 s,.slice a n cap] w fun e w'=>e= .returned (.int .u32 (tX s l))∧w=w':=by
 subst hn
 go_enter func61,ntmps61
 go_wp2
 go_loop [5,13] (fun r i=> ∃(k:Nat) (x:Int),k≤l.length∧i=ae k∧r= .int .u32 x∧EF x (l.drop k)=EF (bits .xor .u32 4294967295 s) l) (fun _ i=>l.length -(intOf i).toNat)
 case atStart=>exact⟨0,_,Nat.zero_le _,rfl,rfl,rfl⟩
 case round=>
  exact afP
theorem aqf(a:az)(l:aJ)(n cap:Nat)(w:ak)(hb:bI w a l)(hn:n=l.length)(hl:l.length≤9223372036854775807):
  aH 31 #[.slice a n cap] w fun e w'=>e= .returned (.int .u32 (tX 0 l))∧w=w':=by
 subst hn
 go_enter func31,ntmps31
 go_wp2_with (go_at_call 61;refine(aoj 0 a l _ cap _ hb rfl hl).mono ?_;rintro e w' ⟨rfl,rfl⟩)
 go_ret;exact⟨rfl,rfl⟩
def poly:BitVec 32:=3988292384#32
def abd(r:BitVec 32):BitVec 32:=(r>>>1) ^^^ (if r.getLsbD 0 then poly else 0#32)
def VL:Nat→BitVec 32→BitVec 32
 |0,r=>r
 |k+1,r=>VL k (abd r)
def aaN(x:UInt8):BitVec 32:=x.toBitVec.setWidth 32
def VM:BitVec 32→aJ→BitVec 32
 |r,[]=>r
 |r,x::l=>VM (VL 8 (r ^^^ aaN x)) l
def Wh(s:BitVec 32)(l:aJ):BitVec 32:= ~~~ (VM (~~~ s) l)
theorem UW(a:BitVec 32):BitVec.ofInt 32 (a.toNat:Int)=a:=by rw[BitVec.ofInt_natCast,BitVec.ofNat_toNat,BitVec.setWidth_eq]
theorem bx(a b:BitVec 32):bits .xor .u32 (a.toNat:Int) (b.toNat:Int)=((a ^^^ b).toNat:Int):=by
 show IntKind.u32.wrap ((BitVec.ofInt 32 (a.toNat:Int) ^^^ BitVec.ofInt 32 (b.toNat:Int)).toNat:Int)=_;rw[UW,UW,IntKind.wrap_u32];have:=(a ^^^ b).isLt;omega
theorem band(a b:BitVec 32):bits .and .u32 (a.toNat:Int) (b.toNat:Int)=((a &&& b).toNat:Int):=by
 show IntKind.u32.wrap ((BitVec.ofInt 32 (a.toNat:Int) &&& BitVec.ofInt 32 (b.toNat:Int)).toNat:Int)=_;rw[UW,UW,IntKind.wrap_u32];have:=(a &&& b).isLt;omega
theorem axj(a:BitVec 32):((a.toNat:Int)/(2:Int))=((a>>>1).toNat:Int):=by
 rw[BitVec.toNat_ushiftRight,Nat.shiftRight_eq_div_pow];omega
theorem auJ(a:BitVec 32):a.getLsbD 0=decide (a.toNat % 2=1):=by
 rw[BitVec.getLsbD,Nat.testBit_zero]
theorem and_one(a:BitVec 32):(bits .and .u32 (a.toNat:Int) 1==1)=a.getLsbD 0:=by
 have h:=band a 1#32;rw[show((1#32).toNat:Int)=1 from rfl]at h;rw[h,auJ];have e:(a &&& 1#32).toNat=a.toNat % 2:=by rw[BitVec.toNat_and];exact Nat.and_one_is_mod _
 rw[e,Bool.eq_iff_iff];simp;omega
theorem atl(a:BitVec 32):Qs (a.toNat:Int)=((abd a).toNat:Int):=by
 unfold Qs abd;rw[and_one,axj];cases a.getLsbD 0 with
 |true=>
  have:=bx (a>>>1) poly;rw[if_pos rfl,if_pos rfl,←this];rfl
 |false=>simp
theorem arW(k:Nat)(a:BitVec 32):zZ k (a.toNat:Int)=((VL k a).toNat:Int):=by
 induction k generalizing a with
 |zero=>rfl
 |succ k ih=>rw[zZ,atl,ih,VL]
theorem arX(x:UInt8):(aaN x).toNat=x.toNat:=by
 unfold aaN;rw[BitVec.toNat_setWidth];have:=x.toNat_lt;show x.toNat % _=_;omega
theorem arY(r:BitVec 32)(l:aJ):EF (r.toNat:Int) l=((VM r l).toNat:Int):=by
 induction l generalizing r with
 |nil=>rfl
 |cons x l ih=>rw[EF,←arX,bx,arW,ih,VM]
theorem aj2(a:BitVec 32):bits .xor .u32 4294967295 (a.toNat:Int)=((~~~ a).toNat:Int):=by
 have h:=bx 4294967295#32 a;rw[show((4294967295#32).toNat:Int)=4294967295 from rfl]at h;rw[h,show(4294967295#32:BitVec 32)=BitVec.allOnes 32 from rfl,BitVec.allOnes_xor]
theorem atm(s:BitVec 32)(l:aJ):tX (s.toNat:Int) l=((Wh s l).toNat:Int):=by
 rw[tX,aj2,arY,aj2,Wh]
theorem atn(l:aJ):tX 0 l=((Wh 0#32 l).toNat:Int):=atm 0#32 l
def dL(x:Int):UInt8:=UInt8.ofNat (x % 256).toNat
theorem aak(x:Int):((dL x).toNat:Int)=x % 256:=by unfold dL;simp;omega
theorem Zy(x:Int):(dL x).toNat=(x % 256).toNat:=by have:=aak x;omega
theorem ato(x:Int):a_ (dL x)= .int .u8 (x % 256):=by unfold a_;rw[aak]
def tail4(s:Int):aJ:= [dL (s/16777216),dL (s/65536),dL (s/256),dL s]
def be32(l:aJ):Int:=l.foldl (fun n x=>n*256+(x.toNat:Int)) 0
theorem aav(l:aJ):0≤tX 0 l∧tX 0 l<4294967296:=by
 rw[atn];have:=(Wh 0#32 l).isLt;omega
theorem aq1{s:Int}(h0:0≤s)(h1:s<4294967296):be32 (tail4 s)=s:=by
 simp only[be32,tail4,List.foldl_cons,List.foldl_nil,aak];omega
def jC(k:Int)(p:aJ):aJ:= [1,dL k,dL ((p.length:Int)/256),dL p.length]++p
def fG(k:Int)(p:aJ):aJ:= [0x5a,0xa5]++jC k p++tail4 (tX 0 (jC k p))
theorem Nl(s:Int):(tail4 s).length=4:=rfl
theorem UF(k:Int)(p:aJ):(jC k p).length=p.length+4:=by simp[jC]
theorem Dc(k:Int)(p:aJ):(fG k p).length=p.length+10:=by simp[fG,UF,Nl]
structure PR where
 code:Int
 kind:Int
 pay:aJ
 size:Nat
 ok:Bool
def PR.more:PR:=⟨0,0,[],0,false⟩
def PR.fault(c:Int)(n:Nat):PR:=⟨c,0,[],n,true⟩
def at_(l:aJ)(i:Nat):Nat:=(l.getD i 0).toNat
def lD(l:aJ):Nat:=at_ l 4*256+at_ l 5
def DJ(l:aJ):Prop:=tX 0 ((l.drop 2).take (lD l+4))=be32 ((l.drop (lD l+6)).take 4)
instance(l:aJ):Decidable (DJ l):=by unfold DJ;exact inferInstance
def iC(l:aJ):PR:=
 if l.length=0 then .more
 else if at_ l 0≠90 then .fault 2 1
 else if 1<l.length∧at_ l 1≠165 then .fault 2 1
 else if l.length<6 then .more
 else if 200<lD l then .fault 7 1
 else if l.length<lD l+10 then .more
 else if ¬ DJ l then .fault 4 1
 else if at_ l 2≠1 then .fault 3 (lD l+10)
 else if at_ l 3<1∨22<at_ l 3 then .fault 5 (lD l+10)
 else⟨0,at_ l 3,(l.drop 6).take (lD l),lD l+10,true⟩
theorem YT{P:Prop}(h:P:=by
 exact⟨by show 1≤lD l+10;omega,by show lD l+10≤_;omega⟩):P:=h
theorem afQ(h:(iC l).ok=true):1≤(iC l).size∧(iC l).size≤l.length:=by
 unfold iC at h⊢;by_cases h0:l.length=0
 ·simp[h0,PR.more]at h
 rw[if_neg h0]at h⊢;by_cases h1:at_ l 0≠90
 ·rw[if_pos h1];exact⟨Nat.le_refl _,by show 1≤_;omega⟩
 rw[if_neg h1]at h⊢;by_cases h2:1<l.length∧at_ l 1≠165
 ·rw[if_pos h2];exact⟨Nat.le_refl _,by show 1≤_;omega⟩
 rw[if_neg h2]at h⊢;by_cases h3:l.length<6
 ·simp[h3,PR.more]at h
 rw[if_neg h3]at h⊢;by_cases h4:200<lD l
 ·rw[if_pos h4];exact⟨Nat.le_refl _,by show 1≤_;omega⟩
 rw[if_neg h4]at h⊢;by_cases h5:l.length<lD l+10
 ·simp[h5,PR.more]at h
 rw[if_neg h5]
 split
 ·exact⟨Nat.le_refl _,by show 1≤_;omega⟩
 split
 ·exact YT
 split
 ·exact YT
 ·exact YT
theorem avx(k:Int)(p m:aJ):at_ (fG k p++m) 0=90∧at_ (fG k p++m) 1=165∧at_ (fG k p++m) 2=1∧at_ (fG k p++m) 3=(k % 256).toNat:=by
 refine⟨rfl,rfl,rfl,?_⟩;rw[←Zy];rfl
theorem ahS(k:Int)(p m:aJ)(hp:p.length≤200):lD (fG k p++m)=p.length:=by
 have h4:at_ (fG k p++m) 4=(dL ((p.length:Int)/256)).toNat:=rfl;have h5:at_ (fG k p++m) 5=(dL (p.length:Int)).toNat:=rfl;unfold lD;rw[h4,h5,Zy,Zy];omega
theorem arZ(k:Int)(p m:aJ):(fG k p++m).drop 2=jC k p++(tail4 (tX 0 (jC k p))++m):=by
 simp[fG]
theorem atp(k:Int)(p m:aJ)(hp:p.length≤200):DJ (fG k p++m):=by
 unfold DJ;rw[ahS k p m hp,show p.length+6=2+(p.length+4)by omega,←List.drop_drop,arZ];rw[List.take_append_of_le_length UK,nM UK];rw[List.drop_append_of_le_length UK,List.drop_of_length_le UK,List.nil_append];rw[List.take_append_of_le_length (by rw[Nl];omega),nM (by rw[Nl];omega)];have:=aav (jC k p);rw[aq1 this.1 this.2]
theorem auK(k:Int)(p m:aJ):((fG k p++m).drop 6).take p.length=p:=by
 have:(fG k p++m).drop 6=p++(tail4 (tX 0 (jC k p))++m):=by simp[fG,jC]
 rw[this];simp
theorem agN{k:Int}{p:aJ}(m:aJ)(k1:1≤k)(k2:k≤22)(hp:p.length≤200):iC (fG k p++m)=⟨0,k,p,p.length+10,true⟩:=by
 obtain⟨h0,h1,h2,h3⟩:=avx k p m;have hl:(fG k p++m).length=p.length+10+m.length:=by rw[dP,Dc]
 have hn:=ahS k p m hp;unfold iC;rw[if_neg aj,if_neg (by simp[h0]),if_neg (by simp[h1]),if_neg aj,hn,if_neg aj,if_neg aj,if_neg (by simpa using atp k p m hp),if_neg (by simp[h2]),h3,if_neg aj,auK];congr 1;omega
end Go.Proofs.YtiffpjamngklhaaGreat
