/- Lemmas, part 03. -/
import Derived.RangeFuncNested
import Derived.WalkSpells
import Derived.Test.YtiffpjamngklhaaGreatProg
import Derived.StillTail
import Derived.BigQuiet
import Derived.OrdersIn
import Derived.Lib.QuietBelow
import Derived.Deep.MidRow
import Derived.Deep.DeepCutAuto
import Derived.Outline
import Derived.RangeFuncBound
import Derived.RangeFuncCalls
import Derived.RangeFuncLeaves
import Derived.Shelf.Abstract
import Derived.Test.YtiffpjamngklhaaGreatP01
namespace Go.Proofs.YtiffpjamngklhaaGreat
set_option linter.all false
set_option maxRecDepth 100000
set_option maxHeartbeats 16000000
open Go.RowKit Tryz
open Go.Sort hiding Below
variable{w w' W wr W' V:ak}{B n i k base size n' sz off N xc id cap':Nat}{t e e':aK}{a:az}{Q:dR}{xs ys:aP}{l:aJ}{o oi:Oper}{ops:Array Oper}{rest:List Oper}{P:Program}{v0 v1 v2 v3 v4 v5 v6 v7 v8 v9 v10 v11 v12:Value}{args:aZ}{ρ:Operand→Value}{pe:Option Code}
theorem ah.four'{b:Nat}(h:ah w b t #[v0,v1,v2,v3]):w.cell? ⟨b,0,none⟩=some v0∧w.cell? ⟨b,1,none⟩=some v1∧w.cell? ⟨b,2,none⟩=some v2∧w.cell? ⟨b,3,none⟩=some v3:=⟨h.cell 0,h.cell 1,h.cell 2,h.cell 3⟩
theorem ah.next(w:ak)(o:Obj)(e:aK)(C:aZ):ah ((w.alloc o).alloc (.cells C e)) (w.heap.size+1) e C:=by
 have:=ah.new (w.alloc o) e C;simpa using this
theorem Own.Qc{cap:Nat}(h:Own w base e size a n cap xs)(ha:a=none):n=0∧cap=0:=by
 subst ha;rcases h.2 with⟨hv,h0⟩|⟨g,c,cur,hv,_⟩
 ·injection hv with _ _ h3
  exact⟨h0,h3⟩
 ·injection hv with h1 _ _;cases h1
theorem Own.ofRaw{S cap g:Nat}{cur:aP}(k:ah w g e cur.toArray)(hB:B≤g)(hn:n≤cap)(hm:cap≤maxLen)(hl:cur.length=cap*S)(ht:cur.take (n*S)=xs):Own w B e S (some ⟨g,0,none⟩) n cap xs:=by
 have hx:xs.length=n*S:=by
  rw[←ht,pV,hl];exact Nat.min_eq_left (Nat.mul_le_mul_right _ hn)
 exact⟨hx,.inr ⟨g,cap,cur.toArray,rfl,hB,k,hn,hm,by simpa using hl,by simpa using ht⟩⟩
theorem ah2{C:aZ}(h:C.toList=l.map a_)(hn:n=l.length:=by rfl)(hm:l.length≤100000000000:=by simp):Own (w.alloc (.cells C e)) w.heap.size e 1 (some ⟨w.heap.size,0,none⟩) n n (l.map a_):=by
 subst hn;have hs:C.size=l.length:=by rw[←Array.length_toList,h,g_]
 have:=ah1 w C e 1 l.length aj Ii
 rwa [h]at this
theorem Own.Vt{aax:Nat}{size' cap:Nat}{b:az}(h:Own w base e size a n cap xs)(h':Own w aax e' size' b n' cap' ys)(hne:e≠e'):Apart a b:=by
 intro k ha hb;rcases h.2 with⟨hv,_⟩|⟨g',c,cur,hv,_,hh,_⟩
 ·injection hv with ha' _ _
  rw[ha']at ha;cases ha
 ·injection hv with ha' _ _
  rw[ha']at ha;injection ha with ha
  simp only at ha;subst ha;rcases h'.2 with⟨hv',_⟩|⟨g2,c2,aBX,hv',_,hh2,_⟩
  ·injection hv' with hb' _ _
   rw[hb']at hb;cases hb
  ·injection hv' with hb' _ _
   rw[hb']at hb;injection hb with hb
   simp only at hb;subst hb;rw[hh]at hh2;injection hh2 with hh2
   injection hh2 with _ ht
   exact hne ht
theorem ah.turn{row:Option Nat}{g:Nat}{cs:aZ}(h:ah W g t cs)(hg:W.grownBy W' row)(hr: ∀r,row=some r→∃o:Obj,W.heap[r]?=some o∧o.isCells=false):ah W' g t cs:=
 (hg.block g h.lt (fun e=>by obtain⟨o,ho,hc⟩:=hr g e.symm;rw[show W.heap[g]?=_ from h]at ho;cases ho;cases hc)).trans h
theorem Own.turn{row:Option Nat}{cap:Nat}(h:Own W base e size a n cap xs)(hg:W.grownBy W' row)(hr: ∀r,row=some r→∃o:Obj,W.heap[r]?=some o∧o.isCells=false):Own W' base e size a n cap xs:=by
 refine h.keep fun b hb h1 h2=>hg.block b h2 fun e=>?_;obtain⟨o,ho,hc⟩:=hr b e.symm;rcases h.2 with⟨hv,_⟩|⟨g,c,cur,hv,_,hgc,_⟩
 ·injection hv with hv;rw[hb]at hv;cases hv
 ·injection hv with hv
  rw[hb]at hv;injection hv with hv
  injection hv with hv
  subst hv;rw[hgc]at ho;cases ho;cases hc
theorem Own.pU{g:Nat}{cap:Nat}{cs:aZ}(h:Own W base e size a n cap xs)(k:ah W g t cs)(hne:e≠t):a.map (·.block)≠some g:=by
 intro he;rcases h.2 with⟨hv,_⟩|⟨g',c,cur,hv,_,hh,_⟩
 ·injection hv with ha _ _
  rw[ha]at he;cases he
 ·injection hv with ha _ _
  rw[ha]at he;injection he with he
  simp only at he;subst he;unfold ah at k;rw[hh]at k;injection k with k
  injection k with _ ht
  exact hne ht
def awQ(l:aJ)(w:ak)(e:Ending)(w':ak):Prop:= ∃a c,e= .returned (.slice a l.length c)∧Own w' w.heap.size 5 1 a l.length c (l.map a_)∧Below w.heap.size w w'
theorem ah7(a:az)(n c:Nat)(l:aJ)(w:ak)(hb:bI w a l)(hn:n=l.length)(hl:l.length≤100000000000)(ha:a=none→n=0∧c=0):
  aH 71 #[.slice a n c] w (awQ l w):=by
 subst hn;have hnil:=fun(w:ak) (a:az) (n c:Nat)=>Lib.run_eql_slice_nil (P:=prog) w 30 5 a n c 0 0 underlying30;cases a with
 |none=>
  obtain⟨h0,rfl⟩:=ha rfl;have hl0:l= []:=Gp h0;subst hl0
  go_enter func71,ntmps71
  go_wp2
  go_ret;exact⟨none,0,rfl,Own.nil _ _ _ _,Below.refl _ _⟩
 |some ad=>
  go_enter func71,ntmps71
  go_wp2_with (first|(at_builtin;refine qN rfl _ _ rfl w.heap.size (some ⟨w.heap.size,0,none⟩) 0 0 [] rfl (some ad) _ _ l rfl (Qb _ #[] _ 1 0 rfl (by simp[maxLen])) (hb.alloc _) rfl l.length aj hl aF ?_;intro a3 c3 w3 jE g3 DX;(have B3:Below w.heap.size w w3:=DX w bel)))
  go_ret;exact⟨_,_,rfl,jE,B3⟩
theorem Ez(a:az)(n c:Nat)(l:aJ)(w:ak)(hb:bI w a l)(hn:n=l.length)(hl:l.length≤100000000000)(ha:a=none→n=0∧c=0):
  aH 71 #[.slice a n c] w fun e w'=> ∃a' c',e= .returned (.slice a' n c')∧Own w' w.heap.size 5 1 a' n c' (l.map a_)∧Below w.heap.size w w':=by
 have:=ah7 a n c l w hb hn hl ha;subst hn;exact this
theorem bI.cells{ad:Addr}(h:bI w (some ad) l): ∀j (hj:j<l.length),w.cell? (ad.add j)=some (.int .u8 (l[j].toNat:Int)):=fun j hj=>
 Row.cells w h j _ (by simp[a_,hj])
theorem ahI{cap:Nat}(hb:bI w a l)(hn:n=l.length):(convert 30 9 (.slice a n cap)).run prog w= .ok (.string ⟨l.toArray⟩) w:=by
 subst hn;cases a with
 |none=>
  have h0:l= []:=by simpa using Row.of_none w hb
  subst h0;exact run_convert_bytes_nil w _ _ underlying30 underlying5 _ _ _ underlying9
 |some ad=>exact run_convert_bytes_back w _ _ _ ad cap l underlying30 underlying5 underlying9 hb.cells
theorem agG(l:aJ):(ByteArray.mk l.toArray).toList=l:=by
 rw[ByteArray.toList_eq]
def Bi:Op→Bool
 |.move _=>true
 |.assign _=>true
 |.load _ _=>true
 |.fieldAddr _ _ _=>true
 |.field _ _ _=>true
 |.indexAddr _ _ _=>true
 |.index _ _ _=>true
 |.binOp _ _ _ _ _=>true
 |.unOp _ _ _=>true
 |.convert _ _ _=>true
 |.slice _ _ _ _ _=>true
 |.extract _ _=>true
 |.build _ _=>true
 |.pick _ _ _=>true
 |.nilCheck _=>true
 |.call c=>match c.callee with
  |.builtin .len=>true
  |_=>false
 |_=>false
section
variable{P:Program}{ops:Array Oper}{md:Region.Mode}{D:ak→Prop}
theorem YB{α β:Type}{r:Result α}{f:α→ak→Result β}{b:β}(h:r.andThen f= .ok b w): ∃a w1,r= .ok a w1∧f a w1= .ok b w:=by
 cases r with
 |ok a w1=>exact⟨a,w1,rfl,h⟩
 |halt x w1=>simp[Result.andThen]at h
theorem Ur{P:Prop}(h:P:=by
 simp[Sem.run_pure]at h;exact⟨_,h.1.symm⟩):P:=h
theorem aeI{x:Operand}{n:Next}(ho:o.op= .nilCheck x)(h:(execOp ρ o).run P w= .ok n w'): ∃v,n= .value v:=by
 unfold execOp at h;rw[ho]at h;simp only at h
 split at h
 ·simp[runtimePanic,Sem.run_bind,Result.andThen]at h
 ·simp[runtimePanic]at h
 ·simp[runtimePanic]at h
 ·split at h
  ·simp[runtimePanic]at h
  ·simp only[Sem.run_bind]at h;obtain⟨a,w1,_,h⟩:=YB h;obtain⟨a2,w2,_,h⟩:=YB h
   split at h
   ·simp only[Sem.run_bind]at h;obtain⟨a3,w3,_,h⟩:=YB h;exact Ur
   ·exact Ur
  ·exact Ur
 ·exact Ur
theorem afg{P:Prop}(h:P:=by
 simp only[Sem.run_bind]at h;cases hs:s.run P w with
 |ok v w1=>rw[hs]at h;simp[Result.andThen,Sem.run_pure]at h
 |halt x w1=>rw[hs]at h;simp[Result.andThen]at h):P:=h
theorem aqM{s:Sem Value}{f:FuncId}(h:(do pure (.value (←s)):Sem Next).run P w= .ok (.enter f args) w'):False:=by
 exact afg
theorem asR{s:Sem Value}{f:String}(h:(do pure (.value (←s)):Sem Next).run P w= .ok (.row f args) w'):False:=by
 exact afg
theorem aeq{f:FuncId}(hp:Bi o.op=true)(h:(execOp ρ o).run P w= .ok (.enter f args) w'):False:=by
 have hnc: ∀x,o.op= .nilCheck x→False:=fun x ho=>by obtain⟨v,e⟩:=aeI ho h;cases e
 unfold execOp at h;generalize ho:o.op=op at h hp;cases op with
 |nilCheck x=>exact hnc x ho
 |call c=>
  obtain⟨callee,ai1,cty⟩:=c;simp only[Bi]at hp;cases callee with
  |builtin b=>cases b<;>first|(cases hp;done)|(simp[resolve,invoke,builtin,Sem.run_pure,Result.andThen]at h;split at h<;>simp at h)
  |_=>cases hp
 |_=>first|(cases hp;done)|(exact aqM h)|(simp[Sem.run_pure]at h;done)|(simp only[Sem.run_bind]at h;revert h;generalize Sem.run P _ w=rr;intro h;cases rr<;>simp[Result.andThen,Sem.run_pure]at h)
def vJ(P:Program)(ops:Array Oper)(D:ak→Prop)(o:Oper)(v:Value)(a:Act):Prop:=
 (Region.wanted o (yielded ops a.tmps)=true∧∀w,D w→((execOp a.eval o).run P w= .ok (.value v) w∨((execOp a.eval o).run P w= .ok .skip w∧v=undef)))∨
 (Region.wanted o (yielded ops a.tmps)=false∧v=undef)
theorem vJ.of_same{v:Value}{a a':Act}(hy:vJ P ops D o v a)(he:execOp a'.eval o=execOp a.eval o)
  (hw:Region.wanted o (yielded ops a'.tmps)=Region.wanted o (yielded ops a.tmps)):vJ P ops D o v a':=by
 unfold vJ at*;rw[he,hw];exact hy
theorem vJ.wpOp{v:Value}{a:Act}(hi:ops[i]?=some o)(hy:vJ P ops D o v a)(hD:D w){K:Act→ak→Prop}(h:K (a.put o.dst v) w):wpOp P ops Q i K a w:=by
 unfold Go.wpOp;simp only[hi];rcases hy with⟨hw,hv⟩|⟨hw,rfl⟩
 ·simp only[hw,if_true];refine .inl ?_;unfold Oper.wp;rcases hv w hD with h1|⟨h1,h2⟩
  ·rw[h1];exact h
  ·rw[h1];rw[h2]at h;exact h
 ·simp only[hw,Bool.false_eq_true,if_false];exact h
theorem aeh{a:Act}{K:Act→Prop}(hp:Bi o.op=true)(h:if Region.wanted o (yielded ops a.tmps)then o.quiet P a D K else K (a.put o.dst undef)): ∃v,vJ P ops D o v a∧K (a.put o.dst v):=by
 by_cases hw:Region.wanted o (yielded ops a.tmps)=true
 ·simp only[hw,if_true]at h;obtain⟨v,h1,h2⟩:=h;refine⟨v,.inl ⟨hw,fun w hD=>?_⟩,h2⟩;have h3:=h1 w hD;unfold Oper.quietAt at h3;generalize hr:(execOp a.eval o).run P w=r at h3;cases r with
  |ok n w'=>
   cases n<;>simp only[Oper.quietUpon]at h3
   case value u=>obtain⟨rfl,rfl⟩:=h3;exact .inl rfl
   case skip=>obtain⟨rfl,rfl⟩:=h3;exact .inr ⟨rfl,rfl⟩
   case enter f args=>exact(aeq hp hr).elim
  |halt x w'=>simp only[Oper.quietUpon]at h3
 ·simp only[hw]at h;exact⟨undef,.inr ⟨by simpa using hw,rfl⟩,h⟩
theorem ahl{j:Nat}{oj:Oper}{v:Value}(hj:ops[j]?=some oj)(hap:oi.apart ops oj=true)
  (hsi: ∀cs b,oi.op≠ .select cs b) (hsj: ∀cs b,oj.op≠ .select cs b) (hQ: ∀c a w,Q (.panic c) (a.put oi.dst v) w→Q (.panic c) a w) {K:Act→ak→Prop} {a:Act} 
  (hy:vJ P ops D oi v a) (h:wpOp P ops Q j K (a.put oi.dst v) w):
  wpOp P ops Q j (fun a' w'=>vJ P ops D oi v a'∧K (a'.put oi.dst v) w') a w:=by
 obtain⟨h1,h2,h3⟩:=Oper.apart_spec hap;have keep: ∀(a:Act),vJ P ops D oi v a→∀u,vJ P ops D oi v (a.put oj.dst u):=fun a hy u=>
  hy.of_same (execOp_put oi hsi a oj.dst u h3) (wanted_put oi a oj.dst u h3)
 have keepD: ∀d,vJ P ops D oi v {a with defers:=d::a.defers}:=fun d=>hy.of_same rfl rfl;unfold wpOp at*;simp only[hj]at*;rw[wanted_put oj a oi.dst v h1]at h
 split
 ·rename_i hw;simp only[hw,if_true]at h;rcases h with h|⟨hasks,hlets⟩
  case inr=>exact .inr ⟨by unfold Oper.asks at*;rw[execOp_put oj hsj a oi.dst v h1]at hasks;exact hasks,hlets⟩
  refine .inl ?_;unfold Oper.wp at*;rw[execOp_put oj hsj a oi.dst v h1]at h;generalize (execOp a.eval oj).run P w=r at*;cases r with
  |ok n w'=>
   cases n<;>simp only[Oper.upon]at h⊢
   case value u=>exact⟨keep a hy u,by rw[←Act.put_comm a v u h2];exact h⟩
   case skip=>exact⟨keep a hy _,by rw[←Act.put_comm a v undef h2];exact h⟩
   case defer d=>
    refine⟨keep _ (keepD d) _,?_⟩;rw[←Act.put_comm _ v undef h2,←Act.put_defers];exact h
   case enter f args=>
    refine Calls.mono h fun e w'' he=>?_;cases e with
    |returned u=>exact⟨keep a hy u,by rw[←Act.put_comm a v u h2];exact he⟩
    |panicked c=>exact hQ _ _ _ he
    |outgrown=>exact he
   case row row args=>exact Rows.mono h fun u w'' he=>⟨keep a hy u,by rw[←Act.put_comm a v u h2];exact he⟩
  |halt x w'=>
   cases x<;>simp only[Oper.upon]at h⊢
   case panic u=>exact hQ _ _ _ h
 ·rename_i hw;simp only[hw]at h;exact⟨keep a hy _,by rw[←Act.put_comm a v undef h2];exact h⟩
def J9(P:Program)(md:Region.Mode)(ops:Array Oper)(Q:dR)(n:Nat)(D:ak→Prop)(L:Array Bool→Act→ak→Prop):Nat→Array Bool→Act→ak→Prop
 |0,listed,a,w=>L listed a w
 |f+1,listed,a,w=>Region.ready md ops listed≠ []∧∀i∈Region.ready md ops listed,i<n∧wpOp P ops Q i (fun a' w'=>D w'∧J9 P md ops Q n D L f (listed.setIfInBounds i true) a' w') a w
theorem Yf{g:Nat}{L:Array Bool→Act→ak→Prop}(hL: ∀listed a w,L listed a w→wpAny P md ops Q g listed a w):
  ∀(f:Nat) (listed:Array Bool) (a:Act) (w:ak),J9 P md ops Q n D L f listed a w→wpAny P md ops Q (f+g) listed a w
 |0,listed,a,w,h=>by rw[dX];exact hL _ _ _ h
 |f+1,listed,a,w,h=>by
  rw[show f+1+g=(f+g)+1 by omega];exact⟨fun h0=>absurd h0 h.1,fun i hi=>wpOp_mono (fun a' w' h'=>Yf hL f _ a' w' h'.2) (h.2 i hi).2⟩
theorem afh{P:Prop}(h:P:=by
 rcases Nat.lt_or_ge j n with h|h
 ·exact h
 ·exact absurd hj (tail_waits hs hc hn inv _ i rfl hin hun j h)):P:=h
theorem ao4(hQ: ∀c a w,¬ Q (.panic c) a w){v:Value}{L:Array Bool→Act→ak→Prop}(hi:ops[i]?=some oi)(hsel: ∀(j:Nat) (o:Oper) cs b,ops[j]?=some o→o.op≠ .select cs b)
  (hs:Region.sinkB md ops n=true) (hc:Region.chainB md ops n=true) (hn:n<ops.size) (hin:i<n)
  (hdone: ∀listed a w,L listed a w→∀j∈Region.ready md ops listed,n≤j):
  ∀(f:Nat) (listed:Array Bool) (a:Act) (w:ak),D w→HeadInv md ops n listed→
   (∀j oj,ops[j]?=some oj→j≠i→listed.getD j true=false→(∀e∈oj.after,Region.binds md e=true→e.on≠i)→oi.apart ops oj=true)→
   i∈Region.ready md ops listed→vJ P ops D oi v a→
   J9 P md ops Q n D L f (listed.setIfInBounds i true) (a.put oi.dst v) w→J9 P md ops Q n D L (f+1) listed a w:=by
 intro f
 induction f with
 |zero=>
  intro listed a w hD inv _ hr hy H;have hun:=(mem_ready.1 hr).1;refine⟨fun h=>UI,fun j hj=>?_⟩;have hjn:j<n:=by
   exact afh
  refine⟨hjn,?_⟩;by_cases hji:j=i
  ·subst hji;exact hy.wpOp hi hD ⟨hD,H⟩
  ·have:=hdone _ _ _ H j (ready_mono hj hji);omega
 |succ f ih=>
  intro listed a w hD inv hfree hr hy H;have hun:=(mem_ready.1 hr).1;refine⟨fun h=>UI,fun j hj=>?_⟩;have hjn:j<n:=by
   exact afh
  refine⟨hjn,?_⟩;by_cases hji:j=i
  ·subst hji;exact hy.wpOp hi hD ⟨hD,H⟩
  ·have h1:=(H.2 j (ready_mono hj hji)).2;obtain⟨hjun,oj,hoj,hall⟩:=mem_ready.1 hj;have hnot: ∀e∈oj.after,Region.binds md e=true→e.on≠i:=fun e he hb heq=>by
    have h1:=hall e he hb;rw[heq,getD_both hun]at h1;cases h1
   have h2:=ahl hoj (hfree j oj hoj hji hjun hnot) (fun cs b=>hsel i oi cs b hi) (fun cs b=>hsel j oj cs b hoj) (fun c a w hq=>(hQ _ _ _ hq).elim) hy h1;have hfree': ∀k ok,ops[k]?=some ok→k≠i→(listed.setIfInBounds j true).getD k true=false→
     (∀e∈ok.after,Region.binds md e=true→e.on≠i)→oi.apart ops ok=true:=fun k ok hk hki hun hno=>by
    refine hfree k ok hk hki ?_ hno;by_cases hjk:j=k
    ·subst hjk;exact hjun
    ·rw[getD_set_ne true hjk]at hun;exact hun
   refine wpOp_mono (fun a' w' h3=>⟨h3.2.1,ih (listed.setIfInBounds j true) a' w' h3.2.1 (inv.set hj hjn) hfree' (ready_mono hr (Ne.symm hji)) h3.1 ?_⟩) h2;rw[Array.setIfInBounds_comm _ _ hji];exact h3.2.2
def mZ(D:ak→Prop)(K:Act→ak→Prop):dR
 |.normal,a,w=>D w∧K a w
 |_,_,_=>False
def yX(P:Program)(ops:Array Oper)(D:ak→Prop)(Q:Act→ak→Prop)(fin:List Oper):List (List Oper × Oper)→Act→ak→Prop
 |[],a,w=>wpQuiet P ops D (fun a'=>Q a' w) fin a|(st,o)::r,a,w=>wpQuiet P ops D (fun a'=>wpList P ops (mZ D (yX P ops D Q fin r)) [o] a' w) st a
theorem yR{Q:Act→ak→Prop}{fin:List Oper}{a:Act}(h:wpQuiet P ops D (fun a'=>Q a' w) fin a):yX P ops D Q fin [] a w:=h
theorem lS{Q:Act→ak→Prop}{fin st:List Oper}{r:List (List Oper × Oper)}{a:Act}
 (h: ∀K:Act→ak→Prop,(∀a' w',yX P ops D Q fin r a' w'→K a' w')→wpQuiet P ops D (fun a'=>wpList P ops (mZ D K) [o] a' w) st a):yX P ops D Q fin ((st,o)::r) a w:=h _ fun _ _ h=>h
theorem lu{G X:Prop}(x:X)(h:X→G:=by
 intro x;simp only[dV,mF,oH,jM,jO,EI,EJ];exact x):G:=h x
theorem m_{G X:Prop}(x:X)(h:X→G:=by
 intro x;simp only[dV,mF,oH,jM,jO];exact x):G:=h x
theorem pF{G X:Prop}(x:X)(h:X→G:=by
 intro x;refine lS fun K hK=>?_
 (repeat(go_big_quiet_step (fail)))
 refine wpQuiet_nil ?_
 revert K
 exact x):G:=h x
theorem lC{G X:Prop}(x:X)(h:X→G:=by
 intro x;refine yR ?_
 (repeat(go_big_quiet_step (fail)))
 refine wpQuiet_nil ?_;exact x):G:=h x
theorem vO{G X:Prop}(x:X)(h:X→G:=by
 intro x;refine JP fun K hK=>?_;simp only[dV,mF,oH,jM,jO]
 (repeat(go_big_quiet_step (fail)))
 refine wpQuiet_nil ?_;refine hK _ _ ?_;clear hK K;exact x):G:=h x
theorem qJ{K:Act→ak→Prop}{a:Act}(hD:D w)(h:K a w):mZ D K .normal a w:=⟨hD,h⟩
def QA(md:Region.Mode)(ops:Array Oper)(n:Nat)(k:Array Bool→Bool):b_→Array Bool→Bool
 |[],L=>k L
 |i::st,L=>(decide (i<n) && (Region.ready md ops L).contains i && Region.free md ops L i && ((ops[i]?).map fun o=>Bi o.op).getD false) && QA md ops n k st (L.setIfInBounds i true)
def VG(md:Region.Mode)(ops:Array Oper)(n:Nat)(fin:b_):List (b_ × Nat)→Array Bool→Bool
 |[],L=>QA md ops n (fun L'=>Region.seqB md ops (ops.size -n) n L') fin L|(st,k)::r,L=>QA md ops n (fun L'=>decide (Region.ready md ops L'= [k]) && decide (k<n) && VG md ops n fin r (L'.setIfInBounds k true)) st L
def IK(fin:b_):List (b_ × Nat)→Nat
 |[]=>fin.length|(st,_)::r=>st.length+1+IK fin r
def NW(md:Region.Mode)(ops:Array Oper)(n:Nat)(fin:b_)(jh:List (b_ × Nat)):Bool:=
 Region.noSelect ops && decide (n<ops.size) && Region.sinkB md ops n && Region.chainB md ops n && decide (IK fin jh=n) && VG md ops n fin jh (Array.replicate ops.size false)
def dV(l:List Oper)(is:b_):List Oper:=is.map fun i=>l.getD i default
theorem YC(hQ: ∀c a w,¬ Q (.panic c) a w){l:List Oper}{L:Array Bool→Act→ak→Prop}(hsel:Region.noSelect l.toArray=true)
  (hs:Region.sinkB md l.toArray n=true) (hc:Region.chainB md l.toArray n=true) (hn:n<l.toArray.size) (hdone: ∀listed a w,L listed a w→∀j∈Region.ready md l.toArray listed,n≤j)
  {k:Array Bool→Bool} {K:Act→Prop} {f:Nat}  (hD:D w) (hK: ∀listed a,k listed=true→HeadInv md l.toArray n listed→K a→J9 P md l.toArray Q n D L f listed a w):
  ∀(st:b_) (listed:Array Bool) (a:Act),HeadInv md l.toArray n listed→QA md l.toArray n k st listed=true→wpQuiet P l.toArray D K (dV l st) a→J9 P md l.toArray Q n D L (st.length+f) listed a w
 |[],listed,a,inv,hB,h=>by rw[List.length_nil,dX];exact hK _ _ hB inv h
 |i::st,listed,a,inv,hB,h=>by
  simp only[QA,Bool.and_eq_true,decide_eq_true_eq]at hB;obtain⟨⟨⟨⟨hin,hr⟩,hf⟩,hp⟩,hB'⟩:=hB;have hr':i∈Region.ready md l.toArray listed:=by simpa using hr
  have hil:i<l.length:=by
    have:l.toArray.size=l.length:=by simp
    omega
  have h0:l.toArray[i]?=some l[i]:=by simp[hil]
  have hg:l.getD i default=l[i]:=by simp[eG,hil]
  rw[h0]at hp;have h:wpQuiet P l.toArray D K (l[i]::dV l st) a:=by rw[←hg];exact h
  obtain⟨v,hy,hK'⟩:=aeh (K:=wpQuiet P l.toArray D K (dV l st)) (by simpa using hp) h;rw[show(i::st).length+f=(st.length+f)+1 by simp;omega];exact ao4 hQ h0 (Region.noSelect_spec hsel) hs hc hn hin hdone _ listed a w hD inv (Region.free_spec h0 hf) hr' hy
   (YC hQ hsel hs hc hn hdone hD hK st _ _ (inv.set hr' hin) hB' hK')
theorem MV{K:Act→ak→Prop}{a:Act}(hi:ops[i]?=some o)(h:wpList P ops (mZ D K) [o] a w):wpOp P ops Q i (fun a' w'=>D w'∧K a' w') a w:=by
 unfold wpOp;simp only[hi];unfold wpList at h
 split
 ·rename_i hw;simp only[hw,if_true]at h;rcases h with h|⟨_,⟨a0,w0,h⟩⟩
  case inr=>exact h.elim
  refine .inl ?_;unfold Oper.wp at*;generalize (execOp a.eval o).run P w=r at*;cases r with
  |ok n w'=>
   cases n<;>simp only[Oper.upon]at h⊢
   case value u=>exact h
   case skip=>exact h
   case defer d=>exact h
   case enter f args=>
    refine Calls.mono h fun e w'' he=>?_;cases e with
    |returned u=>exact he
    |panicked c=>exact he.elim
    |outgrown=>obtain⟨a0,w0,h⟩:=he;exact h.elim
   case row row args=>exact Rows.mono h fun u w'' he=>he
  |halt x w'=>
   cases x<;>simp only[Oper.upon]at h⊢
   case panic u=>exact h.elim
 ·rename_i hw;simp only[hw]at h;exact h
theorem YD(hQ: ∀c a w,¬ Q (.panic c) a w){l:List Oper}(hsel:Region.noSelect l.toArray=true)
  (hs:Region.sinkB md l.toArray n=true) (hc:Region.chainB md l.toArray n=true) (hn:n<l.toArray.size) {Qt:Act→ak→Prop} (fin:b_):
  ∀(jh:List (b_ × Nat)) (listed:Array Bool) (a:Act) (w:ak),D w→HeadInv md l.toArray n listed→VG md l.toArray n fin jh listed=true→yX P l.toArray D Qt (dV l fin) (jh.map fun s=>(dV l s.1,l.getD s.2 default)) a w→
   J9 P md l.toArray Q n D (fun listed' a' w'=>Region.seqB md l.toArray (l.toArray.size -n) n listed'=true∧Qt a' w') (IK fin jh) listed a w
 |[],listed,a,w,hD,inv,hB,h=>by
  have:=YC (f:=0) (L:=fun listed' a' w'=>Region.seqB md l.toArray (l.toArray.size -n) n listed'=true∧Qt a' w') hQ hsel hs hc hn (fun listed' a' w' hL=>seqB_ready hL.1) (k:=fun L'=>Region.seqB md l.toArray (l.toArray.size -n) n L') (K:=fun a'=>Qt a' w) hD
   (fun listed' a' hk _ hK=>⟨hk,hK⟩) fin listed a inv hB h
  simpa [IK]using this|(st,k)::r,listed,a,w,hD,inv,hB,h=>by
  have:=YC (f:=1+IK fin r) (L:=fun listed' a' w'=>Region.seqB md l.toArray (l.toArray.size -n) n listed'=true∧Qt a' w') hQ hsel hs hc hn (fun listed' a' w' hL=>seqB_ready hL.1)
   (k:=fun L'=>decide (Region.ready md l.toArray L'= [k]) && decide (k<n) && VG md l.toArray n fin r (L'.setIfInBounds k true)) (K:=fun a'=>wpList P l.toArray (mZ D (yX P l.toArray D Qt (dV l fin) (r.map fun s=>(dV l s.1,l.getD s.2 default)))) [l.getD k default] a' w) hD
   (fun listed' a' hk Af hK=>by
    simp only[Bool.and_eq_true,decide_eq_true_eq]at hk;obtain⟨⟨hr,hkn⟩,hgo⟩:=hk;rw[Nat.add_comm 1];refine⟨by rw[hr];simp,fun i hi=>?_⟩;rw[hr]at hi;obtain rfl:i=k:=by simpa using hi
    have hil:i<l.length:=by
     have:l.toArray.size=l.length:=by simp
     omega
    have h0:l.toArray[i]?=some l[i]:=by simp[hil]
    have hg:l.getD i default=l[i]:=by simp[eG,hil]
    rw[hg]at hK;refine⟨hkn,wpOp_mono (fun a2 w2 h2=>⟨h2.1,?_⟩) (MV h0 hK)⟩;exact YD hQ hsel hs hc hn fin r _ a2 w2 h2.1 (Af.set (by rw[hr];simp) hkn) hgo h2.2) st listed a inv hB h
  have e:IK fin ((st,k)::r)=st.length+(1+IK fin r):=by simp[IK];omega
  rw[e];exact this
theorem A7{a:Act}{l:List Oper}(n:Nat)(jh:List (b_ × Nat))(fin:b_)(hm:P.follows .mixedOrders=true)(hB:NW .any l.toArray n fin jh=true)
  (D:ak→Prop) (hD:D {w with drawn:=w.drawn+1})
  (h:yX P l.toArray D (fun a' w'=>wpList P l.toArray (fun e a2 w2=>e= .normal∧Q .normal a2 w2) (l.drop n) a' w') (dV l fin) (jh.map fun s=>(dV l s.1,l.getD s.2 default)) a {w with drawn:=w.drawn+1}):(Code.region id l.toArray true).wp P Q a w:=by
 simp only[NW,Bool.and_eq_true,decide_eq_true_eq]at hB;obtain⟨⟨⟨⟨⟨hsel,hn⟩,hs⟩,hc⟩,hlen⟩,hgo⟩:=hB;have hdl:(l.drop n).length=l.toArray.size -n:=by simp
 have inv0:HeadInv .any l.toArray n (Array.replicate l.toArray.size false):=
  ⟨by simp,fun j oj _ hl=>M_,fun t _ ht=>getD_in Nh (getD_replicate_false _ _)⟩
 refine Code.wp_mono (Q:=fun e a w=>e= .normal∧Q .normal a w) JR ?_;have H:=YD (P:=P) (Q:=fun e a w=>e= .normal∧Q .normal a w) (D:=D) (md:= .any) (fun c a w hq=>by cases hq.1) hsel hs hc hn fin jh _ a _ hD inv0 hgo h;rw[hlen]at H;refine wp_region_any hm ?_;have:=Yf (Q:=fun e a w=>e= .normal∧Q .normal a w) (g:=l.toArray.size -n) (fun listed a' w' hL=>by
  have:=wpAny_of_seq (md:= .any) (Q':=fun e a w=>e= .normal∧Q .normal a w) (l.drop n) n listed a' w' (fun j=>by simp[List.getElem?_drop]) (by rw[hdl];exact hL.1) hL.2
  rwa [hdl]at this) _ _ _ _ H
 rw[show n+(l.toArray.size -n)=l.toArray.size by omega]at this;exact this
theorem nI{a:Act}{l:List Oper}(n:Nat)(jh:List (b_ × Nat))(fin:b_)(hm:P.follows .mixedOrders=true)(hB:NW .any l.toArray n fin jh=true)
  (h:yX P l.toArray (fun w'=> ∃p:Regrown,w'=Sort.grow (redrawn w p.d) p.os) (fun a' w'=>wpList P l.toArray (fun e a2 w2=>e= .normal∧Q .normal a2 w2) (l.drop n) a' w') (dV l fin) (jh.map fun s=>(dV l s.1,l.getD s.2 default)) a w.drew):(Code.region id l.toArray true).wp P Q a w:=
 A7 n jh fin hm hB _ ⟨⟨w.drawn+1,#[]⟩,by rw[Sort.grow_empty];rfl⟩ h
theorem dS{K:Act→ak→Prop}{a:Act}(hb:Below w.heap.size w w')(h:K a w'):mZ (fun w'=> ∃p:Regrown,w'=Sort.grow (redrawn w p.d) p.os) K .normal a w':=⟨regrown_of_below hb,h⟩
theorem gI{C:ak→Prop}{Q:Act→Prop}{a:Act}(hgd:o.guard=none)(T:aK)(x:Operand)(ho:o.op= .load T x)(p v:Value)(hx:a.eval x=p)(h: ∀w,C w→(Instr.loadAt T p).run P w= .ok v w)
  (hk:wpQuiet P ops C Q rest (a.put o.dst v)):wpQuiet P ops C Q (o::rest) a:=by
 refine BigFrame.wpQuiet_want (by unfold Region.wanted;rw[hgd]) fun K hK=>⟨v,fun w hw=>?_,hK _ hk⟩;unfold Oper.quietAt execOp;simp only[ho,hx,Sem.run_bind,Sem.run_pure,h w hw,Result.andThen_ok];exact⟨rfl,rfl⟩
end
section
variable{F:Fence}{n:Nat}{P:Program}
theorem afi(hp:Bi o.op=true):o.about P w ρ=none:=by
 unfold Oper.about;generalize ho:o.op=op at hp;cases op with
 |call c=>
  obtain⟨callee,ai1,cty⟩:=c;simp only[Bi]at hp;cases callee with
  |builtin b=>simp[resolve,Target.leads]
  |_=>cases hp
 |_=>rfl
theorem anK(hQ: ∀e a w,Q e a w→e= .normal){K:Act→ak→Prop}{a:Act}(hi:ops[i]?=some o)(hp:Bi o.op=true)(h:wpOp P ops Q i K a w):wpOpIn F n P ops Q i K a w:=by
 unfold wpOpIn;unfold wpOp at h;simp only[hi]at h⊢
 split
 ·rename_i hw;simp only[hw,if_true]at h;rcases h with h|⟨_,⟨a0,w0,h⟩⟩
  case inr=>cases hQ _ _ _ h
  refine⟨fun f hf=>(by rw[afi hp]at hf;cases hf),?_⟩;rw[Oper.semAt_eq F.round a.eval o (fun c hc=>by rw[hc]at hp;cases hp)];unfold Oper.wp at h;generalize hr:(execOp a.eval o).run P w=r at h;cases r with
  |ok x w'=>
   cases x<;>simp only[Oper.upon]at h<;>simp only[Oper.uponIn]
   case value u=>exact h
   case skip=>exact h
   case defer d=>exact h
   case enter f args=>exact(aeq hp hr).elim
   case row row args=>
    exfalso
    have hnc: ∀x,o.op= .nilCheck x→False:=fun x ho=>by obtain⟨v,e⟩:=aeI ho hr;cases e
    unfold execOp at hr;generalize ho:o.op=op at hr hp;cases op with
    |nilCheck x=>exact hnc x ho
    |call c=>
     obtain⟨callee,ai1,cty⟩:=c;simp only[Bi]at hp;cases callee with
     |builtin b=>cases b<;>first|(cases hp;done)|(simp[resolve,invoke,builtin,Sem.run_bind,Sem.run_pure,Result.andThen]at hr;split at hr<;>simp at hr)
     |_=>cases hp
    |_=>
     first|(cases hp;done)|(exact asR hr)|(simp[Sem.run_pure]at hr;done)|(simp only[Sem.run_bind]at hr;revert hr;generalize Sem.run P _ w=rr;intro hr;cases rr<;>simp[Result.andThen,Sem.run_pure]at hr)
  |halt x w'=>
   cases x<;>simp only[Oper.upon]at h
   case panic v=>cases hQ _ _ _ h
 ·rename_i hw;simp only[hw]at h;exact⟨fun f hf=>(by rw[afi hp]at hf;cases hf),h⟩
theorem aei{md:Region.Mode}(hQ: ∀e a w,Q e a w→e= .normal)(hp:ops.toList.all (fun o=>Bi o.op)=true): ∀(fuel:Nat) (listed:Array Bool) (a:Act) (w:ak),wpAny P md ops Q fuel listed a w→wpAnyIn F n P md ops Q fuel listed a w
 |0,_,_,_,h=>h
 |fuel+1,listed,a,w,h=>by
  refine⟨h.1,fun i hi=>?_⟩;obtain⟨_,o,ho,_⟩:=mem_ready.1 hi;have hpo:Bi o.op=true:=List.all_eq_true.1 hp o (by simpa using Array.mem_of_getElem? ho);exact wpOpIn_mono (fun a' w' h'=>aei hQ hp fuel _ a' w' h') (anK hQ ho hpo (h.2 i hi))
theorem aej{a:Act}{l:List Oper}(hm:P.follows .mixedOrders=true)(hB:Region.lexB .any l.toArray=true)(hp:l.all (fun o=>Bi o.op)=true)
  (h:wpQuiet P l.toArray (fun w'=> ∃n,w'=w.drewN n) (fun a'=> ∀w',(∃n,w'=w.drewN n)→Q .normal a' w') l a):(Code.region id l.toArray true).wpIn F n P Q a w:=by
 simp only[Region.lexB,Bool.and_eq_true]at hB;refine wpIn_mono (Q:=fun e a w=>e= .normal∧Q .normal a w) ?_ JR;refine wpIn_region_any hm (aei (fun e a w hq=>hq.1) (by simpa using hp) _ _ _ _ ?_);refine wpAny_of_quiet (C:=fun w'=> ∃n,w'=w.drewN n) (Q:=fun a'=> ∀w',(∃n,w'=w.drewN n)→Q .normal a' w') (fun _ w' hw' h=>⟨rfl,h w' hw'⟩) _ _ _ _ ⟨1,rfl⟩ ?_;have:=wpAnyQ_lex (P:=P) (C:=fun w'=> ∃n,w'=w.drewN n) (md:= .any) hB.1 l 0 (Array.replicate l.toArray.size false) a aF (by simpa using hB.2) h;simpa using this
end
section
variable{α:Type}{cells:α→aP}{k:Nat}
def gC(cells:α→aP)(l:List α):aP:=l.flatMap cells
theorem Dj:gC cells []= []:=rfl
theorem mP(x:α)(l:List α):gC cells (x::l)=cells x++gC cells l:=by simp[gC]
theorem yS(l m:List α):gC cells (l++m)=gC cells l++gC cells m:=by simp[gC]
theorem oZ(hk: ∀x,(cells x).length=k): ∀l:List α,(gC cells l).length=l.length*k
 |[]=>by simp[gC]
 |x::l=>by rw[mP,dP,hk,oZ hk l,jJ,Nat.add_mul,Nat.one_mul,Nat.add_comm]
theorem wH(h1: ∀x,∀u∈cells x,u.oneCell'=true)(l:List α): ∀u∈gC cells l,u.oneCell'=true:=by
 intro u hu;obtain⟨x,_,hx⟩:=List.mem_flatMap.1 hu;exact h1 x u hx
theorem Vw(hk: ∀x,(cells x).length=k): ∀(l:List α) (i:Nat) (h:i<l.length) (j:Nat) (_:j<k),(gC cells l)[i*k+j]?=(cells l[i])[j]?
 |x::l,0,_,j,hj=>by rw[mP,Nat.zero_mul,dX,List.getElem?_append_left (by rw[hk];exact hj)];rfl
 |x::l,i+1,h,j,hj=>by
  have:=Vw hk l i oq j hj;rw[mP,List.getElem?_append_right (by rw[hk,Nat.add_mul];omega),hk];simp only[List.getElem_cons_succ];rw[←this];congr 1;rw[Nat.add_mul];omega
theorem Nz(hk: ∀x,(cells x).length=k): ∀(l:List α) (i:Nat) (h:i<l.length) (y:α) (j:Nat) (v:Value) (_:j<k) (_:cells y=(cells l[i]).set j v),gC cells (l.set i y)=(gC cells l).set (i*k+j) v
 |x::l,0,_,y,j,v,hj,e=>by
  simp only[jX,List.getElem_cons_zero]at e⊢;rw[mP,mP,e,Nat.zero_mul,dX,List.set_append_left _ _ (by rw[hk];exact hj)]
 |x::l,i+1,h,y,j,v,hj,e=>by
  have:=Nz hk l i oq y j v hj (by simpa using e);simp only[lh];rw[mP,mP,this,List.set_append_right _ _ (by rw[hk,Nat.add_mul];omega),hk];congr 2;rw[Nat.add_mul];omega
def jy(w:ak)(g o:Nat):aP→ak
 |[]=>w
 |v::vs=>jy (w.setCell ⟨g,o,none⟩ v) g (o+1) vs
def Dt(xs:aP)(o:Nat):aP→aP
 |[]=>xs
 |v::vs=>Dt (xs.set o v) (o+1) vs
theorem Ye: ∀(vs p xs:aP) (o:Nat),Dt (p++xs) (p.length+o) vs=p++Dt xs o vs
 |[],_,_,_=>rfl
 |v::vs,p,xs,o=>by rw[Dt,Dt,List.set_append_right _ _ aj,Nat.add_sub_cancel_left,Nat.add_assoc,Ye vs]
theorem Uw: ∀(vs xs r:aP),vs.length=xs.length→Dt (xs++r) 0 vs=vs++r
 |[],[],r,_=>rfl
 |v::vs,x::xs,r,h=>by
  have e:=Ye vs [v] (xs++r) 0;rw[Dt,List.cons_append,jX];simp only[List.cons_append,List.nil_append,List.length_singleton]at e;rw[show(0:Nat)+1=1+0 by omega,e,Uw vs xs r oq];rfl
theorem C9(hk: ∀x,(cells x).length=k): ∀(l:List α) (i:Nat) (h:i<l.length) (y:α),gC cells (l.set i y)=Dt (gC cells l) (i*k) (cells y)
 |x::l,0,_,y=>by rw[jX,mP,mP,Nat.zero_mul,Uw _ _ _ (by rw[hk,hk])]
 |x::l,i+1,h,y=>by
  have:=C9 hk l i oq y;rw[lh,mP,mP,this,show(i+1)*k=(cells x).length+i*k by rw[hk,Nat.add_mul];omega,Ye]
end
theorem Ud(g:Nat): ∀(vs:aP) (w:ak) (o:Nat),w.setCells g o vs=jy w g o vs
 |[],_,_=>rfl
 |v::vs,w,o=>Ud g vs _ (o+1)
theorem Own.sets{cap g:Nat}: ∀(vs:aP) {w:ak} {xs:aP} (o:Nat),Own w base e size (some ⟨g,0,none⟩) n cap xs→Own (jy w g o vs) base e size (some ⟨g,0,none⟩) n cap (Dt xs o vs)
 |[],_,_,_,h=>h
 |v::vs,_,_,o,h=>Own.sets vs (o+1) (h.set o v)
theorem gm(g:Nat): ∀(vs:aP) (w:ak) (o:Nat),w.grownBy (jy w g o vs) (some g)
 |[],w,_=>⟨rfl,rfl,rfl,Nat.le_refl _,fun _ _ _=>rfl⟩
 |v::vs,w,o=>by
  have h1:w.grownBy (w.setCell ⟨g,o,none⟩ v) (some g):=⟨rfl,rfl,rfl,by simp[World.setCell],fun b _ hb=>Below.heap_setCell w ⟨g,o,none⟩ v b (fun e=>hb (by simp only at e;rw[e]))⟩;have h2:=gm g vs (w.setCell ⟨g,o,none⟩ v) (o+1);exact⟨h2.os.trans h1.os,h2.tape.trans h1.tape,h2.output.trans h1.output,dA h1.size h2.size,fun b hb hne=>(h2.block b (jL hb h1.size) hne).trans (h1.block b hb hne)⟩
def Sl(w:ak)(e:aK)(sz:Nat)(a:az)(n c:Nat)(xs:aP):Prop:=
 xs.length=n*sz∧n≤c∧((a=none∧c=0)∨∃b off C,a=some ⟨b,off,none⟩∧w.heap[b]?=some (.cells C e (0,0))∧∀i (h:i<xs.length),C[off+i]?=some xs[i])
section
variable{w w':ak}{e:aK}{sz n c:Nat}{a:az}{xs:aP}
theorem Sl.len(h:Sl w e sz a n c xs):xs.length=n*sz:=h.1
theorem Sl.cap(h:Sl w e sz a n c xs):n≤c:=h.2.1
theorem Sl.nil_(h:Sl w e sz a n c xs):a=none→c=0:=by
 rcases h.2.2 with⟨_,h0⟩|⟨b,off,C,rfl,_⟩
 ·exact fun _=>h0
 ·intro h;cases h
theorem Sl.nil0(h:Sl w e sz a n c xs):a=none→n=0∧c=0:=fun h0=>by have:=h.nil_ h0;have:=h.cap;omega
theorem Sl.row(h:Sl w e sz a n c xs):Row w a xs:=by
 rcases h.2.2 with⟨_,h0⟩|⟨b,off,C,rfl,hb,hc⟩
 ·refine .inl (Gp ?_);have h1:=h.1;have h2:=h.2.1;have hn:n=0:=by omega
  rw[hn,Nat.zero_mul]at h1;exact h1
 ·refine .inr ⟨b,off,rfl,(lX.1 hb).1,fun i hi=>?_⟩;rw[cell_of_row w b _ C e (0,0) hb];exact hc i hi
theorem Sl.keep(h:Sl w e sz a n c xs)(hk: ∀b off,a=some ⟨b,off,none⟩→b<w.heap.size→w'.heap[b]?=w.heap[b]?):Sl w' e sz a n c xs:=by
 refine⟨h.1,h.2.1,?_⟩;rcases h.2.2 with h0|⟨b,off,C,rfl,hb,hc⟩
 ·exact .inl h0
 ·exact .inr ⟨b,off,C,rfl,(hk b off rfl (lX.1 hb).1).trans hb,hc⟩
theorem Sl.below(h:Sl w e sz a n c xs)(hb:Below B w w')(hB:w.heap.size≤B):Sl w' e sz a n c xs:=h.keep fun b _ _ hl=>hb.block b aj
theorem Sl.alloc(h:Sl w e sz a n c xs)(o:Obj):Sl (w.alloc o) e sz a n c xs:=h.keep fun b _ _ hl=>Below.heap_alloc w o b hl
theorem Sl.nil(w:ak)(e:aK)(sz:Nat):Sl w e sz none 0 0 []:=⟨by simp,Nat.le_refl _,.inl ⟨rfl,rfl⟩⟩
theorem Own.sl(h:Own w base e sz a n c xs):Sl w e sz a n c xs:=by
 refine⟨h.1,h.IJ,?_⟩;rcases h.2 with⟨hv,_⟩|⟨g,cp,cur,hv,_,hg,_,_,_,ht⟩
 ·injection hv with h1 h2 h3;exact .inl ⟨h1,h3⟩
 ·injection hv with h1 h2 h3
  refine .inr ⟨g,0,cur,h1,hg,fun i hi=>?_⟩;have hl:=h.1;have hi2:i<(cur.toList.take (n*sz)).length:=by rw[ht];exact hi
  have:(cur.toList.take (n*sz))[i]?=some xs[i]:=by rw[ht];simp
  rw[List.getElem?_take]at this
  split at this
  ·rw[dX];simpa using this
  ·cases this
theorem Sl.pU(h:Sl w e sz a n c xs){g:Nat}{C:aZ}(hg:w.heap[g]?=some (.cells C t (0,0)))(hne:e≠t):a.map (·.block)≠some g:=by
 rcases h.2.2 with⟨rfl,_⟩|⟨b,off,C',rfl,hb,_⟩
 ·intro h;cases h
 ·intro h0;have:b=g:=by simpa using h0
  subst this;rw[hb]at hg;injection hg with hg
  injection hg with _ h2 _
  exact hne h2
theorem Sl.open_(h:Sl w e sz a n c xs)(hn:1≤n): ∃b off,a=some ⟨b,off,none⟩∧b<w.heap.size:=by
 rcases h.2.2 with⟨_,h0⟩|⟨b,off,C',rfl,hb,_⟩
 ·have:=h.2.1;omega
 ·exact⟨b,off,rfl,(lX.1 hb).1⟩
theorem Row.fV{α:Type}{cells:α→aP}{b:Nat}{l:List α}(h:Row w (some ⟨b,off,none⟩) (gC cells l))(hk: ∀x,(cells x).length=k)(i:Nat)(hi:i<l.length)(j:Nat)(hj:j<k){v:Value}(hv:(cells l[i])[j]?=some v):w.cell? ⟨b,off+i*k+j,none⟩=some v:=by
 have hl:=oZ hk l;have q:=Vw hk l i hi j hj;rcases h with h|⟨b',off',e,hlt,hc⟩
 ·rw[h]at q;rw[hv]at q;simp at q
 ·injection e with e
  injection e with e1 e2 _
  subst e1 e2;have q0:i*k+j<(gC cells l).length:=by
   rw[hl];have:(i+1)*k≤l.length*k:=Nat.mul_le_mul_right k hi;rw[Nat.add_mul]at this;omega
  have:=hc (i*k+j) q0;rw[Nat.add_assoc,this];rw[hv,d_ q0]at q;exact q
end
theorem grownBy_trans{a b c:ak}{g:Option Nat}(h1:a.grownBy b g)(h2:b.grownBy c g):a.grownBy c g:=
 ⟨h2.os.trans h1.os,h2.tape.trans h1.tape,h2.output.trans h1.output,dA h1.size h2.size,fun k hk hne=>(h2.block k (jL hk h1.size) hne).trans (h1.block k hk hne)⟩
theorem grownBy_below(h:Below w.heap.size w w')(g:Option Nat):w.grownBy w' g:=⟨h.os,h.tape,h.output,h.size,fun k hk _=>h.block k hk⟩
theorem _root_.Go.RowKit.Below.aB{U:ak}{g:Option Nat}(h:Below B U w)(hg:w.grownBy w' g)(hB:B≤w.heap.size)(hne: ∀k,g=some k→B≤k):Below B U w':=h.grown hg hB hne
theorem Own.aB{cap:Nat}{g:Option Nat}(h:Own w base e size a n cap xs)(hg:w.grownBy w' g)(hne: ∀k,g=some k→a.map (·.block)≠some k):Own w' base e size a n cap xs:=
 h.keep fun b ha _ hl=>hg.block b hl fun e=>hne b e.symm (by rw[ha];rfl)
theorem ah.aB{g:Nat}{cs:aZ}{k:Option Nat}(h:ah w g t cs)(hg:w.grownBy w' k)(hne:k≠some g):ah w' g t cs:=
 (hg.block g h.lt fun e=>hne e.symm).trans h
theorem ah.upd{g:Nat}{cs cs':aZ}(h:ah w g t cs)(i:Nat)(v:Value)(e:cs.setIfInBounds i v=cs':=by rfl):ah (w.setCell ⟨g,i,none⟩ v) g t cs':=e▸h.set i v
theorem ah.dG(w:ak)(o:Obj)(e:aK)(C:aZ):ah ((w.alloc o).alloc (.cells C e)) (w.heap.size+1) e C:=by
 have:=ah.new (w.alloc o) e C
 rwa [World.size_alloc]at this
theorem Own.iw{g:Nat}{cap:Nat}{cs:aZ}(h:Own W base e size a n cap xs)(k:ah W g t cs)(hne:e≠t):a.map (·.block)≠some g:=h.sl.pU k hne
theorem Own.Bq{aax:Nat}{size' cap:Nat}{b:az}(h:Own w base e size a n cap xs)(h':Own w aax e' size' b n' cap' ys)(hne:e≠e'):Apart a b:=by
 intro k hk hb;rcases h.2 with⟨hv,_⟩|⟨g,c,cur,hv,_,hg,_⟩
 ·injection hv with h1 _ _;subst h1;cases hk
 ·injection hv with h1 _ _
  subst h1;obtain rfl:g=k:=by simpa using hk
  exact h'.sl.pU hg (Ne.symm hne) hb
theorem Own.on{g:Nat}{cap:Nat}{cs:aZ}(o:Own W B e size a n cap xs)(hb:Below W.heap.size W w')(k:ah w' g t cs)(hne:e≠t)(i:Nat)(v:Value):Own (w'.setCell ⟨g,i,none⟩ v) B e size a n cap xs:=
 (o.below hb aA).far (p:=⟨g,i,none⟩) ((o.below hb aA).iw k hne) v
theorem Own.wK{g:Nat}{cap:Nat}{cs:aZ}(o:Own w' W.heap.size e size a n cap xs)(hle:B≤W.heap.size)(k:ah w' g t cs)(hne:e≠t)(i:Nat)(v:Value):Own (w'.setCell ⟨g,i,none⟩ v) B e size a n cap xs:=
 (o.mono hle).far (p:=⟨g,i,none⟩) (o.iw k hne) v
theorem ah.on{g g':Nat}{cs:aZ}(k:ah W g t cs)(hb:Below W.heap.size W w')(hne:g≠g')(i:Nat)(v:Value):ah (w'.setCell ⟨g',i,none⟩ v) g t cs:=(k.below hb k.lt).far (p:=⟨g',i,none⟩) hne v
theorem Sl.drew{c:Nat}(h:Sl w e sz a n c xs):Sl w.drew e sz a n c xs:=h
theorem jA(h:Below w.drew.heap.size w.drew w'):Below w.heap.size w w':=⟨h.os,h.tape,h.output,h.size,h.block⟩
theorem QO{cap:Nat}(h:Own w B e size a n cap xs:=by
 repeat(first|(with_reducible assumption)|(with_reducible refine Own.far ?_ ?_ _))):Own w B e size a n cap xs:=h
theorem ah.n1{b:Nat}(h:ah w b t #[v0]):w.cell? ⟨b,0,none⟩=some v0∧(∀i,w.frozen? ⟨b,i,none⟩=false)∧b<w.heap.size:=⟨h.cell 0,h.frozen,h.lt⟩
theorem ah.n2{b:Nat}(h:ah w b t #[v0,v1]):w.cell? ⟨b,0,none⟩=some v0∧w.cell? ⟨b,1,none⟩=some v1∧(∀i,w.frozen? ⟨b,i,none⟩=false)∧b<w.heap.size:=⟨h.cell 0,h.cell 1,h.frozen,h.lt⟩
theorem ah.n3{b:Nat}(h:ah w b t #[v0,v1,v2]):w.cell? ⟨b,0,none⟩=some v0∧w.cell? ⟨b,1,none⟩=some v1∧w.cell? ⟨b,2,none⟩=some v2∧(∀i,w.frozen? ⟨b,i,none⟩=false)∧b<w.heap.size:=⟨h.cell 0,h.cell 1,h.cell 2,h.frozen,h.lt⟩
theorem ah.n4{b:Nat}(h:ah w b t #[v0,v1,v2,v3]):w.cell? ⟨b,0,none⟩=some v0∧w.cell? ⟨b,1,none⟩=some v1∧w.cell? ⟨b,2,none⟩=some v2∧w.cell? ⟨b,3,none⟩=some v3∧(∀i,w.frozen? ⟨b,i,none⟩=false)∧b<w.heap.size:=⟨h.cell 0,h.cell 1,h.cell 2,h.cell 3,h.frozen,h.lt⟩
theorem ah.n5{b:Nat}(h:ah w b t #[v0,v1,v2,v3,v4]):w.cell? ⟨b,0,none⟩=some v0∧w.cell? ⟨b,1,none⟩=some v1∧w.cell? ⟨b,2,none⟩=some v2∧w.cell? ⟨b,3,none⟩=some v3∧w.cell? ⟨b,4,none⟩=some v4∧(∀i,w.frozen? ⟨b,i,none⟩=false)∧b<w.heap.size:=⟨h.cell 0,h.cell 1,h.cell 2,h.cell 3,h.cell 4,h.frozen,h.lt⟩
theorem ah.n6{b:Nat}(h:ah w b t #[v0,v1,v2,v3,v4,v5]):w.cell? ⟨b,0,none⟩=some v0∧w.cell? ⟨b,1,none⟩=some v1∧w.cell? ⟨b,2,none⟩=some v2∧w.cell? ⟨b,3,none⟩=some v3∧w.cell? ⟨b,4,none⟩=some v4∧w.cell? ⟨b,5,none⟩=some v5∧(∀i,w.frozen? ⟨b,i,none⟩=false)∧b<w.heap.size:=⟨h.cell 0,h.cell 1,h.cell 2,h.cell 3,h.cell 4,h.cell 5,h.frozen,h.lt⟩
theorem ah.n8{b:Nat}(h:ah w b t #[v0,v1,v2,v3,v4,v5,v6,v7]):w.cell? ⟨b,0,none⟩=some v0∧w.cell? ⟨b,1,none⟩=some v1∧w.cell? ⟨b,2,none⟩=some v2∧w.cell? ⟨b,3,none⟩=some v3∧w.cell? ⟨b,4,none⟩=some v4∧w.cell? ⟨b,5,none⟩=some v5∧w.cell? ⟨b,6,none⟩=some v6∧w.cell? ⟨b,7,none⟩=some v7∧(∀i,w.frozen? ⟨b,i,none⟩=false)∧b<w.heap.size:=⟨h.cell 0,h.cell 1,h.cell 2,h.cell 3,h.cell 4,h.cell 5,h.cell 6,h.cell 7,h.frozen,h.lt⟩
theorem ah.n13{b:Nat}(h:ah w b t #[v0,v1,v2,v3,v4,v5,v6,v7,v8,v9,v10,v11,v12]):w.cell? ⟨b,0,none⟩=some v0∧w.cell? ⟨b,1,none⟩=some v1∧w.cell? ⟨b,2,none⟩=some v2∧w.cell? ⟨b,3,none⟩=some v3∧w.cell? ⟨b,4,none⟩=some v4∧w.cell? ⟨b,5,none⟩=some v5∧w.cell? ⟨b,6,none⟩=some v6∧w.cell? ⟨b,7,none⟩=some v7∧w.cell? ⟨b,8,none⟩=some v8∧w.cell? ⟨b,9,none⟩=some v9∧w.cell? ⟨b,10,none⟩=some v10∧w.cell? ⟨b,11,none⟩=some v11∧w.cell? ⟨b,12,none⟩=some v12∧(∀i,w.frozen? ⟨b,i,none⟩=false)∧b<w.heap.size:=⟨h.cell 0,h.cell 1,h.cell 2,h.cell 3,h.cell 4,h.cell 5,h.cell 6,h.cell 7,h.cell 8,h.cell 9,h.cell 10,h.cell 11,h.cell 12,h.frozen,h.lt⟩
theorem ah.n14{b:Nat}{v13:Value}(h:ah w b t #[v0,v1,v2,v3,v4,v5,v6,v7,v8,v9,v10,v11,v12,v13]):w.cell? ⟨b,0,none⟩=some v0∧w.cell? ⟨b,1,none⟩=some v1∧w.cell? ⟨b,2,none⟩=some v2∧w.cell? ⟨b,3,none⟩=some v3∧w.cell? ⟨b,4,none⟩=some v4∧w.cell? ⟨b,5,none⟩=some v5∧w.cell? ⟨b,6,none⟩=some v6∧w.cell? ⟨b,7,none⟩=some v7∧w.cell? ⟨b,8,none⟩=some v8∧w.cell? ⟨b,9,none⟩=some v9∧w.cell? ⟨b,10,none⟩=some v10∧w.cell? ⟨b,11,none⟩=some v11∧w.cell? ⟨b,12,none⟩=some v12∧w.cell? ⟨b,13,none⟩=some v13∧(∀i,w.frozen? ⟨b,i,none⟩=false)∧b<w.heap.size:=⟨h.cell 0,h.cell 1,h.cell 2,h.cell 3,h.cell 4,h.cell 5,h.cell 6,h.cell 7,h.cell 8,h.cell 9,h.cell 10,h.cell 11,h.cell 12,h.cell 13,h.frozen,h.lt⟩
theorem ah.n17{b:Nat}{v13 v14 v15 v16:Value}(h:ah w b t #[v0,v1,v2,v3,v4,v5,v6,v7,v8,v9,v10,v11,v12,v13,v14,v15,v16]):w.cell? ⟨b,0,none⟩=some v0∧w.cell? ⟨b,1,none⟩=some v1∧w.cell? ⟨b,2,none⟩=some v2∧w.cell? ⟨b,3,none⟩=some v3∧w.cell? ⟨b,4,none⟩=some v4∧w.cell? ⟨b,5,none⟩=some v5∧w.cell? ⟨b,6,none⟩=some v6∧w.cell? ⟨b,7,none⟩=some v7∧w.cell? ⟨b,8,none⟩=some v8∧w.cell? ⟨b,9,none⟩=some v9∧w.cell? ⟨b,10,none⟩=some v10∧w.cell? ⟨b,11,none⟩=some v11∧w.cell? ⟨b,12,none⟩=some v12∧w.cell? ⟨b,13,none⟩=some v13∧w.cell? ⟨b,14,none⟩=some v14∧w.cell? ⟨b,15,none⟩=some v15∧w.cell? ⟨b,16,none⟩=some v16∧(∀i,w.frozen? ⟨b,i,none⟩=false)∧b<w.heap.size:=⟨h.cell 0,h.cell 1,h.cell 2,h.cell 3,h.cell 4,h.cell 5,h.cell 6,h.cell 7,h.cell 8,h.cell 9,h.cell 10,h.cell 11,h.cell 12,h.cell 13,h.cell 14,h.cell 15,h.cell 16,h.frozen,h.lt⟩
theorem ah.sets{g:Nat}: ∀(vs:aP) {w:ak} {cs:aP} (o:Nat),ah w g t cs.toArray→ah (jy w g o vs) g t (Dt cs o vs).toArray
 |[],_,_,_,h=>h
 |v::vs,w,cs,o,h=>ah.sets vs (o+1) (by have:=h.set o v;rwa [pz]at this)
theorem ah.there{g:Nat}{cs:aZ}(k:ah w g t cs)(o n:Nat)(h:o+n≤cs.size):w.there g o n:=fun j hj=>⟨by rw[k.cell];simp;omega,k.frozen _⟩
theorem afj{P:Prop}(h:P:=by
 induction vs with
 |nil=>intro w o;rfl
 |cons v vs ih=>intro w o;rw[jy,ih];simp[World.setCell]):P:=h
theorem P8{a:Act}(hgd:o.guard=none)(T:aK)(x y:Operand)(ho:o.op= .store T x y)(g off:Nat)(t:aK)(cs:aP)(vs:aZ)
  (hx:a.eval x= .pointer (some ⟨g,off,none⟩)) (hy:a.eval y= .agg vs) (k:ah w g t cs.toArray) (hn:off+vs.size≤cs.length) (hi:(P.info? T).map (·.size)=some vs.size) (h1:vs.toList.all (·.oneCell')=true)
  (h: ∀W',ah W' g t (Dt cs off vs.toList).toArray→w.grownBy W' (some g)→W'.heap.size=w.heap.size→wpList P ops Q rest (a.put o.dst undef) W'):wpList P ops Q (o::rest) a w:=by
 refine wpList_store_mid hgd T x y ho g off vs hx hy (k.there off _ (by simpa using hn)) hi Zg ?_;rw[Ud];refine h _ (k.sets _ _) (gm g _ _ _) ?_;have: ∀(vs:aP) (w:ak) (o:Nat),(jy w g o vs).heap.size=w.heap.size:=fun vs=>by
  exact afj
 exact this _ _ _
theorem xM{a:Act}(hgd:o.guard=none)(T:aK)(x y:Operand)(ho:o.op= .store T x y)(g:Nat)(cs vs:aZ)
  (hx:a.eval x= .pointer (some ⟨g,0,none⟩)) (hy:a.eval y= .agg vs) (k:ah w g T cs) (N:Nat) (hn:vs.size=N) (hn2:cs.size=N) (hi:(P.info? T).map (·.size)=some N) (h1:vs.toList.all (·.oneCell')=true)
  (h: ∀W',ah W' g T vs→w.grownBy W' (some g)→W'.heap.size=w.heap.size→wpList P ops Q rest (a.put o.dst undef) W'):wpList P ops Q (o::rest) a w:=by
 subst hn;refine P8 hgd T x y ho g 0 T cs.toList vs hx hy k (by simp[hn2]) hi h1 ?_;intro W' k' gw zw;refine h W' ?_ gw zw;have:=Uw vs.toList cs.toList [] (by simp[hn2]);simp only[iK]at this;rw[this]at k';exact k'
theorem dw{a:Act}{T:aK}{x y:Operand}{g:Nat}{cs:aZ}(vs:aZ)(k:ah w g T cs)(hi:(P.info? T).map (·.size)=some N)(h: ∀W',ah W' g T vs→w.grownBy W' (some g)→W'.heap.size=w.heap.size→wpList P ops Q rest (a.put o.dst undef) W')(hgd:o.guard=none:=by exact rfl)(ho:o.op= .store T x y:=by exact rfl)(hx:a.eval x= .pointer (some ⟨g,0,none⟩):=by exact rfl)(hy:a.eval y= .agg vs:=by exact rfl)(hn:vs.size=N:=by exact rfl)(hn2:cs.size=N:=by exact rfl)(h1:vs.toList.all (·.oneCell')=true:=by exact rfl):wpList P ops Q (o::rest) a w:=xM hgd T x y ho g cs vs hx hy k N hn hn2 hi h1 h
theorem tJ{g:Nat}{cs:aZ}(k:ah w g t cs)(T:aK)(N:Nat)(hn:cs.size=N)(hu:(P.underlying T).map TypeDesc.isRow=some true)(hi:(P.info? T).map (·.size)=some N):(loadVar T ⟨g,0,none⟩).run P w= .ok (.agg cs) w:=by
 subst hn;cases hd:P.underlying T with
 |none=>rw[hd]at hu;cases hu
 |some d=>
  rw[hd]at hu;have:=run_loadVar_mid (P:=P) w g 0 T cs.toList d (fun j v hv=>by rw[dX,k.cell];simpa using hv) hd Il P5;simpa using this
theorem Nu{a:Act}(hgd:o.guard=none)(T:aK)(x:Operand)(ho:o.op= .load T x)(g:Nat)(cs:aZ)
  (hx:a.eval x= .pointer (some ⟨g,0,none⟩)) (k:ah w g T cs) (N:Nat) (hn:cs.size=N) (hu:(P.underlying T).map TypeDesc.isRow=some true) (hi:(P.info? T).map (·.size)=some N)
  (h:wpList P ops Q rest (a.put o.dst (.agg cs)) w):wpList P ops Q (o::rest) a w:=by
 refine wpList_plain hgd fun K hK=>?_;unfold Oper.wp execOp;simp only[ho,hx,Instr.loadAt,Instr.sureAddr,Sem.run_bind,Sem.run_pure,Result.andThen_ok,tJ k T N hn hu hi];exact hK _ _ h
theorem gy{a:Act}{T:aK}{x:Operand}{g:Nat}{cs:aZ}(k:ah w g T cs)(hu:(P.underlying T).map TypeDesc.isRow=some true)(hi:(P.info? T).map (·.size)=some N)(h:wpList P ops Q rest (a.put o.dst (.agg cs)) w)(hgd:o.guard=none:=by exact rfl)(ho:o.op= .load T x:=by exact rfl)(hx:a.eval x= .pointer (some ⟨g,0,none⟩):=by exact rfl)(hn:cs.size=N:=by exact rfl):wpList P ops Q (o::rest) a w:=Nu hgd T x ho g cs hx k N hn hu hi h
theorem nJ{fn:Func}{R:EN}{a:Act}{g:Nat}{cs:aZ}(i:Nat)(T:aK)(hres:fn.results= #[.cell i T])(hp:a.tmps.getD i undef= .pointer (some ⟨g,0,none⟩))(k:ah w g T cs)
  (N:Nat) (hn:cs.size=N) (hu:(P.underlying T).map TypeDesc.isRow=some true) (hi:(P.info? T).map (·.size)=some N) (hd:a.defers= []) (hR:R (.returned (.agg cs)) w):bodyPost P fn R .ret a w:=by
 refine bodyPost_ret (v:= .agg cs) ?_ hd hR;have hl:=tJ k T N hn hu hi;simp only[Array.getD_eq_getD_getElem?]at hp;simp[results,hres,hp,hl,asAddr,Sem.run_bind,Sem.run_pure,Result.andThen]
section
variable{α κ:Type}
structure iH(cells:α→aP)(own:ak→α→Prop)(key:α→κ)(T:aK)(sz:Nat)(V:ak)(B:Nat)(l:List α)(xa:az)(n xc:Nat)(i:Nat)(l2:List α)(wr:ak):Prop where
 len:l2.length=i
 keys:l2.map key=(l.take i).map key
 row:Own wr B T sz xa n xc (gC cells (l2++l.drop i))
 WQ: ∀x∈l2,own wr x
 gr:V.grownBy wr (xa.map (·.block))
variable{cells:α→aP}{own:ak→α→Prop}{key:α→κ}{T:aK}{sz:Nat}{V:ak}{B:Nat}{l:List α}{xa:az}{n xc i:Nat}{l2:List α}{wr:ak}
theorem iH.start(h:Own V B T sz xa n xc (gC cells l)):iH cells own key T sz V B l xa n xc 0 [] V:=
 ⟨rfl,rfl,by simpa using h,by simp,⟨rfl,rfl,rfl,Nat.le_refl _,fun _ _ _=>rfl⟩⟩
theorem iH.fin(h:iH cells own key T sz V B l xa n xc i l2 wr)(hi:i=l.length):l2.map key=l.map key∧l2.length=l.length∧Own wr B T sz xa n xc (gC cells l2)∧∀x∈l2,own wr x:=by
 subst hi;refine⟨by rw[h.keys,List.take_length],h.len,by have:=h.row;rwa [List.drop_length,iK]at this,h.WQ⟩
theorem iH.open_(h:iH cells own key T sz V B l xa n xc i l2 wr)(hn:n=l.length)(hi:i<l.length): ∃g,xa=some ⟨g,0,none⟩∧B≤g∧g<wr.heap.size:=h.row.open_ aj
theorem iH.item(h:iH cells own key T sz V B l xa n xc i l2 wr)(hi:i<l.length):i<(l2++l.drop i).length∧∃hh:i<(l2++l.drop i).length,(l2++l.drop i)[i]=l[i]:=by
 have e:=h.len;have hl:i<(l2++l.drop i).length:=by rw[dP,pW,e];omega
 refine⟨hl,hl,?_⟩;rw[List.getElem_append_right aj];simp[e]
theorem iH.cell{g:Nat}(h:iH cells own key T sz V B l (some ⟨g,0,none⟩) n xc i l2 wr)(hk: ∀x,(cells x).length=sz)(hi:i<l.length)(j:Nat)(hj:j<sz){v:Value}(hv:(cells l[i])[j]?=some v):wr.cell? ⟨g,i*sz+j,none⟩=some v:=by
 obtain⟨hl,_,he⟩:=h.item hi;have:=h.row.row.fV hk i hl j hj (v:=v) (by rw[he];exact hv)
 rwa [dX]at this
theorem iH.below{w4:ak}(h:iH cells own key T sz V B l xa n xc i l2 wr)(hb:Below wr.heap.size wr w4)(hin: ∀x,own wr x→own w4 x):iH cells own key T sz V B l xa n xc i l2 w4:=
 ⟨h.len,h.keys,h.row.below hb aA,fun x hx=>hin x (h.WQ x hx),grownBy_trans h.gr (grownBy_below hb _)⟩
theorem YE{P:Prop}(h:P:=by
 rw[List.set_append_right _ _ aj,e,Nat.sub_self,List.drop_eq_getElem_cons hi,jX,uM];rfl):P:=h
theorem YF{P:Prop}(h:P:=by
 rw[jg,h.keys,←List.take_append_getElem hi,jg];simp[hkey]):P:=h
theorem afk{P:Prop}(h:P:=by
 intro x hx;rcases lW.1 hx with q|q
 ·exact ER x (h.WQ x q)
 ·rw[dU.1 q];exact ER y hy):P:=h
theorem iH.step1{g:Nat}(h:iH cells own key T sz V B l (some ⟨g,0,none⟩) n xc i l2 wr)(hk: ∀x,(cells x).length=sz)(hi:i<l.length)(y:α)(j:Nat)(hj:j<sz)(v:Value)(hc:cells y=(cells l[i]).set j v)(hkey:key y=key l[i])
  (ER: ∀x,own wr x→own (wr.setCell ⟨g,i*sz+j,none⟩ v) x) (hy:own wr y):iH cells own key T sz V B l (some ⟨g,0,none⟩) n xc (i+1) (l2++ [y]) (wr.setCell ⟨g,i*sz+j,none⟩ v):=by
 have e:=h.len;obtain⟨hl,_,he⟩:=h.item hi;refine⟨by simp[e],?_,?_,?_,?_⟩
 ·exact YF
 ·have hset:=Nz hk (l2++l.drop i) i hl y j v hj (by rw[he];exact hc);have hs:(l2++l.drop i).set i y=l2++ [y]++l.drop (i+1):=by
   exact YE
  rw[←hs,hset];exact h.row.set _ v
 ·exact afk
 ·exact grownBy_trans h.gr (grownBy_set _ g _ _)
theorem iH.aab{g:Nat}(h:iH cells own key T sz V B l (some ⟨g,0,none⟩) n xc i l2 wr)(hk: ∀x,(cells x).length=sz)(hi:i<l.length)(y:α)(hkey:key y=key l[i])(hW:W'=jy wr g (i*sz) (cells y))
  (ER: ∀x,own wr x→own W' x) (hy:own wr y):iH cells own key T sz V B l (some ⟨g,0,none⟩) n xc (i+1) (l2++ [y]) W':=by
 have e:=h.len;obtain⟨hl,_,he⟩:=h.item hi;refine⟨by simp[e],?_,?_,?_,?_⟩
 ·exact YF
 ·have hset:=C9 hk (l2++l.drop i) i hl y;have hs:(l2++l.drop i).set i y=l2++ [y]++l.drop (i+1):=by
   exact YE
  rw[←hs,hset,hW];exact h.row.sets _ _
 ·exact afk
 ·rw[hW];exact grownBy_trans h.gr (gm g _ _ _)
end
theorem agH{α:Type}{cells:α→aP}{b:Nat}{l:List α}(h:Row w (some ⟨b,off,none⟩) (gC cells l))(hk: ∀x,(cells x).length=k)(i:Nat)(hi:i<l.length){x:α}(hx:l[i]=x):w.rangeAt b (off+i*k) (cells x):=fun j v hv=>by
 have hj:j<k:=by rw[←hk x];exact(List.getElem?_eq_some_iff.1 hv).1
 exact h.fV hk i hi j hj (by rw[hx];exact hv)
theorem CW{α:Type}{cells:α→aP}{b:Nat}{l:List α}(h:Row w (some ⟨b,0,none⟩) (gC cells l))(hk: ∀x,(cells x).length=k)(i:Nat)(hi:i<l.length){x:α}(hx:l[i]=x)(hb:b<w.heap.size)(T:aK)
  (hu:(P.underlying T).map TypeDesc.isRow=some true) (hs:(P.info? T).map (·.size)=some k) (d:Nat) (os:Array Obj):(Instr.loadAt T (.pointer (some ⟨b,i*k,none⟩))).run P (Sort.grow (redrawn w d) os)= .ok (.agg (cells x).toArray) (Sort.grow (redrawn w d) os):=by
 cases hd:P.underlying T with
 |none=>rw[hd]at hu;cases hu
 |some de=>
  rw[hd]at hu;have hr:=agH h hk i hi hx;rw[dX]at hr;refine run_loadAt_mid (P:=P) (Sort.grow (redrawn w d) os) b (i*k) T (cells x) de (fun j v hv=>?_) hd Il UN;rw[(below_regrown w d os).cell (p:=⟨b,i*k+j,none⟩) hb];exact hr j v hv
theorem yO{a:Act}(hgd:o.guard=none)(T:aK)(x y:Operand)(ho:o.op= .store T x y){g cap:Nat}(vs:aZ)
  (hx:a.eval x= .pointer (some ⟨g,off,none⟩)) (hy:a.eval y= .agg vs) (own:Own w B e sz (some ⟨g,0,none⟩) n cap xs) (hn:off+vs.size≤xs.length) (N:Nat) (hN:vs.size=N) (hi:(P.info? T).map (·.size)=some N) (h1:vs.toList.all (·.oneCell')=true)
  (h: ∀W',W'=jy w g off vs.toList→W'.heap.size=w.heap.size→wpList P ops Q rest (a.put o.dst undef) W'):wpList P ops Q (o::rest) a w:=by
 subst hN;refine wpList_store_mid hgd T x y ho g off vs hx hy (fun j hj=>⟨?_,own.frozen _⟩) hi Zg ?_
 ·rw[own.cell (off+j) aj];rfl
 ·rw[Ud];refine h _ rfl ?_;have: ∀(vs:aP) (w:ak) (o:Nat),(jy w g o vs).heap.size=w.heap.size:=fun vs=>by
   exact afj
  exact this _ _ _
theorem iH.load{α κ:Type}{cells:α→aP}{own:ak→α→Prop}{key:α→κ}{T0:aK}{l:List α}{g:Nat}{l2:List α}
  (h:iH cells own key T0 sz V B l (some ⟨g,0,none⟩) n xc i l2 wr) (hk: ∀x,(cells x).length=sz) (hi:i<l.length) {x:α} (hx:l[i]=x) (T:aK) (hu:(P.underlying T).map TypeDesc.isRow=some true) (hs:(P.info? T).map (·.size)=some sz) (hg:g<wr.heap.size) (d:Nat) (os:Array Obj):
  (Instr.loadAt T (.pointer (some ⟨g,i*sz,none⟩))).run P (Sort.grow (redrawn wr d) os)= .ok (.agg (cells x).toArray) (Sort.grow (redrawn wr d) os):=by
 obtain⟨hl,_,he⟩:=h.item hi;exact CW h.row.row hk i hl (he.trans hx) hg T hu hs d os
theorem iH.room{α κ:Type}{cells:α→aP}{own:ak→α→Prop}{key:α→κ}{T0:aK}{l:List α}{g:Nat}{l2:List α}
  (h:iH cells own key T0 sz V B l (some ⟨g,0,none⟩) n xc i l2 wr) (hk: ∀x,(cells x).length=sz) (hi:i<l.length):i*sz+sz≤(gC cells (l2++l.drop i)).length:=by
 obtain⟨hl,_,he⟩:=h.item hi;rw[oZ hk];have:(i+1)*sz≤(l2++l.drop i).length*sz:=Nat.mul_le_mul_right sz hl;rw[Nat.add_mul]at this;omega
theorem iH.step2{α κ:Type}{cells:α→aP}{own:ak→α→Prop}{key:α→κ}{T:aK}{l:List α}{g:Nat}{l2:List α}
  (h:iH cells own key T sz V B l (some ⟨g,0,none⟩) n xc i l2 wr) (hk: ∀x,(cells x).length=sz) (hi:i<l.length) (j1 j2:Nat) (h1:j1<sz) (h2:j2<sz) (v1 v2:Value) (row:Own w' B T sz (some ⟨g,0,none⟩) n xc (((gC cells (l2++l.drop i)).set (i*sz+j1) v1).set (i*sz+j2) v2))
  (y y1:α) (hc1:cells y1=(cells l[i]).set j1 v1) (hc:cells y=(cells y1).set j2 v2) (hkey:key y=key l[i]) (hin: ∀x∈l2,own w' x) (hy:own w' y) (gr:wr.grownBy w' (some g)):iH cells own key T sz V B l (some ⟨g,0,none⟩) n xc (i+1) (l2++ [y]) w':=by
 have e:=h.len;obtain⟨hl,_,he⟩:=h.item hi;refine⟨by simp[e],?_,?_,?_,grownBy_trans h.gr gr⟩
 ·exact YF
 ·have s1:=Nz hk (l2++l.drop i) i hl y1 j1 v1 h1 (by rw[he];exact hc1);have s2:=Nz hk ((l2++l.drop i).set i y1) i (by rw[iQ];exact hl) y j2 v2 h2 (by simpa using hc);rw[List.set_set]at s2;have hs:(l2++l.drop i).set i y=l2++ [y]++l.drop (i+1):=by
   exact YE
  rw[←hs,s2,s1];exact row
 ·intro x hx;rcases lW.1 hx with q|q
  ·exact hin x q
  ·rw[dU.1 q];exact hy
structure Tk where
 us:Bool
 sec:aJ
 par:Int
 rt:Int
 cl:Int
 un:Int
 a:az
 c:Nat
structure ny where
 us:Bool
 sec:aJ
 par:Int
 rt:Int
 cl:Int
 un:Int
deriving DecidableEq
def Tk.key(t:Tk):ny:=⟨t.us,t.sec,t.par,t.rt,t.cl,t.un⟩
def Tk.cells(t:Tk):aP:= [.bool t.us,.slice t.a t.sec.length t.c,ae t.par,ae t.rt,ae t.cl,ae t.un]
def jP(l:List Tk):aP:=l.flatMap Tk.cells
theorem MQ: ∀l:List Tk,(jP l).length=l.length*6
 |[]=>rfl
 |v::l=>by
  have:=MQ l;simp only[jP,List.flatMap_cons,dP,jJ]at this⊢;rw[this];simp[Tk.cells];omega
theorem aoa(l m:List Tk):jP (l++m)=jP l++jP m:=by simp[jP]
theorem apI(l:List Tk): ∀u∈jP l,u.oneCell'=true:=by
 intro u hu;simp only[jP,List.mem_flatMap]at hu;obtain⟨y,_,hy⟩:=hu;simp only[Tk.cells,List.mem_cons,o_,or_false]at hy;rcases hy with rfl|rfl|rfl|rfl|rfl|rfl<;>rfl
theorem afl: ∀(l:List Tk) (i:Nat) (h:i<l.length) (j:Nat) (_:j<6),(jP l)[6*i+j]?=(l[i]).cells[j]?
 |p::l,0,_,j,hj=>by
  simp only[jP,List.flatMap_cons];rw[Nat.mul_zero,dX,List.getElem?_append_left UJ];rfl
 |p::l,i+1,h,j,hj=>by
  have:=afl l i oq j hj;simp only[jP,List.flatMap_cons]at this⊢;rw[List.getElem?_append_right UJ];simp only[List.getElem_cons_succ];rw[←this];congr 1;simp[Tk.cells];omega
theorem EC{g:Nat}{l:List Tk}(h:Row w (some ⟨g,off,none⟩) (jP l))(x:Nat)(hx:x<l.length):
  w.cell? ⟨g,off+x*6,none⟩=some (.bool l[x].us)∧w.cell? ⟨g,off+x*6+1,none⟩=some (.slice l[x].a l[x].sec.length l[x].c)∧w.cell? ⟨g,off+x*6+2,none⟩=some (ae l[x].par)∧w.cell? ⟨g,off+x*6+3,none⟩=some (ae l[x].rt)∧w.cell? ⟨g,off+x*6+4,none⟩=some (ae l[x].cl)∧w.cell? ⟨g,off+x*6+5,none⟩=some (ae l[x].un)∧g<w.heap.size:=by
 have hl:=MQ l;rcases h with h|⟨b,off',e,hlt,hc⟩
 ·rw[h]at hl;simp at hl;omega
 ·injection e with e
  injection e with e1 e2 _
  subst e1 e2;have key: ∀j,j<6→∀v,(l[x].cells)[j]?=some v→w.cell? ⟨g,off+x*6+j,none⟩=some v:=fun j hj v hv=>by
   have q0:6*x+j<(jP l).length:=by omega
   have:=hc (6*x+j) q0;rw[show off+x*6+j=off+(6*x+j)by omega,this];have q:=afl l x hx j hj;rw[hv,d_ q0]at q;exact q
  exact⟨key 0 aj _ rfl,key 1 aj _ rfl,key 2 aj _ rfl,key 3 aj _ rfl,key 4 aj _ rfl,key 5 aj _ rfl,hlt⟩
theorem Row.aue{l:List Tk}(h:Row w a (jP l))(hl:0<l.length): ∃b off,a=some ⟨b,off,none⟩:=by
 rcases h with h0|⟨b,off,e,_⟩
 ·have:=MQ l;rw[h0]at this;simp at this;omega
 ·exact⟨b,off,e⟩
structure DY(w:ak)(a:az)(l:List Tk):Prop where
 row:Row w a (jP l)
 sec: ∀t∈l,bI w t.a t.sec
structure lL(W:ak)(B:Nat)(l:List Tk)(xa:az)(xc:Nat):Prop where
 own:Own W B 260 6 xa l.length xc (jP l)
 sec: ∀t∈l,Own W B 5 1 t.a t.sec.length t.c (t.sec.map a_)
section
variable{w w' W W':ak}{B:Nat}{a:az}{l:List Tk}{xa:az}{xc:Nat}
theorem DY.below(h:DY w a l)(hb:Below B w w')(hB:w.heap.size≤B):DY w' a l:=⟨h.row.below hb hB,fun r hr=>(h.sec r hr).below hb hB⟩
theorem DY.open(h:DY w a l)(hl:0<l.length): ∃b off,a=some ⟨b,off,none⟩:=h.row.aue hl
theorem lL.keep(h:lL W B l xa xc)(hb: ∀b,b<W.heap.size→W'.heap[b]?=W.heap[b]?):lL W' B l xa xc:=
 ⟨h.own.keep fun b _ _ hl=>hb b hl,fun v hv=>(h.sec v hv).keep fun b _ _ hl=>hb b hl⟩
theorem lL.below(h:lL W B l xa xc)(hb:Below W.heap.size W W'):lL W' B l xa xc:=h.keep fun b hl=>hb.block b hl
theorem lL.alloc(h:lL W B l xa xc)(o:Obj):lL (W.alloc o) B l xa xc:=h.keep fun b hl=>Below.heap_alloc _ _ b hl
theorem lL.mono(h:lL W B l xa xc){B':Nat}(hB:B'≤B):lL W B' l xa xc:=⟨h.own.mono hB,fun r hr=>(h.sec r hr).mono hB⟩
end
theorem ahL:(prog.info? 260).map (fun i=>(i.zero,i.size,i.bytes))=some (some (.agg #[.bool false,.slice none 0 0,ae 0,ae 0,ae 0,ae 0]),6,64):=by kernel_rfl
theorem afm: ∀(l:List Tk) (j:Nat) (_:j<l.length) (y:Tk),jP (l.set j y)=((((((jP l).set (j*6) (.bool y.us)).set (j*6+1) (.slice y.a y.sec.length y.c)).set (j*6+2) (ae y.par)).set (j*6+3) (ae y.rt)).set (j*6+4) (ae y.cl)).set (j*6+5) (ae y.un)
 |p::l,0,_,y=>by simp[jP,Tk.cells]
 |p::l,j+1,h,y=>by
  have:=afm l j oq y;simp only[jP,List.flatMap_cons,lh]at this⊢;rw[this];have e: ∀k,(j+1)*6+k=j*6+k+6:=fun k=>by omega
  rw[show(j+1)*6=j*6+6 by omega];simp only[Tk.cells,List.cons_append,List.nil_append,show∀k,j*6+6+k=(j*6+k)+1+1+1+1+1+1 from fun k=>by omega,show j*6+6=j*6+1+1+1+1+1+1 by omega,lh]
theorem lL.Qm{l:List Tk}{xb:Nat}(h:lL W B l (some ⟨xb,0,none⟩) xc){j:Nat}(hj:j<l.length)(y:Tk)(hy:Own W B 5 1 y.a y.sec.length y.c (y.sec.map a_)):
  lL ((((((W.setCell ⟨xb,j*6,none⟩ (.bool y.us)).setCell ⟨xb,j*6+1,none⟩ (.slice y.a y.sec.length y.c)).setCell ⟨xb,j*6+2,none⟩ (ae y.par)).setCell ⟨xb,j*6+3,none⟩ (ae y.rt)).setCell ⟨xb,j*6+4,none⟩ (ae y.cl)).setCell ⟨xb,j*6+5,none⟩ (ae y.un)) B (l.set j y) (some ⟨xb,0,none⟩) xc:=by
 have far: ∀{n cap:Nat} {b:az} {xs:aP},Own W B 5 1 b n cap xs→Own ((((((W.setCell ⟨xb,j*6,none⟩ (.bool y.us)).setCell ⟨xb,j*6+1,none⟩ (.slice y.a y.sec.length y.c)).setCell ⟨xb,j*6+2,none⟩ (ae y.par)).setCell ⟨xb,j*6+3,none⟩ (ae y.rt)).setCell ⟨xb,j*6+4,none⟩ (ae y.cl)).setCell ⟨xb,j*6+5,none⟩ (ae y.un)) B 5 1 b n cap xs:=fun o=>by
  have q:_≠some xb:=fun e=>h.own.Vt o ay xb rfl e;exact(((((o.far (p:=⟨xb,_,none⟩) q _).far (p:=⟨xb,_,none⟩) q _).far (p:=⟨xb,_,none⟩) q _).far (p:=⟨xb,_,none⟩) q _).far (p:=⟨xb,_,none⟩) q _).far (p:=⟨xb,_,none⟩) q _
 refine⟨?_,fun r hr=>?_⟩
 ·rw[iQ,afm _ _ hj];exact(((((h.own.set _ _).set _ _).set _ _).set _ _).set _ _).set _ _
 ·rcases List.mem_or_eq_of_mem_set hr with q|q
  ·exact far (h.sec r q)
  ·rw[q];exact far hy
theorem ah.six{g:Nat}{a b c d e f:Value}(h:ah w g t #[a,b,c,d,e,f]):w.cell? ⟨g,0,none⟩=some a∧w.cell? ⟨g,1,none⟩=some b∧w.cell? ⟨g,2,none⟩=some c∧w.cell? ⟨g,3,none⟩=some d∧w.cell? ⟨g,4,none⟩=some e∧w.cell? ⟨g,5,none⟩=some f∧(∀i,w.frozen? ⟨g,i,none⟩=false)∧g<w.heap.size:=
 ⟨h.cell 0,h.cell 1,h.cell 2,h.cell 3,h.cell 4,h.cell 5,h.frozen,h.lt⟩
section
variable{F:Fence}{n:Nat}{P:Program}
def QP{α:Type}(F:Fence)(n:Nat)(P:Program)(g:Nat)(lb:aZ)(encs:α→aZ)(V:List α→α→ak→Prop)(Kp:ak→ak→Prop)(S Sp:List α→Prop)(w:ak):Prop:=
 ∀(l:Nat) (J Jx:List α→ak→Prop) (W:ak),Below w.heap.size w W→AbidesFrom W.heap.size J→AbidesFrom W.heap.size Jx→
  (∀pre x W1,J pre W1→V pre x W1→YieldAt F (n -1) P l (encs x) W1 fun e W'=>
   (e= .returned (.bool true)∧J (pre++ [x]) W'∧Kp W1 W')∨(e= .returned (.bool false)∧Jx (pre++ [x]) W'))→
  J [] W→
  CallsIn F n P g (#[.func (.yield l) #[] #[]]++lb) W fun e W'=>(∃v,e= .returned v)∧((∃xs,S xs∧J xs W')∨(∃pre,Sp pre∧Jx pre W'))
section
variable{α:Type}{ps:Array Tmp}{assign body:Code}{tmps:aZ}{fn:FuncId}{D l:Nat}{encs:α→aZ}{V:List α→α→ak→Prop}{Kp:ak→ak→Prop}
def recAt(fn:FuncId)(tmps:aZ)(ps:Array Tmp)(assign body:Code)(D:Nat)(st:LoopState)(pe:Option Code):Loop:=
 {state:=st,pending:=pe,fn,tmps,params:=ps,assign,body,defers:=D}
def vM(r:LoopState→Option Code→Loop)(D l:Nat)(st:LoopState)(pe:Option Code)(W:ak):Prop:=
 W.heap[l]?=some (.loop (r st pe))∧W.heap[D]?=some (.deferred (some []))
theorem vM.put{r:LoopState→Option Code→Loop}{st st':LoopState}{pe':Option Code}(h:vM r D l st pe W)(hne:D≠l):vM r D l st' pe' (W.putObj l (.loop (r st' pe'))):=
 ⟨World.putObj_heap_same (lX.1 h.1).1,(World.putObj_heap_other hne).trans h.2⟩
theorem vM.keeps{r:LoopState→Option Code→Loop}{st:LoopState}(h:vM r D l st pe W)(k:KeepsFrom B W W')(hD:B≤D)(hl:B≤l):vM r D l st pe W':=
 ⟨k.same _ _ hl h.1 rfl,k.same _ _ hD h.2 rfl⟩
theorem vM.grown{r:LoopState→Option Code→Loop}{st:LoopState}{row:Option Nat}(h:vM r D l st pe W)(g:W.grownBy W' row)(hr: ∀q,row=some q→∃o:Obj,W.heap[q]?=some o∧o.isWalk=true):vM r D l st pe W':=
 ⟨(grownBy_keeps g hr h.1 rfl).trans h.1,(grownBy_keeps g hr h.2 rfl).trans h.2⟩
theorem asZ(hfn:F.fn fn)(Oq:B≤D)(hBl:B≤l)(hne:D≠l)
  (hKt: ∀{A B C:ak},Kp A B→Kp B C→Kp A C) (hKb: ∀(W:ak) (l:Nat) (o o':Obj),B≤l→W.heap[l]?=some o→o.isCells=false→o.isWalk=false→Kp W (W.putObj l o')) (hps: ∀x,(encs x).size=ps.size)
  (I:List α→ak→Prop) (Ix:Code→List α→ak→Prop) (hI:OwnFrom B I) (hIx: ∀c,OwnFrom B (Ix c)) (Ax:List α→α→Act→ak→Prop) (hAx: ∀pre x a',OwnFrom B (fun(_:Unit) W=>Ax pre x a' W)) {m:Nat} (pre:List α) (x:α) (W:ak)
  (hassign: ∀(K:Act→ak→Prop),(∀a' W',KeepsFrom B W W'→Kp W W'→I pre W'→Ax pre x a' W'→K a' W')→
   assign.wpIn (F.inRound l) m P (Exit.then K (fun _ _ _=>False)) {tmps:=(ps.zip (encs x)).foldl (fun t (p,v)=>t.setIfInBounds p v) tmps,defers:= []} W)
  (hbody: ∀(a':Act) (W:ak),(∃r,W.heap[l]?=some (.loop r))→I pre W→Ax pre x a' W→body.wpIn (F.inRound l) m P (ownPostG B Kp I Ix (pre++ [x]) W) a' W)
  (hb:vM (recAt fn tmps ps assign body D) D l .ready none W):
  YieldAt F m P l (encs x) W fun e W'=>
   (e= .returned (.bool true)∧(I (pre++ [x]) W'∧vM (recAt fn tmps ps assign body D) D l .ready none W')∧Kp W W')∨
   (e= .returned (.bool false)∧∃c,Ix c (pre++ [x]) W'∧vM (recAt fn tmps ps assign body D) D l .done (some c) W'):=by
 refine⟨fn,_,assign,body,run_yield hb.1 (hps x),roundIn_of_wpIn hfn (hassign _ fun a' Wa hkf hkp hi hax=>?_)⟩;have ba:=hb.keeps hkf Oq hBl;refine⟨_,run_beginRound ba.1 rfl,?_⟩;have bb:vM (recAt fn tmps ps assign body D) D l .busy none (Wa.putObj l (.loop (recAt fn tmps ps assign body D .busy none))):=ba.put hne;have kb:Kp Wa (Wa.putObj l (.loop (recAt fn tmps ps assign body D .busy none))):=hKb _ _ _ _ hBl ba.1 rfl rfl;refine wpIn_mono (hbody a' _ ⟨_,bb.1⟩ (hI.putObj _ hi hBl ba.1 rfl) ((hAx pre x a').putObj (s:=()) _ hax hBl ba.1 rfl)) fun e a3 W3 hp=>?_;have leave: ∀c,KeepsFrom B (Wa.putObj l (.loop (recAt fn tmps ps assign body D .busy none))) W3→Ix c (pre++ [x]) W3→
   ∃c',Ix c' (pre++ [x]) (W3.putObj l (.loop (recAt fn tmps ps assign body D .done (some c))))∧vM (recAt fn tmps ps assign body D) D l .done (some c') (W3.putObj l (.loop (recAt fn tmps ps assign body D .done (some c)))):=fun c k3 hi3=>by
  have b3:=bb.keeps k3 Oq hBl;exact⟨c,(hIx c).putObj _ hi3 hBl b3.1 rfl,b3.put hne⟩
 cases e with
 |normal=>
  obtain⟨k3,kp3,hi3⟩:=hp;have b3:=bb.keeps k3 Oq hBl;exact⟨_,_,run_endRound none b3.1,.inl ⟨rfl,⟨hI.putObj _ hi3 hBl b3.1 rfl,b3.put (st':= .ready) (pe':=none) hne⟩,hKt hkp (hKt kb (hKt kp3 (hKb _ _ _ _ hBl b3.1 rfl rfl)))⟩⟩
 |ret=>exact⟨_,_,run_endRound (some .ret) (bb.keeps hp.1 Oq hBl).1,.inr ⟨rfl,leave _ hp.1 hp.2⟩⟩
 |exit id=>exact⟨_,_,run_endRound (some (.exit id)) (bb.keeps hp.1 Oq hBl).1,.inr ⟨rfl,leave _ hp.1 hp.2⟩⟩
 |goto t=>exact⟨_,_,run_endRound (some (.goto t)) (bb.keeps hp.1 Oq hBl).1,.inr ⟨rfl,leave _ hp.1 hp.2⟩⟩
 |panic ch=>exact hp.elim
 |outgrown=>exact hp.elim
end
theorem JV{α:Type}{g:Operand}{ps:Array Tmp}{assign body:Code}{a:Act}
  (hro:F.round=none) (h1:1≤n) {gf:Nat} {lb:aZ} (hg:a.eval g= .func (.func gf) #[] lb) (hFg:F.fn gf) (eg: ∀args w,(callFunc gf args).run P w= .ok (.enter gf args) w)
  {encs:α→aZ} {V:List α→α→ak→Prop} {Kp:ak→ak→Prop} {S Sp:List α→Prop} {w0:ak} (hseq:QP F (n -1) P gf lb encs V Kp S Sp w0)
  (hKt: ∀{A B C:ak},Kp A B→Kp B C→Kp A C) (hKb: ∀(W:ak) (l:Nat) (o o':Obj),w.heap.size≤l→W.heap[l]?=some o→o.isCells=false→o.isWalk=false→Kp W (W.putObj l o')) (hb0:Below w0.heap.size w0 w) (hps: ∀x,(encs x).size=ps.size)
  (I:List α→ak→Prop) (Ix:Code→List α→ak→Prop) (hI:OwnFrom w.heap.size I) (hIx: ∀c,OwnFrom w.heap.size (Ix c)) (h0:I [] w) (Ax:List α→α→Act→ak→Prop) (hAx: ∀pre x a',OwnFrom w.heap.size (fun(_:Unit) W=>Ax pre x a' W))
  (hassign: ∀(l:Nat) (pre:List α) (x:α) (W:ak) (K:Act→ak→Prop),I pre W→V pre x W→(∀a' W',KeepsFrom w.heap.size W W'→Kp W W'→I pre W'→Ax pre x a' W'→K a' W')→
   assign.wpIn (F.inRound l) (n -1 -1) P (Exit.then K (fun _ _ _=>False)) {tmps:=(ps.zip (encs x)).foldl (fun t (p,v)=>t.setIfInBounds p v) a.tmps,defers:= []} W)
  (hbody: ∀(l:Nat) (pre:List α) (x:α) (a':Act) (W:ak),w.heap.size≤l→(∃r,W.heap[l]?=some (.loop r))→I pre W→Ax pre x a' W→body.wpIn (F.inRound l) (n -1 -1) P (ownPostG w.heap.size Kp I Ix (pre++ [x]) W) a' W)
  (hdone: ∀(D:Nat) (xs:List α) (W:ak),w.heap.size≤D→S xs→I xs W→W.heap[D]?=some (.deferred (some []))→Q .normal {a with defers:={target:= .collected D,args:= #[]}::a.defers} W)
  (hstop: ∀(D:Nat) (c:Code) (pre:List α) (W:ak),w.heap.size≤D→Sp pre→Ix c pre W→W.heap[D]?=some (.deferred (some []))→c.wpIn F n P Q {a with defers:={target:= .collected D,args:= #[]}::a.defers} W):
  (Code.rangeFunc g ps assign body).wpIn F n P Q a w:=by
 refine wpIn_rangeFunc fun fn hfn=>?_;rw[hro];obtain⟨r,hr⟩: ∃r,r=recAt fn a.tmps ps assign body w.heap.size:=⟨_,rfl⟩;obtain⟨W1,hW1⟩:=aI ((w.alloc (.deferred (some []))).alloc (.loop (r .ready none)));have hB1:vM r w.heap.size (w.heap.size+1) .ready none W1:=by
  rw[←hW1];exact⟨by have:=World.alloc_heap_new (w.alloc (.deferred (some []))) (.loop (r .ready none));rwa [World.size_alloc]at this,(Below.heap_alloc _ _ _ aF).trans (World.alloc_heap_new w _)⟩
 have hI1:I [] W1:=by rw[←hW1];exact hI.alloc _ (hI.alloc _ h0)
 have hb1:Below w0.heap.size w0 W1:=by
  rw[←hW1];exact hb0.trans ((((Below.refl _ w).alloc aA _).alloc aF _).mono hb0.size)
 have hz1:w.heap.size≤W1.heap.size:=by rw[←hW1];simp;omega
 refine⟨w.heap.size+1,[{target:= .collected w.heap.size,args:= #[]}],W1,{target:= .fn (.func gf) lb,args:= #[.func (.yield (w.heap.size+1)) #[] #[]]},W1,gf,#[.func (.yield (w.heap.size+1)) #[] #[]]++lb,W1,?_,?_,?_,?_,fun _=>h1,?_⟩
 ·rw[←hW1,hr];exact run_enterLoop_outer _ _ _ _ _
 ·simp only[resolve,hg];simp[go_sem]
 ·intro f' hf';simp[Target.leads]at hf';subst hf';exact hFg
 ·simp[invoke,go_sem,eg]
 ·have hwalk: ∀{A:ak} {row:Option Nat},(∀q,row=some q→W1.heap.size≤q∧∃o:Obj,A.heap[q]?=some o∧o.isWalk=true)→∀q,row=some q→w.heap.size≤q∧∃o:Obj,A.heap[q]?=some o∧o.isCells=false:=
   fun h q e=>by obtain⟨hq,o,ho,hw⟩:=h q e;exact⟨by omega,o,ho,Obj.not_cells_of_walk hw⟩
  refine(hseq (w.heap.size+1) (fun pre W=>I pre W∧vM r w.heap.size (w.heap.size+1) .ready none W) (fun pre W=> ∃c,Ix c pre W∧vM r w.heap.size (w.heap.size+1) .done (some c) W) W1 hb1
   (fun s A B row hs hg' hrow=>⟨hI s A B row hs.1 hg' (hwalk hrow),hs.2.grown hg' fun q e=>(hrow q e).2⟩)
   (fun s A B row hs hg' hrow=>by obtain⟨c,hc,hl⟩:=hs;exact⟨c,hIx c s A B row hc hg' (hwalk hrow),hl.grown hg' fun q e=>(hrow q e).2⟩)
   (fun pre x W hJ hv=>?_) ⟨hI1,hB1⟩).mono ?_
  ·subst hr;exact asZ (Kp:=Kp) hfn aA (Nat.le_succ _) aj (fun h k=>hKt h k) hKb hps I Ix hI hIx Ax hAx pre x W (fun K hK=>hassign _ pre x W K hJ.1 hv hK) (fun a' W' hl hi hax=>hbody _ pre x a' W' (Nat.le_succ _) hl hi hax) hJ.2
  ·rintro e W2 ⟨⟨v,rfl⟩,(⟨xs,hS,hi,hl⟩|⟨pre,hSp,c,hi,hl⟩)⟩
   ·subst hr;have he:=run_endLoop (P:=P) hl.1 (by simp[recAt]);exact⟨none,_,he,hdone _ xs _ aA hS (hI.putObj _ hi aj hl.1 rfl) ((World.putObj_heap_other aj).trans hl.2)⟩
   ·subst hr;have he:=run_endLoop (P:=P) hl.1 (by simp[recAt]);exact⟨some c,_,he,hstop _ c pre _ aA hSp ((hIx c).putObj _ hi aj hl.1 rfl) ((World.putObj_heap_other aj).trans hl.2)⟩
end
def rV(r:Int):Bool:=decide (0≤r∧r≤63)
theorem avk{r:Int}(h1:0≤r)(h2:r≤63):rV r=true:=by simp[rV,h1,h2]
theorem ai2{r:Int}(h: ¬ (0≤r∧r≤63)):rV r=false:=by simp[rV];omega
def NM(k:Int):Int:=
 if k=6∨k=7∨k=8 then 1 else if k=4∨k=5 then 2 else if k=2 then 4 else if k=3 then 8 else if k=10 then 16 else if k=11 then 32 else 0
def xN(r k:Int):Bool:=rV r && (bits .and .i64 r (NM k)==NM k)
theorem YG{P:Prop}(h:P:=by
 go_enter func264,ntmps264
 go_wp2
 go_ret;exact⟨uH (by first|rfl|exact h3.symm),rfl⟩):P:=h
theorem ao5(r:Int)(w:ak):aH 264 #[ae r] w fun e w'=>e= .returned (.bool (rV r))∧w=w':=by
 by_cases h1:0≤r
 ·by_cases h2:r≤63
  ·have h3:=avk h1 h2;exact YG
  ·have h3:=ai2 (r:=r) aj;exact YG
 ·have h3:=ai2 (r:=r) aj;exact YG
theorem aoH(k:Int)(w:ak):aH 263 #[ae k] w fun e w'=>e= .returned (ae (NM k))∧w=w':=by
 go_enter func263,ntmps263
 go_wp2
 all_goals
  go_ret;refine⟨yT ?_,rfl⟩;unfold NM
  simp_all
theorem afn{P:Prop}(h:P:=by
 go_enter func242,ntmps242
 go_wp2_with (first|(go_at_call 264;refine(ao5 _ _).mono ?_;rintro e w' ⟨rfl,rfl⟩)|(go_at_call 263;refine(aoH _ _).mono ?_;rintro e w' ⟨rfl,rfl⟩))
 go_ret;exact⟨uH HR.out.symm,rfl⟩):P:=h
theorem aob(r k:Int)(w:ak):aH 242 #[ae r,ae k] w fun e w'=>e= .returned (.bool (xN r k))∧w=w':=by
 by_cases h1:rV r=true
 ·have HR:=ax (show xN r k=(bits .and .i64 r (NM k)==NM k)by rw[xN,h1];rfl);exact afn
 ·have h3:rV r=false:=by simpa using h1
  have HR:=ax (show xN r k=false by rw[xN,h3];rfl);clear h1;exact afn
end Go.Proofs.YtiffpjamngklhaaGreat
