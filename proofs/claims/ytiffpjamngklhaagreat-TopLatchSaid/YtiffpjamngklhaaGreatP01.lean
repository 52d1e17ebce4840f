/- Lemmas, part 01. -/
import Derived.WalkKit
import Derived.WalkLawsBesides
import Derived.Lib.Hide
import Derived.Maps.AppendAt
import Derived.Deep.Draws
import Derived.Test.YtiffpjamngklhaaGreatProg
import Derived.Deep.QuietTactic
import Derived.BigQuiet
import Derived.Lib.QuietBelow
import Derived.Orders
import Derived.BigCall
import Derived.Outline
import Derived.Laws.CopyOwn
import Derived.Laws.MakeOwn
import Derived.Sort.Statements
import Derived.Sort.Grow
namespace Go.Proofs.YtiffpjamngklhaaGreat
set_option linter.all false
set_option maxRecDepth 100000
set_option maxHeartbeats 16000000
open Go.RowKit Tryz
open Go.Sort hiding Below
abbrev dR:=Exit→Act→World→Prop
abbrev EN:=Ending→World→Prop
abbrev az:=Option Addr
abbrev aP:=List Value
abbrev aZ:=Array Value
abbrev aJ:=List UInt8
abbrev b_:=List Nat
abbrev aO:=List Int
abbrev aK:=TypeId
abbrev ak:=World
abbrev aH:=Calls prog
abbrev ae(k:Int):Value:= .int .i64 k
theorem aj{P:Prop}(h:P:=by omega):P:=h
theorem ay{P:Prop}(h:P:=by decide):P:=h
theorem aF{P:Prop}(h:P:=by simp):P:=h
theorem aA{n:Nat}:n≤n:=Nat.le_refl n
theorem bD{B:Nat}{w:ak}:Below B w w:=Below.refl B w
theorem ax{P:Prop}(h:P):Hid P:=h
theorem bQ{P:Prop}(h:P:=by intro k hk;injection hk with hk;omega):P:=h
theorem dm{P:Prop}(h:P:=by first|(simp;done)|(simp;omega)):P:=h
theorem bel{B:Nat}{w w':ak}(h:Below B w w':=by
 repeat(first|(with_reducible assumption)|(with_reducible refine Below.setCell ?_ ?_ _)|(with_reducible refine Below.alloc ?_ ?_ _)|(with_reducible refine Below.drew ?_)|(with_reducible refine below_drewN ?_ _)|(with_reducible exact Below.refl _ _)|(with_reducible exact Below.size (by assumption))|(with_reducible refine Below.trans ?_ (Below.mono (by assumption) ?_))|(focus omega)|(focus(simp;done))|(focus(simp;omega))|(focus(with_reducible refine Nat.le_trans ?_ (Below.size (by assumption)))))):Below B w w':=h
theorem bF.{u}{α:Type u}{l:List α}{n:Nat}(h:n<l.length):l[n]∈l:=List.getElem_mem h
theorem pz.{u}{α:Type u}(l:List α)(i:Nat)(a:α):l.toArray.setIfInBounds i a=(l.set i a).toArray:=List.setIfInBounds_toArray l i a
theorem jX.{u}{α:Type u}{x:α}{l:List α}{a:α}:(x::l).set 0 a=a::l:=List.set_cons_zero
theorem lh.{u}{α:Type u}{x:α}{l:List α}{i:Nat}{a:α}:(x::l).set (i+1) a=x::l.set i a:=List.set_cons_succ
theorem jM.{u}{α:Type u}{x:α}{l:List α}{d:α}:(x::l).getD 0 d=x:=List.getD_cons_zero
theorem jO.{u}{α:Type u}{x:α}{l:List α}{n:Nat}{d:α}:(x::l).getD (n+1) d=l.getD n d:=List.getD_cons_succ
theorem eG.{u}{α:Type u}{l:List α}{i:Nat}{a:α}:l.getD i a=l[i]?.getD a:=List.getD_eq_getElem?_getD
theorem d_.{u}{α:Type u}{l:List α}{i:Nat}(h:i<l.length):l[i]?=some l[i]:=List.getElem?_eq_getElem h
theorem dP.{u}{α:Type u}{l m:List α}:(l++m).length=l.length+m.length:=List.length_append
theorem mF.{u,v}{α:Type u}{β:Type v}{f:α→β}{a:α}{l:List α}:List.map f (a::l)=f a::List.map f l:=List.map_cons
theorem oH.{u,v}{α:Type u}{β:Type v}{f:α→β}:List.map f []=[]:=List.map_nil
theorem dA{n m k:Nat}(h:n≤m)(g:m≤k):n≤k:=Nat.le_trans h g
theorem jg.{u,v}{α:Type u}{β:Type v}{f:α→β}{l m:List α}:List.map f (l++m)=List.map f l++List.map f m:=List.map_append
theorem g_.{u,v}{α:Type u}{β:Type v}{l:List α}(f:α→β):(List.map f l).length=l.length:=List.length_map f
theorem EI.{u}{α:Type u}{a:α}{l:List α}{i:Nat}:List.drop (i+1) (a::l)=List.drop i l:=List.drop_succ_cons
theorem EJ.{u}{α:Type u}{l:List α}:List.drop 0 l=l:=List.drop_zero
theorem dX(n:Nat):0+n=n:=Nat.zero_add n
theorem rD(n:Nat):n<n.succ:=Nat.lt_succ_self n
theorem iV(n:Nat):n+0=n:=Nat.add_zero n
theorem tY{n m:Nat}(h:n=m):n≤m:=Nat.le_of_eq h
theorem iK.{u}{α:Type u}(l:List α):l++[]=l:=List.append_nil l
theorem dU.{u}{α:Type u}{a b:α}:a∈ [b]↔a=b:=List.mem_singleton
theorem jL{n m k:Nat}(h:n<m)(g:m≤k):n<k:=Nat.lt_of_lt_of_le h g
theorem iQ.{u}{α:Type u}{l:List α}{i:Nat}{a:α}:(l.set i a).length=l.length:=List.length_set
theorem nM.{u}{α:Type u}{i:Nat}{l:List α}(h:l.length≤i):List.take i l=l:=List.take_of_length_le h
theorem lW.{u}{α:Type u}{a:α}{l m:List α}:a∈l++m↔a∈l∨a∈m:=List.mem_append
theorem jJ.{u}{α:Type u}{a:α}{l:List α}:(a::l).length=l.length+1:=List.length_cons
theorem Gp.{u}{α:Type u}{l:List α}(h:l.length=0):l=[]:=List.eq_nil_of_length_eq_zero h
theorem uK.{u}{α:Type u}{n:Nat}{a:α}:(List.replicate n a).length=n:=List.length_replicate
theorem pV.{u}{α:Type u}{i:Nat}{l:List α}:(List.take i l).length=min i l.length:=List.length_take
theorem pW.{u}{α:Type u}{i:Nat}{l:List α}:(List.drop i l).length=l.length-i:=List.length_drop
theorem uM.{u}{α:Type u}(a b c:List α):a++b++c=a++(b++c):=List.append_assoc a b c
theorem o_.{u}{α:Type u}{a:α}:¬a∈([]:List α):=List.not_mem_nil
theorem fA{p:Prop}[Decidable p](h:¬p):decide p=false:=decide_eq_false h
theorem jB{p:Prop}[Decidable p](h:p):decide p=true:=decide_eq_true h
theorem iL.{u}{α:Type u}[BEq α][LawfulBEq α]{a b:α}:(a==b)=false↔a≠b:=beq_eq_false_iff_ne
theorem lX.{u}{α:Type u}{i:Nat}{b:α}{l:Array α}:l[i]?=some b↔∃h:i<l.size,l[i]=b:=Array.getElem?_eq_some_iff
theorem aI.{u}{α:Sort u}(a:α): ∃b,a=b:=⟨a,rfl⟩
theorem dF{G X:Prop}(x:X)(h:X→G:=by
 intro x;simp only[Act.put,List.setIfInBounds_toArray,List.set_cons_succ,List.set_cons_zero];exact x):G:=h x
theorem bP{P:Prop}(h:P:=by kernel_rfl):P:=h
theorem dD{P:Prop}(h:P:=by simp only;omega):P:=h
theorem cu{P:Prop}(h:P:=by simp;omega):P:=h
theorem Uy{P:Prop}(h:P:=by show Own _ _ _ _ _ _ _ (l.map a_);repeat(first|(with_reducible exact own)|(with_reducible refine Own.aat ?_ (by first|(simp;done)|(simp;omega)|omega) _)|(with_reducible refine Own.alloc ?_ _))):P:=h
theorem MX{P:Prop}(h:P:=by exact fun k hk=>by injection hk with hk;subst hk;first|exact Nat.le_refl _|exact b0.size|exact b1.size|exact b2.size):P:=h
theorem Bd{P:Prop}(h:P:=by exact fun r hr=>by simp at hr;subst hr;simp only;omega):P:=h
theorem CU{P:Prop}(h:P:=by exact fun k hk=>by injection hk with hk;have:=HR.out;omega):P:=h
theorem tK{P:Prop}(h:P:=by simp only[maxLen];omega):P:=h
theorem oq{P:Prop}(h:P:=by simpa using h):P:=h
theorem MZ{P:Prop}(h:P:=by first|exact Nat.le_refl _|exact b0.size|exact b1.size|exact b2.size):P:=h
theorem F5{P:Prop}(h:P:=by simp only[ne_eq,Option.some.injEq];omega):P:=h
theorem CV{P:Prop}(h:P:=by exact fun e=>by injection e with e;omega):P:=h
theorem JR{P:Prop}(h:P:=by exact fun e a w hq=>by obtain⟨rfl,hq⟩:=hq;exact hq):P:=h
theorem Be{P:Prop}(h:P:=by simp only[ne_eq];omega):P:=h
theorem PS{P:Prop}(h:P:=by exact fun k hk=>by injection hk with hk;have:=kZ.lt;have:=be.size;omega):P:=h
theorem Bf{P:Prop}(h:P:=by have:=be.size;omega):P:=h
theorem yQ{P:Prop}(h:P:=by have:=h.1;omega):P:=h
theorem tN{P:Prop}(h:P:=by rw[e];rfl):P:=h
theorem M_{P:Prop}(h:P:=by rw[getD_replicate_false]at hl;cases hl):P:=h
theorem Eu{P:Prop}(h:P:=by rw[p2];exact rD _):P:=h
theorem PT{P:Prop}(h:P:=by injection e with e;injection e with e _ _;omega):P:=h
theorem Uz{P:Prop}(h:P:=by have:=(lJ.bel.size);simp only[World.size_alloc];omega):P:=h
theorem PU{P:Prop}(h:P:=by have:=be.size;have:=di.1.size;omega):P:=h
theorem F6{P:Prop}(h:P:=by rw[HN.out];omega):P:=h
theorem Ii{P:Prop}(h:P:=by unfold maxLen;omega):P:=h
theorem Ij{P:Prop}(h:P:=by have:=Fa.out;omega):P:=h
theorem Ik{P:Prop}(h:P:=by have:=HL2.out;omega):P:=h
theorem Ze{P:Prop}(h:P:=by exact fun b hb' r hr=>by have:=rbb hne b hb';simp at hr;subst hr;simp only;omega):P:=h
theorem UA{P:Prop}(h:P:=by exact fun k hk=>by have:=(lJ.own).dW k hk;omega):P:=h
theorem Na{P:Prop}(h:P:=by have:=be.size;simp;omega):P:=h
theorem UB{P:Prop}(h:P:=by have:=hok.kind;simp only at this;omega):P:=h
theorem JS{P:Prop}(h:P:=by have:=HL.out;omega):P:=h
theorem PV{P:Prop}(h:P:=by exact fun k hk=>by simp at hk;omega):P:=h
theorem Il{P:Prop}(h:P:=by simpa using hu):P:=h
theorem agY{P:Prop}(h:P:=by first|rfl|(simp;done)|(simp;omega)|(rw[Bool.eq_iff_iff];simp[];done)|(rw[Bool.eq_iff_iff];simp[];omega)):P:=h
theorem PW{P:Prop}(h:P:=by first|rfl|(show _=_;simp)):P:=h
theorem UC{P:Prop}(h:P:=by exact fun k e=>by injection e with e;omega):P:=h
theorem agZ{P:Prop}(h:P:=by revert q;unfold NI Gq;simp only[List.mem_cons,o_,or_false];rintro(q|q|q|q)<;>simp[q]):P:=h
theorem JU{P:Prop}(h:P:=by rw[hz2];omega):P:=h
theorem PX{P:Prop}(h:P:=by have:=kR.lt;simp;omega):P:=h
theorem ag0{P:Prop}(h:P:=by rw[←HV.out,HD.out,HA1.out,hxm,ZZ h5 aj (by have:=HA1.out;rw[hxm]at this;omega)]):P:=h
theorem UD{P:Prop}(h:P:=by simp only;rw[nT.out];omega):P:=h
theorem Nb{P:Prop}(h:P:=by rw[e];exact ht):P:=h
theorem PY{P:Prop}(h:P:=by have:=wU.out;omega):P:=h
theorem Zf{P:Prop}(h:P:=by exact fun k e=>by cases e;have:=hI.be.size;omega):P:=h
theorem UE{P:Prop}(h:P:=by have:=UF k p;omega):P:=h
theorem Nc{P:Prop}(h:P:=by simpa using hr):P:=h
theorem Nh{P:Prop}(h:P:=by simpa using ht):P:=h
theorem UG{P:Prop}(h:P:=by have:=lJ.bel.size;omega):P:=h
theorem UH{P:Prop}(h:P:=by have:=HN.out.n2.1;omega):P:=h
theorem Zg{P:Prop}(h:P:=by rw[←Array.all_toList];exact h1):P:=h
theorem PZ{P:Prop}(h:P:=by exact fun r e=>by cases e):P:=h
theorem Zh{P:Prop}(h:P:=by rw[HX.out,←hk.out,←hbv];rfl):P:=h
theorem UI{P:Prop}(h:P:=by rw[h]at hr;cases hr):P:=h
theorem UJ{P:Prop}(h:P:=by simp[Tk.cells];omega):P:=h
theorem UK{P:Prop}(h:P:=by rw[UF];omega):P:=h
theorem UL{P:Prop}(h:P:=by exact fun q hq=>by simp at hq):P:=h
theorem Nj{P:Prop}(h:P:=by rw[hb];rfl):P:=h
theorem P5{P:Prop}(h:P:=by simpa using hi):P:=h
theorem P6{P:Prop}(h:P:=by simpa using h1):P:=h
theorem UM{P:Prop}(h:P:=by have:=HZC.out;omega):P:=h
theorem Zi{P:Prop}(h:P:=by have:=(hr D e.symm).1;omega):P:=h
theorem Zj{P:Prop}(h:P:=by exact fun e=>by simp only at e;omega):P:=h
theorem ag3{P:Prop}(h:P:=by injection e with e;injection e with e _ _;exact e.symm):P:=h
theorem ag4{P:Prop}(h:P:=by exact fun e=>by have:=h.own.dW _ e;simp only at this;omega):P:=h
theorem Zk{P:Prop}(h:P:=by rw[←hz];exact bF him):P:=h
theorem Nk{P:Prop}(h:P:=by simp[hm]):P:=h
theorem UN{P:Prop}(h:P:=by rw[hk];exact hs):P:=h
theorem ag5{P:Prop}(h:P:=by rw[←Og.out];exact List.mem_map.2 ⟨v,hv,rfl⟩):P:=h
theorem Zl{P:Prop}(h:P:=by have:=hgV.out;simp;omega):P:=h
theorem ag6{P:Prop}(h:P:=by exact fun q=>by injection e with e;injection e with e;omega):P:=h
theorem ag7{P:Prop}(h:P:=by have:=be2.size;simp only[World.heap_drewN];omega):P:=h
theorem UO{P:Prop}(h:P:=by rw[HY.out];rfl):P:=h
theorem UQ{P:Prop}(h:P:=by first|rfl|omega):P:=h
theorem ag8{P:Prop}(h:P:=by rw[←K1.1];exact List.mem_map.2 ⟨d,hd,rfl⟩):P:=h
theorem UR{P:Prop}(h:P:=by exact fun D h0=>by omega):P:=h
theorem Zm{P:Prop}(h:P:=by rw[Iq];exact hjl):P:=h
theorem Zn{P:Prop}(h:P:=by simp[mP,Rw.cells]):P:=h
theorem Zo{P:Prop}(h:P:=by have:=SZ.out;simp;omega):P:=h
variable{w w' W W0:ak}{B n i k base size off base':Nat}{t e ty:aK}{a a':az}{Q:dR}{xs:aP}{l:aJ}{o:Oper}{ops:Array Oper}{rest:List Oper}{P:Program}{lo hi:Nat→Nat}{dst:Option Tmp}{pos:String}{after:Array Edge}{y:Operand}{f:Nat→Value}{args:aZ}{ks:List (Value→Prop)}{xr:List (Nat × Nat)}
theorem yT{k:IntKind}{a b:Int}(h:a=b):Ending.returned (.int k a)= .returned (.int k b):=by rw[h]
theorem uH{a b:Bool}(h:a=b):Ending.returned (.bool a)= .returned (.bool b):=by rw[h]
@[go_sem] theorem aBA{α:Type}(x y:α):(if IntKind.u32.signed=true then x else y)=y:=if_neg ay
@[go_sem] theorem aBC:IntKind.u32.max=4294967295:=by decide
@[go_sem] theorem aBw(w:ak)(a:Addr)(x:Value):(w.setCell a x).cell? a=(w.cell? a).map (fun _=>x):=by
 cases h:w.cell? a with
 |some u=>rw[World.cell?_setCell_same w a x h];rfl
 |none=>
  unfold World.cell? World.setCell at*;simp only[Array.getElem?_modify,if_true]at*;cases hb:w.heap[a.block]? with
  |none=>rfl
  |some o=>
   rw[hb]at h;cases o with
   |cells c e f=>
    simp only[Option.map_some]at h⊢;cases hs:a.spot.isSome with
    |true=>rfl
    |false=>simp[hs]at h⊢;exact h
   |_=>rfl
theorem below_drewN{a:ak}(h:Below B a w)(n:Nat):Below B a (w.drewN n):=⟨h.os,h.tape,h.output,h.size,h.block⟩
theorem VE{w1:ak}(hb:Below W.heap.size W w1):(∀b o,b<W.heap.size→w1.cell? ⟨b,o,none⟩=W.cell? ⟨b,o,none⟩)∧(∀b o,b<W.heap.size→w1.frozen? ⟨b,o,none⟩=W.frozen? ⟨b,o,none⟩)∧W.heap.size≤w1.heap.size:=
 ⟨fun b o h=>hb.cell (p:=⟨b,o,none⟩) h,fun b o h=>hb.frozen (p:=⟨b,o,none⟩) h,hb.size⟩
def Row(w:ak)(a:az)(xs:aP):Prop:=
 xs= []∨∃b off,a=some ⟨b,off,none⟩∧b<w.heap.size∧∀i (h:i<xs.length),w.cell? ⟨b,off+i,none⟩=some xs[i]
def a_(x:UInt8):Value:= .int .u8 (x.toNat:Int)
def encI(x:Int):Value:=ae x
def bI(w:ak)(a:az)(l:aJ):Prop:=Row w a (l.map a_)
def Ints(w:ak)(a:az)(l:aO):Prop:=Row w a (l.map encI)
theorem bI.nil(w:ak)(a:az):bI w a []:= .inl rfl
theorem Ints.nil(w:ak)(a:az):Ints w a []:= .inl rfl
theorem Row.keep(h:Row w a xs)(hk: ∀b off,a=some ⟨b,off,none⟩→b<w.heap.size→w'.heap[b]?=w.heap[b]?):Row w' a xs:=by
 rcases h with h|⟨b,off,rfl,hlt,hc⟩
 ·exact .inl h
 ·have hh:=hk b off rfl hlt;refine .inr ⟨b,off,rfl,?_,fun i hi=>?_⟩
  ·rw[Array.getElem?_eq_getElem hlt]at hh;exact(lX.1 hh).1
  ·rw[←hc i hi];exact World.cell?_of_block (w:=w) hh
theorem Row.below(h:Row w a xs)(hb:Below B w w')(hB:w.heap.size≤B):Row w' a xs:=
 h.keep fun b _ _ hlt=>hb.block b aj
theorem Row.alloc(h:Row w a xs)(o:Obj):Row (w.alloc o) a xs:=
 h.keep fun b _ _ hlt=>Below.heap_alloc w o b hlt
theorem Row.drew(h:Row w a xs):Row w.drew a xs:=h
theorem bI.below(h:bI w a l)(hb:Below B w w')(hB:w.heap.size≤B):bI w' a l:=Row.below h hb hB
theorem bI.alloc(h:bI w a l)(o:Obj):bI (w.alloc o) a l:=Row.alloc h o
theorem Ints.below{l:aO}(h:Ints w a l)(hb:Below B w w')(hB:w.heap.size≤B):Ints w' a l:=Row.below h hb hB
theorem Ints.alloc{l:aO}(h:Ints w a l)(o:Obj):Ints (w.alloc o) a l:=Row.alloc h o
theorem bI.open(h:bI w a l):l= []∨∃b off,a=some ⟨b,off,none⟩∧b<w.heap.size∧∀i (h:i<l.length),w.cell? ⟨b,off+i,none⟩=some (.int .u8 (l[i].toNat:Int)):=by
 rcases h with h|⟨b,off,rfl,hlt,hc⟩
 ·exact .inl oq
 ·exact .inr ⟨b,off,rfl,hlt,fun i hi=>by rw[hc i P5];simp[a_]⟩
theorem Ints.open{l:aO}(h:Ints w a l):l= []∨∃b off,a=some ⟨b,off,none⟩∧b<w.heap.size∧∀i (h:i<l.length),w.cell? ⟨b,off+i,none⟩=some (ae l[i]):=by
 rcases h with h|⟨b,off,rfl,hlt,hc⟩
 ·exact .inl oq
 ·exact .inr ⟨b,off,rfl,hlt,fun i hi=>by rw[hc i P5];simp[encI]⟩
def Own(w:ak)(base:Nat)(e:aK)(size:Nat)(a:az)(n cap:Nat)(xs:aP):Prop:=w.ownsRow base e size (.slice a n cap) n xs
section
variable{w w':ak}{base:Nat}{e:aK}{size n cap:Nat}{a:az}{xs:aP}
theorem Own.nil(w:ak)(base:Nat)(e:aK)(size:Nat):Own w base e size none 0 0 []:=World.ownsRow_nil w base e size
theorem Own.lt(h:Own w base e size a n cap xs): ∀k,(Value.slice a n cap).ownBlock=some k→base≤k∧k<w.heap.size:=World.ownsRow.lt h
theorem Own.row(h:Own w base e size a n cap xs):Row w a xs:=by
 rcases h.2 with⟨hv,hn⟩|⟨g,c,cur,hv,hb,hg,rest⟩
 ·refine .inl ?_;have:=h.1;rw[hn,Nat.zero_mul]at this;exact Gp this
 ·injection hv with ha _ _
  subst ha;refine .inr ⟨g,0,rfl,(lX.1 hg).1,fun i hi=>?_⟩;have:=World.ownsRow.cells h (g:=g) rfl i xs[i] aF;have hadd:(⟨g,0,none⟩:Addr).add i=⟨g,0+i,none⟩:=by unfold Addr.add;split<;>simp_all
  rw[hadd]at this;exact this
theorem Own.keep(h:Own w base e size a n cap xs)(hk: ∀b,a=some ⟨b,0,none⟩→base≤b→b<w.heap.size→w'.heap[b]?=w.heap[b]?):Own w' base e size a n cap xs:=by
 refine⟨h.1,?_⟩;rcases h.2 with hn|⟨g,c,cur,hv,hb,hg,rest⟩
 ·exact .inl hn
 ·refine .inr ⟨g,c,cur,hv,hb,?_,rest⟩;injection hv with ha _ _
  rw[hk g ha hb (lX.1 hg).1];exact hg
theorem Own.below(h:Own w base e size a n cap xs)(hb:Below B w w')(hB:w.heap.size≤B):Own w' base e size a n cap xs:=
 h.keep fun b _ _ hlt=>hb.block b aj
theorem Own.alloc(h:Own w base e size a n cap xs)(o:Obj):Own (w.alloc o) base e size a n cap xs:=
 h.keep fun b _ _ hlt=>Below.heap_alloc w o b hlt
theorem Own.mono(h:Own w base e size a n cap xs)(hb:base'≤base):Own w base' e size a n cap xs:=by
 refine⟨h.1,?_⟩;rcases h.2 with hn|⟨g,c,cur,hv,hb',rest⟩
 ·exact .inl hn
 ·exact .inr ⟨g,c,cur,hv,by omega,rest⟩
end
def Grew(base:Nat)(w w':ak)(a a':az):Prop:=w.grownBy w' ((a.map (·.block)))∧(a'.map (·.block)=a.map (·.block)∨a'.map (·.block)=some w.heap.size)∧base≤w.heap.size
section
variable{P:Program}(w:ak)
theorem T_(a:az)(n c:Nat):(Value.slice a n c).ownBlock=a.map (·.block):=by cases a<;>rfl
theorem anH(base:Nat)(t ty e:aK)(i:TypeInfo)(size:Nat)(ht:P.underlying t=some (.slice e))(hi:P.info? e=some i)
  (v:Value) (n:Nat) (xs:aP) (hown:w.ownsRow base e size v n xs) (c:Nat):(Builtin.append_ #[t,t] ty #[v,.slice none 0 c]).run P w= .ok v w:=by
 rcases hown.2 with⟨rfl,rfl⟩|⟨g,cap,cur,rfl,_,_,hnc,_⟩
 ·simp[Builtin.append_,run_underlying ht,sizeOf,typeInfo,hi,Builtin.lenOf,Builtin.firstCells]
 ·simp[Builtin.append_,run_underlying ht,sizeOf,typeInfo,hi,Builtin.lenOf,Builtin.firstCells,hnc,storeCells]
theorem Row.of_none(h:Row w none xs):xs= []:=by
 rcases h with h|⟨_,_,h,_⟩
 ·exact h
 ·cases h
theorem Row.cells{ad:Addr}(h:Row w (some ad) xs): ∀j u,xs[j]?=some u→w.cell? (ad.add j)=some u:=by
 intro j u hu;rcases h with rfl|⟨b,off,ha,_,hc⟩
 ·simp at hu
 ·injection ha with ha
  subst ha;obtain⟨hj,rfl⟩:=List.getElem?_eq_some_iff.1 hu;rw[←hc j hj];congr 1;unfold Addr.add
  split<;>simp_all
theorem aen(base:Nat)(t ty e:aK)(i:TypeInfo)(z:Value)(size bytes:Nat)(ht:P.underlying t=some (.slice e))(hi:P.info? e=some i)(hz:i.zero=some z)
  (hsize:i.size=size) (hby:i.bytes=bytes) (hzs:z.cells.size=size) (hsz:0<size)
  (a:az) (n cap:Nat) (xs:aP) (hown:Own w base e size a n cap xs)
  (A:az) (m c:Nat) (news:aP) (hl:news.length=m*size) (hr:Row w A news) (h1: ∀u∈news,u.oneCell'=true)
  (h63:n+m≤maxLen) (hbytes:(n+m)*bytes≤140737488355328) (hbase:base≤w.heap.size):
  ∃a' cap' w',(Builtin.append_ #[t,t] ty #[.slice a n cap,.slice A m c]).run P w= .ok (.slice a' (n+m) cap') w'∧Own w' base e size a' (n+m) cap' (xs++news)∧Grew base w w' a a':=by
 rcases A with _|ad
 ·have hn:=hr.of_none;subst hn;have hm:m=0:=by
   rcases Nat.eq_zero_or_pos m with h0|h0
   ·exact h0
   ·have:=Nat.mul_pos h0 hsz;simp at hl;omega
  subst hm;exact⟨a,cap,w,anH w base t ty e i size ht hi _ n xs hown c,by simpa using hown,World.grownBy.refl w _,.inl rfl,hbase⟩
 ·obtain⟨v',w',hrun,h2,h3,_,h5⟩:=run_append_own_at (P:=P) w base t ty e i z size bytes ht hi hz hsize hby hzs hsz _ n xs hown ad m c news hl hr.cells h1 h63 hbytes hbase;have hv: ∃a' cap',v'= .slice a' (n+m) cap':=by
   rcases h2.2 with⟨rfl,h0⟩|⟨g,cp,cur,rfl,_⟩
   ·exact⟨none,0,by rw[h0]⟩
   ·exact⟨_,_,rfl⟩
  obtain⟨a',cap',rfl⟩:=hv;rw[T_]at h3 h5;rw[T_]at h5;exact⟨a',cap',w',hrun,h2,h3,h5,hbase⟩
theorem zL{a:Act}(hgd:o.guard=none)(s x:Operand)(t:aK)
  (ho:o.op= .call {callee:= .builtin .append,args:= #[s,x],argTypes:= #[t,t]})
  (base:Nat) (e:aK) (i:TypeInfo) (z:Value) (size bytes:Nat) (ht:P.underlying t=some (.slice e)) (hi:P.info? e=some i) (hz:i.zero=some z)
  (hsize:i.size=size) (hby:i.bytes=bytes) (hzs:z.cells.size=size) (hsz:0<size)
  (b:az) (n cap:Nat) (xs:aP) (hs:a.eval s= .slice b n cap) (A:az) (m c:Nat) (hx:a.eval x= .slice A m c)
  (hown:Own w base e size b n cap xs) (news:aP) (hl:news.length=m*size) (hr:Row w A news) (h1: ∀u∈news,u.oneCell'=true)
  (h63:n+m≤maxLen) (hbytes:(n+m)*bytes≤140737488355328) (hbase:base≤w.heap.size)
  (h: ∀b' cap' w',Own w' base e size b' (n+m) cap' (xs++news)→Grew base w w' b b'→wpList P ops Q rest (a.put o.dst (.slice b' (n+m) cap')) w'):wpList P ops Q (o::rest) a w:=by
 refine wpList_plain hgd fun K hK=>?_;obtain⟨b',cap',w',hrun,h2,h3⟩:=aen (P:=P) w base t o.type e i z size bytes ht hi hz hsize hby hzs hsz b n cap xs hown A m c news hl hr h1 h63 hbytes hbase;unfold Oper.wp execOp;simp only[ho,resolve,invoke,builtin,Sem.run_bind,Sem.run_pure,Result.andThen_ok,List.map_toArray,mF,oH,hs,hx,hrun];exact hK _ _ (h b' cap' w' h2 h3)
end
theorem Grew.below(hb:Below base W w)(hg:Grew base w w' a a')(ha: ∀k,a.map (·.block)=some k→base≤k):Below base W w':=
 hb.grown hg.1 hg.2.2 (fun k hk=>ha k hk)
theorem Own.dW{cap:Nat}(h:Own w base e size a n cap xs): ∀k,a.map (·.block)=some k→base≤k:=by
 intro k hk;exact(Own.lt h k (by rw[T_];exact hk)).1
def Apart(a b:az):Prop:= ∀k,a.map (·.block)=some k→b.map (·.block)≠some k
theorem Own.lt'{cap:Nat}(h:Own w base e size a n cap xs): ∀k,a.map (·.block)=some k→k<w.heap.size:=by
 intro k hk;exact(Own.lt h k (by rw[T_];exact hk)).2
theorem Own.grew{cap:Nat}{b:az}(h:Own w base e size b n cap xs)(g:Grew base' w w' a a')(hne:Apart a b):Own w' base e size b n cap xs:=
 h.keep fun k hb _ hlt=>g.1.block k hlt (fun e=>hne k e.symm Nj)
theorem Own.dL{cap:Nat}(h:Own w base e size a n cap (l.map a_)):bI w a l:=h.row
theorem Own.ints{cap:Nat}{l:aO}(h:Own w base e size a n cap (l.map encI)):Ints w a l:=h.row
theorem Yo{P:Prop}(h:P:=by
 intro u hu;obtain⟨x,_,rfl⟩:=List.mem_map.1 hu;rfl):P:=h
theorem Nq(l:aJ): ∀u∈l.map a_,u.oneCell'=true:=by
 exact Yo
theorem Bg(l:aO): ∀u∈l.map encI,u.oneCell'=true:=by
 exact Yo
theorem JZ(w:ak)(C:aZ)(e:aK)(m:Nat × Nat):Row (w.alloc (.cells C e m)) (some ⟨w.heap.size,0,none⟩) C.toList:=by
 refine .inr ⟨_,0,rfl,by simp,fun i hi=>?_⟩;rw[World.cell?_alloc_mark];simp at hi;simp[hi]
theorem Z4{C:aZ}{m:Nat × Nat}(h:C.toList=l.map a_):bI (w.alloc (.cells C e m)) (some ⟨w.heap.size,0,none⟩) l:=by
 rw[bI,←h];exact JZ w C e m
theorem ah1(w:ak)(C:aZ)(e:aK)(size n:Nat)(hC:C.size=n*size)(hn:n≤maxLen):Own (w.alloc (.cells C e)) w.heap.size e size (some ⟨w.heap.size,0,none⟩) n n C.toList:=
 ⟨by simpa using hC,.inr ⟨w.heap.size,n,C,rfl,Nat.le_refl _,heap_alloc_new w _,Nat.le_refl _,hn,hC,by
  rw[←hC,show C.size=C.toList.length by simp,List.take_length]⟩⟩
theorem Qb(w:ak)(C:aZ)(e:aK)(size cap:Nat)(hC:C.size=cap*size)(hn:cap≤maxLen):Own (w.alloc (.cells C e)) w.heap.size e size (some ⟨w.heap.size,0,none⟩) 0 cap []:=
 World.ownsRow_made w C cap aA hn hC
theorem Yp{P:Prop}(h:P:=by
 rw[BitVec.ofInt_natCast,BitVec.toNat_ofNat];exact Nat.mod_eq_of_lt aj):P:=h
theorem Uc(a:Nat)(ha:a<9223372036854775808):(BitVec.ofInt 64 (a:Int)).toNat=a:=by
 exact Yp
theorem atX(a b:Nat)(ha:a<9223372036854775808)(hb:b<9223372036854775808):bits .and .i64 (a:Int) (b:Int)=((a &&& b:Nat):Int):=by
 have hx:a &&& b<2 ^ 63:=Nat.and_lt_two_pow _ aj;show IntKind.i64.wrap ((BitVec.ofInt 64 (a:Int) &&& BitVec.ofInt 64 (b:Int)).toNat:Int)=_;rw[BitVec.toNat_and,Uc a ha,Uc b hb,IntKind.wrap_i64];omega
theorem aiF(a b:Nat)(ha:a<9223372036854775808)(hb:b<9223372036854775808):bits .or .i64 (a:Int) (b:Int)=((a|||b:Nat):Int):=by
 have hx:a|||b<2 ^ 63:=Nat.or_lt_two_pow aj aj
 show IntKind.i64.wrap ((BitVec.ofInt 64 (a:Int)|||BitVec.ofInt 64 (b:Int)).toNat:Int)=_;rw[BitVec.toNat_or,Uc a ha,Uc b hb,IntKind.wrap_i64];omega
theorem Row.take(h:Row w a xs)(k:Nat):Row w a (xs.take k):=by
 rcases h with rfl|⟨b,off,rfl,hlt,hc⟩
 ·exact .inl aF
 ·refine .inr ⟨b,off,rfl,hlt,fun i hi=>?_⟩;have:i<xs.length:=by simp at hi;omega
  rw[hc i this];simp
theorem bI.take(h:bI w a l)(k:Nat):bI w a (l.take k):=by
 unfold bI at h⊢;rw[List.map_take];exact Row.take h k
theorem Row.drop{b:Nat}(h:Row w (some ⟨b,off,none⟩) xs)(k:Nat):Row w (some ⟨b,off+k,none⟩) (xs.drop k):=by
 rcases h with rfl|⟨b',off',ha,hlt,hc⟩
 ·exact .inl aF
 ·injection ha with ha
  injection ha with h1 h2 _
  subst h1 h2;refine .inr ⟨_,_,rfl,hlt,fun i hi=>?_⟩;have:k+i<xs.length:=by simp at hi;omega
  rw[Nat.add_assoc,hc (k+i) this];simp
theorem bI.drop{b:Nat}(h:bI w (some ⟨b,off,none⟩) l)(k:Nat):bI w (some ⟨b,off+k,none⟩) (l.drop k):=by
 unfold bI at h⊢;rw[List.map_drop];exact Row.drop h k
theorem Own.open_{cap:Nat}(h:Own w base e size a n cap xs)(hn:1≤n): ∃g,a=some ⟨g,0,none⟩∧base≤g∧g<w.heap.size:=by
 rcases h.2 with⟨_,h0⟩|⟨g,c,cur,hv,hb,hg,_⟩
 ·omega
 ·injection hv with ha _ _
  exact⟨g,ha,hb,(lX.1 hg).1⟩
theorem Own.IJ{cap:Nat}(h:Own w base e size a n cap xs):n≤cap:=by
 rcases h.2 with⟨hv,h0⟩|⟨g,c,cur,hv,_,_,hnc,_⟩
 ·omega
 ·injection hv with _ _ hc
  omega
theorem Own.cell{cap g:Nat}(h:Own w base e size (some ⟨g,0,none⟩) n cap xs)(k:Nat)(hk:k<xs.length):w.cell? ⟨g,k,none⟩=some xs[k]:=by
 have:=World.ownsRow.cells h (g:=g) rfl k xs[k] aF;have hadd:(⟨g,0,none⟩:Addr).add k=⟨g,k,none⟩:=by unfold Addr.add;split<;>simp_all
 rwa [hadd]at this
theorem Own.frozen{cap g:Nat}(h:Own w base e size (some ⟨g,0,none⟩) n cap xs)(k:Nat):w.frozen? ⟨g,k,none⟩=false:=by
 rcases h.2 with⟨h0,_⟩|⟨g',c,cur,hv,hb,hg,_⟩
 ·cases h0
 ·injection hv with ha _ _
  injection ha with ha
  injection ha with ha _ _
  subst ha;simp[World.frozen?,hg]
theorem Own.set{cap g:Nat}(h:Own w base e size (some ⟨g,0,none⟩) n cap xs)(k:Nat)(u:Value):Own (w.setCell ⟨g,k,none⟩ u) base e size (some ⟨g,0,none⟩) n cap (xs.set k u):=by
 refine⟨by rw[iQ];exact h.1,?_⟩;rcases h.2 with⟨h0,_⟩|⟨g',c,cur,hv,hb,hg,hnc,hm,hs,ht⟩
 ·cases h0
 ·refine .inr ⟨g',c,cur.setIfInBounds k u,hv,hb,?_,hnc,hm,by simpa using hs,?_⟩
  ·injection hv with ha _ _
   injection ha with ha
   injection ha with ha _ _
   subst ha;simp only[World.setCell,Array.getElem?_modify,if_true,hg];rfl
  ·rw[Array.toList_setIfInBounds,List.take_set,ht]
theorem Own.far{cap:Nat}{b:az}(h:Own w base e size b n cap xs){p:Addr}(hp:b.map (·.block)≠some p.block)(u:Value):Own (w.setCell p u) base e size b n cap xs:=
 h.keep fun k hb _ _=>Below.heap_setCell w p u k (fun e=>hp (by rw[hb,←e];rfl))
theorem Row.far(h:Row w a xs){p:Addr}(hp:a.map (·.block)≠some p.block)(u:Value):Row (w.setCell p u) a xs:=
 h.keep fun k off hb _=>Below.heap_setCell w p u k (fun e=>hp (by rw[hb,←e];rfl))
def ah(w:ak)(g:Nat)(t:aK)(cs:aZ):Prop:=w.heap[g]?=some (.cells cs t (0,0))
theorem ah.lt{g:Nat}{cs:aZ}(h:ah w g t cs):g<w.heap.size:=(lX.1 h).1
theorem ah.cell{g:Nat}{cs:aZ}(h:ah w g t cs)(i:Nat):w.cell? ⟨g,i,none⟩=cs[i]?:=cell_of_row w g i cs t (0,0) h
theorem ah.frozen{g:Nat}{cs:aZ}(h:ah w g t cs)(i:Nat):w.frozen? ⟨g,i,none⟩=false:=by
 unfold ah at h;simp[World.frozen?,h]
theorem ah.new(w:ak)(t:aK)(cs:aZ):ah (w.alloc (.cells cs t)) w.heap.size t cs:=heap_alloc_new w _
theorem ah.alloc{g:Nat}{cs:aZ}(h:ah w g t cs)(o:Obj):ah (w.alloc o) g t cs:=(Below.heap_alloc w o g h.lt).trans h
theorem ah.below{g:Nat}{cs:aZ}(h:ah w g t cs)(hb:Below B w w')(hg:g<B):ah w' g t cs:=(hb.block g hg).trans h
theorem ah.set{g:Nat}{cs:aZ}(h:ah w g t cs)(i:Nat)(u:Value):ah (w.setCell ⟨g,i,none⟩ u) g t (cs.setIfInBounds i u):=by
 unfold ah at h⊢;simp[World.setCell,Array.getElem?_modify,h]
theorem ah.far{g:Nat}{cs:aZ}(h:ah w g t cs){p:Addr}(hp:g≠p.block)(u:Value):ah (w.setCell p u) g t cs:=(Below.heap_setCell w p u g hp).trans h
theorem ah.drewN{g:Nat}{cs:aZ}(h:ah w g t cs)(n:Nat):ah (w.drewN n) g t cs:=h
theorem ah.five{g:Nat}{a b c d e:Value}(h:ah w g t #[a,b,c,d,e]):w.cell? ⟨g,0,none⟩=some a∧w.cell? ⟨g,1,none⟩=some b∧w.cell? ⟨g,2,none⟩=some c∧w.cell? ⟨g,3,none⟩=some d∧w.cell? ⟨g,4,none⟩=some e∧(∀i,w.frozen? ⟨g,i,none⟩=false)∧g<w.heap.size:=
 ⟨h.cell 0,h.cell 1,h.cell 2,h.cell 3,h.cell 4,h.frozen,h.lt⟩
section
variable{ops:Array Oper}{rest:List Oper}{o:Oper}{a:Act}{Q:dR}{w:ak}
theorem Zp:(prog.info? 5).map (fun i=>(i.zero,i.size,i.bytes))=some (some (.int .u8 0),1,1):=by kernel_rfl
theorem Nr:(prog.info? 3).map (fun i=>(i.zero,i.size,i.bytes))=some (some (ae 0),1,8):=by kernel_rfl
theorem Grew.step{w:ak}{cap:Nat}{b b':az}(own:Own w base e size b n cap xs)(g:Grew base w w' b b'): ∀W,Below base W w→Below base W w':=
 fun _ h=>Grew.below h g own.dW
theorem qN(hgd:o.guard=none)(s x:Operand)(ho:o.op= .call {callee:= .builtin .append,args:= #[s,x],argTypes:= #[30,30]})
  (base:Nat) (b:az) (n cap:Nat) (l:aJ) (hs:a.eval s= .slice b n cap) (A:az) (m c:Nat) (k:aJ) (hx:a.eval x= .slice A m c)
  (own:Own w base 5 1 b n cap (l.map a_)) (hr:bI w A k) (hm:m=k.length) (N:Nat) (hN:N=n+m) (hbig:N≤100000000000) (hbase:base≤w.heap.size)
  (h: ∀b' cap' w',Own w' base 5 1 b' N cap' ((l++k).map a_)→Grew base w w' b b'→(∀W,Below base W w→Below base W w')→wpList prog ops Q rest (a.put o.dst (.slice b' N cap')) w'):
  wpList prog ops Q (o::rest) a w:=by
 obtain⟨i0,hi,hz0,hz1,hz2⟩:=info_parts Zp;refine zL _ hgd s x _ ho base _ i0 _ 1 1 underlying30 hi hz0 hz1 hz2 rfl ay b n cap _ hs A m c hx own (k.map a_) Nk hr (Nq _) tK aj hbase ?_;intro b' cap' w' own' g;rw[←hN]at own'⊢;rw[←jg]at own';exact h b' cap' w' own' g (Grew.step own g)
theorem J_(hgd:o.guard=none)(s x:Operand)(ho:o.op= .call {callee:= .builtin .append,args:= #[s,x],argTypes:= #[30,30]})
  (base:Nat) (b:az) (n cap:Nat) (l:aJ) (hs:a.eval s= .slice b n cap) (z:UInt8) (zi:Int) (hx:a.eval x= .slice (some ⟨w.heap.size,0,none⟩) 1 1)
  (own:Own w base 5 1 b n cap (l.map a_)) (hz:zi=(z.toNat:Int)) (N:Nat) (hN:N=n+1) (hbig:N≤100000000000) (hbase:base≤w.heap.size)
  (h: ∀b' cap' w',Own w' base 5 1 b' N cap' ((l++ [z]).map a_)→Grew base (w.alloc (.cells #[.int .u8 zi] 5)) w' b b'→(∀W,Below base W w→Below base W w')→wpList prog ops Q rest (a.put o.dst (.slice b' N cap')) w'):
  wpList prog ops Q (o::rest) a (w.alloc (.cells #[.int .u8 zi] 5)):=by
 subst hz;refine qN hgd s x ho base b n cap l hs _ 1 1 [z] hx (own.alloc _) (Z4 rfl) rfl N hN hbig cu ?_;intro b' cap' w' own' g hb;exact h b' cap' w' own' g (fun W hW=>hb W (hW.alloc hbase _))
end
theorem Yq{P:Prop}(h:P:=by
 have e:= @Int.tmod_eq_emod v n;have h2:=Int.emod_nonneg v (show n≠0 by omega);have h3:=Int.emod_lt_of_pos v (show 0<n by omega)
 split at e<;>omega):P:=h
theorem tmod_neg{v n:Int}(h1:1≤n)(h:v.tmod n<0):v.tmod n+n=v % n:=by
 exact Yq
theorem asz{v n:Int}(h1:1≤n)(h: ¬ v.tmod n<0):v.tmod n=v % n:=by
 exact Yq
theorem atY{v n:Int}(h1:1≤n): -n<v.tmod n∧v.tmod n<n:=by
 exact Yq
theorem aiG(v n:Int)(w:ak)(h1:1≤n)(hn:n≤4611686018427387904):
  aH 12 #[ae v,ae n] w fun e w'=>e= .returned (ae (v % n))∧w=w':=by
 have h0:(n==0)=false:=by simp;omega
 have hb:=atY (v:=v) h1;by_cases hs:v.tmod n<0
 ·go_enter func12,ntmps12
  go_wp2
  go_ret;exact⟨yT (tmod_neg h1 hs),rfl⟩
 ·go_enter func12,ntmps12
  go_wp2
  go_ret;exact⟨yT (asz h1 aj),rfl⟩
theorem ah3{v n r:Int}(h:v % n=r)(w:ak)(h1:1≤n)(hn:n≤4611686018427387904):
 aH 12 #[ae v,ae n] w fun e w'=>e= .returned (ae r)∧w=w':=h▸aiG v n w h1 hn
theorem modName(v n:Int)(h:0<n): ∃r,Hid (v % n=r)∧0≤r∧r<n:=⟨v % n,ax rfl,Int.emod_nonneg v aj,Int.emod_lt_of_pos v h⟩
theorem aqB(v n:Int)(w:ak)(h1:1≤n)(hn:n≤4611686018427387904):
  aH 12 #[ae v,ae n] w fun e w'=> ∃r,e= .returned (ae r)∧0≤r∧r<n∧w=w':=
 (aiG v n w h1 hn).mono fun _ _ ⟨he,hw⟩=>⟨_,he,Int.emod_nonneg v aj,Int.emod_lt_of_pos v aj,hw⟩
theorem qs{f:FuncId}{v:Value}
  (h:Calls P f args (w.drewN n) fun e w'=>e= .returned v∧w.drewN n=w'):Calls P f args (w.drewN n) fun e w''=>e= .returned v∧∃m,w''=w.drewN m:=
 h.mono fun _ _ ⟨he,hm⟩=>⟨he,n,hm.symm⟩
theorem Gh{f:FuncId}{a:Nat}{v:Value}
  (h:Calls P f args (w.drewN (a+n)) fun e w'=>e= .returned v∧w.drewN (a+n)=w'):Calls P f args (w.drewN (a+n)) fun e w''=>e= .returned v∧∃m,w''=w.drewN (a+m):=
 h.mono fun _ _ ⟨he,hm⟩=>⟨he,n,hm.symm⟩
theorem TZ(h: ∃p:Regrown,w'=grow (redrawn w p.d) p.os):Below w.heap.size w w':=by
 obtain⟨p,rfl⟩:=h;exact below_regrown w _ _
theorem qg{f:FuncId}{d:Nat}{os:Array Obj}{v:Value}
  (h:Calls P f args (grow (redrawn w d) os) fun e w'=>e= .returned v∧grow (redrawn w d) os=w'):Calls P f args (grow (redrawn w d) os) fun e w''=>e= .returned v∧∃p:Regrown,w''=grow (redrawn w p.d) p.os:=
 h.mono fun _ _ ⟨he,hm⟩=>⟨he,⟨d,os⟩,hm.symm⟩
theorem qb{f:FuncId}{d:Nat}{os:Array Obj}{v:Value}
  (h:Calls P f args (grow (redrawn w d) os) fun e w'=>e= .returned v∧Below (grow (redrawn w d) os).heap.size (grow (redrawn w d) os) w'):Calls P f args (grow (redrawn w d) os) fun e w''=>e= .returned v∧∃p:Regrown,w''=grow (redrawn w p.d) p.os:=
 Calls.regrown_of h
theorem dC(w:ak)(d:Nat)(os:Array Obj)(b o:Nat)(h:b<w.heap.size):(grow (redrawn w d) os).cell? ⟨b,o,none⟩=w.cell? ⟨b,o,none⟩:=(below_regrown w d os).cell (p:=⟨b,o,none⟩) h
section
abbrev wV:=(Nat→Value)→(Nat→Nat)→(Nat→Nat)→Value→Nat→Nat→ak→Prop
structure xY where
 T:b_
 U:b_
 V:b_
 W:b_
deriving Inhabited
def bG(c:Value):Value→Prop:=fun v=>v=c
def dM:Value→Prop:=fun _=>True
def bC:wV:=fun _ _ _ _ _ _ _=>True
def ni{α:Type}(D:b_)(d:α)(f:Nat→α):Nat→α:=fun k=>bif D.elem k then f k else d
theorem au_{α:Type}{D:b_}{d:α}{f:Nat→α}(h:D.elem k=true):ni D d f k=f k:=by unfold ni;rw[h];rfl
def upd{α:Type}(f:Nat→α)(i:Nat)(v:α):Nat→α:=fun k=>if k=i then v else f k
def CZ(P:Program)(R:Value→ak→Prop):Result Next→Prop
 |.ok (.value v) w'=>R v w'
 |.ok .skip w'=>R undef w'
 |.ok (.enter f args) w'=>Calls P f args w' fun e w''=> ∃v,e= .returned v∧R v w''
 |_=>False
attribute [go_sem] CZ
def NF:Value→Option Bool
 |.bool b=>some b
 |_=>none
def Ac(ds:List (Option Tmp))(U:b_)(f:Nat→Value)(a:Act):Act:=U.foldl (fun a j=>a.put (ds.getD j none) (f j)) a
def IV(ds:List (Option Tmp))(f:Nat→Value)(t:Tmp)(d:Value):b_→Value
 |[]=>d
 |j::U=>if ds.getD j none=some t then f j else IV ds f t d U
def NR(ds:List (Option Tmp))(U:b_)(f:Nat→Value)(a:Act):Operand→Value
 |.tmp t=>IV ds f t (a.tmps.getD t undef) U
 |.const v=>v
 |.global g=> .pointer (some ⟨g,0,none⟩)
 |.func g=> .func (.func g) #[] #[]
attribute [go_sem] NR IV jM jO Option.some.injEq bG dM bC au_ and_true true_and
@[go_sem ↓] theorem aBx(dst:Option Tmp)(g:FuncId)(xs:Array Operand)(ats:Array aK)(ty:aK)(pos:String)(after:Array Edge)(guard:Option (Nat × Bool))(ds:List (Option Tmp))(U:b_)(f:Nat→Value)(a:Act):
 execOp (NR ds U f a) {dst,op:= .call {callee:= .value (.func g),args:=xs,argTypes:=ats},type:=ty,pos,after,guard}=callFunc g (#[]++xs.map (NR ds U f a)++ #[]):=rfl
attribute [go_sem] Ac List.foldl_cons List.foldl_nil
def Touch(W:b_)(lo hi:Nat→Nat)(w w':ak):Prop:=w'.os=w.os∧w'.tape=w.tape∧w'.output=w.output∧w.heap.size≤w'.heap.size∧∀b,b<w.heap.size→(∀k∈W,¬ (lo k≤b∧b<hi k))→w'.heap[b]?=w.heap[b]?
theorem Touch.of_below{W:b_}(h:Below w.heap.size w w'):Touch W lo hi w w':=⟨h.os,h.tape,h.output,h.size,fun b hb _=>h.block b hb⟩
theorem Touch.set{W:b_}(w:ak){b:Nat}(hk:k∈W)(h1:lo k≤b)(h2:b<hi k)(o:Nat)(u:Value):Touch W lo hi w (w.setCell ⟨b,o,none⟩ u):=
 ⟨rfl,rfl,rfl,by simp[World.setCell],fun x _ hx=>Below.heap_setCell w ⟨b,o,none⟩ u x (fun e=>hx k hk (by simp only at e;omega))⟩
theorem Touch.trans{W:b_}{a b c:ak}(h:Touch W lo hi a b)(g:Touch W lo hi b c):Touch W lo hi a c:=
 ⟨g.1.trans h.1,g.2.1.trans h.2.1,g.2.2.1.trans h.2.2.1,dA h.2.2.2.1 g.2.2.2.1,fun k hk hx=>(g.2.2.2.2 k (jL hk h.2.2.2.1) hx).trans (h.2.2.2.2 k hk hx)⟩
theorem ah.eight{g:Nat}{a b c d e f h i:Value}(k:ah w g t #[a,b,c,d,e,f,h,i]):w.cell? ⟨g,0,none⟩=some a∧w.cell? ⟨g,1,none⟩=some b∧w.cell? ⟨g,2,none⟩=some c∧w.cell? ⟨g,3,none⟩=some d∧w.cell? ⟨g,4,none⟩=some e∧w.cell? ⟨g,5,none⟩=some f∧w.cell? ⟨g,6,none⟩=some h∧w.cell? ⟨g,7,none⟩=some i:=
 ⟨k.cell 0,k.cell 1,k.cell 2,k.cell 3,k.cell 4,k.cell 5,k.cell 6,k.cell 7⟩
theorem Touch.aaS{W:b_}(w:ak){b:Nat}(hk:k∈W)(h1:lo k≤b)(h2:b<hi k)(v0 v1 v2 v3 v4 v5 v6 v7:Value):Touch W lo hi w ((((((((w.setCell ⟨b,0,none⟩ v0).setCell ⟨b,1,none⟩ v1).setCell ⟨b,2,none⟩ v2).setCell ⟨b,3,none⟩ v3).setCell ⟨b,4,none⟩ v4).setCell ⟨b,5,none⟩ v5).setCell ⟨b,6,none⟩ v6).setCell ⟨b,7,none⟩ v7):=
 (((((((Touch.set w hk h1 h2 0 v0).trans (Touch.set _ hk h1 h2 1 v1)).trans (Touch.set _ hk h1 h2 2 v2)).trans (Touch.set _ hk h1 h2 3 v3)).trans (Touch.set _ hk h1 h2 4 v4)).trans (Touch.set _ hk h1 h2 5 v5)).trans (Touch.set _ hk h1 h2 6 v6)).trans (Touch.set _ hk h1 h2 7 v7)
theorem ah.aaS{b:Nat}{u0 u1 u2 u3 u4 u5 u6 u7:Value}(h:ah w b t #[u0,u1,u2,u3,u4,u5,u6,u7])(v0 v1 v2 v3 v4 v5 v6 v7:Value):ah ((((((((w.setCell ⟨b,0,none⟩ v0).setCell ⟨b,1,none⟩ v1).setCell ⟨b,2,none⟩ v2).setCell ⟨b,3,none⟩ v3).setCell ⟨b,4,none⟩ v4).setCell ⟨b,5,none⟩ v5).setCell ⟨b,6,none⟩ v6).setCell ⟨b,7,none⟩ v7) b t #[v0,v1,v2,v3,v4,v5,v6,v7]:=by
 have h0:ah (w.setCell ⟨b,0,none⟩ v0) b t #[v0,u1,u2,u3,u4,u5,u6,u7]:=h.set 0 v0;have h1:ah ((w.setCell ⟨b,0,none⟩ v0).setCell ⟨b,1,none⟩ v1) b t #[v0,v1,u2,u3,u4,u5,u6,u7]:=h0.set 1 v1;have h2:ah (((w.setCell ⟨b,0,none⟩ v0).setCell ⟨b,1,none⟩ v1).setCell ⟨b,2,none⟩ v2) b t #[v0,v1,v2,u3,u4,u5,u6,u7]:=h1.set 2 v2;have h3:ah ((((w.setCell ⟨b,0,none⟩ v0).setCell ⟨b,1,none⟩ v1).setCell ⟨b,2,none⟩ v2).setCell ⟨b,3,none⟩ v3) b t #[v0,v1,v2,v3,u4,u5,u6,u7]:=h2.set 3 v3;have h4:ah (((((w.setCell ⟨b,0,none⟩ v0).setCell ⟨b,1,none⟩ v1).setCell ⟨b,2,none⟩ v2).setCell ⟨b,3,none⟩ v3).setCell ⟨b,4,none⟩ v4) b t #[v0,v1,v2,v3,v4,u5,u6,u7]:=h3.set 4 v4;have h5:ah ((((((w.setCell ⟨b,0,none⟩ v0).setCell ⟨b,1,none⟩ v1).setCell ⟨b,2,none⟩ v2).setCell ⟨b,3,none⟩ v3).setCell ⟨b,4,none⟩ v4).setCell ⟨b,5,none⟩ v5) b t #[v0,v1,v2,v3,v4,v5,u6,u7]:=h4.set 5 v5;have h6:ah (((((((w.setCell ⟨b,0,none⟩ v0).setCell ⟨b,1,none⟩ v1).setCell ⟨b,2,none⟩ v2).setCell ⟨b,3,none⟩ v3).setCell ⟨b,4,none⟩ v4).setCell ⟨b,5,none⟩ v5).setCell ⟨b,6,none⟩ v6) b t #[v0,v1,v2,v3,v4,v5,v6,u7]:=h5.set 6 v6;have h7:ah ((((((((w.setCell ⟨b,0,none⟩ v0).setCell ⟨b,1,none⟩ v1).setCell ⟨b,2,none⟩ v2).setCell ⟨b,3,none⟩ v3).setCell ⟨b,4,none⟩ v4).setCell ⟨b,5,none⟩ v5).setCell ⟨b,6,none⟩ v6).setCell ⟨b,7,none⟩ v7) b t #[v0,v1,v2,v3,v4,v5,v6,v7]:=h6.set 7 v7;exact h7
theorem A_{W:b_}{p:Nat}(h:w.grownBy w' (some p))(hn:n∈W)(h1:lo n=p)(h2:hi n=p+1):Touch W lo hi w w':=
 ⟨h.os,h.tape,h.output,h.size,fun b hb hx=>h.block b hb fun e=>hx n hn (by injection e with e;omega)⟩
def Base(W0:ak)(xr:List (Nat × Nat))(b:Nat):Prop:=b<W0.heap.size∧∀r∈xr,¬ (r.1≤b∧b<r.2)
def fH(W0:ak)(xr:List (Nat × Nat))(w:ak):Prop:=w.os=W0.os∧w.tape=W0.tape∧w.output=W0.output∧W0.heap.size≤w.heap.size∧∀b,Base W0 xr b→w.heap[b]?=W0.heap[b]?
theorem fH.zero(h:fH W0 [] w):Below W0.heap.size W0 w:=⟨h.1,h.2.1,h.2.2.1,h.2.2.2.1,fun k hk=>h.2.2.2.2 k ⟨hk,by simp⟩⟩
theorem fH.blk(h:fH W0 xr w){g:Nat}{cs:aZ}(k:ah W0 g t cs)(hne: ∀r∈xr,¬ (r.1≤g∧g<r.2)):ah w g t cs:=(h.2.2.2.2 g ⟨k.lt,hne⟩).trans k
theorem fH.row(h:fH W0 xr w)(k:Row W0 a xs)(hne: ∀b,a.map (·.block)=some b→∀r∈xr,¬ (r.1≤b∧b<r.2)):Row w a xs:=k.keep fun b off e hlt=>h.2.2.2.2 b ⟨hlt,hne b tN⟩
theorem fH.one{p:Nat}(h:fH W0 [(p,p+1)] w):W0.grownBy w (some p):=⟨h.1,h.2.1,h.2.2.1,h.2.2.2.1,fun k hk hne=>h.2.2.2.2 k ⟨hk,fun r hr=>by
 simp at hr;subst hr;exact fun hh=>hne (by congr 1;omega)⟩⟩
def fU(lo hi:Nat→Nat):Nat→List (Nat × Nat)→Prop
 |_,[]=>True
 |n,r::rs=>(lo n=r.1∧hi n=r.2)∧fU lo hi (n+1) rs
def NS(s:Nat):List (Nat × Nat)→Prop
 |[]=>True
 |r::rs=>(r.1≤r.2∧r.2≤s)∧(∀q∈rs,r.2≤q.1∨q.2≤r.1)∧NS s rs
def NJ(W:ak)(ψs:List wV):Nat→List (Nat × Nat)→Prop
 |_,[]=>True
 |n,r::rs=>(∀f lo hi v,(ψs.getD n bC) f lo hi v r.1 r.2 W)∧NJ W ψs (n+1) rs
theorem fU.get: ∀(n:Nat) (xr:List (Nat × Nat)),fU lo hi n xr→∀i r,xr[i]?=some r→lo (n+i)=r.1∧hi (n+i)=r.2
 |_,[],_,i,r,h=>by simp at h
 |n,q::rs,h,0,r,hr=>by simp at hr;subst hr;exact h.1
 |n,q::rs,h,i+1,r,hr=>by
  have:=fU.get (n+1) rs h.2 i r Nc
  rwa [Nat.add_assoc,Nat.add_comm 1 i]at this
theorem fU.mk: ∀(n:Nat) (xr:List (Nat × Nat)),(∀i r,xr[i]?=some r→lo (n+i)=r.1∧hi (n+i)=r.2)→fU lo hi n xr
 |_,[],_=>trivial
 |n,q::rs,h=>⟨h 0 q rfl,fU.mk (n+1) rs fun i r hr=>by
  have:=h (i+1) r Nc
  rwa [←Nat.add_assoc,Nat.add_right_comm]at this⟩
theorem NJ.get{ψs:List wV}: ∀(n:Nat) (xr:List (Nat × Nat)),NJ W ψs n xr→∀i r,xr[i]?=some r→∀f lo hi v,(ψs.getD (n+i) bC) f lo hi v r.1 r.2 W
 |_,[],_,i,r,h=>by simp at h
 |n,q::rs,h,0,r,hr=>by simp at hr;subst hr;exact h.1
 |n,q::rs,h,i+1,r,hr=>by
  have:=NJ.get (n+1) rs h.2 i r Nc
  rwa [Nat.add_assoc,Nat.add_comm 1 i]at this
theorem NS.get{s:Nat}: ∀(xr:List (Nat × Nat)),NS s xr→(∀(i:Nat) (r:Nat × Nat),xr[i]?=some r→r.1≤r.2∧r.2≤s)∧∀(i j:Nat) (r q:Nat × Nat),xr[i]?=some r→xr[j]?=some q→i≠j→r.2≤q.1∨q.2≤r.1
 |[],_=>⟨fun i r h=>by simp at h,fun i j r q h=>by simp at h⟩
 |p::rs,h=>by
  obtain⟨g1,g2⟩:=NS.get rs h.2.2;refine⟨fun i r hr=>?_,fun i j r q hr hq hne=>?_⟩
  ·cases i with
   |zero=>simp at hr;subst hr;exact h.1
   |succ i=>exact g1 i r Nc
  ·cases i with
   |zero=>cases j with
    |zero=>exact absurd rfl hne
    |succ j=>simp at hr hq;subst hr;exact h.2.1 q (List.mem_of_getElem? hq)
   |succ i=>cases j with
    |zero=>simp at hr hq;subst hq;exact(h.2.1 r (List.mem_of_getElem? hr)).symm
    |succ j=>exact g2 i j r q Nc (by simpa using hq) (fun e=>hne (by rw[e]))
attribute [go_sem] fU
section
variable(rows:List xY)(ψs:List wV)(f:Nat→Value)(lo hi:Nat→Nat)
def Dh(w:ak)(j:Nat):Prop:=(ψs.getD j bC) (ni (rows.getD j default).U undef f) (ni (rows.getD j default).U 0 lo) (ni (rows.getD j default).U 0 hi) (f j) (lo j) (hi j) w
def J7(ks:List (Value→Prop)):b_→Prop
 |[]=>True
 |j::l=>(ks.getD j dM) (f j)∧J7 ks l
def Facts(w:ak):b_→Prop
 |[]=>True
 |j::l=>Dh rows ψs f lo hi w j∧Facts w l
attribute [go_sem] Facts Dh J7
def Gs(ks:List (Value→Prop))(i:Nat)(w:ak)(v:Value)(w':ak):Prop:=
 Touch (rows.getD i default).W lo hi w w'∧(ks.getD i dM) v∧(ψs.getD i bC) (ni (rows.getD i default).U undef f) (ni (rows.getD i default).U 0 lo) (ni (rows.getD i default).U 0 hi) v w.heap.size w'.heap.size w'
end
theorem bK{rows:List xY}{ψs:List wV}{v c:Value}(hk:ks.getD i dM=bG c)(hψ:ψs.getD i bC=bC)(hb:Below w.heap.size w w')(hv:v=c):Gs rows ψs f lo hi ks i w v w':=by
 unfold Gs;rw[hψ,hk];exact⟨.of_below hb,hv,trivial⟩
theorem iU{rows:List xY}{ψs:List wV}{v:Value}(hk:ks.getD i dM=dM)(hb:Below w.heap.size w w')
  (h:(ψs.getD i bC) (ni (rows.getD i default).U undef f) (ni (rows.getD i default).U 0 lo) (ni (rows.getD i default).U 0 hi) v w.heap.size w'.heap.size w'):Gs rows ψs f lo hi ks i w v w':=by
 unfold Gs;rw[hk];exact⟨.of_below hb,trivial,h⟩
theorem vH{rows:List xY}{ψs:List wV}{W:b_}{v:Value}(hk:ks.getD i dM=dM)(hw:(rows.getD i default).W=W)(hb:Touch W lo hi w w')
  (h:(ψs.getD i bC) (ni (rows.getD i default).U undef f) (ni (rows.getD i default).U 0 lo) (ni (rows.getD i default).U 0 hi) v w.heap.size w'.heap.size w'):Gs rows ψs f lo hi ks i w v w':=by
 unfold Gs;rw[hk];exact⟨hw▸hb,trivial,h⟩
theorem PL{rows:List xY}{ψs:List wV}{W:b_}{v:Value}(hk:(ks.getD i dM) v)(hw:(rows.getD i default).W=W)(hb:Touch W lo hi w w')
 (h:(ψs.getD i bC) (ni (rows.getD i default).U undef f) (ni (rows.getD i default).U 0 lo) (ni (rows.getD i default).U 0 hi) v w.heap.size w'.heap.size w'):Gs rows ψs f lo hi ks i w v w':=⟨hw▸hb,hk,h⟩
def Obl(P:Program)(W0:ak)(xr:List (Nat × Nat))(N:Nat)(a0:Act)(ds:List (Option Tmp))(rows:List xY)(ψs:List wV)(ks:List (Value→Prop))(i:Nat)(o:Oper):Prop:=
 ∀f lo hi w,fH W0 xr w→fU lo hi N xr→Facts rows ψs f lo hi w (rows.getD i default).V→J7 f ks (rows.getD i default).U→Hid (∀j∈(rows.getD i default).T,(N≤j∨W0.heap.size≤lo j)∧lo j≤hi j∧hi j≤w.heap.size∧∀k∈(rows.getD i default).T,k≠j→hi k≤lo j∨hi j≤lo k)→
  ∀R:Value→ak→Prop,(∀v w',Gs rows ψs f lo hi ks i w v w'→R v w')→
   match o.guard with
   |none=>CZ P R ((execOp (NR ds (rows.getD i default).U f a0) o).run P w)
   |some (j,b)=>if NF (f j)=some b then CZ P R ((execOp (NR ds (rows.getD i default).U f a0) o).run P w)else R undef w
def IW(P:Program)(W0:ak)(xr:List (Nat × Nat))(N:Nat)(a0:Act)(ds:List (Option Tmp))(rows:List xY)(ψs:List wV)(ks:List (Value→Prop)):Nat→List Oper→Prop
 |_,[]=>True
 |i,o::os=>Obl P W0 xr N a0 ds rows ψs ks i o∧IW P W0 xr N a0 ds rows ψs ks (i+1) os
def Closed(W0:ak)(xr:List (Nat × Nat))(N:Nat)(U:b_)(ψ:wV):Prop:=
 ∀f lo hi v l h w w',ψ f lo hi v l h w→w.heap.size≤w'.heap.size→(∀b,Base W0 xr b→w'.heap[b]?=w.heap[b]?)→(∀b,l≤b→b<h→w'.heap[b]?=w.heap[b]?)→(∀m∈U,∀b,lo m≤b→b<hi m→w'.heap[b]?=w.heap[b]?)→(∀i r,xr[i]?=some r→N+i∈U→∀b,r.1≤b→b<r.2→w'.heap[b]?=w.heap[b]?)→ψ f lo hi v l h w'
def Iw(W0:ak)(xr:List (Nat × Nat))(N:Nat):List xY→List wV→Prop
 |r::rs,ψ::ψs=>Closed W0 xr N r.U ψ∧Iw W0 xr N rs ψs
 |_,_=>True
theorem Closed.true(W0:ak)(xr:List (Nat × Nat))(N:Nat)(U:b_):Closed W0 xr N U bC:=fun _ _ _ _ _ _ _ _ h _ _ _ _ _=>h
theorem bH{U:b_}:Closed W0 xr i U bC:=Closed.true W0 xr i U
def nodupB:List (Option Tmp)→Bool
 |[]=>true
 |none::l=>nodupB l
 |some d::l=>!l.contains (some d) && nodupB l
def Vu(n:Nat)(rows:List xY)(j:Nat)(more:Nat→Bool):Bool:=
 (List.range n).all fun t=>(rows.getD t default).W.all fun k=>!(k==j||(rows.getD j default).U.contains k)||t==j||(rows.getD j default).T.contains t||more t
def rowOk(ops:Array Oper)(ds:List (Option Tmp))(rows:List xY)(i:Nat)(o:Oper):Bool:=
 let r:=rows.getD i default
 (o.after.all fun e=>!Region.binds .any e||e.on<i) &&
 (r.T.all fun j=>(decide (ops.size≤j) && decide (j<rows.length))||o.after.any fun e=>Region.binds .any e && (e.on==j||(rows.getD e.on default).T.contains j)) &&
 (r.U.all fun j=>r.T.contains j) && (r.V.all fun j=>r.T.contains j) &&
 (match o.guard with|none=>true|some (j,_)=>r.T.contains j && ((ops[j]?).bind (·.dst)).isSome) &&
 (o.op.operands.all fun x=>match x with
  |.tmp s=>(List.range ops.size).all fun j=>ds.getD j none !=some s||r.U.contains j||j==i||(rows.getD j default).T.contains i
  |_=>true) &&
 (r.W.all fun k=>r.T.contains k) &&
 (r.V.all fun j=>Vu ops.size rows j fun t=>t==i||(rows.getD t default).T.contains i)
def Ko(ops:Array Oper)(M n0 kl:Nat)(ds:List (Option Tmp))(rows:List xY)(all F:b_):Bool:=
 (ops.toList.map (·.dst)==ds) && rows.length==ops.size+M && Region.noSelect ops && nodupB ds && (all==List.range ops.size) &&
 (ds.all fun d=>match d with|none=>true|some s=>decide (s<n0)) &&
 ((List.range ops.size).all fun i=>match ops[i]? with|some o=>rowOk ops ds rows i o|none=>true) &&
 ((List.range M).all fun i=>(rows.getD (ops.size+i) default).T.isEmpty && (rows.getD (ops.size+i) default).U.isEmpty && (rows.getD (ops.size+i) default).W.isEmpty) &&
 decide (kl≤ops.size) &&
 (F.all fun j=>decide (j<rows.length) && Vu ops.size rows j fun _=>false)
section
variable{P:Program}{ops:Array Oper}{Q:dR}{W0:ak}{xr:List (Nat × Nat)}{N:Nat}{a0:Act}{ds:List (Option Tmp)}{rows:List xY}{ψs:List wV}{ks:List (Value→Prop)}
theorem IW.get: ∀(l:List Oper) (k:Nat),IW P W0 xr N a0 ds rows ψs ks k l→∀i o,l[i]?=some o→Obl P W0 xr N a0 ds rows ψs ks (k+i) o
 |[],_,_,i,o,h=>by simp at h
 |x::l,k,h,0,o,ho=>by simp at ho;subst ho;exact h.1
 |x::l,k,h,i+1,o,ho=>by
  have:=IW.get l (k+1) h.2 i o (by simpa using ho)
  rwa [Nat.add_assoc,Nat.add_comm 1 i]at this
theorem Iw.get: ∀(rs:List xY) (ps:List wV),Iw W0 xr N rs ps→∀i,i<rs.length→Closed W0 xr N (rs.getD i default).U (ps.getD i bC)
 |[],_,_,i,h=>by simp at h
 |r::rs,[],_,i,_=>by simpa using Closed.true W0 xr N _
 |r::rs,p::ps,h,0,_=>h.1
 |r::rs,p::ps,h,i+1,hi=>by simpa using Iw.get rs ps h.2 i P5
structure RInv(P:Program)(ops:Array Oper)(W0:ak)(xr:List (Nat × Nat))(a0:Act)(ds:List (Option Tmp))(rows:List xY)(ψs:List wV)(ks:List (Value→Prop))(L:Nat→Prop)(f:Nat→Value)(lo hi:Nat→Nat)(a:Act)(w:ak):Prop where
 below:fH W0 xr w
 Jf:(∀i,i<xr.length→L (ops.size+i))∧fU lo hi ops.size xr
 Jg: ∀j,L j→(ops.size≤j∨W0.heap.size≤lo j)∧lo j≤hi j∧hi j≤w.heap.size
 apart: ∀i j,L i→L j→i≠j→hi i≤lo j∨hi j≤lo i
 shut: ∀i,L i→∀j∈(rows.getD i default).T,L j
 facts: ∀j,L j→(∀t,L t→∀k∈(rows.getD t default).W,(k=j∨k∈(rows.getD j default).U)→t=j∨t∈(rows.getD j default).T)→Dh rows ψs f lo hi w j
 aau: ∀j,L j→j<ops.size→(ks.getD j dM) (f j)
 size:a.tmps.size=a0.tmps.size
 defers:a.defers=a0.defers
 put: ∀j,L j→∀s,ds.getD j none=some s→s<a0.tmps.size→a.tmps[s]?=some (f j)
 keep: ∀s,(∀j,L j→ds.getD j none≠some s)→a.tmps[s]?=a0.tmps[s]?
theorem Ny{α:Type}{D:b_}{d v:α}{g:Nat→α}(h:i ∉ D):ni D d (upd g i v)=ni D d g:=by
 funext k
 unfold ni upd;by_cases hk:k∈D
 ·have:k≠i:=fun e=>h (e▸hk);simp[this]
 ·have:D.elem k=false:=by simpa using hk
  simp only[this,cond_false]
theorem aqC{j:Nat}{v:Value}{x y:Nat}(hij:j≠i)(h:i ∉ (rows.getD j default).U):
  Dh rows ψs (upd f i v) (upd lo i x) (upd hi i y) w j↔Dh rows ψs f lo hi w j:=by
 unfold Dh;rw[Ny h,Ny h,Ny h];simp only[upd,if_neg hij]
theorem apA{v:Value}{x y:Nat}(h:i ∉ (rows.getD i default).U):
  Dh rows ψs (upd f i v) (upd lo i x) (upd hi i y) w i↔(ψs.getD i bC) (ni (rows.getD i default).U undef f) (ni (rows.getD i default).U 0 lo) (ni (rows.getD i default).U 0 hi) v x y w:=by
 unfold Dh;rw[Ny h,Ny h,Ny h];simp only[upd,if_true]
theorem ZB{L:Nat→Prop}: ∀U:b_,(∀j∈U,Dh rows ψs f lo hi w j)→Facts rows ψs f lo hi w U
 |[],_=>trivial
 |j::U,h=>⟨h j aF,ZB (L:=L) U fun m hm=>h m Nk⟩
theorem Zq: ∀U:b_,(∀j∈U,(ks.getD j dM) (f j))→J7 f ks U
 |[],_=>trivial
 |j::U,h=>⟨h j aF,Zq U fun m hm=>h m Nk⟩
theorem aeT{j:Nat}{more:Nat→Bool}(h:Vu n rows j more=true)(t:Nat)(ht:t<n)(k:Nat)(hW:k∈(rows.getD t default).W)(hk:k=j∨k∈(rows.getD j default).U):
  t=j∨t∈(rows.getD j default).T∨more t=true:=by
 unfold Vu at h;have h:=List.all_eq_true.1 (List.all_eq_true.1 h t (List.mem_range.2 ht)) k hW;simp only[Bool.or_eq_true,Bool.not_eq_true',beq_iff_eq,List.contains_iff_mem]at h;rcases h with((h|h)|h)|h
 ·exfalso
  rw[Bool.or_eq_false_iff]at h;rcases hk with hk|hk
  ·simp[hk]at h
  ·have:=h.2;rw[←Bool.not_eq_true,List.contains_iff_mem]at this;exact this hk
 ·exact .inl h
 ·exact .inr (.inl h)
 ·exact .inr (.inr h)
theorem Y6(f:Nat→Value): ∀(U:b_) (a:Act),(Ac ds U f a).tmps.size=a.tmps.size∧(Ac ds U f a).defers=a.defers
 |[],_=>⟨rfl,rfl⟩
 |j::U,a=>by
  have h1:=Y6 f U (a.put (ds.getD j none) (f j));show(Ac ds U f (a.put (ds.getD j none) (f j))).tmps.size=_∧(Ac ds U f (a.put (ds.getD j none) (f j))).defers=_;rw[h1.1,h1.2];cases ds.getD j none<;>simp[Act.put]
theorem ag9(n j:Nat):(Array.replicate n false).getD j false=false:=by
 by_cases h:j<n
 ·simp[h]
 ·simp[h]
theorem Py: ∀(l:List (Option Tmp)),nodupB l=true→∀i j s,l.getD i none=some s→l.getD j none=some s→i=j
 |[],_,i,j,s,h,_=>by simp at h
 |none::l,hn,i,j,s,h1,h2=>by
  cases i with
  |zero=>simp at h1
  |succ i=>cases j with
   |zero=>simp at h2
   |succ j=>rw[Py l hn i j s P6 (by simpa using h2)]
 |some d::l,hn,i,j,s,h1,h2=>by
  simp only[nodupB,Bool.and_eq_true,Bool.not_eq_true']at hn;have hno: ∀m,l.getD m none=some d→False:=fun m hm=>by
   have:l.contains (some d)=true:=by
    rw[List.contains_iff_mem];have hlt:m<l.length:=by
     rcases Nat.lt_or_ge m l.length with h|h
     ·exact h
     ·simp[List.getElem?_eq_none h]at hm
    have:l[m]=some d:=by simpa [hlt]using hm
    rw[←this];exact bF hlt
   rw[hn.1]at this;cases this
  cases i with
  |zero=>cases j with
   |zero=>rfl
   |succ j=>simp at h1;subst h1;exact(hno j (by simpa using h2)).elim
  |succ i=>cases j with
   |zero=>simp at h2;subst h2;exact(hno i P6).elim
   |succ j=>rw[Py l hn.2 i j s P6 (by simpa using h2)]
theorem Y7(s:Tmp)(f:Nat→Value): ∀(U:b_) (a:Act),(∀j∈U,ds.getD j none≠some s)→(Ac ds U f a).tmps[s]?=a.tmps[s]?
 |[],_,_=>rfl
 |j::U,a,h=>by
  have h1:=h j aF;show(Ac ds U f (a.put (ds.getD j none) (f j))).tmps[s]?=_;rw[Y7 s f U _ fun m hm=>h m Nk]
  revert h1
  cases ds.getD j none with
  |none=>intro _;rfl
  |some d=>
   intro h1;have:d≠s:=fun e=>h1 (by rw[e]);simp[Act.put,Array.getElem?_setIfInBounds_ne this]
theorem ag_(hn:nodupB ds=true)(s:Tmp)(f:Nat→Value)(j:Nat)(hj:ds.getD j none=some s): ∀(U:b_) (a:Act),j∈U→s<a.tmps.size→(Ac ds U f a).tmps[s]?=some (f j)
 |[],_,h,_=>by simp at h
 |m::U,a,h,hs=>by
  show(Ac ds U f (a.put (ds.getD m none) (f m))).tmps[s]?=_;by_cases hm:j∈U
  ·refine ag_ hn s f j hj U _ hm ?_;cases ds.getD m none<;>simpa [Act.put]using hs
  ·have e:m=j:=by simp[hm]at h;exact h.symm
   subst e;rw[Y7 s f U _ fun x hx hd=>hm (Py ds hn x m s hd hj▸hx),hj];simp[Act.put,hs]
theorem aha(s:Tmp)(f:Nat→Value)(d:Value): ∀(U:b_),(∀j∈U,ds.getD j none≠some s)→IV ds f s d U=d
 |[],_=>rfl
 |j::U,h=>by
  have h1:=h j aF;unfold IV;rw[if_neg h1];exact aha s f d U fun m hm=>h m Nk
theorem ahB(hn:nodupB ds=true)(s:Tmp)(f:Nat→Value)(d:Value)(j:Nat)(hj:ds.getD j none=some s): ∀(U:b_),j∈U→IV ds f s d U=f j
 |[],h=>by simp at h
 |m::U,h=>by
  unfold IV;by_cases hc:ds.getD m none=some s
  ·rw[if_pos hc,Py ds hn m j s hc hj]
  ·have hne:j≠m:=fun e=>hc (e▸hj);rw[if_neg hc];exact ahB hn s f d j hj U (by simpa [hne]using h)
theorem ahb{a:Act}{K:Act→ak→Prop}{R:Value→ak→Prop}(h:CZ P R ((execOp a.eval o).run P w))(hK: ∀v w',R v w'→K (a.put o.dst v) w'):o.wp P a w K Q:=by
 unfold Oper.wp;generalize (execOp a.eval o).run P w=r at*;cases r with
 |ok n w'=>
  cases n<;>simp only[CZ]at h<;>simp only[Oper.upon]
  case value=>exact hK _ _ h
  case skip=>exact hK _ _ h
  case enter=>
   refine h.mono fun e w'' hv=>?_;obtain⟨v,rfl,hv⟩:=hv;exact hK _ _ hv
 |halt x w'=>simp only[CZ]at h
theorem Touch.below{W:b_}{W0:ak}(h:Touch W lo hi w w')(hb:fH W0 xr w)(hlo: ∀k∈W,(∃i,i<xr.length∧k=n+i)∨W0.heap.size≤lo k)(hn:fU lo hi n xr):fH W0 xr w':=
 ⟨h.1.trans hb.1,h.2.1.trans hb.2.1,h.2.2.1.trans hb.2.2.1,dA hb.2.2.2.1 h.2.2.2.1,fun k hk=>by
  have hk':=hk;obtain⟨h1,h2⟩:=hk';have:=hb.2.2.2.1;rw[h.2.2.2.2 k aj fun m hm=>by
   rcases hlo m hm with⟨i,hi,e⟩|e
   ·obtain⟨e1,e2⟩:=fU.get n xr hn i xr[i] (by simp[hi]);rw[e,e1,e2];exact h2 _ (bF hi)
   ·omega];exact hb.2.2.2.2 k hk⟩
theorem RInv.step{n0:Nat}{all F:b_}(hok:Ko ops xr.length n0 ks.length ds rows all F=true)(hn0:n0=a0.tmps.size)(hcl:Iw W0 xr ops.size rows ψs)(hob:IW P W0 xr ops.size a0 ds rows ψs ks 0 ops.toList)
  {L:Nat→Prop}   {a:Act}  (I:RInv P ops W0 xr a0 ds rows ψs ks L f lo hi a w) (hLn: ∀j,L j→j<ops.size+xr.length)   (ho:ops[i]?=some o) (hi': ¬ L i)
  (hr: ∀e∈o.after,Region.binds .any e=true→L e.on) {K:Act→ak→Prop}
  (hK: ∀f' lo' hi' a' w',RInv P ops W0 xr a0 ds rows ψs ks (fun j=>L j∨j=i) f' lo' hi' a' w'→K a' w'):wpOp P ops Q i K a w:=by
 have hil:i<ops.size:=(lX.1 ho).1;have QH: ∀j,ops.size≤j→j<ops.size+xr.length→∃i,i<xr.length∧j=ops.size+i:=fun j h1 h2=>⟨j -ops.size,by omega,by omega⟩;simp only[Ko,Bool.and_eq_true,beq_iff_eq,List.all_eq_true,List.mem_range]at hok;obtain⟨⟨⟨⟨⟨⟨⟨⟨⟨hds,hlen⟩,hsel⟩,hnd⟩,hall⟩,aaT⟩,hrow⟩,WB⟩,hkl⟩,hF⟩:=hok;have BN:=hrow i hil;rw[ho]at BN;simp only[rowOk,Bool.and_eq_true]at BN;obtain⟨⟨⟨⟨⟨⟨⟨aiY,hT⟩,Oh⟩,hVT⟩,hgd⟩,hlook⟩,hW⟩,hav⟩:=BN;have hdst:ds.getD i none=o.dst:=by rw[←hds];simp[ho]
 have hdl: ∀j s,ds.getD j none=some s→j<ops.size:=fun j s h=>by
  rcases Nat.lt_or_ge j ops.size with h1|h1
  ·exact h1
  ·rw[←hds]at h;simp[Array.getElem?_eq_none h1]at h
 have hTL: ∀j∈(rows.getD i default).T,L j:=fun j hj=>by
  have:=List.all_eq_true.1 hT j hj;simp only[Bool.or_eq_true,Bool.and_eq_true,decide_eq_true_eq]at this;rcases this with this|this
  ·obtain⟨m,hm,e⟩:=QH j this.1 aj;rw[e];exact I.Jf.1 m hm
  obtain⟨e,he,hb⟩:=Array.any_eq_true'.1 this;simp only[Bool.and_eq_true,Bool.or_eq_true,beq_iff_eq,List.contains_iff_mem]at hb;have hL:=hr e he hb.1;rcases hb.2 with h|h
  ·exact h▸hL
  ·exact I.shut _ hL _ h
 have awI: ∀j∈(rows.getD i default).U,j∈(rows.getD i default).T:=fun j hj=>by
  have:=List.all_eq_true.1 Oh j hj
  rwa [List.contains_iff_mem]at this
 have hUL: ∀j∈(rows.getD i default).U,L j:=fun j hj=>hTL j (awI j hj);have hVL: ∀j∈(rows.getD i default).V,L j:=fun j hj=>hTL j (by
  have:=List.all_eq_true.1 hVT j hj
  rwa [List.contains_iff_mem]at this)
 have hUi:i ∉ (rows.getD i default).U:=fun h=>hi' (hUL i h);have hno: ∀j,L j→i ∉ (rows.getD j default).T:=fun j hj h=>hi' (I.shut j hj i h);have aay: ∀j,L j→∀m∈(rows.getD j default).U,m∈(rows.getD j default).T:=fun j hj m hm=>by
  rcases Nat.lt_or_ge j ops.size with hjl|hjl
  rotate_left
  ·obtain⟨q,hq,e⟩:=QH j hjl (hLn j hj);have:=WB q hq;rw[e,List.isEmpty_iff.1 this.1.2]at hm;cases hm
  have Lp:=hrow j hjl;rw[Array.getElem?_eq_getElem hjl]at Lp;simp only[rowOk,Bool.and_eq_true]at Lp;have:=List.all_eq_true.1 Lp.1.1.1.1.1.2 m hm
  rwa [List.contains_iff_mem]at this
 have awJ: ∀j,L j→i ∉ (rows.getD j default).U:=fun j hj h=>hno j hj (aay j hj i h);have ava:Facts rows ψs f lo hi w (rows.getD i default).V:=ZB (L:=L) _ fun j hj=>by
  refine I.facts j (hVL j hj) fun t ht k hk hkj=>?_;have htl:t<ops.size:=by
   rcases Nat.lt_or_ge t ops.size with h|h
   ·exact h
   ·obtain⟨q,hq,e⟩:=QH t h (hLn t ht);rw[e,List.isEmpty_iff.1 (WB q hq).2]at hk;cases hk
  have:=aeT (List.all_eq_true.1 hav j hj) t htl k hk hkj;rcases this with h|h|h
  ·exact .inl h
  ·exact .inr h
  ·simp only[Bool.or_eq_true,beq_iff_eq,List.contains_iff_mem]at h;rcases h with h|h
   ·exact absurd (h▸ht) hi'
   ·exact absurd h (hno t ht)
 have hkf: ∀j,ops.size≤j→(ks.getD j dM)=dM:=fun j hj=>by rw[eG,List.getElem?_eq_none (by have:=of_decide_eq_true hkl;omega)];rfl
 have atZ:J7 f ks (rows.getD i default).U:=Zq _ fun j hj=>by
  rcases Nat.lt_or_ge j ops.size with h|h
  ·exact I.aau j (hUL j hj) h
  ·rw[hkf j h];trivial
 have av2: ∀s,(Operand.tmp s)∈o.op.operands→IV ds f s (a0.tmps.getD s undef) (rows.getD i default).U=a.tmps.getD s undef:=fun s hs=>by
  have hl:=Array.all_eq_true_iff_forall_mem.1 hlook _ hs;simp only[List.all_eq_true,List.mem_range]at hl;by_cases hex: ∃j,L j∧ds.getD j none=some s
  ·obtain⟨j,hj,hd⟩:=hex;have hs0:s<a0.tmps.size:=by
    have hmem:some s∈ds:=by
     have hjl:=hdl j s hd;rw[←hds]at hd⊢;have aaU:j<(ops.toList.map (·.dst)).length:=by simpa using hjl
     have:(ops.toList.map (·.dst))[j]=some s:=by simpa [hjl]using hd
     rw[←this];exact bF aaU
    have:=aaT _ hmem;simp only[decide_eq_true_eq]at this;rw[←hn0];exact this
   rw[Array.getD_eq_getD_getElem? (xs:=a.tmps),I.put j hj s hd hs0];have h1:=hl j (hdl j s hd);simp only[Bool.or_eq_true,bne_iff_ne,ne_eq,hd,not_true,false_or,List.contains_iff_mem,beq_iff_eq]at h1;rcases h1 with(h1|h1)|h1
   ·exact ahB hnd s f _ j hd _ h1
   ·exact absurd (h1▸hj) hi'
   ·exact absurd h1 (hno j hj)
  ·rw[Array.getD_eq_getD_getElem? (xs:=a.tmps),I.keep s fun j hj hd=>hex ⟨j,hj,hd⟩,aha s f _ _ fun j hj hd=>hex ⟨j,hUL j hj,hd⟩,Array.getD_eq_getD_getElem?]
 have av3:execOp (NR ds (rows.getD i default).U f a0) o=execOp a.eval o:=
  execOp_congr o (fun cs b=>Region.noSelect_spec hsel i o cs b ho) fun x hx=>by
   cases x with
   |tmp s=>
    have:=av2 s hx;exact this
   |_=>rfl
 have hpost: ∀v w',Gs rows ψs f lo hi ks i w v w'→K (a.put o.dst v) w':=fun v w' hp=>by
  have hAfter: ∃x y,W0.heap.size≤x∧x≤y∧y≤w'.heap.size∧w.heap.size≤x∧w.heap.size≤w'.heap.size∧fH W0 xr w'∧
    (ψs.getD i bC) (ni (rows.getD i default).U undef f) (ni (rows.getD i default).U 0 lo) (ni (rows.getD i default).U 0 hi) v x y w'∧
    (∀b,Base W0 xr b→w'.heap[b]?=w.heap[b]?)∧
    (∀m,L m→(∀k∈(rows.getD i default).W,k≠m)→∀b,lo m≤b→b<hi m→w'.heap[b]?=w.heap[b]?):=by
   have hsz:=I.below.2.2.2.1;obtain⟨hp,hkv,hq⟩:=hp;have Lr: ∀k∈(rows.getD i default).W,L k:=fun k hk=>by
    have:=List.all_eq_true.1 hW k hk;rw[List.contains_iff_mem]at this;exact hTL k this
   have hsz':=hp.2.2.2.1;refine⟨w.heap.size,w'.heap.size,hsz,hsz',Nat.le_refl _,Nat.le_refl _,hsz',hp.below I.below (fun k hk=>(I.Jg k (Lr k hk)).1.imp (fun h=>QH k h (hLn k (Lr k hk))) id) I.Jf.2,hq,fun b hb=>hp.2.2.2.2 b (by have:=hb.1;omega) fun k hk=>?_,fun m hm hne b hb1 hb2=>hp.2.2.2.2 b ?_ fun k hk=>?_⟩
   ·have h1:=(I.Jg k (Lr k hk)).1;have h2:=hb.1;rcases h1 with h1|h1
    ·obtain⟨q,hq,e⟩:=QH k h1 (hLn k (Lr k hk));obtain⟨e1,e2⟩:=fU.get ops.size xr I.Jf.2 q xr[q] (by simp[hq]);rw[e,e1,e2];exact hb.2 _ (bF hq)
    ·omega
   ·have:=(I.Jg m hm).2.2;omega
   ·rintro⟨h1,h2⟩;rcases I.apart k m (Lr k hk) hm (hne k hk)with h|h<;>omega
  obtain⟨x,y,h1,h2,h3,h4,h5,hbel,hψ,hW0,hrest⟩:=hAfter;have hkv:=hp.2.1;refine hK (upd f i v) (upd lo i x) (upd hi i y) _ _ ⟨hbel,?_,?_,?_,?_,?_,?_,?_,?_,?_,?_⟩
  ·refine⟨fun m hm=> .inl (I.Jf.1 m hm),fU.mk _ _ fun m r hr=>?_⟩;have e:ops.size+m≠i:=by omega
   simp only[upd,if_neg e];exact fU.get _ _ I.Jf.2 m r hr
  ·rintro j (hj|rfl)
   ·have:j≠i:=fun e=>hi' (e▸hj);have:=I.Jg j hj;simp only[upd,if_neg ‹j≠i›];omega
   ·simp only[upd,if_true];omega
  ·rintro p q (hp'|rfl) (hq|rfl) hne
   ·have e1:p≠i:=fun e=>hi' (e▸hp');have e2:q≠i:=fun e=>hi' (e▸hq);simp only[upd,if_neg e1,if_neg e2];exact I.apart p q hp' hq hne
   ·have e1:p≠q:=hne;have:=(I.Jg p hp').2.2;simp only[upd,if_neg e1,if_true];omega
   ·have e1:q≠p:=fun e=>hne e.symm;have:=(I.Jg q hq).2.2;simp only[upd,if_neg e1,if_true];omega
   ·exact absurd rfl hne
  ·rintro j (hj|rfl) m hm
   ·exact .inl (I.shut j hj m hm)
   ·exact .inl (hTL m hm)
  ·rintro j (hj|rfl) hal
   ·have e1:j≠i:=fun e=>hi' (e▸hj);rw[aqC e1 (awJ j hj)];have hold:=I.facts j hj fun t ht k hk hkj=>hal t (.inl ht) k hk hkj;have hne: ∀k∈(rows.getD i default).W,k≠j∧k ∉ (rows.getD j default).U:=fun k hk=>by
     refine⟨fun e=>?_,fun e=>?_⟩
     ·rcases hal i (.inr rfl) k hk (.inl e)with h|h
      ·exact e1 h.symm
      ·exact hno j hj h
     ·rcases hal i (.inr rfl) k hk (.inr e)with h|h
      ·exact e1 h.symm
      ·exact hno j hj h
    have hjr:j<rows.length:=by rw[hlen];have:=hLn j hj;omega
    unfold Dh at hold⊢;refine Iw.get rows ψs hcl j hjr _ _ _ _ _ _ _ _ hold h5 hW0 (fun b hb1 hb2=>hrest j hj (fun k hk=>(hne k hk).1) b hb1 hb2) (fun m hm b hb1 hb2=>?_) (fun m r hr hm b hb1 hb2=>?_)
    rotate_left
    ·obtain⟨e1,e2⟩:=fU.get ops.size xr I.Jf.2 m r hr;exact hrest (ops.size+m) (I.shut j hj _ (aay j hj _ hm)) (fun k hk e=>(hne k hk).2 (e▸hm)) b aj aj
    have em:(rows.getD j default).U.elem m=true:=by simpa using hm
    simp only[ni,em,cond_true]at hb1 hb2;exact hrest m (I.shut j hj m (aay j hj m hm)) (fun k hk e=>(hne k hk).2 (e▸hm)) b hb1 hb2
   ·rw[apA hUi];exact hψ
  ·rintro j (hj|rfl) hjn
   ·have e1:j≠i:=fun e=>hi' (e▸hj);simp only[upd,if_neg e1];exact I.aau j hj hjn
   ·simp only[upd,if_true];exact hkv
  ·cases o.dst<;>simpa [Act.put]using I.size
  ·cases o.dst<;>simpa [Act.put]using I.defers
  ·rintro j (hj|rfl) s hd hs
   ·have e1:j≠i:=fun e=>hi' (e▸hj);have:o.dst≠some s:=fun e=>e1 (Py ds hnd j i s hd (by rw[hdst,e]));simp only[upd,if_neg e1];rw[←I.put j hj s hd hs];cases hod:o.dst with
    |none=>rfl
    |some d=>
     have hds':d≠s:=fun e=>this (by rw[hod,e]);simp[Act.put,Array.getElem?_setIfInBounds_ne hds']
   ·rw[hdst]at hd;have:s<a.tmps.size:=by rw[I.size];exact hs
    simp[hd,Act.put,upd,this]
  ·intro s hs;rw[←I.keep s fun j hj=>hs j (.inl hj)];have:=hs i (.inr rfl);rw[hdst]at this;cases hod:o.dst with
   |none=>rfl
   |some d=>
    have hds':d≠s:=fun e=>this (by rw[hod,e]);simp[Act.put,Array.getElem?_setIfInBounds_ne hds']
 have hO:=IW.get ops.toList 0 hob i o (by simpa using ho) f lo hi w I.below I.Jf.2 (by simpa using ava) (by simpa using atZ) (ax fun j hj=>have r:=I.Jg j (hTL j (by simpa using hj));⟨r.1,r.2.1,r.2.2,fun k hk hne=>I.apart k j (hTL k (by simpa using hk)) (hTL j (by simpa using hj)) hne⟩) (fun v w'=>K (a.put o.dst v) w') (fun v w' h=>hpost v w' oq);simp only[dX]at hO;rw[av3]at hO;unfold wpOp;simp only[ho];unfold Region.wanted;cases hg:o.guard with
 |none=>
  rw[hg]at hO;simp only[if_true];exact .inl (ahb hO fun _ _ h=>h)
 |some gw=>
  obtain⟨j,b⟩:=gw;rw[hg]at hO hgd;simp only[Bool.and_eq_true,List.contains_iff_mem]at hgd;have hjL:=hTL j hgd.1;have hjd: ∃s,ds.getD j none=some s:=by
   have:=hgd.2;rw[←hds];cases hoj:ops[j]? with
   |none=>rw[hoj]at this;simp at this
   |some oj=>
    rw[hoj]at this;simp only[Option.bind_some,Option.isSome_iff_exists]at this;obtain⟨s,hs⟩:=this;exact⟨s,by simp[hoj,hs]⟩
  obtain⟨s,hs⟩:=hjd;have hs0:s<a0.tmps.size:=by
   have hmem:some s∈ds:=by
    have hjl:=hdl j s hs;rw[←hds]at hs⊢;have aaU:j<(ops.toList.map (·.dst)).length:=by simpa using hjl
    have:(ops.toList.map (·.dst))[j]=some s:=by simpa [hjl]using hs
    rw[←this];exact bF aaU
   have:=aaT _ hmem;simp only[decide_eq_true_eq]at this;rw[←hn0];exact this
  have hy:yielded ops a.tmps j=NF (f j):=by
   have e:(ops[j]?).bind (·.dst)=some s:=by
    rw[←hs,←hds];cases hoj:ops[j]? with
    |none=>have:=hdl j s hs;rw[Array.getElem?_eq_getElem this]at hoj;cases hoj
    |some oj=>simp[hoj]
   unfold yielded;rw[e];simp only[Option.bind_some];rw[I.put j hjL s hs hs0];unfold NF;cases f j<;>rfl
  simp only[hy];by_cases hb:NF (f j)=some b
  ·dsimp only at hO;rw[if_pos hb]at hO;simp only[hb,beq_self_eq_true,if_true];exact .inl (ahb hO fun _ _ h=>h)
  ·dsimp only at hO;rw[if_neg hb]at hO;have:(NF (f j)==some b)=false:=by simpa using hb
   simp only[this,Bool.false_eq_true,if_false];exact hO
theorem aeU{P:Prop}(h:P:=by
 by_cases hji:j=i
 ·subst hji;simp[NT]
 ·rw[getD_set_ne false (Ne.symm hji)];simp[hji]):P:=h
theorem RInv.all{n0:Nat}{all F:b_}(hok:Ko ops xr.length n0 ks.length ds rows all F=true)(hn0:n0=a0.tmps.size)(hcl:Iw W0 xr ops.size rows ψs)(hob:IW P W0 xr ops.size a0 ds rows ψs ks 0 ops.toList)
  (hfin: ∀f lo hi w,fH W0 xr w→fU lo hi ops.size xr→Facts rows ψs f lo hi w F→J7 f ks all→Hid (∀j∈all,W0.heap.size≤lo j∧lo j≤hi j∧hi j≤w.heap.size∧∀i∈all,i≠j→hi i≤lo j∨hi j≤lo i)→Q .normal (Ac ds all f a0) w):
  ∀(fuel:Nat) (U:b_) (listed:Array Bool) (f:Nat→Value) (lo hi:Nat→Nat) (a:Act) (w:ak),U.Nodup→(∀j,j∈U↔j<ops.size∧listed.getD j false=false)→U.length=fuel→listed.size=ops.size→
   RInv P ops W0 xr a0 ds rows ψs ks (fun j=>listed.getD j false=true∨(ops.size≤j∧j<ops.size+xr.length)) f lo hi a w→wpAny P .any ops Q fuel listed a w:=by
 have hok':=hok;simp only[Ko,Bool.and_eq_true,beq_iff_eq,List.all_eq_true,List.mem_range]at hok';obtain⟨⟨⟨⟨⟨⟨⟨⟨⟨hds,hlen⟩,hsel⟩,hnd⟩,hall⟩,aaT⟩,hrow⟩,WB⟩,hkl⟩,hF⟩:=hok';have hLn: ∀listed:Array Bool,listed.size=ops.size→∀j,listed.getD j false=true→j<ops.size:=fun listed hs j hj=>by
  rcases Nat.lt_or_ge j ops.size with h|h
  ·exact h
  ·simp[Array.getElem?_eq_none (by omega:listed.size≤j)]at hj
 have hend: ∀(listed:Array Bool),listed.size=ops.size→Region.ready .any ops listed= []→∀i,i<ops.size→listed.getD i false=true:=by
  intro listed hs hr i
  induction i using Nat.strongRecOn with
  |ind i ih=>
   intro hil;have h1:=hrow i hil;rw[Array.getElem?_eq_getElem hil]at h1;simp only[rowOk,Bool.and_eq_true]at h1;have aiY:=h1.1.1.1.1.1.1.1;by_cases hc:listed.getD i false=true
   ·exact hc
   ·exfalso
    have:i∈Region.ready .any ops listed:=by
     rw[mem_ready];refine⟨?_,_,Array.getElem?_eq_getElem hil,fun e he hb=>?_⟩
     ·have NT:i<listed.size:=by omega
      simpa [NT]using hc
     ·have:=Array.all_eq_true_iff_forall_mem.1 aiY e he;simp only[hb,Bool.not_true,Bool.false_or,decide_eq_true_eq]at this;exact ih e.on this aj
    rw[hr]at this;cases this
 have hQ: ∀(listed:Array Bool) f lo hi a w,listed.size=ops.size→Region.ready .any ops listed= []→RInv P ops W0 xr a0 ds rows ψs ks (fun j=>listed.getD j false=true∨(ops.size≤j∧j<ops.size+xr.length)) f lo hi a w→Q .normal a w:=by
  intro listed f lo hi a w hs hr I;have hdone:=hend listed hs hr;have ha:a=Ac ds all f a0:=by
   have h1:=(Y6 (ds:=ds) f all a0).1;have h2:=(Y6 (ds:=ds) f all a0).2;have ht:a.tmps=(Ac ds all f a0).tmps:=by
    apply Array.ext_getElem?;intro s;by_cases hex: ∃j,j<ops.size∧ds.getD j none=some s
    ·obtain⟨j,hj,hd⟩:=hex;by_cases hs0:s<a0.tmps.size
     ·rw[I.put j (.inl (hdone j hj)) s hd hs0,ag_ hnd s f j hd _ _ (by rw[hall];exact List.mem_range.2 hj) hs0]
     ·rw[Array.getElem?_eq_none (by rw[I.size];omega),Array.getElem?_eq_none (by rw[h1];omega)]
    ·rw[I.keep s fun j hj hd=>hex ⟨j,by
       rcases hj with hj|hj
       ·exact hLn listed hs j hj
       ·rw[←hds]at hd;simp[Array.getElem?_eq_none hj.1]at hd,hd⟩,Y7 s f _ _ fun j hj hd=>hex ⟨j,by rw[hall]at hj;exact List.mem_range.1 hj,hd⟩]
   obtain⟨t,d⟩:=a;have hd:=I.defers;simp only at ht hd;rw[ht,hd,←h2]
  rw[ha];refine hfin f lo hi w I.below I.Jf.2 (ZB (L:=fun _=>True) _ fun j hj=>?_) (Zq _ fun j hj=>by
   rw[hall]at hj;have hj:=List.mem_range.1 hj;exact I.aau j (.inl (hdone j hj)) hj) (ax fun j hj=>by
   rw[hall]at hj;have hj:=List.mem_range.1 hj;have h3:=I.Jg j (.inl (hdone j hj));exact⟨by omega,by omega,by omega,fun i hi' hne=>by
    rw[hall]at hi';have hi':=List.mem_range.1 hi';exact I.apart i j (.inl (hdone i hi')) (.inl (hdone j hj)) hne⟩)
  have hFj:=hF j hj;simp only[decide_eq_true_eq]at hFj;have hjL:listed.getD j false=true∨(ops.size≤j∧j<ops.size+xr.length):=by
   rcases Nat.lt_or_ge j ops.size with h|h
   ·exact .inl (hdone j h)
   ·exact .inr ⟨h,by omega⟩
  refine I.facts j hjL fun t ht k hk hkj=>?_;have htl:t<ops.size:=by
   rcases ht with h|h
   ·exact hLn listed hs t h
   ·have e:t=ops.size+(t -ops.size):=by omega
    rw[e,List.isEmpty_iff.1 (WB (t -ops.size) aj).2]at hk;cases hk
  rcases aeT hFj.2 t htl k hk hkj with h|h|h
  ·exact .inl h
  ·exact .inr h
  ·cases h
 intro fuel
 induction fuel with
 |zero=>
  intro U listed f lo hi a w _ hU hlen' hs I;have hnil:U= []:=Gp hlen';have hr:Region.ready .any ops listed= []:=by
   rw[List.eq_nil_iff_forall_not_mem];intro i hi;obtain⟨h0,o,ho,_⟩:=mem_ready.1 hi;have hil:i<ops.size:=(lX.1 ho).1;have:i∈U:=(hU i).2 ⟨hil,by
    have NT:i<listed.size:=by omega
    simpa [NT]using h0⟩
   rw[hnil]at this;cases this
  exact⟨hr,hQ listed f lo hi a w hs hr I⟩
 |succ fuel ih=>
  intro U listed f lo hi a w hUn hU hlen' hs I;refine⟨fun hr=>hQ listed f lo hi a w hs hr I,fun i hi=>?_⟩;obtain⟨h0,o,ho,hafter⟩:=mem_ready.1 hi;have hil:i<ops.size:=(lX.1 ho).1;have NT:i<listed.size:=by omega
  have h0':listed.getD i false=false:=by simpa [NT]using h0
  refine RInv.step hok hn0 hcl hob I (fun j hj=>by
   rcases hj with hj|hj
   ·have:=hLn listed hs j hj;omega
   ·omega) ho (by rw[h0'];simp;omega) (fun e he hb=> .inl (hafter e he hb)) ?_
  intro f' lo' hi' a' w' I';refine ih (U.erase i) _ f' lo' hi' a' w' (hUn.erase i) ?_ ?_ (by simpa using hs) ?_
  ·intro j;rw[hUn.mem_erase_iff,hU j];exact aeU
  ·rw[List.length_erase_of_mem ((hU i).2 ⟨hil,h0'⟩),hlen'];rfl
  ·have e:(fun j=>(listed.setIfInBounds i true).getD j false=true∨(ops.size≤j∧j<ops.size+xr.length))=(fun j=>(listed.getD j false=true∨(ops.size≤j∧j<ops.size+xr.length))∨j=i):=by
    funext j
    exact aeU
   rw[e];exact I'
theorem aW{c:Code}(Φ:ak→Prop)(h:Φ w)(k: ∀W,Φ W→c.wp P Q a0 W):c.wp P Q a0 w:=k w h
theorem uG{id:Nat}{l:List Oper}(xr:List (Nat × Nat))(N n0:Nat)(ds:List (Option Tmp))(rows:List xY)(all F:b_)(ψs:List wV)(ks:List (Value→Prop))(hm:P.follows .mixedOrders=true)(hok:Ko l.toArray xr.length n0 ks.length ds rows all F=true)(hn0:n0=a0.tmps.size)(hN:l.length=N)
  (hx:NS w.heap.size xr) (hX:NJ w.drew ψs N xr)
  (hob:IW P w xr N a0 ds rows ψs ks 0 l) (hcl:Iw w xr N rows ψs)
  (hfin: ∀f lo hi w',fH w xr w'→fU lo hi N xr→Facts rows ψs f lo hi w' F→J7 f ks all→Hid (∀j∈all,w.heap.size≤lo j∧lo j≤hi j∧hi j≤w'.heap.size∧∀i∈all,i≠j→hi i≤lo j∨hi j≤lo i)→Q .normal (Ac ds all f a0) w'):(Code.region id l.toArray true).wp P Q a0 w:=by
 subst hN;refine wp_region_any hm ?_;show wpAny P .any l.toArray Q l.toArray.size (Array.replicate l.toArray.size false) a0 w.drew;have hno: ∀j,¬ ((Array.replicate l.toArray.size false).getD j false=true):=fun j=>by
  rw[ag9];simp
 obtain⟨d1,d2⟩:=NS.get xr hx;refine RInv.all (xr:=xr) hok hn0 hcl (by simpa using hob) (by simpa using hfin) _ (List.range l.toArray.size) _ (fun _=>undef) (fun j=>(xr.getD (j -l.length) (0,0)).1) (fun j=>(xr.getD (j -l.length) (0,0)).2) a0 w.drew List.nodup_range (fun j=>?_) aF aF ?_
 ·rw[List.mem_range,ag9];simp
 ·have hL: ∀j,((Array.replicate l.toArray.size false).getD j false=true∨(l.toArray.size≤j∧j<l.toArray.size+xr.length))→∃i,∃hi:i<xr.length,j=l.length+i:=fun j h=>by
   obtain⟨h1,h2⟩:=h.resolve_left (hno j);simp at h1 h2;exact⟨j -l.length,by omega,by omega⟩
  have hg: ∀i,xr.getD (l.length+i -l.length) (0,0)=xr.getD i (0,0):=fun i=>by rw[Nat.add_sub_cancel_left]
  have hrows: ∀i,i<xr.length→(rows.getD (l.length+i) default).T= []:=fun i hi=>by
   simp only[Ko,Bool.and_eq_true,List.all_eq_true,List.mem_range]at hok;have:=hok.1.1.2 i hi;exact List.isEmpty_iff.1 (by simpa using this.1.1)
  refine⟨⟨rfl,rfl,rfl,Nat.le_refl _,fun _ _=>rfl⟩,⟨fun i hi=> .inr ⟨by simp,by simp;omega⟩,fU.mk _ _ fun i r hr=>?_⟩,?_,?_,?_,?_,?_,rfl,rfl,?_,fun _ _=>rfl⟩
  ·show(xr.getD (l.toArray.size+i -l.length) (0,0)).1=r.1∧(xr.getD (l.toArray.size+i -l.length) (0,0)).2=r.2;have:l.toArray.size+i -l.length=i:=by simp
   rw[this];simp[hr]
  ·intro j h;obtain⟨i,hi,rfl⟩:=hL j h;simp only[hg];have:=d1 i xr[i] (by simp[hi]);have e:xr.getD i (0,0)=xr[i]:=by simp[hi]
   rw[e];exact⟨.inl aF,this.1,this.2⟩
  ·intro i j h h' hne;obtain⟨p,hp,rfl⟩:=hL i h;obtain⟨q,hq,rfl⟩:=hL j h';simp only[hg];have e:xr.getD p (0,0)=xr[p]:=by simp[hp]
   have e':xr.getD q (0,0)=xr[q]:=by simp[hq]
   rw[e,e'];exact d2 p q _ _ (by simp[hp]) (by simp[hq]) (fun e=>hne (by rw[e]))
  ·intro i h j hj;obtain⟨p,hp,rfl⟩:=hL i h;rw[hrows p hp]at hj;cases hj
  ·intro j h _;obtain⟨p,hp,rfl⟩:=hL j h;unfold Dh;simp only[hg];have e:xr.getD p (0,0)=xr[p]:=by simp[hp]
   rw[e];exact NJ.get l.length xr hX p xr[p] (by simp[hp]) _ _ _ _
  ·intro j h hj;obtain⟨p,hp,rfl⟩:=hL j h;simp at hj;omega
  ·intro j h s hs _
   exfalso
   obtain⟨p,hp,rfl⟩:=hL j h;simp only[Ko,Bool.and_eq_true,beq_iff_eq]at hok;rw[←hok.1.1.1.1.1.1.1.1.1]at hs;simp at hs
end
end
def nN(l:aO)(k:Nat)(n:Int):Int:=if h:k<l.length then l[k] % n else 0
def eU(l:aO)(k:Nat):Nat:=if k<l.length then k+1 else k
theorem Gf(l:aO)(k:Nat){n:Int}(h:1≤n):0≤nN l k n∧nN l k n<n:=by
 unfold nN
 split
 ·exact⟨Int.emod_nonneg _ aj,Int.emod_lt_of_pos _ aj⟩
 ·omega
structure Dk where
 a:az
 c:Nat
 l:aO
def dQ(w:ak)(p:Nat)(d:Dk)(k:Nat):Prop:=ah w p 92 #[.slice d.a d.l.length d.c,ae k]∧Ints w d.a d.l∧d.l.length≤9223372036854775807∧k≤d.l.length∧(d.l= []∨∀b,d.a.map (·.block)=some b→b≠p)
def J3(p:Nat)(d:Dk)(k:Nat)(lo n:Int)(w:ak)(e:Ending)(w':ak):Prop:= ∃v:Int,e= .returned (ae (lo+v))∧0≤v∧v<n∧Hid (nN d.l k n=v)∧dQ w' p d (eU d.l k)∧w.grownBy w' (some p)
theorem J3.mk{p:Nat}{d:Dk}{lo n x v:Int}(hx:x=lo+v)(h0:0≤v)(h1:v<n)(hv:nN d.l k n=v)(hd:dQ w' p d (eU d.l k))(g:w.grownBy w' (some p)):J3 p d k lo n w (.returned (ae x)) w':=
 ⟨v,by rw[hx],h0,h1,ax hv,hd,g⟩
theorem dQ.lt{p:Nat}{d:Dk}(h:dQ w p d k):p<w.heap.size:=h.1.lt
theorem dQ.arr{p:Nat}{d:Dk}(h:dQ w p d k):d.l= []∨∀b,d.a.map (·.block)=some b→b<w.heap.size:=by
 rcases h.2.1 with hz|⟨b,off,e,hlt,_⟩
 ·exact .inl (by simpa using hz)
 ·exact .inr fun b' hb'=>by rw[e]at hb';simp at hb';omega
theorem dQ.keep{p:Nat}{d:Dk}(h:dQ w p d k)(hk: ∀b,b<w.heap.size→w'.heap[b]?=w.heap[b]?):dQ w' p d k:=by
 obtain⟨h1,h2,h3⟩:=h;exact⟨(hk p h1.lt).trans h1,Row.keep h2 fun b _ _ hlt=>hk b hlt,h3⟩
theorem dQ.below{p:Nat}{d:Dk}(h:dQ w p d k)(hb:Below w.heap.size w w'):dQ w' p d k:=h.keep hb.block
theorem dQ.alloc{p:Nat}{d:Dk}(h:dQ w p d k)(o:Obj):dQ (w.alloc o) p d k:=h.keep fun b hb=>Below.heap_alloc w o b hb
theorem dQ.set{p g o:Nat}{d:Dk}(h:dQ w p d k)(hg:g≠p)(ha:d.l= []∨∀b,d.a.map (·.block)=some b→b≠g)(v:Value):dQ (w.setCell ⟨g,o,none⟩ v) p d k:=by
 obtain⟨h1,h2,h3⟩:=h;refine⟨h1.far (fun e=>hg e.symm) _,?_,h3⟩;rcases ha with ha|ha
 ·exact .inl (by rw[ha];rfl)
 ·exact Row.far h2 (fun e=>by
   cases hq:d.a with
   |none=>rw[hq]at e;cases e
   |some ad=>rw[hq]at e;injection e with e;exact ha ad.block (by rw[hq];rfl) e) _
theorem dQ.closed{p k0:Nat}{d:Dk}(h:dQ w p d k)(h0:dQ W0 p d k0)(hB:d.l≠ []→∀b,d.a.map (·.block)=some b→b<W0.heap.size→b≠p→w'.heap[b]?=w.heap[b]?)(hp:w'.heap[p]?=w.heap[p]?):dQ w' p d k:=by
 refine⟨hp.trans h.1,?_,h.2.2⟩;by_cases hl:d.l= []
 ·exact .inl (by rw[hl];rfl)
 ·have hn:=h.2.2.2.2.resolve_left hl;rcases h0.2.1 with hz|⟨b',off',e',hlt',_⟩
  ·exact .inl hz
  ·refine Row.keep h.2.1 fun b off e _=>?_;have hq:d.a.map (·.block)=some b:=by rw[e];rfl
   rw[e]at e';injection e' with e'
   injection e' with e1 _ _
   exact hB hl b hq aj (hn b hq)
theorem _root_.Go.RowKit.Below.Io(h:Below w.heap.size w w')(r:Option Nat):w.grownBy w' r:=⟨h.os,h.tape,h.output,h.size,fun k hk _=>h.block k hk⟩
theorem ah.grown{g p:Nat}{cs:aZ}(h:ah w g t cs)(hg:w.grownBy w' (some p))(hne:g≠p):ah w' g t cs:=(hg.block g h.lt (fun e=>hne (by injection e))).trans h
theorem Row.grown{p:Nat}(h:Row w a xs)(hg:w.grownBy w' (some p))(hne: ∀b,a.map (·.block)=some b→b≠p):Row w' a xs:=
 h.keep fun b off e hlt=>hg.block b hlt fun e'=>hne b tN (by injection e')
theorem Own.grown{cap p:Nat}(h:Own w base e size a n cap xs)(hg:w.grownBy w' (some p))(hp:p<base):Own w' base e size a n cap xs:=
 h.keep fun b _ hb hlt=>hg.block b hlt fun e'=>by injection e' with e';omega
theorem ah.jT{g:Nat}{cs:aZ}(h:ah w g t cs)(hg:Grew base w w' a a')(hne:a.map (·.block)≠some g):ah w' g t cs:=(hg.1.block g h.lt (fun e=>hne e.symm)).trans h
theorem Yh(w:ak)(n:Nat)(r:Option Nat):w.grownBy (w.drewN n) r:=⟨rfl,rfl,rfl,Nat.le_refl _,fun _ _ _=>rfl⟩
theorem grownBy_set(w:ak)(p o:Nat)(v:Value):w.grownBy (w.setCell ⟨p,o,none⟩ v) (some p):=
 ⟨rfl,rfl,rfl,by simp[World.setCell],fun k _ hk=>Below.heap_setCell w ⟨p,o,none⟩ v k fun e=>hk (by rw[e])⟩
theorem vI(p:Nat)(n:Int)(w:ak)(d:Dk)(k:Nat)(hd:dQ w p d k)(h1:1≤n)(h2:n≤4611686018427387904):
  aH 25 #[.pointer (some ⟨p,0,none⟩),ae n] w (J3 p d k 0 n w):=by
 obtain⟨a,c,l⟩:=d;obtain⟨hblk,hl,hlen,hk,hap⟩:=hd;simp only at hblk hl hlen hk hap;have c0:w.cell? ⟨p,0,none⟩=some (.slice a l.length c):=hblk.cell 0;have c1:w.cell? ⟨p,1,none⟩=some (ae k):=hblk.cell 1;by_cases hlt:k<l.length
 ·have d1:decide (l.length≤k)=false:=fA aj;have fz:w.frozen? ⟨p,1,none⟩=false:=hblk.frozen 1
  go_enter func25,ntmps25
  go_wp2
  go_quiet (fail)
  go_wp2
  rcases hl.open with h0|⟨b,off,rfl,hbl,hc⟩
  ·rw[h0]at hlt;simp at hlt
  have hbp:b≠p:=hap.elim (fun h=>by rw[h]at hlt;simp at hlt) fun h=>h b rfl;refine aW (fun W=>w.grownBy W (some p)∧ah W p 92 #[.slice (some ⟨b,off,none⟩) l.length c,ae ((k+1:Nat):Int)]∧Ints W (some ⟨b,off,none⟩) l) ⟨(Yh w nq _).trans (grownBy_set _ p 1 _),(hblk.drewN nq).set 1 _,Row.far hl (fun e=>hbp (by simpa using e)) _⟩ ?_;rintro W ⟨gW,bW,iW⟩;have e0:W.cell? ⟨p,0,none⟩=some (.slice (some ⟨b,off,none⟩) l.length c):=bW.cell 0;have e1:W.cell? ⟨p,1,none⟩=some (ae ((k+1:Nat):Int)):=bW.cell 1;have e2:W.cell? ⟨b,off+k,none⟩=some (ae l[k]):=by
   rcases iW.open with h0|⟨b',off',e,_,hc'⟩
   ·rw[h0]at hlt;simp at hlt
   ·injection e with e
    injection e with e1 e2 _
    rw[e1,e2];exact hc' k hlt
  have e3:IntKind.i64.wrap (((k+1:Nat):Int) -1)=(k:Int):=by rw[IntKind.wrap_i64];omega
  clear c0 c1 fz hc hl hblk;obtain⟨r,Er,r0,r1⟩:=modName l[k] n aj
  go_quiet ((first|(go_at_call 12;exact Gh (ah3 Er.out _ aj aj))|(go_at_call 12;exact qs (ah3 Er.out _ aj aj))))
  go_wp2
  go_ret;exact J3.mk (Int.zero_add r).symm r0 r1 (by rw[nN,dif_pos hlt];exact Er.out) (by rw[eU,if_pos hlt];exact⟨bW.drewN _,iW,hlen,by simp only;omega,hap⟩) (gW.trans (Yh _ _ _))
 ·have d1:decide (l.length≤k)=true:=jB aj
  go_enter func25,ntmps25
  go_wp2
  go_quiet (fail)
  go_wp2
  go_ret;exact J3.mk (v:=0) rfl aj aj (by rw[nN,dif_neg hlt]) (by rw[eU,if_neg hlt];exact⟨hblk,hl,hlen,hk,hap⟩) (Yh _ _ _)
theorem CQ(p:Nat)(lo hi:Int)(w:ak)(d:Dk)(k:Nat)(hd:dQ w p d k)(h0:0≤lo)(h1:lo≤hi)(h2:hi≤1073741824):
  aH 27 #[.pointer (some ⟨p,0,none⟩),ae lo,ae hi] w (J3 p d k lo (hi -lo+1) w):=by
 have e1:wrap64 (hi -lo)=hi -lo:=by rw[wrap64];omega
 go_enter func27,ntmps27
 go_wp2_with (first|(go_at_call 25;refine(vI p _ _ d k hd aj aj).mono ?_;rintro e w1 ⟨v,rfl,v0,v1,hv,hd1,g1⟩))
 go_ret;exact J3.mk aj v0 v1 hv.out hd1 g1
theorem aiH(a:az)(c:Nat)(l:aO)(w:ak)(hl:Ints w a l)(hlen:l.length≤9223372036854775807):
  aH 8 #[.slice a l.length c] w fun e w'=>e= .returned (.pointer (some ⟨w.heap.size,0,none⟩))∧dQ w' w.heap.size ⟨a,c,l⟩ 0∧Below w.heap.size w w':=by
 go_enter func8,ntmps8
 go_wp2
 go_ret;refine⟨rfl,⟨ah.new _ _ _,hl.alloc _,hlen,Nat.zero_le _,?_⟩,bel⟩;rcases hl with h|⟨b,off,rfl,hlt,_⟩
 ·exact .inl oq
 ·exact .inr fun b' hb=>by simp at hb;omega
def wB(n:Int):Nat:=if n=0 then 2 else if n=1 then 4 else if n=2 then 3 else if n=3 then 8 else if n=4 then 3 else 1
theorem Yr(n:Int):1≤wB n∧wB n≤8:=by
 unfold wB
 repeat' split
 all_goals omega
theorem aqD:(prog.info? 71).map (fun i=>(i.zero,i.size,i.bytes))=some (some (.agg #[ae 0,ae 0,ae 0,ae 0,ae 0,ae 0,ae 0,ae 0]),8,64):=by kernel_rfl
structure Ph where
 ring:Int
 group:Int
 qy:Int
 qA:Int
 mV:Int
 red:Int
 walk:Int
 clear_:Int
def Ph.ints(p:Ph):aO:= [p.ring,p.group,p.qy,p.qA,p.mV,p.red,p.walk,p.clear_]
def Ph.agg(p:Ph):Value:= .agg #[ae p.ring,ae p.group,ae p.qy,ae p.qA,ae p.mV,ae p.red,ae p.walk,ae p.clear_]
structure mO(p:Ph):Prop where
 ring:0≤p.ring∧p.ring≤2
 group:0≤p.group∧p.group≤2
 qy:1≤p.qy∧p.qy≤3
 qA:p.qy≤p.qA∧p.walk+p.clear_≤p.qA∧p.qA≤7
 mV:1≤p.mV∧p.mV≤2
 red:0≤p.red∧p.red≤2
 walk:(p.walk=0∧p.clear_=0)∨(1≤p.walk∧p.walk≤2∧1≤p.clear_∧p.clear_≤2)
def jI(l:List Ph):aP:=l.flatMap fun p=>p.ints.map encI
theorem Yt: ∀l:List Ph,(jI l).length=8*l.length
 |[]=>rfl
 |p::l=>by
  have:=Yt l;simp only[jI,List.flatMap_cons,dP,jJ]at this⊢;rw[this];simp[Ph.ints];omega
theorem aeV: ∀(l:List Ph) (i:Nat) (h:i<l.length) (j:Nat) (_:j<8),(jI l)[8*i+j]?=((l[i]).ints.map encI)[j]?
 |p::l,0,_,j,hj=>by
  simp only[jI,List.flatMap_cons];rw[Nat.mul_zero,dX,List.getElem?_append_left (by simp[Ph.ints];omega)];rfl
 |p::l,i+1,h,j,hj=>by
  have:=aeV l i oq j hj;simp only[jI,List.flatMap_cons]at this⊢;rw[List.getElem?_append_right (by simp[Ph.ints];omega)];simp only[List.getElem_cons_succ];rw[←this];congr 1;simp[Ph.ints];omega
theorem an2(l:List Ph)(p:Ph):jI (l++ [p])=jI l++p.ints.map encI:=by simp[jI]
theorem zS{g:Nat}{ps:List Ph}(h:Row w (some ⟨g,0,none⟩) (jI ps))(x:Nat)(hx:x<ps.length):
  w.cell? ⟨g,x*8,none⟩=some (ae ps[x].ring)∧w.cell? ⟨g,x*8+1,none⟩=some (ae ps[x].group)∧w.cell? ⟨g,x*8+2,none⟩=some (ae ps[x].qy)∧w.cell? ⟨g,x*8+3,none⟩=some (ae ps[x].qA)∧
  w.cell? ⟨g,x*8+4,none⟩=some (ae ps[x].mV)∧w.cell? ⟨g,x*8+5,none⟩=some (ae ps[x].red)∧w.cell? ⟨g,x*8+6,none⟩=some (ae ps[x].walk)∧w.cell? ⟨g,x*8+7,none⟩=some (ae ps[x].clear_):=by
 have hl:=Yt ps;have key: ∀j,j<8→∀v,(ps[x].ints.map encI)[j]?=some v→w.cell? ⟨g,x*8+j,none⟩=some v:=fun j hj v hv=>by
  rcases h with h|⟨b,off,e,_,hc⟩
  ·rw[h]at hl;simp at hl;omega
  ·injection e with e
   injection e with e1 e2 _
   subst e1 e2;have:=hc (8*x+j) aj;rw[show x*8+j=0+(8*x+j)by omega,this];have q:=aeV ps x hx j hj;rw[hv]at q;rw[d_ aj]at q;exact q
 exact⟨key 0 aj _ rfl,key 1 aj _ rfl,key 2 aj _ rfl,key 3 aj _ rfl,key 4 aj _ rfl,key 5 aj _ rfl,key 6 aj _ rfl,key 7 aj _ rfl⟩
def IL(l:aO)(k:Nat):Nat:=
 let k3:=eU l (eU l (eU l k))
 let k4:=eU l k3
 eU l (if nN l k3 3=2 then eU l (eU l k4)else k4)
def iter(f:Nat→Nat):Nat→Nat→Nat
 |0,k=>k
 |n+1,k=>iter f n (f k)
theorem ahc(f:Nat→Nat): ∀n k,iter f (n+1) k=f (iter f n k)
 |0,_=>rfl
 |n+1,k=>ahc f n (f k)
def J8(l:aO)(k:Nat):Nat:=wB (nN l k 6)
def aiI(l:aO)(k:Nat):Nat:=eU l (iter (IL l) (J8 l k) (eU l (eU l k)))
section
variable{α:Type}{enc:α→Value}{w:ak}{g:Nat}{t:aK}{l:List α}
theorem ah.wM(h:ah w g t (l.map enc).toArray)(i:Nat)(x:α){u:Value}(hu:u=enc x):ah (w.setCell ⟨g,i,none⟩ u) g t ((l.set i x).map enc).toArray:=by
 subst hu;have:=ah.set h i (enc x);rw[List.map_set];simpa using this
theorem ah.cellL(h:ah w g t (l.map enc).toArray)(i:Nat)(hi:i<l.length):w.cell? ⟨g,i,none⟩=some (enc l[i]):=by
 rw[ah.cell h];simp[hi]
theorem ah.awK(h:ah w g t (l.map enc).toArray):Row w (some ⟨g,0,none⟩) (l.map enc):=
 .inr ⟨g,0,rfl,h.lt,fun i hi=>by rw[dX,ah.cell h];simp at hi;simp[hi]⟩
theorem ah.IX(h:ah w g t (l.map enc).toArray)(hb:base≤g)(hn:n=l.length)(hm:n≤maxLen):Own w base t 1 (some ⟨g,0,none⟩) n n (l.map enc):=by
 subst hn;exact⟨by simp,.inr ⟨g,l.length,(l.map enc).toArray,rfl,hb,h,Nat.le_refl _,hm,by simp,nM aF⟩⟩
end
section
variable{P:Program}{ops:Array Oper}{rest:List Oper}{dst:Option Tmp}{a:Act}{Q:dR}{w:ak}{ty:aK}{pos:String}{after:Array Edge}
theorem Yi(z:Value)(n:Nat):madeCells #[z] n=(List.replicate n z).toArray:=by
 apply Array.ext
 ·simp[madeCells]
 ·intro i h1 h2;simp[madeCells,Nat.mod_one]
theorem Z5{x:Operand}(e:aK)(i:TypeInfo)(z:Value)(ht:P.underlying t=some (.slice e))(hi:P.info? e=some i)(hz:i.zero=some z)(hsize:i.size=1)(hz1:z.cells= #[z])
  (m n:Nat) (hx:a.eval x=ae m) (hy:a.eval y=ae n) (hmn:m≤n) (hb:i.bytes*n≤281474976710656) (hn:n≤100000000000)
  (h: ∀W,ah W w.heap.size e (List.replicate n z).toArray→Below w.heap.size w W→W.heap.size=w.heap.size+1→wpList P ops Q rest (a.put dst (.slice (some ⟨w.heap.size,0,none⟩) m n)) W):
  wpList P ops Q ({dst:=dst,op:= .makeSlice t x y,type:=ty,pos:=pos,after:=after,guard:=none}::rest) a w:=by
 refine wpList_plain rfl fun K hK=>?_;have hb':(i.bytes:Int)*(n:Int)≤281474976710656:=by
  have h:((i.bytes*n:Nat):Int)≤281474976710656:=by omega
  rwa [Int.natCast_mul]at h
 have hrun:=run_make (P:=P) w t e i z ht hi hz .i64 .i64 m n aj aj hb' aj;simp only[Int.toNat_natCast,hsize,Nat.mul_one,hz1,Yi]at hrun;unfold Oper.wp;simp only[execOp,hx,hy,Sem.run_bind,Result.andThen_ok,hrun];simp[go_sem];exact hK _ _ (h _ (ah.new _ _ _) ((Below.refl _ _).alloc aA _) aF)
end
theorem U0{a:Act}{x:Operand}
  (m n:Nat) (hx:a.eval x=ae m) (hy:a.eval y=ae n) (hmn:m≤n) (hn:n≤100000000000)
  (h: ∀W,ah W w.heap.size 5 ((List.replicate n (0:UInt8)).map a_).toArray→Below w.heap.size w W→W.heap.size=w.heap.size+1→wpList prog ops Q rest (a.put dst (.slice (some ⟨w.heap.size,0,none⟩) m n)) W):
  wpList prog ops Q ({dst:=dst,op:= .makeSlice 30 x y,type:=ty,pos:=pos,after:=after,guard:=none}::rest) a w:=by
 obtain⟨i0,hi,hz0,hz1,hz2⟩:=info_parts Zp;refine Z5 _ i0 _ underlying30 hi hz0 hz1 rfl m n hx hy hmn JU hn ?_;intro W hW;refine h W ?_;rw[List.map_replicate];exact hW
theorem ahC{a:Act}{d s:Operand}
  {dp sp:az} {dLen dCap sLen sCap:Nat} (g off:Nat) (cur:aJ) (hg:ah w g 5 (cur.map a_).toArray) (cs:aJ) (B:Nat) (w0:ak)
  (hd:a.eval d= .slice dp dLen dCap) (hs:a.eval s= .slice sp sLen sCap) (hn:cs.length=sLen∧sLen≤dLen) (hdp:0<sLen→dp=some ⟨g,off,none⟩)
  (hsrc:bI w sp cs) (hfit:off+cs.length≤cur.length) (hb:Below B w0 w) (hBg:B≤g)
  (h: ∀w',ah w' g 5 ((splice cur off cs).map a_).toArray→Below B w0 w'→wpList prog ops Q rest (a.put dst (goInt sLen)) w'):
  wpList prog ops Q ({dst:=dst,op:= .call {callee:= .builtin .copy,args:= #[d,s],argTypes:= #[30,30]},type:=ty,pos:=pos,after:=after,guard:=none}::rest) a w:=by
 obtain⟨i0,hi,hz0,hz1,hz2⟩:=info_parts Zp;refine wpList_copy_splice rfl d s _ _ rfl _ underlying30 (by rw[hi,Option.map_some,hz1]) dp sp dLen dCap sLen sCap hd hs g off (cur.map a_) _ hg (cs.map a_) (by rw[g_,hn.1];exact(Nat.min_eq_left hn.2).symm) ?_ (by simpa using hfit) (Nq _) B w0 hb hBg ?_
 ·intro hpos;rw[g_]at hpos;have hpos':0<sLen:=by omega
  refine⟨hdp hpos',?_⟩;cases sp with
  |none=>have:=Row.of_none w hsrc;simp at this;rw[this]at hpos;simp at hpos
  |some ad=>exact⟨ad,rfl,Row.cells w hsrc⟩
 ·intro w' hH hb';rw[g_,hn.1];refine h w' ?_ hb';have e:(splice cur off cs).map a_=splice (cur.map a_) off (cs.map a_):=by simp[splice]
  rw[e];exact hH.out
theorem ah4{a:Act}{d s:Operand}{u:aK}
 (h:wpList P ops Q ({dst:=dst,op:= .call {callee:= .builtin .copy,args:= #[d,s],argTypes:= #[t,u]},type:=ty,pos:=pos,after:=after,guard:=none}::rest) a w):
 wpList P ops Q ({dst:=dst,op:= .call {callee:= .builtin .copy,args:= #[d,s],argTypes:= #[t,u]},type:=ty,pos:=pos,after:=after,guard:=none}::rest) a w:=h
end Go.Proofs.YtiffpjamngklhaaGreat
