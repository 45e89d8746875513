/-
  Merged texts.
-/
import Derived.Test.YtjojkakjmoefaaaGreatDoorAbM
import Derived.Lib.Strings
import Derived.Lib.Bytealg
import Derived.Lib.LastIndexByte
import Derived.Lib.IndexBytes
set_option linter.all false

namespace Go.Proofs.YtjojkakjmoefaaaGreatDoor
abbrev Bs:=List UInt8
def S(s:ByteArray):Bs:=s.data.toList
def mk(l:Bs):ByteArray:=⟨l.toArray⟩
@[simp] theorem S_mk (l:Bs):S (mk l)=l:=by simp[S,mk]
@[simp] theorem mk_S (s:ByteArray):mk (S s)=s:=by cases s;simp[S,mk]
def Ar{a b:ByteArray}(h:S a=S b):a=b:=by rw[<- mk_S a, <- mk_S b,h]
def bY(s:ByteArray):s.size=(S s).length:=by cases s;simp[S,ByteArray.size]
def eU(s:ByteArray):s.toList=S s:=Go.Lib.toList_data s
def lP(s:ByteArray)(a b:Nat):S (s.extract a b)=((S s).drop a).take (b-a):=Go.Lib.extract_data s a b
def bn:Bs->List Bs
 |[]=>[[]]
 |c::cs=>if c=46 then[]::bn cs else
  match bn cs with
  |[]=>[[c]]
  |h::t=>(c::h)::t
def jG(s:Bs):bn s≠[]:=by
 cases s with
 |nil=>simp[bn]
 |cons c cs =>
  unfold bn;split
  .simp
  .split<;>simp
def kA(s:Bs)(h:(46:UInt8) ∉ s):bn s=[s]:=by
 induction s with
 |nil=>rfl
 |cons c cs j =>
  simp only[List.mem_cons,not_or]at h;rw[bn,if_neg λe=>h.1 e.symm,j h.2]
def kT(a b:Bs):bn (a++46::b)=bn a++bn b:=by
 induction a with
 |nil=>simp[bn]
 |cons c cs j =>
  rw[List.cons_append,bn,bn];split
  .rw[j];rfl
  .rw[j];have:=jG cs;cases h:bn cs with
   |nil=>exact absurd h this
   |cons x t=>rfl
def dB:List Bs->Bs
 |[]=>[]
 |[x]=>x
 |x::y::t=>x++46::dB (y::t)
def lL(x:Bs)(t:List Bs)(h:t≠[]):dB (x::t)=x++46::dB t:=by
 cases t with
 |nil=>exact absurd rfl h
 |cons y t=>rfl
def ir(s:Bs):dB (bn s)=s:=by
 induction s with
 |nil=>rfl
 |cons c cs j =>
  unfold bn;split
  .rename_i h;rw[lL _ _<|jG cs,j,h];rfl
  .cases h:bn cs with
   |nil=>exact absurd h<|jG cs
   |cons x t =>
    rw[h]at j;cases t with
    |nil=>simp only[dB]at j ⊢;rw[j]
    |cons y t=>simp only[dB]at j ⊢;rw[List.cons_append,j]
def uy(l:List Bs)(h0:l≠[])(h:∀x∈l,(46:UInt8) ∉ x):bn (dB l)=l:=by
 induction l with
 |nil=>exact absurd rfl h0
 |cons x t D =>
  cases t with
  |nil=>exact kA x (h x<|by simp)
  |cons y t =>
   rw[dB,kT,kA x<|h x<|by simp,D (by simp) λz j=>h z<|aZ _ j];rfl
def back(s:Bs):List Bs:=if s=[46]then[]else(bn s).reverse
def zD(s:ByteArray) :
 (Go.Lib.lastIndexByte s 46= -1/\bn (S s)=[S s]) \/
 (∃i:Nat,i<s.size/\Go.Lib.lastIndexByte s 46=i/\bn (S s)=bn (S<|s.extract 0 i)++[S<|s.extract (i+1) s.size]):=by
 have D:∀j (G:j<s.size),s.data[j]! =(S s)[j]'(by rw[<- bY];exact G):=by
  intro j G;cases s with
  |mk d=>simp[S,ByteArray.size]at G ⊢;simp[G]
 rcases Go.Lib.lastIndexByte_spec s 46 with ⟨h,U⟩|⟨i,K,h,V,U⟩
 .refine .inl ⟨h,kA _ ?_⟩;intro T;obtain⟨j,G,e⟩:=List.getElem_of_mem T;have H :j<s.size:=by rw[bY];exact G
  have:=U j H;rw[D j H,e]at this;exact this rfl
 .refine .inr ⟨i,K,h,?_⟩;have N :i<(S s).length:=by rw[<- bY];exact K
  have J:(S s)[i]=46:=by
   rw[D i K]at V;exact UInt8.toNat_inj.1 (by have:=V;simp at this ⊢;omega)
  have X:S s=(S s).take i++46::(S s).drop (i+1):=by
   conv=>lhs;rw[<- List.take_append_drop i<|S s]
   rw[List.drop_eq_getElem_cons N,J]
  have W:(46:UInt8) ∉ (S s).drop (i+1):=by
   intro T;obtain⟨j,G,e⟩:=List.getElem_of_mem T;rw[List.getElem_drop]at e;have I:i+1+j<s.size:=by rw[bY];simp at G;omega
   have:=U (i+1+j) (by omega) I;rw[D _ I,e]at this;exact this rfl
  rw[lP,lP];conv=>lhs;rw[X]
  rw[kT,kA _ W]
  congr 2
  rw[bY,List.take_of_length_le<|by simp]
def eJ(c:UInt8):Bool:=(97<=c&&c<=122)||(48<=c&&c<=57)||c==45
def bR(l:Bs):Bool:=decide (1<=l.length)&&decide (l.length<=12)&&(l.head? != some 45)&&(l.getLast? != some 45)&&l.all eJ
def vgo:Bool->Nat->List Bs->Bool
 |_,_,[]=>true
 |eG,j,l::D=>if eG||decide (8<j+1)then false else if l != [42]&& !bR l then false else vgo (l==[42]) (j+1) D
def aR(s:Bs):Bool:=s==[46]||(decide (s.length<=60)&&vgo false 0 (back s))
/-! ### Orders -/
structure jP{α:Type}(cmp:α->α->Int):Prop where
 range:∀a b,cmp a b= -1\/cmp a b=0\/cmp a b=1
 zero:∀a b,cmp a b=0 ↔ a=b
 lE:∀a b,cmp b a= -cmp a b
 lt:∀a b c,cmp a b= -1->cmp b c= -1->cmp a c= -1
def cQ{α:Type}(j:α->α->Int):List α->List α->Int
 |[],[]=>0
 |[],_::_=> -1
 |_::_,[]=>1
 |a::as,b::bs=>if j a b=0 then cQ j as bs else j a b
variable {α:Type}
def Bn{j:α->α->Int}(h:jP j):jP (cQ j) where
 range:=by
  intro a;induction a with
  |nil=>intro b;cases b<;>simp[cQ]
  |cons x a H =>
   intro b;cases b with
   |nil=>simp[cQ]
   |cons y b =>
    unfold cQ;split
    .exact H b
    .exact h.range x y
 zero:=by
  intro a;induction a with
  |nil=>intro b;cases b<;>simp[cQ]
  |cons x a H =>
   intro b;cases b with
   |nil=>simp[cQ]
   |cons y b =>
    unfold cQ;split
    .rename_i e;rw[H b,(h.zero x y).1 e];simp
    .rename_i e;have:x≠y:=λK=>e<|(h.zero x y).2 K
     simp[e,this]
 lE:=by
  intro a;induction a with
  |nil=>intro b;cases b<;>simp[cQ]
  |cons x a H =>
   intro b;cases b with
   |nil=>simp[cQ]
   |cons y b =>
    unfold cQ;have:=h.lE x y;by_cases e:j x y=0
    .rw[if_pos e,if_pos<|by omega];exact H b
    .rw[if_neg e,if_neg<|by omega];exact this
 lt:=by
  intro a;induction a with
  |nil =>
   intro b c G D;cases c with
   |nil=>cases b<;>simp[cQ]at G D
   |cons z c=>simp[cQ]
  |cons x a H =>
   intro b c G D;cases b with
   |nil=>simp[cQ]at G
   |cons y b =>
    cases c with
    |nil=>simp[cQ]at D
    |cons z c =>
     unfold cQ at G D ⊢;by_cases J:j x y=0
     .rw[if_pos J]at G;obtain rfl:=(h.zero x y).1 J;by_cases I:j x z=0
      .rw[if_pos I]at D ⊢;exact H b c G D
      .rw[if_neg I]at D ⊢;exact D
     .rw[if_neg J]at G;by_cases I:j y z=0
      .obtain rfl:=(h.zero y z).1 I;rw[if_neg J];exact G
      .rw[if_neg I]at D;have:=h.lt x y z G D;rw[if_neg<|by omega];exact this
def mI(a b:UInt8):Int:=if a<b then -1 else if b<a then 1 else 0
def Nn:jP mI where
 range:=by intro a b;unfold mI;split;simp;split<;>simp
 zero:=by
  intro a b;unfold mI;split
  .rename_i h;simp;intro e;subst e;exact absurd h<|UInt8.lt_irrefl a
  .split
   .rename_i h;simp;intro e;subst e;exact absurd h<|UInt8.lt_irrefl a
   .rename_i h1 j;simp only[true_iff];exact UInt8.le_antisymm (UInt8.not_lt.1 j) (UInt8.not_lt.1 h1)
 lE:=by
  intro a b;unfold mI;by_cases h1:a<b
  .rw[if_neg<|UInt8.lt_asymm h1,if_pos h1,if_pos h1];rfl
  .rw[if_neg h1,if_neg h1];by_cases j:b<a
   .rw[if_pos j,if_pos j]
   .rw[if_neg j,if_neg j];rfl
 lt:=by
  intro a b c h1 j;have D:a<b:=by unfold mI at h1;split at h1;assumption;split at h1<;>simp at h1
  have G:b<c:=by unfold mI at j;split at j;assumption;split at j<;>simp at j
  unfold mI;rw[if_pos<|UInt8.lt_trans D G]
def Dm(a b:Bs):Go.Lib.compareBytes a b=cQ mI a b:=by
 induction a generalizing b with
 |nil=>cases b<;>rfl
 |cons x a D =>
  cases b with
  |nil=>rfl
  |cons y b =>
   unfold Go.Lib.compareBytes cQ;rw[D b];have e:mI x y=if x<y then -1 else if y<x then 1 else 0:=rfl
   by_cases h1:x<y
   .rw[e];simp[h1]
   .by_cases j:y<x
    .rw[e];simp[h1,j]
    .rw[e];simp[h1,j]
def dz:jP Go.Lib.compareBytes:=by
 have:Go.Lib.compareBytes=cQ mI:=funext λa=>funext λb=>Dm a b
 rw[this];exact Bn Nn
def cmpL(a b:List Bs):Int:=cQ Go.Lib.compareBytes a b
def qL:jP cmpL:=Bn dz
def jP.le_trans{j:α->α->Int}(h:jP j){a b c:α}(h1:j a b<=0)(H:j b c<=0):j a c<=0:=by
 have I:=h.range a b;have J:=h.range b c;by_cases D:j a b=0
 .rw[(h.zero a b).1 D];exact H
 .by_cases G:j b c=0
  .rw[<- (h.zero b c).1 G];exact h1
  .have:=h.lt a b c (by omega) (by omega);omega
def jP.Rk{j:α->α->Int}(h:jP j){a b c:α}(h1:j a b<0)(G:j b c<=0):j a c<0:=by
 have H:=h.range a b;have I:=h.range b c;by_cases D:j b c=0
 .rw[<- (h.zero b c).1 D];exact h1
 .have:=h.lt a b c (by omega) (by omega);omega
def jP.acd{j:α->α->Int}(h:jP j){a b c:α}(h1:j a b<=0)(G:j b c<0):j a c<0:=by
 have H:=h.range a b;have I:=h.range b c;by_cases D:j a b=0
 .rw[(h.zero a b).1 D];exact G
 .have:=h.lt a b c (by omega) (by omega);omega
def No{j:α->α->Int}(h:jP j)(p t:List α):cQ j p (p++t)<=0:=by
 induction p with
 |nil=>cases t<;>simp[cQ]
 |cons x p D =>
  show cQ j (x::p) (x::(p++t))<=0
  unfold cQ;rw[if_pos<|(h.zero x x).2 rfl];exact D
def uI{α:Type}{j:α->α->Int}(h:jP j):∀(p s t b:List α),cQ j (p++s) b<=0->cQ j b (p++t)<=0->p <+: b
 |[],_,_,b,_,_=>List.nil_prefix
 |x::p,s,t,[],h1,_=>by simp[cQ]at h1
 |x::p,s,t,y::b,h1,H=>by
  have D:cQ j (x::(p++s)) (y::b)<=0:=h1;have G:cQ j (y::b) (x::(p++t))<=0:=H;unfold cQ at D G;have I:=h.lE x y;have r:=h.range x y;by_cases e:j x y=0
  .obtain rfl:=(h.zero x y).1 e;rw[if_pos e]at D G;exact List.cons_prefix_cons.2 ⟨rfl,uI h p s t b D G⟩
  .rw[if_neg e]at D;rw[if_neg<|by omega]at G;omega
def cu(s:Bs):List Bs:=if s=[46]then[]else bn s
def nameOf(l:List Bs):Bs:=if l=[]then[46]else dB l
def back_eq(s:Bs):back s=(cu s).reverse:=by unfold back cu;split<;>simp
def vQ(s:Bs):nameOf (cu s)=s:=by
 unfold cu nameOf;split
 .rename_i h;simp[h]
 .rw[if_neg<|jG s,ir]
def CA{a b:Bs}(h:cu a=cu b):a=b:=by rw[<- vQ a, <- vQ b,h]
def okL(l:List Bs):Bool:=decide (l.length<=8)&&match l with
 |[]=>true
 |x::t=>(x==[42]||bR x)&&t.all bR
def KA:bR [42]=false:=by decide
variable {x:Bs}
def Ra(h:bR x=true):x≠[]:=by
 intro e;subst e;simp[bR]at h
def Ik(h:bR x=true):(46:UInt8) ∉ x:=by
 intro j;have:x.all eJ=true:=by unfold bR at h;simp only[aK]at h;exact h.2
 have:=aG.1 this _ j
 revert this;decide
def ND(h:bR x=true):x.length<=12:=by
 unfold bR at h;simp only[aK,decide_eq_true_eq]at h;exact h.1.1.1.2
def Yv(w:Bool)(c:Nat)(l:List Bs)(x:Bs) :
 vgo w c (l++[x])=(!w&&decide (c+l.length+1<=8)&&l.all bR&&(x==[42]||bR x)):=by
 induction l generalizing w c with
 |nil =>
  show vgo w c [x]=_
  simp only[vgo,List.length_nil,List.all_nil,Nat.add_zero,gF];by_cases D:w=true
  .simp[D]
  .have:w=false:=by simpa using D
   subst this;by_cases j:8<c+1
   .simp[j];omega
   .have h1:c+1<=8:=by omega
    simp only[j,decide_false,vz,eV,if_false,h1,decide_true,An,gq];by_cases N:x=[42]<;>by_cases T:bR x=true<;>simp_all
 |cons y l K =>
  show vgo w c (y::(l++[x]))=_
  rw[vgo,K];by_cases D:w=true
  .simp[D]
  .have:w=false:=by simpa using D
   subst this;by_cases H:y=[42]
   .subst H;simp[KA]
   .by_cases J:bR y=true
    .by_cases j:8<c+1
     .simp[j];intro h;omega
     .have e:c+1+l.length+1=c+(l.length+1)+1:=by omega
      have I :(y==[42])=false:=by simpa using H
      simp[j,I,J,e]
    .have G :bR y=false:=by simpa using J
     simp[H,G]
def aaP(l:List Bs):vgo false 0 l.reverse=okL l:=by
 cases l with
 |nil=>rfl
 |cons x t =>
  rw[List.reverse_cons,Yv];simp only[okL,List.length_reverse,List.length_cons,List.all_reverse,Nat.zero_add,An,gq];cases decide (t.length+1<=8)<;>cases t.all bR<;>simp
def sh(s:Bs):aR s=(s==[46]||(decide (s.length<=60)&&okL (cu s))):=by
 unfold aR;rw[back_eq,aaP]
variable {s:Bs}
def vt(h:aR s=true):okL (cu s)=true:=by
 rw[sh]at h;simp only[Bool.or_eq_true,beq_iff_eq,aK]at h;rcases h with h|h
 .subst h;decide
 .exact h.2
def gE(h:aR s=true):s.length<=60:=by
 rw[sh]at h;simp only[Bool.or_eq_true,beq_iff_eq,aK,decide_eq_true_eq]at h;rcases h with h|h
 .subst h;decide
 .exact h.1
variable {l:List Bs}
def FQ(h:okL l=true)(j:x∈l):x=[42]\/bR x=true:=by
 cases l with
 |nil=>cases j
 |cons y t =>
  simp only[okL,aK,Bool.or_eq_true,beq_iff_eq]at h;rcases List.mem_cons.1 j with rfl|j
  .exact h.2.1
  .exact .inr<|aG.1 h.2.2 x j
def abw(h:okL l=true)(j:x∈l):x≠[]:=by
 rcases FQ h j with rfl|h
 .simp
 .exact Ra h
def Ha(h:okL l=true)(j:x∈l):(46:UInt8) ∉ x:=by
 rcases FQ h j with rfl|h
 .decide
 .exact Ik h
def Pz(h:okL l=true):l.length<=8:=by
 simp only[okL,aK,decide_eq_true_eq]at h;exact h.1
def FC(h0:l≠[])(h:okL l=true):dB l≠[46]:=by
 intro e;have j:=uy l h0 λx D=>Ha h D;rw[e]at j;have:([]:Bs)∈l:=by rw[<- j];decide
 exact abw h this rfl
def vO(h:okL l=true):cu (nameOf l)=l:=by
 unfold nameOf;split
 .rename_i e;subst e;rfl
 .rename_i e;unfold cu;rw[if_neg<|FC e h,uy l e λx j=>Ha h j]
def Xn:cu s=[] ↔ s=[46]:=by
 unfold cu;split
 .simp[*]
 .rename_i h;simp[h,jG]
def XH{t:List Bs}(h:okL (x::t)=true):okL t=true:=by
 simp only[okL,aK,decide_eq_true_eq,List.length_cons]at h ⊢;refine⟨by omega,?_⟩;cases t with
 |nil=>rfl
 |cons y t =>
  have:=h.2.2;simp only[List.all_cons,aK]at this;simp[this]
def DX{a:List Bs}(j:a <:+ l)(h:okL l=true):okL a=true:=by
 obtain⟨p,rfl⟩:=j;induction p with
 |nil=>exact h
 |cons x p D=>exact D<|XH h
def wB(p t:List Bs)(hp:p≠[])(j:t≠[]):dB (p++t)=dB p++46::dB t:=by
 induction p with
 |nil=>exact absurd rfl hp
 |cons x p D =>
  cases p with
  |nil=>simp only[List.singleton_append];rw[lL x t j];rfl
  |cons y p=>rw[List.cons_append,lL _ _<|by simp,D<|by simp,lL x (y::p)<|by simp];simp
def LO{a:List Bs}(I:a <:+ cu s)(h:aR s=true):aR (nameOf a)=true:=by
 have D:=DX I<|vt h;rw[sh,vO D,D];by_cases e:a=[]
 .subst e;simp[nameOf]
 .obtain⟨p,hp⟩:=I;have K:(nameOf a).length<=60:=by
   have j:=gE h;have H:cu s≠[]:=by rw[<- hp];simp[e]
   have J:nameOf (cu s)=dB (cu s):=by simp[nameOf,H]
   rw[<- vQ s,J, <- hp]at j;simp only[nameOf,e,if_false];by_cases G:p=[]
   .subst G;simpa using j
   .rw[wB p a G e]at j;simp at j;omega
  simp[K]
/-! ### Parent,under,compare,common -/
def fg(s:Bs):Bs:=nameOf (cu s).tail
def bd(s z:Bs):Bool:=(cu z).isSuffixOf<|cu s
def bl(a b:Bs):Int:=cmpL (back a)<|back b
def lcp:List Bs->List Bs->List Bs
 |x::a,y::b=>if x=y then x::lcp a b else[]
 |_,_=>[]
def wj(a b:Bs):Bs:=nameOf (lcp (back a)<|back b).reverse
def gU(s z:Bs):bd s z=true ↔ back z <+: back s:=by
 rw[back_eq,back_eq,List.reverse_prefix];unfold bd;exact List.isSuffixOf_iff_suffix
def Ce{a b:Bs}(h:back a=back b):a=b:=by
 rw[back_eq,back_eq]at h;exact CA<|List.reverse_inj.1 h
structure Datum where
 text:Bs
 n:Int
 m:Int
 deriving DecidableEq
structure cH where
 name:Bs
 type:Int
 aJ:Int
 data:List Datum
 deriving DecidableEq
structure Sig where
 ai:Bs
 key:Int
 alg:Int
 since:Int
 aT:Int
 sum:Int
 deriving DecidableEq
structure Signed where
 set:cH
 sigs:List Sig
 deriving DecidableEq
structure ax where
 ag:Bs
 af:List Signed
 deriving DecidableEq
structure bO where
 name:Bs
 type:Int
 deriving DecidableEq
structure BZ where
 text:Int
 Uk:Int
 YX:Int
 Uj:Int
 YW:Int
 even:Bool
 single:Bool
 eG:Bool
def nO(t:Int):BZ :=
 if t=1 then⟨0,1,1000000,0,0,false,false,true⟩
 else if t=2 then⟨1,0,0,0,0,false,false,false⟩
 else if t=3 then⟨1,0,0,0,0,false,true,false⟩
 else if t=4 then⟨0,0,65535,0,100000,false,true,false⟩
 else if t=5 then⟨3,0,0,0,0,false,false,true⟩
 else if t=6 then⟨0,1,1000000,1,3,false,false,false⟩
 else if t=7 then⟨0,1,1000000,1,3,false,false,false⟩
 else if t=8 then⟨2,2,510,0,0,true,false,true⟩
 else⟨0,0,0,0,0,false,false,false⟩
def within(x D j:Int):Bool:=decide (D<=x)&&decide (x<=j)
def nc(s:Bs):Bool:=s.head? ==some 42
def jR(c:UInt8):Bool:=(97<=c&&c<=122)||(48<=c&&c<=57)||c==32
def jS(s:Bs):Bool:=decide (1<=s.length)&&decide (s.length<=40)&&(s.head? != some 32)&&(s.getLast? != some 32)&&s.all jR
def si(k:Int)(t:Bs):Bool :=
 if k=1 then aR t&& !nc t else if k=2 then aR t else if k=3 then jS t else t==[]
def iA(r:BZ)(d:Datum):Bool :=
 within d.n r.Uk r.YX&&within d.m r.Uj r.YW&&(!r.even||d.n.tmod 2==0)&&si r.text d.text
def dI(a b:Int):Int:=if a<b then -1 else if b<a then 1 else 0
def gX(a b:Datum):Int :=
 if Go.Lib.compareBytes a.text b.text=0 then(if dI a.n b.n=0 then dI a.m b.m else dI a.n b.n)else Go.Lib.compareBytes a.text b.text
