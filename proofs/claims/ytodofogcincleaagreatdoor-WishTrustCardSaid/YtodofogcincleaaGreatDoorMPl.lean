/-
  Merged texts.
-/
import Derived.Test.YtodofogcincleaaGreatDoorAbM
import Derived.Lib.Strings
import Derived.Lib.Bytealg
import Derived.Lib.LastIndexByte
import Derived.Lib.IndexBytes
set_option linter.all false
namespace Go.Proofs.YtodofogcincleaaGreatDoor
abbrev Bs:=List UInt8
def S(s:ByteArray):Bs:=s.data.toList
def mk(l:Bs):ByteArray:=⟨l.toArray⟩
@[simp] theorem S_mk (l:Bs):S (mk l)=l:=by simp[S,mk]
@[simp] theorem mk_S (s:ByteArray):mk (S s)=s:=by cases s;simp[S,mk]
theorem zC{a b:ByteArray}(h:S a=S b):a=b:=by rw[<- mk_S a, <- mk_S b,h]
theorem cr(s:ByteArray):s.size=(S s).length:=by cases s;simp[S,ByteArray.size]
theorem fB(s:ByteArray):s.toList=S s:=Go.Lib.toList_data s
theorem jX(s:ByteArray)(a b:Nat):S (s.extract a b)=((S s).drop a).take (b-a):=Go.Lib.extract_data s a b
def ba:Bs->List Bs
 |[]=>[[]]
 |c::cs=>if c=46 then[]::ba cs else
  match ba cs with
  |[]=>[[c]]
  |h::t=>(c::h)::t
theorem iE(s:Bs):ba s≠[]:=by
 cases s with
 |nil=>simp[ba]
 |cons c cs =>
  unfold ba;split
  .simp
  .split <;> simp
theorem jf(s:Bs)(h:(46:UInt8) ∉ s):ba s=[s]:=by
 induction s with
 |nil=>rfl
 |cons c cs ih =>
  simp only[List.mem_cons,not_or]at h;rw[ba,if_neg (λe=>h.1 e.symm),ih h.2]
theorem jz(a b:Bs):ba (a++46::b)=ba a++ba b:=by
 induction a with
 |nil=>simp[ba]
 |cons c cs ih =>
  rw[List.cons_append,ba,ba];split
  .rw[ih];rfl
  .rw[ih];have:=iE cs;cases h:ba cs with
   |nil=>exact absurd h this
   |cons x t=>rfl
def dB:List Bs->Bs
 |[]=>[]
 |[x]=>x
 |x::y::t=>x++46::dB (y::t)
theorem iO(x:Bs)(t:List Bs)(h:t≠[]):dB (x::t)=x++46::dB t:=by
 cases t with
 |nil=>exact absurd rfl h
 |cons y t=>rfl
theorem gu(s:Bs):dB (ba s)=s:=by
 induction s with
 |nil=>rfl
 |cons c cs ih =>
  unfold ba;split
  .rename_i h;rw[iO _ _ (iE cs),ih,h];rfl
  .cases h:ba cs with
   |nil=>exact absurd h (iE cs)
   |cons x t =>
    rw[h]at ih;cases t with
    |nil=>simp only[dB]at ih ⊢;rw[ih]
    |cons y t=>simp only[dB]at ih ⊢;rw[List.cons_append,ih]
theorem rb(l:List Bs)(h0:l≠[])(h:∀x∈l,(46:UInt8) ∉ x):ba (dB l)=l:=by
 induction l with
 |nil=>exact absurd rfl h0
 |cons x t ih =>
  cases t with
  |nil=>exact jf x (h x (by simp))
  |cons y t =>
   rw[dB,jz,jf x (h x (by simp)),ih (by simp) (λz hz=>h z (bC _ hz))];rfl
def back(s:Bs):List Bs:=if s=[46]then[]else(ba s).reverse
theorem wj(s:ByteArray) :
 (Go.Lib.lastIndexByte s 46= -1/\ba (S s)=[S s]) \/
 (∃i:Nat,i<s.size/\Go.Lib.lastIndexByte s 46=i/\ba (S s)=ba (S (s.extract 0 i))++[S (s.extract (i+1) s.size)]):=by
 have hf:∀j (hj:j<s.size),s.data[j]! =(S s)[j]'(by rw[<- cr];exact hj):=by
  intro j hj;cases s with
  |mk d=>simp[S,ByteArray.size]at hj ⊢;simp[hj]
 rcases Go.Lib.lastIndexByte_spec s 46 with ⟨h,hn⟩|⟨i,hi,h,hc,hn⟩
 .refine .inl ⟨h,jf _ ?_⟩;intro hm;obtain⟨j,hj,e⟩:=List.getElem_of_mem hm;have ho :j<s.size:=by rw[cr];exact hj
  have:=hn j ho;rw[hf j ho,e]at this;exact this rfl
 .refine .inr ⟨i,hi,h,?_⟩;have hB :i<(S s).length:=by rw[<- cr];exact hi
  have hA:(S s)[i]=46:=by
   rw[hf i hi]at hc;exact UInt8.toNat_inj.1 (by have:=hc;simp at this ⊢;omega)
  have hs:S s=(S s).take i++46::(S s).drop (i+1):=by
   conv=>lhs;rw[<- List.take_append_drop i (S s)]
   rw[List.drop_eq_getElem_cons hB,hA]
  have hd:(46:UInt8) ∉ (S s).drop (i+1):=by
   intro hm;obtain⟨j,hj,e⟩:=List.getElem_of_mem hm;rw[List.getElem_drop]at e;have hq:i+1+j<s.size:=by rw[cr];simp at hj;omega
   have:=hn (i+1+j) (by omega) hq;rw[hf _ hq,e]at this;exact this rfl
  rw[jX,jX];conv=>lhs;rw[hs]
  rw[jz,jf _ hd]
  congr 2
  rw[cr,List.take_of_length_le (by simp)]
def dW(c:UInt8):Bool:=(97<=c&&c<=122)||(48<=c&&c<=57)||c==45
def bY(l:Bs):Bool:=decide (1<=l.length)&&decide (l.length<=12)&&(l.head? != some 45)&&(l.getLast? != some 45)&&l.all dW
def vgo:Bool->Nat->List Bs->Bool
 |_,_,[]=>true
 |Mc,count,l::ls=>if Mc||decide (8<count+1)then false else if l != [42]&& !bY l then false else vgo (l==[42]) (count+1) ls
def bq(s:Bs):Bool:=s==[46]||(decide (s.length<=60)&&vgo false 0 (back s))
/-! ### Orders -/
structure jD{α:Type}(cmp:α->α->Int):Prop where
 range:∀a b,cmp a b= -1\/cmp a b=0\/cmp a b=1
 zero:∀a b,cmp a b=0 ↔ a=b
 lH:∀a b,cmp b a= -cmp a b
 lt:∀a b c,cmp a b= -1->cmp b c= -1->cmp a c= -1
def cP{α:Type}(cmp:α->α->Int):List α->List α->Int
 |[],[]=>0
 |[],_::_=> -1
 |_::_,[]=>1
 |a::as,b::bs=>if cmp a b=0 then cP cmp as bs else cmp a b
theorem xU{α:Type}{cmp:α->α->Int}(h:jD cmp):jD (cP cmp) where
 range:=by
  intro a;induction a with
  |nil=>intro b;cases b <;> simp[cP]
  |cons x a ih =>
   intro b;cases b with
   |nil=>simp[cP]
   |cons y b =>
    unfold cP;split
    .exact ih b
    .exact h.range x y
 zero:=by
  intro a;induction a with
  |nil=>intro b;cases b <;> simp[cP]
  |cons x a ih =>
   intro b;cases b with
   |nil=>simp[cP]
   |cons y b =>
    unfold cP;split
    .rename_i e;rw[ih b,(h.zero x y).1 e];simp
    .rename_i e;have:x≠y:=λhe=>e ((h.zero x y).2 he)
     simp[e,this]
 lH:=by
  intro a;induction a with
  |nil=>intro b;cases b <;> simp[cP]
  |cons x a ih =>
   intro b;cases b with
   |nil=>simp[cP]
   |cons y b =>
    unfold cP;have:=h.lH x y;by_cases e:cmp x y=0
    .rw[if_pos e,if_pos (by omega)];exact ih b
    .rw[if_neg e,if_neg (by omega)];exact this
 lt:=by
  intro a;induction a with
  |nil =>
   intro b c hb hc;cases c with
   |nil=>cases b <;> simp[cP]at hb hc
   |cons z c=>simp[cP]
  |cons x a ih =>
   intro b c hb hc;cases b with
   |nil=>simp[cP]at hb
   |cons y b =>
    cases c with
    |nil=>simp[cP]at hc
    |cons z c =>
     unfold cP at hb hc ⊢;by_cases e1:cmp x y=0
     .rw[if_pos e1]at hb;obtain rfl:=(h.zero x y).1 e1;by_cases e2:cmp x z=0
      .rw[if_pos e2]at hc ⊢;exact ih b c hb hc
      .rw[if_neg e2]at hc ⊢;exact hc
     .rw[if_neg e1]at hb;by_cases e2:cmp y z=0
      .obtain rfl:=(h.zero y z).1 e2;rw[if_neg e1];exact hb
      .rw[if_neg e2]at hc;have:=h.lt x y z hb hc;rw[if_neg (by omega)];exact this
def kW(a b:UInt8):Int:=if a<b then -1 else if b<a then 1 else 0
theorem Hl:jD kW where
 range:=by intro a b;unfold kW;split;simp;split <;> simp
 zero:=by
  intro a b;unfold kW;split
  .rename_i h;simp;intro e;subst e;exact absurd h (UInt8.lt_irrefl a)
  .split
   .rename_i h;simp;intro e;subst e;exact absurd h (UInt8.lt_irrefl a)
   .rename_i h1 h2;simp only[true_iff];exact UInt8.le_antisymm (UInt8.not_lt.1 h2) (UInt8.not_lt.1 h1)
 lH:=by
  intro a b;unfold kW;by_cases h1:a<b
  .rw[if_neg (UInt8.lt_asymm h1),if_pos h1,if_pos h1];rfl
  .rw[if_neg h1,if_neg h1];by_cases h2:b<a
   .rw[if_pos h2,if_pos h2]
   .rw[if_neg h2,if_neg h2];rfl
 lt:=by
  intro a b c h1 h2;have k1:a<b:=by unfold kW at h1;split at h1;assumption;split at h1 <;> simp at h1
  have k2:b<c:=by unfold kW at h2;split at h2;assumption;split at h2 <;> simp at h2
  unfold kW;rw[if_pos (UInt8.lt_trans k1 k2)]
theorem zV(a b:Bs):Go.Lib.compareBytes a b=cP kW a b:=by
 induction a generalizing b with
 |nil=>cases b <;> rfl
 |cons x a ih =>
  cases b with
  |nil=>rfl
  |cons y b =>
   unfold Go.Lib.compareBytes cP;rw[ih b];have e:kW x y=if x<y then -1 else if y<x then 1 else 0:=rfl
   by_cases h1:x<y
   .rw[e];simp[h1]
   .by_cases h2:y<x
    .rw[e];simp[h1,h2]
    .rw[e];simp[h1,h2]
theorem du:jD Go.Lib.compareBytes:=by
 have:Go.Lib.compareBytes=cP kW:=funext λa=>funext λb=>zV a b
 rw[this];exact xU Hl
def cmpL(a b:List Bs):Int:=cP Go.Lib.compareBytes a b
theorem oq:jD cmpL:=xU du
theorem jD.le_trans{α:Type}{cmp:α->α->Int}(h:jD cmp){a b c:α}(h1:cmp a b<=0)(h2:cmp b c<=0):cmp a c<=0:=by
 have r1:=h.range a b;have r2:=h.range b c;by_cases e1:cmp a b=0
 .rw[(h.zero a b).1 e1];exact h2
 .by_cases e2:cmp b c=0
  .rw[<- (h.zero b c).1 e2];exact h1
  .have:=h.lt a b c (by omega) (by omega);omega
theorem jD.UT{α:Type}{cmp:α->α->Int}(h:jD cmp){a b c:α}(h1:cmp a b<0)(h2:cmp b c<=0):cmp a c<0:=by
 have r1:=h.range a b;have r2:=h.range b c;by_cases e2:cmp b c=0
 .rw[<- (h.zero b c).1 e2];exact h1
 .have:=h.lt a b c (by omega) (by omega);omega
theorem Hm{α:Type}{cmp:α->α->Int}(h:jD cmp)(p t:List α):cP cmp p (p++t)<=0:=by
 induction p with
 |nil=>cases t <;> simp[cP]
 |cons x p ih =>
  show cP cmp (x::p) (x::(p++t))<=0
  unfold cP;rw[if_pos ((h.zero x x).2 rfl)];exact ih
theorem rz{α:Type}{cmp:α->α->Int}(h:jD cmp):∀(p s t b:List α),cP cmp (p++s) b<=0->cP cmp b (p++t)<=0->p <+: b
 |[],_,_,b,_,_=>List.nil_prefix
 |x::p,s,t,[],h1,_=>by simp[cP]at h1
 |x::p,s,t,y::b,h1,h2=>by
  have e1:cP cmp (x::(p++s)) (y::b)<=0:=h1;have e2:cP cmp (y::b) (x::(p++t))<=0:=h2;unfold cP at e1 e2;have ha:=h.lH x y;have r:=h.range x y;by_cases e:cmp x y=0
  .obtain rfl:=(h.zero x y).1 e;rw[if_pos e]at e1 e2;exact List.cons_prefix_cons.2 ⟨rfl,rz h p s t b e1 e2⟩
  .rw[if_neg e]at e1;rw[if_neg (by omega)]at e2;omega
def cF(s:Bs):List Bs:=if s=[46]then[]else ba s
def nameOf(l:List Bs):Bs:=if l=[]then[46]else dB l
theorem back_eq(s:Bs):back s=(cF s).reverse:=by unfold back cF;split <;> simp
theorem oQ(s:Bs):nameOf (cF s)=s:=by
 unfold cF nameOf;split
 .rename_i h;simp[h]
 .rw[if_neg (iE s),gu]
theorem zd{a b:Bs}(h:cF a=cF b):a=b:=by rw[<- oQ a, <- oQ b,h]
def okL(l:List Bs):Bool:=decide (l.length<=8)&&match l with
 |[]=>true
 |x::t=>(x==[42]||bY x)&&t.all bY
theorem FI:bY [42]=false:=by decide
theorem KP{x:Bs}(h:bY x=true):x≠[]:=by
 intro e;subst e;simp[bY]at h
theorem Dx{x:Bs}(h:bY x=true):(46:UInt8) ∉ x:=by
 intro hm;have:x.all dW=true:=by unfold bY at h;simp only[aU]at h;exact h.2
 have:=aI.1 this _ hm
 revert this;decide
theorem Rs(w:Bool)(c:Nat)(l:List Bs)(x:Bs) :
 vgo w c (l++[x])=(!w&&decide (c+l.length+1<=8)&&l.all bY&&(x==[42]||bY x)):=by
 induction l generalizing w c with
 |nil =>
  show vgo w c [x]=_
  simp only[vgo,List.length_nil,List.all_nil,Nat.add_zero,iG];by_cases hw:w=true
  .simp[hw]
  .have:w=false:=by simpa using hw
   subst this;by_cases hc:8<c+1
   .simp[hc];omega
   .have h1:c+1<=8:=by omega
    simp only[hc,decide_false,Ds,fR,if_false,h1,decide_true,wY,iS];by_cases h2:x=[42] <;> by_cases h3:bY x=true <;> simp_all
 |cons y l ih =>
  show vgo w c (y::(l++[x]))=_
  rw[vgo,ih];by_cases hw:w=true
  .simp[hw]
  .have:w=false:=by simpa using hw
   subst this;by_cases hy:y=[42]
   .subst hy;simp[FI]
   .by_cases hl:bY y=true
    .by_cases hc:8<c+1
     .simp[hc];intro h;omega
     .have e:c+1+l.length+1=c+(l.length+1)+1:=by omega
      have hD :(y==[42])=false:=by simpa using hy
      simp[hc,hD,hl,e]
    .have hC :bY y=false:=by simpa using hl
     simp[hy,hC]
theorem Tx(l:List Bs):vgo false 0 l.reverse=okL l:=by
 cases l with
 |nil=>rfl
 |cons x t =>
  rw[List.reverse_cons,Rs];simp only[okL,List.length_reverse,List.length_cons,List.all_reverse,Nat.zero_add,wY,iS];cases decide (t.length+1<=8) <;> cases t.all bY <;> simp
theorem rZ(s:Bs):bq s=(s==[46]||(decide (s.length<=60)&&okL (cF s))):=by
 unfold bq;rw[back_eq,Tx]
theorem sc{s:Bs}(h:bq s=true):okL (cF s)=true:=by
 rw[rZ]at h;simp only[Bool.or_eq_true,beq_iff_eq,aU]at h;rcases h with h|h
 .subst h;decide
 .exact h.2
theorem fo{s:Bs}(h:bq s=true):s.length<=60:=by
 rw[rZ]at h;simp only[Bool.or_eq_true,beq_iff_eq,aU,decide_eq_true_eq]at h;rcases h with h|h
 .subst h;decide
 .exact h.1
theorem JB{l:List Bs}(h:okL l=true){x:Bs}(hx:x∈l):x=[42]\/bY x=true:=by
 cases l with
 |nil=>cases hx
 |cons y t =>
  simp only[okL,aU,Bool.or_eq_true,beq_iff_eq]at h;rcases List.mem_cons.1 hx with rfl|hx
  .exact h.2.1
  .exact .inr (aI.1 h.2.2 x hx)
theorem Um{l:List Bs}(h:okL l=true){x:Bs}(hx:x∈l):x≠[]:=by
 rcases JB h hx with rfl|h
 .simp
 .exact KP h
theorem CQ{l:List Bs}(h:okL l=true){x:Bs}(hx:x∈l):(46:UInt8) ∉ x:=by
 rcases JB h hx with rfl|h
 .decide
 .exact Dx h
theorem Td{l:List Bs}(h:okL l=true):l.length<=8:=by
 simp only[okL,aU,decide_eq_true_eq]at h;exact h.1
theorem BR{l:List Bs}(h0:l≠[])(h:okL l=true):dB l≠[46]:=by
 intro e;have hs:=rb l h0 (λx hx=>CQ h hx);rw[e]at hs;have:([]:Bs)∈l:=by rw[<- hs];decide
 exact Um h this rfl
theorem yi{l:List Bs}(h:okL l=true):cF (nameOf l)=l:=by
 unfold nameOf;split
 .rename_i e;subst e;rfl
 .rename_i e;unfold cF;rw[if_neg (BR e h),rb l e (λx hx=>CQ h hx)]
theorem QH{x:Bs}{t:List Bs}(h:okL (x::t)=true):okL t=true:=by
 simp only[okL,aU,decide_eq_true_eq,List.length_cons]at h ⊢;refine⟨by omega,?_⟩;cases t with
 |nil=>rfl
 |cons y t =>
  have:=h.2.2;simp only[List.all_cons,aU]at this;simp[this]
theorem AD{a l:List Bs}(hs:a <:+ l)(h:okL l=true):okL a=true:=by
 obtain⟨p,rfl⟩:=hs;induction p with
 |nil=>exact h
 |cons x p ih=>exact ih (QH h)
theorem sY(p t:List Bs)(hp:p≠[])(ht:t≠[]):dB (p++t)=dB p++46::dB t:=by
 induction p with
 |nil=>exact absurd rfl hp
 |cons x p ih =>
  cases p with
  |nil=>simp only[List.singleton_append];rw[iO x t ht];rfl
  |cons y p=>rw[List.cons_append,iO _ _ (by simp),ih (by simp),iO x (y::p) (by simp)];simp
theorem GN{a:List Bs}{s:Bs}(hs:a <:+ cF s)(h:bq s=true):bq (nameOf a)=true:=by
 have hr:=AD hs (sc h);rw[rZ,yi hr,hr];by_cases e:a=[]
 .subst e;simp[nameOf]
 .obtain⟨p,hp⟩:=hs;have hl:(nameOf a).length<=60:=by
   have hg:=fo h;have hh:cF s≠[]:=by rw[<- hp];simp[e]
   have e1:nameOf (cF s)=dB (cF s):=by simp[nameOf,hh]
   rw[<- oQ s,e1, <- hp]at hg;simp only[nameOf,e,if_false];by_cases hv:p=[]
   .subst hv;simpa using hg
   .rw[sY p a hv e]at hg;simp at hg;omega
  simp[hl]
/-! ### Parent,under,compare,common -/
def dw(s:Bs):Bs:=nameOf (cF s).tail
def bE(s z:Bs):Bool:=(cF z).isSuffixOf (cF s)
def bX(a b:Bs):Int:=cmpL (back a) (back b)
def lcp:List Bs->List Bs->List Bs
 |x::a,y::b=>if x=y then x::lcp a b else[]
 |_,_=>[]
def sS(a b:Bs):Bs:=nameOf (lcp (back a) (back b)).reverse
theorem kI(s z:Bs):bE s z=true ↔ back z <+: back s:=by
 rw[back_eq,back_eq,List.reverse_prefix];unfold bE;exact List.isSuffixOf_iff_suffix
theorem yG{a b:Bs}(h:back a=back b):a=b:=by
 rw[back_eq,back_eq]at h;exact zd (List.reverse_inj.1 h)
structure Datum where
 text:Bs
 n:Int
 m:Int
 deriving DecidableEq
structure cG where
 name:Bs
 type:Int
 aP:Int
 data:List Datum
 deriving DecidableEq
structure Sig where
 ah:Bs
 key:Int
 alg:Int
 since:Int
 aN:Int
 sum:Int
 deriving DecidableEq
structure Signed where
 set:cG
 sigs:List Sig
 deriving DecidableEq
structure aO where
 af:Bs
 ak:List Signed
 deriving DecidableEq
structure eP where
 name:Bs
 type:Int
 deriving DecidableEq
structure yC where
 text:Int
 NC:Int
 RT:Int
 NB:Int
 RS:Int
 even:Bool
 single:Bool
 Mc:Bool
def tx(t:Int):yC :=
 if t=1 then⟨0,1,1000000,0,0,false,false,true⟩
 else if t=2 then⟨1,0,0,0,0,false,false,false⟩
 else if t=3 then⟨1,0,0,0,0,false,true,false⟩
 else if t=4 then⟨0,0,65535,0,100000,false,true,false⟩
 else if t=5 then⟨3,0,0,0,0,false,false,true⟩
 else if t=6 then⟨0,1,1000000,1,3,false,false,false⟩
 else if t=7 then⟨0,1,1000000,1,3,false,false,false⟩
 else if t=8 then⟨2,2,510,0,0,true,false,true⟩
 else⟨0,0,0,0,0,false,false,false⟩
def within(x lo hi:Int):Bool:=decide (lo<=x)&&decide (x<=hi)
def lE(s:Bs):Bool:=s.head? ==some 42
def iM(c:UInt8):Bool:=(97<=c&&c<=122)||(48<=c&&c<=57)||c==32
def iN(s:Bs):Bool:=decide (1<=s.length)&&decide (s.length<=40)&&(s.head? != some 32)&&(s.getLast? != some 32)&&s.all iM
def wO(k:Int)(t:Bs):Bool :=
 if k=1 then bq t&& !lE t else if k=2 then bq t else if k=3 then iN t else t==[]
def nY(r:yC)(d:Datum):Bool :=
 within d.n r.NC r.RT&&within d.m r.NB r.RS&&(!r.even||d.n.tmod 2==0)&&wO r.text d.text
def dA(a b:Int):Int:=if a<b then -1 else if b<a then 1 else 0
def fW(a b:Datum):Int :=
 if Go.Lib.compareBytes a.text b.text=0 then(if dA a.n b.n=0 then dA a.m b.m else dA a.n b.n)else Go.Lib.compareBytes a.text b.text
end Go.Proofs.YtodofogcincleaaGreatDoor
