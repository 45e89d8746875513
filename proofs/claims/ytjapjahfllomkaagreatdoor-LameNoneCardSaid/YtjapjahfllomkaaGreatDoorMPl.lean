/-
  Merged texts.
-/
import Derived.Test.YtjapjahfllomkaaGreatDoorAbM
import Derived.Lib.Strings
import Derived.Lib.Bytealg
import Derived.Lib.LastIndexByte
import Derived.Lib.IndexBytes
set_option linter.all false
namespace NP
abbrev Bs:=List UInt8
def S(s:ByteArray):Bs:=s.data.toList
def mk(l:Bs):ByteArray:=⟨l.toArray⟩
@[simp] theorem S_mk (l:Bs):S (mk l)=l:=by simp[S,mk]
@[simp] theorem mk_S (s:ByteArray):mk (S s)=s:=by cases s;simp[S,mk]
theorem wo{a b:ByteArray}(h:S a=S b):a=b:=by rw[<- mk_S a, <- mk_S b,h]
theorem bq(s:ByteArray):s.size=(S s).length:=by cases s;simp[S,ByteArray.size]
theorem cU(s:ByteArray):s.toList=S s:=Go.Lib.toList_data s
theorem jg(s:ByteArray)(a b:Nat):S (s.extract a b)=((S s).drop a).take (b-a):=Go.Lib.extract_data s a b
def aJ:Bs->List Bs
 |[]=>[[]]
 |c::cs=>if c=46 then[]::aJ cs else
  match aJ cs with
  |[]=>[[c]]
  |h::t=>(c::h)::t
theorem eZ(s:Bs):aJ s≠[]:=by
 cases s with
 |nil=>simp[aJ]
 |cons c cs =>
  unfold aJ;split
  . simp
  . split <;> simp
theorem iD(s:Bs)(h:(46:UInt8) ∉ s):aJ s=[s]:=by
 induction s with
 |nil=>rfl
 |cons c cs ih =>
  simp only[List.mem_cons,not_or]at h;rw[aJ,if_neg (λe=>h.1 e.symm),ih h.2]
theorem iN(a b:Bs):aJ (a++46::b)=aJ a++aJ b:=by
 induction a with
 |nil=>simp[aJ]
 |cons c cs ih =>
  rw[List.cons_append,aJ,aJ];split
  . rw[ih];rfl
  . rw[ih];have:=eZ cs;cases h:aJ cs with
    |nil=>exact absurd h this
    |cons x t=>rfl
def cC:List Bs->Bs
 |[]=>[]
 |[x]=>x
 |x::y::t=>x++46::cC (y::t)
theorem ja(x:Bs)(t:List Bs)(h:t≠[]):cC (x::t)=x++46::cC t:=by
 cases t with
 |nil=>exact absurd rfl h
 |cons y t=>rfl
theorem eP(s:Bs):cC (aJ s)=s:=by
 induction s with
 |nil=>rfl
 |cons c cs ih =>
  unfold aJ;split
  . rename_i h;rw[ja _ _ (eZ cs),ih,h];rfl
  . cases h:aJ cs with
    |nil=>exact absurd h (eZ cs)
    |cons x t =>
     rw[h]at ih;cases t with
     |nil=>simp only[cC]at ih ⊢;rw[ih]
     |cons y t=>simp only[cC]at ih ⊢;rw[List.cons_append,ih]
theorem qt(l:List Bs)(h0:l≠[])(h:∀x∈l,(46:UInt8) ∉ x):aJ (cC l)=l:=by
 induction l with
 |nil=>exact absurd rfl h0
 |cons x t ih =>
  cases t with
  |nil=>exact iD x (h x (by simp))
  |cons y t =>
   rw[cC,iN,iD x (h x (by simp)),ih (by simp) (λz hz=>h z (aM _ hz))];rfl
def back(s:Bs):List Bs:=if s=[46]then[]else(aJ s).reverse
theorem vz(s:ByteArray) :
 (Go.Lib.lastIndexByte s 46= -1/\aJ (S s)=[S s]) \/
 (∃i:Nat,i<s.size/\Go.Lib.lastIndexByte s 46=i/\aJ (S s)=aJ (S (s.extract 0 i))++[S (s.extract (i+1) s.size)]):=by
 have hget:∀j (hj:j<s.size),s.data[j]! =(S s)[j]'(by rw[<- bq];exact hj):=by
  intro j hj;cases s with
  |mk d=>simp[S,ByteArray.size]at hj ⊢;simp[hj]
 rcases Go.Lib.lastIndexByte_spec s 46 with ⟨h,hn⟩|⟨i,hi,h,hc,hn⟩
 . refine .inl ⟨h,iD _ ?_⟩;intro hm;obtain⟨j,hj,e⟩:=List.getElem_of_mem hm;have hj' :j<s.size:=by rw[bq];exact hj
   have:=hn j hj';rw[hget j hj',e]at this;exact this rfl
 . refine .inr ⟨i,hi,h,?_⟩;have hi' :i<(S s).length:=by rw[<- bq];exact hi
   have e46:(S s)[i]=46:=by
    rw[hget i hi]at hc;exact UInt8.toNat_inj.1 (by have:=hc;simp at this ⊢;omega)
   have hs:S s=(S s).take i++46::(S s).drop (i+1):=by
    conv=>lhs;rw[<- List.take_append_drop i (S s)]
    rw[List.drop_eq_getElem_cons hi',e46]
   have hd:(46:UInt8) ∉ (S s).drop (i+1):=by
    intro hm;obtain⟨j,hj,e⟩:=List.getElem_of_mem hm;rw[List.getElem_drop]at e;have hj2:i+1+j<s.size:=by rw[bq];simp at hj;omega
    have:=hn (i+1+j) (by omega) hj2;rw[hget _ hj2,e]at this;exact this rfl
   rw[jg,jg]
   conv=>lhs;rw[hs]
   rw[iN,iD _ hd]
   congr 2
   rw[bq,List.take_of_length_le (by simp)]
def dt(c:UInt8):Bool:=(97<=c&&c<=122)||(48<=c&&c<=57)||c==45
def bn(l:Bs):Bool:=decide (1<=l.length)&&decide (l.length<=12)&&(l.head? != some 45)&&(l.getLast? != some 45)&&l.all dt
def vgo:Bool->Nat->List Bs->Bool
 |_,_,[]=>true
 |dL,count,l::ls=>if dL||decide (8<count+1)then false else if l != [42]&& !bn l then false else vgo (l==[42]) (count+1) ls
def au(s:Bs):Bool:=s==[46]||(decide (s.length<=60)&&vgo false 0 (back s))
/-! ### Orders -/
structure iT{α:Type}(cmp:α->α->Int):Prop where
 range:∀a b,cmp a b= -1\/cmp a b=0\/cmp a b=1
 zero:∀a b,cmp a b=0 ↔ a=b
 anti:∀a b,cmp b a= -cmp a b
 lt:∀a b c,cmp a b= -1->cmp b c= -1->cmp a c= -1
def bT{α:Type}(cmp:α->α->Int):List α->List α->Int
 |[],[]=>0
 |[],_::_=> -1
 |_::_,[]=>1
 |a::as,b::bs=>if cmp a b=0 then bT cmp as bs else cmp a b
theorem xd{α:Type}{cmp:α->α->Int}(h:iT cmp):iT (bT cmp) where
 range:=by
  intro a;induction a with
  |nil=>intro b;cases b <;> simp[bT]
  |cons x a ih =>
   intro b;cases b with
   |nil=>simp[bT]
   |cons y b =>
    unfold bT;split
    . exact ih b
    . exact h.range x y
 zero:=by
  intro a;induction a with
  |nil=>intro b;cases b <;> simp[bT]
  |cons x a ih =>
   intro b;cases b with
   |nil=>simp[bT]
   |cons y b =>
    unfold bT;split
    . rename_i e;rw[ih b,(h.zero x y).1 e];simp
    . rename_i e;have:x≠y:=λhe=>e ((h.zero x y).2 he)
      simp[e,this]
 anti:=by
  intro a;induction a with
  |nil=>intro b;cases b <;> simp[bT]
  |cons x a ih =>
   intro b;cases b with
   |nil=>simp[bT]
   |cons y b =>
    unfold bT;have:=h.anti x y;by_cases e:cmp x y=0
    . rw[if_pos e,if_pos (by omega)];exact ih b
    . rw[if_neg e,if_neg (by omega)];exact this
 lt:=by
  intro a;induction a with
  |nil =>
   intro b c hb hc;cases c with
   |nil=>cases b <;> simp[bT]at hb hc
   |cons z c=>simp[bT]
  |cons x a ih =>
   intro b c hb hc;cases b with
   |nil=>simp[bT]at hb
   |cons y b =>
    cases c with
    |nil=>simp[bT]at hc
    |cons z c =>
     unfold bT at hb hc ⊢;by_cases e1:cmp x y=0
     . rw[if_pos e1]at hb;obtain rfl:=(h.zero x y).1 e1;by_cases e2:cmp x z=0
       . rw[if_pos e2]at hc ⊢;exact ih b c hb hc
       . rw[if_neg e2]at hc ⊢;exact hc
     . rw[if_neg e1]at hb;by_cases e2:cmp y z=0
       . obtain rfl:=(h.zero y z).1 e2;rw[if_neg e1];exact hb
       . rw[if_neg e2]at hc;have:=h.lt x y z hb hc;rw[if_neg (by omega)];exact this
def jR(a b:UInt8):Int:=if a<b then -1 else if b<a then 1 else 0
theorem Gq:iT jR where
 range:=by intro a b;unfold jR;split;simp;split <;> simp
 zero:=by
  intro a b;unfold jR;split
  . rename_i h;simp;intro e;subst e;exact absurd h (UInt8.lt_irrefl a)
  . split
    . rename_i h;simp;intro e;subst e;exact absurd h (UInt8.lt_irrefl a)
    . rename_i h1 h2;simp only[true_iff];exact UInt8.le_antisymm (UInt8.not_lt.1 h2) (UInt8.not_lt.1 h1)
 anti:=by
  intro a b;unfold jR;by_cases h1:a<b
  . rw[if_neg (UInt8.lt_asymm h1),if_pos h1,if_pos h1];rfl
  . rw[if_neg h1,if_neg h1];by_cases h2:b<a
    . rw[if_pos h2,if_pos h2]
    . rw[if_neg h2,if_neg h2];rfl
 lt:=by
  intro a b c h1 h2;have k1:a<b:=by unfold jR at h1;split at h1;assumption;split at h1 <;> simp at h1
  have k2:b<c:=by unfold jR at h2;split at h2;assumption;split at h2 <;> simp at h2
  unfold jR;rw[if_pos (UInt8.lt_trans k1 k2)]
theorem zx(a b:Bs):Go.Lib.compareBytes a b=bT jR a b:=by
 induction a generalizing b with
 |nil=>cases b <;> rfl
 |cons x a ih =>
  cases b with
  |nil=>rfl
  |cons y b =>
   unfold Go.Lib.compareBytes bT;rw[ih b];have e:jR x y=if x<y then -1 else if y<x then 1 else 0:=rfl
   by_cases h1:x<y
   . rw[e];simp[h1]
   . by_cases h2:y<x
     . rw[e];simp[h1,h2]
     . rw[e];simp[h1,h2]
theorem bP:iT Go.Lib.compareBytes:=by
 have:Go.Lib.compareBytes=bT jR:=funext λa=>funext λb=>zx a b
 rw[this];exact xd Gq
def cmpL(a b:List Bs):Int:=bT Go.Lib.compareBytes a b
theorem nB:iT cmpL:=xd bP
theorem iT.le_trans{α:Type}{cmp:α->α->Int}(h:iT cmp){a b c:α}(h1:cmp a b<=0)(h2:cmp b c<=0):cmp a c<=0:=by
 have r1:=h.range a b;have r2:=h.range b c;by_cases e1:cmp a b=0
 . rw[(h.zero a b).1 e1];exact h2
 . by_cases e2:cmp b c=0
   . rw[<- (h.zero b c).1 e2];exact h1
   . have:=h.lt a b c (by omega) (by omega);omega
theorem iT.Ue{α:Type}{cmp:α->α->Int}(h:iT cmp){a b c:α}(h1:cmp a b<0)(h2:cmp b c<=0):cmp a c<0:=by
 have r1:=h.range a b;have r2:=h.range b c;by_cases e2:cmp b c=0
 . rw[<- (h.zero b c).1 e2];exact h1
 . have:=h.lt a b c (by omega) (by omega);omega
theorem iT.Ud{α:Type}{cmp:α->α->Int}(h:iT cmp){a b c:α}(h1:cmp a b<=0)(h2:cmp b c<0):cmp a c<0:=by
 have r1:=h.range a b;have r2:=h.range b c;by_cases e1:cmp a b=0
 . rw[(h.zero a b).1 e1];exact h2
 . have:=h.lt a b c (by omega) (by omega);omega
theorem Gr{α:Type}{cmp:α->α->Int}(h:iT cmp)(p t:List α):bT cmp p (p++t)<=0:=by
 induction p with
 |nil=>cases t <;> simp[bT]
 |cons x p ih =>
  show bT cmp (x::p) (x::(p++t))<=0
  unfold bT;rw[if_pos ((h.zero x x).2 rfl)];exact ih
theorem qE{α:Type}{cmp:α->α->Int}(h:iT cmp):∀(p s t b:List α),bT cmp (p++s) b<=0->bT cmp b (p++t)<=0->p <+: b
 |[],_,_,b,_,_=>List.nil_prefix
 |x::p,s,t,[],h1,_=>by simp[bT]at h1
 |x::p,s,t,y::b,h1,h2=>by
  have e1:bT cmp (x::(p++s)) (y::b)<=0:=h1;have e2:bT cmp (y::b) (x::(p++t))<=0:=h2;unfold bT at e1 e2;have ha:=h.anti x y;have r:=h.range x y;by_cases e:cmp x y=0
  . obtain rfl:=(h.zero x y).1 e;rw[if_pos e]at e1 e2;exact List.cons_prefix_cons.2 ⟨rfl,qE h p s t b e1 e2⟩
  . rw[if_neg e]at e1;rw[if_neg (by omega)]at e2;omega
def bj(s:Bs):List Bs:=if s=[46]then[]else aJ s
def nameOf(l:List Bs):Bs:=if l=[]then[46]else cC l
theorem back_eq(s:Bs):back s=(bj s).reverse:=by unfold back bj;split <;> simp
theorem rT(s:Bs):nameOf (bj s)=s:=by
 unfold bj nameOf;split
 . rename_i h;simp[h]
 . rw[if_neg (eZ s),eP]
theorem yy{a b:Bs}(h:bj a=bj b):a=b:=by rw[<- rT a, <- rT b,h]
def okL(l:List Bs):Bool:=decide (l.length<=8)&&match l with
 |[]=>true
 |x::t=>(x==[42]||bn x)&&t.all bn
theorem EJ:bn [42]=false:=by decide
theorem JX{x:Bs}(h:bn x=true):x≠[]:=by
 intro e;subst e;simp[bn]at h
theorem CT{x:Bs}(h:bn x=true):(46:UInt8) ∉ x:=by
 intro hm;have:x.all dt=true:=by unfold bn at h;simp only[aB]at h;exact h.2
 have:=ax.1 this _ hm
 revert this;decide
theorem GI{x:Bs}(h:bn x=true):x.length<=12:=by
 unfold bn at h;simp only[aB,decide_eq_true_eq]at h;exact h.1.1.1.2
theorem Qz(w:Bool)(c:Nat)(l:List Bs)(x:Bs) :
 vgo w c (l++[x])=(!w&&decide (c+l.length+1<=8)&&l.all bn&&(x==[42]||bn x)):=by
 induction l generalizing w c with
 |nil =>
  show vgo w c [x]=_
  simp only[vgo,List.length_nil,List.all_nil,Nat.add_zero,gj];by_cases hw:w=true
  . simp[hw]
  . have:w=false:=by simpa using hw
    subst this;by_cases hc:8<c+1
    . simp[hc];omega
    . have h1:c+1<=8:=by omega
      simp only[hc,decide_false,jl,dM,if_false,h1,decide_true,oK,dC];by_cases h2:x=[42] <;> by_cases h3:bn x=true <;> simp_all
 |cons y l ih =>
  show vgo w c (y::(l++[x]))=_
  rw[vgo,ih];by_cases hw:w=true
  . simp[hw]
  . have:w=false:=by simpa using hw
    subst this;by_cases hy:y=[42]
    . subst hy;simp[EJ]
    . by_cases hl:bn y=true
      . by_cases hc:8<c+1
        . simp[hc];intro h;omega
        . have e:c+1+l.length+1=c+(l.length+1)+1:=by omega
          have hy' :(y==[42])=false:=by simpa using hy
          simp[hc,hy',hl,e]
      . have hl' :bn y=false:=by simpa using hl
        simp[hy,hl']
theorem SI(l:List Bs):vgo false 0 l.reverse=okL l:=by
 cases l with
 |nil=>rfl
 |cons x t =>
  rw[List.reverse_cons,Qz];simp only[okL,List.length_reverse,List.length_cons,List.all_reverse,Nat.zero_add,oK,dC];cases decide (t.length+1<=8) <;> cases t.all bn <;> simp
theorem oH(s:Bs):au s=(s==[46]||(decide (s.length<=60)&&okL (bj s))):=by
 unfold au;rw[back_eq,SI]
theorem oI{s:Bs}(h:au s=true):okL (bj s)=true:=by
 rw[oH]at h;simp only[Bool.or_eq_true,beq_iff_eq,aB]at h;rcases h with h|h
 . subst h;decide
 . exact h.2
theorem cz{s:Bs}(h:au s=true):s.length<=60:=by
 rw[oH]at h;simp only[Bool.or_eq_true,beq_iff_eq,aB,decide_eq_true_eq]at h;rcases h with h|h
 . subst h;decide
 . exact h.1
theorem wJ{l:List Bs}(h:okL l=true){x:Bs}(hx:x∈l):x=[42]\/bn x=true:=by
 cases l with
 |nil=>cases hx
 |cons y t =>
  simp only[okL,aB,Bool.or_eq_true,beq_iff_eq]at h;rcases List.mem_cons.1 hx with rfl|hx
  . exact h.2.1
  . exact .inr (ax.1 h.2.2 x hx)
theorem MQ{l:List Bs}(h:okL l=true){x:Bs}(hx:x∈l):x≠[]:=by
 rcases wJ h hx with rfl|h
 . simp
 . exact JX h
theorem Ck{l:List Bs}(h:okL l=true){x:Bs}(hx:x∈l):(46:UInt8) ∉ x:=by
 rcases wJ h hx with rfl|h
 . decide
 . exact CT h
theorem IB{l:List Bs}(h:okL l=true):l.length<=8:=by
 simp only[okL,aB,decide_eq_true_eq]at h;exact h.1
theorem Bh{l:List Bs}(h0:l≠[])(h:okL l=true):cC l≠[46]:=by
 intro e;have hs:=qt l h0 (λx hx=>Ck h hx);rw[e]at hs;have:([]:Bs)∈l:=by rw[<- hs];decide
 exact MQ h this rfl
theorem rS{l:List Bs}(h:okL l=true):bj (nameOf l)=l:=by
 unfold nameOf;split
 . rename_i e;subst e;rfl
 . rename_i e;unfold bj;rw[if_neg (Bh e h),qt l e (λx hx=>Ck h hx)]
theorem PC{s:Bs}:bj s=[] ↔ s=[46]:=by
 unfold bj;split
 . simp[*]
 . rename_i h;simp[h,eZ]
theorem PM{x:Bs}{t:List Bs}(h:okL (x::t)=true):okL t=true:=by
 simp only[okL,aB,decide_eq_true_eq,List.length_cons]at h ⊢;refine⟨by omega,?_⟩;cases t with
 |nil=>rfl
 |cons y t =>
  have:=h.2.2;simp only[List.all_cons,aB]at this;simp[this]
theorem Aa{a l:List Bs}(hs:a <:+ l)(h:okL l=true):okL a=true:=by
 obtain⟨p,rfl⟩:=hs;induction p with
 |nil=>exact h
 |cons x p ih=>exact ih (PM h)
theorem sB(p t:List Bs)(hp:p≠[])(ht:t≠[]):cC (p++t)=cC p++46::cC t:=by
 induction p with
 |nil=>exact absurd rfl hp
 |cons x p ih =>
  cases p with
  |nil=>simp only[List.singleton_append];rw[ja x t ht];rfl
  |cons y p=>rw[List.cons_append,ja _ _ (by simp),ih (by simp),ja x (y::p) (by simp)];simp
theorem FX{a:List Bs}{s:Bs}(hs:a <:+ bj s)(h:au s=true):au (nameOf a)=true:=by
 have hok:=Aa hs (oI h);rw[oH,rS hok,hok];by_cases e:a=[]
 . subst e;simp[nameOf]
 . obtain⟨p,hp⟩:=hs;have hl:(nameOf a).length<=60:=by
    have h60:=cz h;have hsne:bj s≠[]:=by rw[<- hp];simp[e]
    have e1:nameOf (bj s)=cC (bj s):=by simp[nameOf,hsne]
    rw[<- rT s,e1, <- hp]at h60;simp only[nameOf,e,if_false];by_cases hp0:p=[]
    . subst hp0;simpa using h60
    . rw[sB p a hp0 e]at h60;simp at h60;omega
   simp[hl]
/-! ### Parent,under,compare,common -/
def bw(s:Bs):Bs:=nameOf (bj s).tail
def aH(s z:Bs):Bool:=(bj z).isSuffixOf (bj s)
def aI(a b:Bs):Int:=cmpL (back a) (back b)
theorem dE(s z:Bs):aH s z=true ↔ back z <+: back s:=by
 rw[back_eq,back_eq,List.reverse_prefix];unfold aH;exact List.isSuffixOf_iff_suffix
theorem sU{a b:Bs}(h:back a=back b):a=b:=by
 rw[back_eq,back_eq]at h;exact yy (List.reverse_inj.1 h)
structure Datum where
 text:Bs
 n:Int
 m:Int
 deriving DecidableEq
structure gG where
 name:Bs
 type:Int
 life:Int
 data:List Datum
 deriving DecidableEq
structure Sig where
 zone:Bs
 key:Int
 alg:Int
 since:Int
 till:Int
 sum:Int
 deriving DecidableEq
structure Signed where
 set:gG
 sigs:List Sig
 deriving DecidableEq
structure aF where
 apex:Bs
 sets:List Signed
 deriving DecidableEq
structure aV where
 name:Bs
 type:Int
 deriving DecidableEq
structure xR where
 text:Int
 leastN:Int
 mostN:Int
 leastM:Int
 mostM:Int
 even:Bool
 single:Bool
 dL:Bool
def eG(t:Int):xR :=
 if t=1 then⟨0,1,1000000,0,0,false,false,true⟩
 else if t=2 then⟨1,0,0,0,0,false,false,false⟩
 else if t=3 then⟨1,0,0,0,0,false,true,false⟩
 else if t=4 then⟨0,0,65535,0,100000,false,true,false⟩
 else if t=5 then⟨3,0,0,0,0,false,false,true⟩
 else if t=6 then⟨0,1,1000000,1,3,false,false,false⟩
 else if t=7 then⟨0,1,1000000,1,3,false,false,false⟩
 else if t=8 then⟨2,2,510,0,0,true,false,true⟩
 else⟨0,0,0,0,0,false,false,false⟩
def within(x lo hi:Int):Bool:=decide (lo<=x)&&decide (x<=hi)
def fm(s:Bs):Bool:=s.head? ==some 42
def fe(c:UInt8):Bool:=(97<=c&&c<=122)||(48<=c&&c<=57)||c==32
def bW(s:Bs):Bool:=decide (1<=s.length)&&decide (s.length<=40)&&(s.head? != some 32)&&(s.getLast? != some 32)&&s.all fe
def jk(k:Int)(t:Bs):Bool :=
 if k=1 then au t&& !fm t else if k=2 then au t else if k=3 then bW t else t==[]
def dZ(r:xR)(d:Datum):Bool :=
 within d.n r.leastN r.mostN&&within d.m r.leastM r.mostM&&(!r.even||d.n.tmod 2==0)&&jk r.text d.text
def cZ(a b:Int):Int:=if a<b then -1 else if b<a then 1 else 0
def pA(a b:Datum):Int :=
 if Go.Lib.compareBytes a.text b.text=0 then(if cZ a.n b.n=0 then cZ a.m b.m else cZ a.n b.n)else Go.Lib.compareBytes a.text b.text
end NP
